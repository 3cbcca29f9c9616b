/- Layer 14: the parts of a kind. -/
import Derived.Test.YthflkhalipkdgaaGreatProg
import Derived.Below
import Derived.WalkKit
import Derived.KernelRfl
import Derived.RowKit3
import Derived.Deep.LoopGhost
import Derived.Deep.QuietTactic
import Derived.BigQuiet
import Derived.WideLaws
import Derived.Deep.DeepCutAuto
import Derived.Deep.CutBlock
import Derived.Lib.Hide
import Derived.Laws.BitsLemmas
import Derived.Laws.Bits64
import Derived.Laws.BitsAllLaws
import Derived.IntWalk
import Derived.Outline
import Derived.WalkSpells
import Derived.Test.YthflkhalipkdgaaGreatGA
import Derived.Test.YthflkhalipkdgaaGreatGt
namespace Go.Proofs.YthflkhalipkdgaaGreat.Ms
set_option maxRecDepth 20000
set_option linter.unusedVariables false
set_option linter.unusedSimpArgs false
open Go.RowKit Go.Proofs.YthflkhalipkdgaaGreat.Mem Go.Proofs.YthflkhalipkdgaaGreat.Pk Go.Proofs.YthflkhalipkdgaaGreat.Ca

theorem PartF.one {w : World} {F : List Nat} {fp fg : Value} {p : Part} (h : PartF w F fp fg p) : fp.oneCell' = true ∧ fg.oneCell' = true := by
  cases p with
  | num wd off chk => obtain ⟨_, _, _, bo, bc, bw, rfl, rfl, _⟩ := h; exact ⟨rfl, rfl⟩
  | token => obtain ⟨rfl, rfl⟩ := h; exact ⟨rfl, rfl⟩
  | key => obtain ⟨rfl, rfl⟩ := h; exact ⟨rfl, rfl⟩
/-- parts in a row -/
def PsAt (w : World) (F : List Nat) (v : Value) (ps : List Part) : Prop :=
  ∃ fs : List (Value × Value), fs.length = ps.length ∧ RowsAt w v 2 (fs.map fun f => [f.1, f.2]) ∧ (∀ x n c, v = .slice (some x) n c → x.block ∈ F) ∧ ∀ (i : Nat) f p, fs[i]? = some f → ps[i]? = some p → PartF w F f.1 f.2 p
theorem cell_same {w w' : World} {p : Addr} (h : w'.heap[p.block]? = w.heap[p.block]?) : w'.cell? p = w.cell? p := World.cell?_of_block (w := w) h
theorem PsAt.same {w w' : World} {F : List Nat} {v : Value} {ps : List Part} (h : PsAt w F v ps) (hs : ∀ k ∈ F, w'.heap[k]? = w.heap[k]?) : PsAt w' F v ps := by
  obtain ⟨fs, h1, h2, h3, h4⟩ := h
  refine ⟨fs, h1, ?_, h3, fun i f p hf hp => (h4 i f p hf hp).same hs⟩
  rcases h2 with h2 | ⟨x, c, rfl, hc⟩
  · exact .inl h2
  · refine .inr ⟨x, c, rfl, fun i hi j u hu => ?_⟩
    have hb : ((x.add (i * 2)).add j).block = x.block := by rw [add_block, add_block]
    rw [cell_same (w := w) (w' := w') (by rw [hb]; exact hs _ (h3 _ _ _ rfl))]
    exact hc i hi j u hu
def rPs (F : List Nat) (v : Value) (ps : List Part) : Res := ⟨F, fun w => PsAt w F v ps, fun _ _ hs h => h.same hs, false⟩
/-- such a row, made by a call -/
def PsMade (w : World) (ps : List Part) (v : Value) (w' : World) : Prop := ∃ F, PsAt w' F v ps ∧ (∀ k ∈ F, w.heap.size ≤ k ∧ k < w'.heap.size) ∧ Off [] w w'
theorem flat_cells (fs : List (Value × Value)) (i : Nat) (hi : i < fs.length) (j : Nat) (u : Value) (hu : [fs[i].1, fs[i].2][j]? = some u) : (fs.flatMap fun f => [f.1, f.2])[i * 2 + j]? = some u := by
  have hj : j < 2 := by have := (List.getElem?_eq_some_iff.1 hu).1; simpa using this
  have e : (fs.flatMap fun f => [f.1, f.2]) = (fs.map fun f => [f.1, f.2]).flatten := by simp [List.flatMap]
  rw [e, flatten_get 2 _ i j (by intro r hr; obtain ⟨f, _, rfl⟩ := List.mem_map.1 hr; rfl) (by simpa using hi) hj]
  simpa using hu
theorem ps_mk {w w' : World} {R : List Res} (H : Hp [] w w' R) {b : Nat} {fs : List (Value × Value)} {ps : List Part} {n : Nat} (hb : rB b 129 (fs.flatMap fun f => [f.1, f.2]) ∈ R) (hl : fs.length = ps.length) (hn : ps.length = n)
    (hps : ∀ (i : Nat) f p, fs[i]? = some f → ps[i]? = some p → ∃ F, rPart F f.1 f.2 p ∈ R) (hro : ∀ r ∈ R, r.ro = false := by simp [rB, rPart]) : PsMade w ps (.slice (some ⟨b, 0, none⟩) n n) w' := by
  subst hn
  refine ⟨R.flatMap (·.foot), ⟨fs, hl, .inr ⟨⟨b, 0, none⟩, ps.length, by rw [List.length_map, hl], fun i hi j u hu => ?_⟩, ?_, fun i f p hf hp => ?_⟩, fun k hk => ?_, H.off⟩
  · have hi' : i < fs.length := by simpa using hi
    have hblk : Blk w' b (fs.flatMap fun f => [f.1, f.2]).toArray 129 := H.holds _ hb
    have e : ((⟨b, 0, none⟩ : Addr).add (i * 2)).add j = ⟨b, i * 2 + j, none⟩ := by rw [Deep.add_add]; unfold Addr.add; split <;> simp_all
    rw [e]
    refine hblk.cell _ u ?_
    rw [List.getElem?_toArray]
    exact flat_cells fs i hi' j u (by simpa using hu)
  · intro x m c e
    injection e with e1 _ _
    injection e1 with e1
    subst e1
    exact List.mem_flatMap.2 ⟨_, hb, by simp [rB]⟩
  · obtain ⟨F, hF⟩ := hps i f p hf hp
    have h : PartF w' F f.1 f.2 p := H.holds _ hF
    exact h.mono fun k hk => List.mem_flatMap.2 ⟨_, hF, hk⟩
  · obtain ⟨r, hr, hkr⟩ := List.mem_flatMap.1 hk
    have := H.new r hr k hkr (hro r hr)
    simp at this
    exact ⟨this, H.lt r hr k hkr⟩
def partsV (kind : Int) : Option (List Part) :=
  if (kind == 1) = true then some [.num 4 2 .some, .num 1 3 .whole, .token]
  else if (kind == 2) = true then some [.num 4 2 .some, .token]
  else if (kind == 3) = true then some []
  else if (kind == 7) = true then some []
  else if (kind == 9) = true then some []
  else if (kind == 4) = true then some [.key, .num 1 7 .whole, .num 1 8 .whole, .num 1 9 .whole, .num 1 10 .whole]
  else if (kind == 5) = true then some [.key, .num 4 14 .count]
  else if (kind == 6) = true then some [.num 4 14 .count]
  else if (kind == 8) = true then some [.num 1 17 .whole, .num 4 18 .count]
  else if (kind == 10) = true then some [.num 1 15 .whole, .num 1 16 .whole]
  else none
set_option maxHeartbeats 6400000 in
theorem askedC (w : World) : Calls Tryz.prog 89 #[] w fun e w' => ∃ v, e = .returned v ∧ PsMade w [.num 1 7 .whole, .num 1 8 .whole, .num 1 9 .whole, .num 1 10 .whole] v w' := by
  have H := Lib.hid (Hp.start [] w)
  go_enter Tryz.func89, Tryz.ntmps89
  go_wp2_with (first
    | ((with_reducible apply g_mem); (focus (exact rfl)); first
      | ((with_reducible apply hpN_bslice Tryz.underlying122 tymsg_part 5 H); (focus (exact rfl)); (focus (exact rfl)); (focus (first | (exact rfl) | (simp [Region.wanted]; done) | (simp only [Region.wanted]; go_simp; done))); (focus (first | decide | (simp; done))); (focus (first | decide | (simp; done))); (focus (first | (go_simp; exact rfl) | exact rfl)); intro w5 b5 H5; clear H; have H := H5; clear H5))
    | (go_at_call 81; first | ((with_reducible refine (number_who _).mono ?_); rintro e w5 ⟨pwho, gwho, Fwho, rfl, hp, hf, ho⟩; have owho := hp.one.1; have owhog := hp.one.2; have H5 := Lib.hid (H.out.push (rPart Fwho pwho gwho (.num 4 2 .some)) ho hp hf); clear H hp hf ho; have H := H5; clear H5) | ((with_reducible refine (number_id _).mono ?_); rintro e w5 ⟨pid, gid, Fid, rfl, hp, hf, ho⟩; have oid := hp.one.1; have oidg := hp.one.2; have H5 := Lib.hid (H.out.push (rPart Fid pid gid (.num 4 14 .count)) ho hp hf); clear H hp hf ho; have H := H5; clear H5) | ((with_reducible refine (number_role _).mono ?_); rintro e w5 ⟨prole, grole, Frole, rfl, hp, hf, ho⟩; have orole := hp.one.1; have oroleg := hp.one.2; have H5 := Lib.hid (H.out.push (rPart Frole prole grole (.num 1 3 .whole)) ho hp hf); clear H hp hf ho; have H := H5; clear H5) | ((with_reducible refine (number_fkind _).mono ?_); rintro e w5 ⟨pfkind, gfkind, Ffkind, rfl, hp, hf, ho⟩; have ofkind := hp.one.1; have ofkindg := hp.one.2; have H5 := Lib.hid (H.out.push (rPart Ffkind pfkind gfkind (.num 1 17 .whole)) ho hp hf); clear H hp hf ho; have H := H5; clear H5) | ((with_reducible refine (number_fn _).mono ?_); rintro e w5 ⟨pfn, gfn, Ffn, rfl, hp, hf, ho⟩; have ofn := hp.one.1; have ofng := hp.one.2; have H5 := Lib.hid (H.out.push (rPart Ffn pfn gfn (.num 4 18 .count)) ho hp hf); clear H hp hf ho; have H := H5; clear H5) | ((with_reducible refine (number_car _).mono ?_); rintro e w5 ⟨pcar, gcar, Fcar, rfl, hp, hf, ho⟩; have ocar := hp.one.1; have ocarg := hp.one.2; have H5 := Lib.hid (H.out.push (rPart Fcar pcar gcar (.num 1 15 .whole)) ho hp hf); clear H hp hf ho; have H := H5; clear H5) | ((with_reducible refine (number_mode _).mono ?_); rintro e w5 ⟨pmode, gmode, Fmode, rfl, hp, hf, ho⟩; have omode := hp.one.1; have omodeg := hp.one.2; have H5 := Lib.hid (H.out.push (rPart Fmode pmode gmode (.num 1 16 .whole)) ho hp hf); clear H hp hf ho; have H := H5; clear H5) | ((with_reducible refine (number_ckind _).mono ?_); rintro e w5 ⟨pckind, gckind, Fckind, rfl, hp, hf, ho⟩; have ockind := hp.one.1; have ockindg := hp.one.2; have H5 := Lib.hid (H.out.push (rPart Fckind pckind gckind (.num 1 7 .whole)) ho hp hf); clear H hp hf ho; have H := H5; clear H5) | ((with_reducible refine (number_csrc _).mono ?_); rintro e w5 ⟨pcsrc, gcsrc, Fcsrc, rfl, hp, hf, ho⟩; have ocsrc := hp.one.1; have ocsrcg := hp.one.2; have H5 := Lib.hid (H.out.push (rPart Fcsrc pcsrc gcsrc (.num 1 8 .whole)) ho hp hf); clear H hp hf ho; have H := H5; clear H5) | ((with_reducible refine (number_cdst _).mono ?_); rintro e w5 ⟨pcdst, gcdst, Fcdst, rfl, hp, hf, ho⟩; have ocdst := hp.one.1; have ocdstg := hp.one.2; have H5 := Lib.hid (H.out.push (rPart Fcdst pcdst gcdst (.num 1 9 .whole)) ho hp hf); clear H hp hf ho; have H := H5; clear H5) | ((with_reducible refine (number_ccar _).mono ?_); rintro e w5 ⟨pccar, gccar, Fccar, rfl, hp, hf, ho⟩; have occar := hp.one.1; have occarg := hp.one.2; have H5 := Lib.hid (H.out.push (rPart Fccar pccar gccar (.num 1 10 .whole)) ho hp hf); clear H hp hf ho; have H := H5; clear H5))
    | (go_at_call 87; first | ((with_reducible refine (tokenC _).mono ?_); rintro e w5 ⟨ptok, gtok, Ftok, rfl, hp, hf, ho⟩; have otok := hp.one.1; have otokg := hp.one.2; have H5 := Lib.hid (H.out.push (rPart Ftok ptok gtok .token) ho hp hf); clear H hp hf ho; have H := H5; clear H5))
    | (go_at_call 88; first | ((with_reducible refine (keyC _).mono ?_); rintro e w5 ⟨pkey, gkey, Fkey, rfl, hp, hf, ho⟩; have okey := hp.one.1; have okeyg := hp.one.2; have H5 := Lib.hid (H.out.push (rPart Fkey pkey gkey .key) ho hp hf); clear H hp hf ho; have H := H5; clear H5)))
  go_ret
  exact ⟨_, rfl, ps_mk H.out (fs := [(pckind, gckind), (pcsrc, gcsrc), (pcdst, gcdst), (pccar, gccar)]) (by (repeat (first | exact List.Mem.head _ | apply List.Mem.tail))) rfl rfl (by intro i f p hf hp; match i, hf, hp with | 0, hf, hp => (injection hf with hf; injection hp with hp; subst hf; subst hp; apply Exists.intro; (repeat (first | apply List.Mem.head | apply List.Mem.tail))) | 1, hf, hp => (injection hf with hf; injection hp with hp; subst hf; subst hp; apply Exists.intro; (repeat (first | apply List.Mem.head | apply List.Mem.tail))) | 2, hf, hp => (injection hf with hf; injection hp with hp; subst hf; subst hp; apply Exists.intro; (repeat (first | apply List.Mem.head | apply List.Mem.tail))) | 3, hf, hp => (injection hf with hf; injection hp with hp; subst hf; subst hp; apply Exists.intro; (repeat (first | apply List.Mem.head | apply List.Mem.tail))) | i + 4, hf, hp => simp at hf)⟩
end Go.Proofs.YthflkhalipkdgaaGreat.Ms

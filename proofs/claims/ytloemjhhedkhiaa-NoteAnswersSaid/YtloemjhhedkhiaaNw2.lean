/- Layer 15: lists of calls that are written. -/
import Derived.Test.YtloemjhhedkhiaaProg
import Derived.Below
import Derived.WalkKit
import Derived.KernelRfl
import Derived.RowKit3
import Derived.Deep.LoopGhost
import Derived.Deep.QuietTactic
import Derived.BigQuiet
import Derived.WideLaws
import Derived.Deep.DeepCutAuto
import Derived.Deep.CutBlock
import Derived.Lib.Hide
import Derived.Laws.BitsLemmas
import Derived.Laws.Bits64
import Derived.Laws.BitsAllLaws
import Derived.IntWalk
import Derived.Outline
import Derived.WalkSpells
import Derived.Test.YtloemjhhedkhiaaMem
import Derived.Test.YtloemjhhedkhiaaNw1
namespace Go.Proofs.Ytloemjhhedkhiaa.Nt
open Go.RowKit Go.Proofs.Ytloemjhhedkhiaa.Mem Go.Proofs.Ytloemjhhedkhiaa.Pk Go.Proofs.Ytloemjhhedkhiaa.Reg Go.Proofs.Ytloemjhhedkhiaa.Wk
set_option linter.unusedVariables false
set_option linter.unusedSimpArgs false

def callRow (x : CallV) : List Value := [.int .i64 x.id, .int .i64 x.kind, .int .i64 x.src, .int .i64 x.dst, .int .i64 x.car, .int .i64 x.state, .int .i64 x.owner, .int .i64 x.born]
theorem elB : ElI Try.prog 44 5 1 1 := ElI.of (by kernel_rfl) (by kernel_rfl) (by decide)
/-- a writer whose slice is told -/
def rOutV (b : Nat) (F : List Nat) (m : Nat) (l : List Nat) (v : Value) : Res := ⟨F, fun w => l.length ≤ m ∧ OutAt w b v l ∧ ∀ k ∈ foot b v, k ∈ F, by
  rintro w w' h ⟨hm, hv, hF⟩
  refine ⟨hm, ⟨?_, owns_same hv.owns fun k hk => h k (hF k (by simp [foot, hk])), hv.apart, hv.small⟩, hF⟩
  have := hv.blk
  unfold Blk at this ⊢
  rw [h b (hF b (by simp [foot]))]
  exact this, false⟩
section
variable {S : List Nat} {w0 w : World} {R : List Res}
theorem hp_weak {S : List Nat} (H : Hid (Hp S w0 w R)) {i : Nat} {r : Res} (hi : R[i]? = some r) (r' : Res) (hf : ∀ k ∈ r'.foot, k ∈ r.foot) (hro : r.ro = false) (hr : r'.holds w) : Hid (Hp S w0 w (R.set i r')) :=
  Lib.hid (H.out.step i hi r' (F := []) (Off.refl _ _) (by simp) hr (fun k hk => ⟨.inl (hf k hk), H.out.lt _ (List.mem_of_getElem? hi) k (hf k hk)⟩) hro)
theorem out_told (H : Hid (Hp S w0 w R)) (i : Nat) {b m : Nat} {F l : List Nat} (hi : R[i]? = some (rOut b F m l)) : ∃ va vc, l.length ≤ vc + 0 ∧ Hid (Hp S w0 w (R.set i (rOutV b F m l (.slice va l.length vc)))) := by
  obtain ⟨hm, v, hv, hF⟩ := H.out.at i hi
  obtain ⟨a, c, rfl⟩ := owns_form hv.owns
  refine ⟨a, c, ?_, hp_weak H hi _ (fun k hk => hk) rfl ⟨hm, hv, hF⟩⟩
  rcases hv.owns.2 with ⟨h1, h2⟩ | ⟨g, cap, cur, h1, _, _, h3, _⟩
  · rw [h2]; omega
  · injection h1 with _ _ h5
    omega
theorem out_back (H : Hid (Hp S w0 w R)) (i : Nat) {b m : Nat} {F l : List Nat} {v : Value} (hi : R[i]? = some (rOutV b F m l v)) : Hid (Hp S w0 w (R.set i (rOut b F m l))) := by
  obtain ⟨hm, hv, hF⟩ := H.out.at i hi
  exact hp_weak H hi _ (fun k hk => hk) rfl ⟨hm, v, hv, hF⟩
theorem out_open (H : Hid (Hp S w0 w R)) (i : Nat) {b m : Nat} {F l : List Nat} {v : Value} (hi : R[i]? = some (rOutV b F m l v)) : Hid (Hp S w0 w (R.set i (rB b 100 [v]))) := by
  obtain ⟨hm, hv, hF⟩ := H.out.at i hi
  exact hp_weak H hi _ (fun k hk => hF k (by simp only [rB, List.mem_singleton] at hk; simp [foot, hk])) rfl hv.blk
theorem outV_load {P : Program} {ops : Array Oper} {rest : List Oper} {o : Oper} {a : Act} {Q : Exit → Act → World → Prop} {ty b m : Nat} {z : List Value} {F l : List Nat} {v : Value} (T : TyI P ty 1 false z) (H : Hid (Hp S w0 w R)) {x : Operand} (ho : o.op = .load ty x) (hx : a.eval x = .pointer (some ⟨b, 0, none⟩)) (hw : Region.wanted o (yielded ops a.tmps) = true) (hm : rOutV b F m l v ∈ R)
    (h : wpList P ops Q rest (a.put o.dst v) w) : wpList P ops Q (o :: rest) a w := by
  have hb : Blk w b #[v] 100 := (H.out.holds _ hm).2.1.blk
  have H2 : Hid (Hp [b] w w [rB b 100 [v]]) := Lib.hid ⟨Off.refl _ _, fun r hr => (List.mem_singleton.1 hr) ▸ hb, by simpa [rB] using hb.lt, by simp [rB], by simp⟩
  exact hpA_load1 T H2 ho hx hw (List.mem_singleton.2 rfl) rfl h
end
theorem enc2 {n : Nat} (h : n ≤ 65535) : (encs 2 [(n : Int)]).1 = beB 2 n := by
  have e : (encs 2 [(n : Int)]).2 = true := by
    unfold encs fitsV wide
    have : (n : Int) / 65536 = 0 := by omega
    simp [this]
  rw [encs_ok e]
  simp [beBs]
theorem take_all {xs : List CallV} {i : Nat} {x : CallV} (h : (xs.take i).all callOk = true) (hx : xs[i]? = some x) (ho : callOk x = true) : (xs.take (i + 1)).all callOk = true := by
  rw [List.take_add_one, hx, List.all_append, h]
  simp [ho]
theorem take_bytes {xs : List CallV} {i : Nat} {x : CallV} (hx : xs[i]? = some x) : callsB (xs.take i) ++ callB x = callsB (xs.take (i + 1)) := by
  rw [List.take_add_one, hx]
  simp [callsB]
theorem all_not {xs : List CallV} {i : Nat} {x : CallV} (hx : xs[i]? = some x) (ho : callOk x = false) : false = xs.all callOk := by
  have : xs.all callOk = false := List.all_eq_false.2 ⟨x, List.mem_of_getElem? hx, by rw [ho]; decide⟩
  exact this.symm
def tab_listW : Wk.Tab := []
theorem p_listW {ops : Array Oper} {rest : List Oper} {o : Oper} {w0 : World} {Q : Exit → Act → World → Prop} {S : List Nat} {R : List Res} {K K' : Wk.Env} {N : Nat} (h : Wk.stp tab_listW N ops K o = some K') (n : Wk.Wk N S w0 K' R (wpList Try.prog ops Q rest)) : Wk.Wk N S w0 K R (wpList Try.prog ops Q (o :: rest)) := Wk.wP (T := tab_listW) (by kernel_rfl) h n
set_option maxRecDepth 20000 in
theorem listW_r3 (b : Nat) (F : List Nat) (m : Nat) (l : List Nat) (a : Option Addr) (c : Nat) (xs : List CallV) (hm : m ≤ 800000000) (h64 : xs.length ≤ 64) (h65 : (decide (65535 < (xs.length : Int))) = false) (va : Option Addr) (vc : Nat) (hvc : l.length ≤ vc + 0) {wa wb : World} (H : Hid (Hp F wa wb [rS a c 8 (xs.map callRow), rOutV b F m l (.slice va l.length vc)])) (ac0 : Act) (hz : ac0.tmps.size = 52) (so0 : ac0.eval (.tmp 0) = .pointer (some ⟨b, 0, none⟩)) {QR : Exit → Act → World → Prop} (hfin : ∀ (ac1 : Act) (wz : World), ac1.tmps.size = 52 → ac1.defers = ac0.defers → (∀ t, ([7, 21, 22, 23, 24, 25] : List Nat).contains t = false → ac1.eval (.tmp t) = ac0.eval (.tmp t)) → ac1.eval (.tmp 7) = .int .i64 l.length →  Hid (Hp F wa wz [rS a c 8 (xs.map callRow), rOutV b F m l (.slice va l.length vc)]) → QR .normal ac1 wz) : (regAt Try.f79 3).wp Try.prog QR ac0 wb := by
  refine wp_region_sq (by kernel_rfl) 52 hz (by kernel_rfl) (fun (xx : Unit) jx => nth [.pointer (some ⟨b, 0, none⟩), .pointer (some ⟨b, 0, none⟩), .pointer (some ⟨b, 0, none⟩), .slice va l.length vc, .int .i64 l.length, .int .i64 l.length] jx) (fun (LL : Nat → Bool) (xx : Unit) ww => Hp F wa ww [rS a c 8 (xs.map callRow), rOutV b F m l (.slice va l.length vc)]) () H.out ?_ (steps_al ?_) ?_ ?_
  · exact fun _ _ _ _ _ h => h
  · refine al_cons ?_ (al_cons ?_ (al_cons ?_ (al_cons ?_ (al_cons ?_ (al_cons ?_ (al_nil))))))
    · intro LL xx ac wc sg hst hwant QQ hgo
      exact op_val hwant hgo hst _ (exec_move rfl ((sg.free 0 (by kernel_rfl)).trans so0)) rfl
    · intro LL xx ac wc sg hst hwant QQ hgo
      have se21 : ac.eval (.tmp 21) = _ := (sg.slot 0 (sg.anc 0 rfl))
      have sg21 := gt_of se21
      (try simp only [nth] at se21 sg21)
      exact op_val hwant hgo hst _ (by simp only [execOp, nth]; go_simp <;> omega) rfl
    · intro LL xx ac wc sg hst hwant QQ hgo
      have se22 : ac.eval (.tmp 22) = _ := (sg.slot 1 (sg.anc 1 rfl))
      have sg22 := gt_of se22
      (try simp only [nth] at se22 sg22)
      exact op_val hwant hgo hst _ (by simp only [execOp, nth]; go_simp <;> omega) rfl
    · intro LL xx ac wc sg hst hwant QQ hgo
      have se23 : ac.eval (.tmp 23) = _ := (sg.slot 2 (sg.anc 2 rfl))
      have sg23 := gt_of se23
      (try simp only [nth] at se23 sg23)
      have H := Lib.hid hst
      refine outV_load tyS_uint8 H rfl se23 hwant (by (repeat (first | exact List.Mem.head _ | apply List.Mem.tail))) ?_
      exact hgo _ () _ (fun _ _ => rfl) rfl hst
    · intro LL xx ac wc sg hst hwant QQ hgo
      have se24 : ac.eval (.tmp 24) = _ := (sg.slot 3 (sg.anc 3 rfl))
      have sg24 := gt_of se24
      (try simp only [nth] at se24 sg24)
      exact op_val hwant hgo hst _ (by simp only [execOp, nth]; go_simp <;> omega) rfl
    · intro LL xx ac wc sg hst hwant QQ hgo
      exact op_val hwant hgo hst _ (exec_assign rfl (sg.slot 4 (sg.anc 4 rfl))) rfl
  · exact skips [] (by kernel_rfl) (fun _ h => by cases h)
  · intro xx ac1 wz hfr hsl hst
    exact hfin ac1 wz (hfr.size.trans hz) hfr.defers (fr_keep hfr [7, 21, 22, 23, 24, 25] (by kernel_rfl)) (hsl 5 (by decide)) (Lib.hid hst)
set_option maxRecDepth 20000 in
theorem listW_r9 (b : Nat) (F : List Nat) (m : Nat) (l : List Nat) (c : Nat) (xs : List CallV) (hm : m ≤ 800000000) (h64 : xs.length ≤ 64) (h65 : (decide (65535 < (xs.length : Int))) = false) (vc : Nat) (hvc : l.length ≤ vc + 0) (i : Nat) (mm : Nat) (hi : i ≤ xs.length) (hmm : mm ≤ m + 8 + 100 * i) (z1d : i < xs.length) (y : Addr) (x : CallV) (b9 : Nat) (l8_3 : List Nat) (va2 : Option Addr) (vc2 : Nat) (hvc2 : l8_3.length ≤ vc2 + 0) (hcut : l.length ≤ vc2) {wa wb : World} (H : Hid (Hp F wa wb [rP (callOk x = true → l8_3 = (l ++ beB 2 xs.length ++ callsB (xs.take i)) ++ callB x), rP ((l ++ beB 2 xs.length ++ callsB (xs.take i)).length ≤ l8_3.length), rB b9 25 [.int .i64 x.id, .int .i64 x.kind, .int .i64 x.src, .int .i64 x.dst, .int .i64 x.car, .int .i64 x.state, .int .i64 x.owner, .int .i64 x.born], rS (some y) c 8 (xs.map callRow), rB b 100 [.slice va2 l8_3.length vc2]])) (ac0 : Act) (hz : ac0.tmps.size = 52) (so0 : ac0.eval (.tmp 0) = .pointer (some ⟨b, 0, none⟩)) (so7 : ac0.eval (.tmp 7) = .int .i64 l.length) {QR : Exit → Act → World → Prop} (hfin : ∀ (ac1 : Act) (wz : World), ac1.tmps.size = 52 → ac1.defers = ac0.defers → (∀ t, ([42, 43, 44, 45, 46, 47, 48, 49, 50] : List Nat).contains t = false → ac1.eval (.tmp t) = ac0.eval (.tmp t)) →  Hid (Hp F wa wz [rP (callOk x = true → l8_3 = (l ++ beB 2 xs.length ++ callsB (xs.take i)) ++ callB x), rP ((l ++ beB 2 xs.length ++ callsB (xs.take i)).length ≤ l8_3.length), rB b9 25 [.int .i64 x.id, .int .i64 x.kind, .int .i64 x.src, .int .i64 x.dst, .int .i64 x.car, .int .i64 x.state, .int .i64 x.owner, .int .i64 x.born], rS (some y) c 8 (xs.map callRow), rB b 100 [.slice va2 l.length vc2]]) → QR .normal ac1 wz) : (regAt Try.f79 9).wp Try.prog QR ac0 wb := by
  refine wp_region_sq (by kernel_rfl) 52 hz (by kernel_rfl) (fun (xx : Unit) jx => nth [.pointer (some ⟨b, 0, none⟩), .pointer (some ⟨b, 0, none⟩), .pointer (some ⟨b, 0, none⟩), .pointer (some ⟨b, 0, none⟩), .slice va2 l8_3.length vc2, .int .i64 l.length, .slice va2 l.length vc2, .pointer (some ⟨b, 0, none⟩), .pointer (some ⟨b, 0, none⟩), undef] jx) (fun (LL : Nat → Bool) (xx : Unit) ww => Hp F wa ww (bif LL 9 then [rP (callOk x = true → l8_3 = (l ++ beB 2 xs.length ++ callsB (xs.take i)) ++ callB x), rP ((l ++ beB 2 xs.length ++ callsB (xs.take i)).length ≤ l8_3.length), rB b9 25 [.int .i64 x.id, .int .i64 x.kind, .int .i64 x.src, .int .i64 x.dst, .int .i64 x.car, .int .i64 x.state, .int .i64 x.owner, .int .i64 x.born], rS (some y) c 8 (xs.map callRow), rB b 100 [.slice va2 l.length vc2]] else [rP (callOk x = true → l8_3 = (l ++ beB 2 xs.length ++ callsB (xs.take i)) ++ callB x), rP ((l ++ beB 2 xs.length ++ callsB (xs.take i)).length ≤ l8_3.length), rB b9 25 [.int .i64 x.id, .int .i64 x.kind, .int .i64 x.src, .int .i64 x.dst, .int .i64 x.car, .int .i64 x.state, .int .i64 x.owner, .int .i64 x.born], rS (some y) c 8 (xs.map callRow), rB b 100 [.slice va2 l8_3.length vc2]])) () H.out ?_ (steps_al ?_) ?_ ?_
  · intro L1 L2 xx ww hL sg
    have lh9 := hL 9 (by decide)
    simp only [lh9] at sg
    exact sg
  · refine al_cons ?_ (al_cons ?_ (al_cons ?_ (al_cons ?_ (al_cons ?_ (al_cons ?_ (al_cons ?_ (al_cons ?_ (al_cons ?_ (al_cons ?_ (al_nil))))))))))
    · intro LL xx ac wc sg hst hwant QQ hgo
      exact op_val hwant hgo hst _ (exec_move rfl ((sg.free 0 (by kernel_rfl)).trans so0)) rfl
    · intro LL xx ac wc sg hst hwant QQ hgo
      exact op_val hwant hgo hst _ (exec_move rfl ((sg.free 0 (by kernel_rfl)).trans so0)) rfl
    · intro LL xx ac wc sg hst hwant QQ hgo
      have se43 : ac.eval (.tmp 43) = _ := (sg.slot 1 (sg.anc 1 rfl))
      have sg43 := gt_of se43
      (try simp only [nth] at se43 sg43)
      exact op_val hwant hgo hst _ (by simp only [execOp, nth]; go_simp <;> omega) rfl
    · intro LL xx ac wc sg hst hwant QQ hgo
      have se44 : ac.eval (.tmp 44) = _ := (sg.slot 2 (sg.anc 2 rfl))
      have sg44 := gt_of se44
      (try simp only [nth] at se44 sg44)
      exact op_val hwant hgo hst _ (by simp only [execOp, nth]; go_simp <;> omega) rfl
    · intro LL xx ac wc sg hst hwant QQ hgo
      have H := Lib.hid hst
      simp only [sg.des 9 rfl, cond_true, cond_false] at H
      refine hpA_load1 tyS_uint8 H rfl (sg.slot 3 (sg.anc 3 rfl)) hwant (by (repeat (first | exact List.Mem.head _ | apply List.Mem.tail))) (by rfl) ?_
      exact hgo _ () _ (fun _ _ => rfl) rfl hst
    · intro LL xx ac wc sg hst hwant QQ hgo
      exact op_val hwant hgo hst _ (exec_move rfl ((sg.free 7 (by kernel_rfl)).trans so7)) rfl
    · intro LL xx ac wc sg hst hwant QQ hgo
      have hcy : ac.eval (.tmp 47) = .int .i64 (((l.length : Nat)) : Int) := ((sg.slot 5 (sg.anc 5 rfl))).trans (by first | rfl | simp)
      exact op_val hwant hgo hst _ (exec_cut_h elB rfl (sg.slot 4 (sg.anc 4 rfl)) hcy (by omega)) rfl
    · intro LL xx ac wc sg hst hwant QQ hgo
      have se42 : ac.eval (.tmp 42) = _ := (sg.slot 0 (sg.anc 0 rfl))
      have sg42 := gt_of se42
      (try simp only [nth] at se42 sg42)
      exact op_val hwant hgo hst _ (by simp only [execOp, nth]; go_simp <;> omega) rfl
    · intro LL xx ac wc sg hst hwant QQ hgo
      have se49 : ac.eval (.tmp 49) = _ := (sg.slot 7 (sg.anc 7 rfl))
      have sg49 := gt_of se49
      (try simp only [nth] at se49 sg49)
      exact op_val hwant hgo hst _ (by simp only [execOp, nth]; go_simp <;> omega) rfl
    · intro LL xx ac wc sg hst hwant QQ hgo
      have H := Lib.hid hst
      simp only [sg.self, cond_true, cond_false] at H
      refine hpA_store1 tyS_uint8 H rfl rfl (sg.slot 8 (sg.anc 8 rfl)) (sg.slot 6 (sg.anc 6 rfl)) (by rfl) (by repeat (first | apply Put.head | apply Put.tail)) (by simp [List.length_cons]) (by first | rfl | (simp [List.length_cons, Value.oneCell'])) (by rfl) rfl ?_
      intro wd H2
      exact hgo _ () _ (fun _ _ => rfl) rfl (by simp only [(show upd LL 9 9 = true from rfl), cond_true, cond_false]; exact H2.out)
  · exact skips [] (by kernel_rfl) (fun _ h => by cases h)
  · intro xx ac1 wz hfr hsl hst
    exact hfin ac1 wz (hfr.size.trans hz) hfr.defers (fr_keep hfr [42, 43, 44, 45, 46, 47, 48, 49, 50] (by kernel_rfl)) (Lib.hid hst)
set_option maxHeartbeats 16000000 in
set_option maxRecDepth 20000 in
theorem listW (b : Nat) (F : List Nat) (m : Nat) (l : List Nat) (a : Option Addr) (c : Nat) (xs : List CallV) (w : World) (hO : (rOut b F m l).holds w) (hF : ∀ k ∈ F, k < w.heap.size) (hS : (rS a c 8 (xs.map callRow)).holds w) (hd : ∀ q ∈ (rS a c 8 (xs.map callRow)).foot, q ∉ F) (hm : m ≤ 800000000) (h64 : xs.length ≤ 64) : Calls Try.prog 79 #[.pointer (some ⟨b, 0, none⟩), .slice a xs.length c, .func (.func 48) #[] #[]] w fun e w' => e = .returned (.bool (xs.all callOk)) ∧ Off F w w' ∧ (xs.all callOk = true → Puts b F (m + 8 + 100 * xs.length) (l ++ (beB 2 xs.length ++ callsB xs)) w w') := by
 have H := Lib.hid (Hp.start [] w)
 have H := hp_wr hO hF
 have H := hp_oldS H hS (by decide) hd
 clear hO hS
 refine wStart (args := [.pointer (some ⟨b, 0, none⟩), .slice a xs.length c, .func (.func 48) #[] #[]]) Try.func79 rfl rfl rfl H ?_
 clear H
 show Wk 52 _ _ [(0, .pointer (some ⟨b, 0, none⟩)), (1, .slice a xs.length c), (2, .func (.func 48) #[] #[])] _ _
 have h65 : (decide (65535 < (xs.length : Int))) = false := by simp; omega
 refine wSeqK fun KK1 hK1 => ?_
 refine wReg ?_
 refine p_listW rfl ?_
 refine wN ?_
 refine tN (wKK hK1 ?_)
 refine wSeqK fun KK2 hK2 => ?_
 refine wSeqK fun KK3 hK3 => ?_
 refine wReg ?_
 refine p_listW rfl ?_
 refine wE (.bool false) rfl rfl rfl (fun aa ww hs _ => by have e10 := hs 10 _ rfl; have g10 := gt_of e10; simp only [execOp]; go_simp <;> omega) ?_
 iterate 2 refine p_listW rfl ?_
 refine wE (.bool false) rfl rfl rfl (fun aa ww hs _ => exec_fnil_eql rfl (hs _ _ rfl) (rfl) Try.underlying103) ?_
 iterate 3 refine p_listW rfl ?_
 refine wE (.int .i64 xs.length) rfl rfl rfl (fun aa ww hs _ => by have e17 := hs 17 _ rfl; have g17 := gt_of e17; simp only [execOp]; go_simp <;> omega) ?_
 refine p_listW rfl ?_
 refine wB 19 rfl h65 ?_
 refine p_listW rfl ?_
 refine wN ?_
 refine tN (wKK hK3 ?_)
 refine wCf rfl ?_
 refine wSk ?_
 refine tN (wKK hK2 ?_)
 refine wSeqK fun KK4 hK4 => ?_
 intro aa ww nn dd hs H
 obtain ⟨va, vc, hvc, H⟩ := out_told H 1 rfl
 refine wIn nn dd hs H ?_
 intro aa ww nn dd hs H
 refine listW_r3 b F m l a c xs hm h64 h65 va vc hvc H aa nn (hs 0 _ rfl) ?_
 intro ab wv nn2 dd2 kp o7 H2
 refine wIn nn2 (dd2.trans dd) (Sat.cons (Sat.cons (Sat.cons (Sat.cons (Sat.cons (Sat.cons (sat_nil ab) ((kp 20 rfl).trans (hs 20 _ rfl))) ((kp 6 rfl).trans (hs 6 _ rfl))) ((kp 2 rfl).trans (hs 2 _ rfl))) ((kp 1 rfl).trans (hs 1 _ rfl))) ((kp 0 rfl).trans (hs 0 _ rfl))) o7) H2 ?_
 clear hs H kp H2 dd dd2 nn nn2 o7
 intro aa ww nn dd hs H
 replace H := out_back H 1 rfl
 refine wIn nn dd hs H ?_
 refine tN (wKK hK4 ?_)
 refine wSeqK fun KK5 hK5 => ?_
 refine wReg ?_
 iterate 2 refine p_listW rfl ?_
 refine wE (.int .i64 xs.length) rfl rfl rfl (fun aa ww hs _ => by have e27 := hs 27 _ rfl; have g27 := gt_of e27; simp only [execOp]; go_simp <;> omega) ?_
 refine wBs (cs := [.int .i64 xs.length]) rfl rfl rfl rfl Try.underlying125 tyint rfl (by decide) (by decide) (by kernel_rfl) fun b29 => ?_
 refine wC (l := [.pointer (some ⟨b, 0, none⟩), .int .i64 2, .slice (some ⟨b29, 0, none⟩) 1 1]) Try.func46 rfl (by kernel_rfl) (fun wc H => outNumsH H (ns := [xs.length]) (wd := 2) (n := 1) (c := 1) (i := 2) (j := 0) rfl rfl rfl rfl (by decide) (by omega)) rfl rfl rfl rfl ?_
 intro wc H
 rintro er wd ⟨rfl, fF4_4, H2⟩
 refine ⟨_, rfl, wkAt H2 ?_⟩
 clear H H2
 refine wN ?_
 refine tN (wKK hK5 ?_)
 refine wSeqK fun KK6 hK6 => ?_
 refine wSeqK fun KK7 hK7 => ?_
 intro aa ww nn dd hs H
 rw [enc2 (by omega)] at H
 refine wIn nn dd hs H ?_
 refine wReg ?_
 refine p_listW rfl ?_
 refine wE (.int .i64 xs.length) rfl rfl rfl (fun aa ww hs _ => by have e31 := hs 31 _ rfl; have g31 := gt_of e31; simp only [execOp]; go_simp <;> omega) ?_
 refine p_listW rfl ?_
 refine wN ?_
 refine tN (wKK hK7 ?_)
 refine wBlk ?_
 intro aa ww nn dd hs H
 rw [show l ++ beB 2 xs.length = l ++ beB 2 xs.length ++ callsB (xs.take 0) by simp [callsB]] at H
 replace H : Hid (Hp F w ww [rS a c 8 (xs.map callRow), rOut b fF4_4 (m + 8) (l ++ beB 2 xs.length ++ callsB (xs.take 0))]) := Lib.hid (H.out.sub (by repeat (first | exact List.Sublist.refl _ | apply List.Sublist.cons₂ | apply List.Sublist.cons)))
 refine wIn nn dd hs H ?_
 refine wLoop (fun ab wv => ∃ i : Nat, ∃ G : List Nat, ∃ mm : Nat, i ≤ xs.length ∧ mm ≤ m + 8 + 100 * i ∧ Hid ((xs.take i).all callOk = true) ∧ ab.tmps.size = 52 ∧ ab.defers = [] ∧ Sat [(0, .pointer (some ⟨b, 0, none⟩)), (1, .slice a xs.length c), (2, .func (.func 48) #[] #[]), (7, .int .i64 l.length), (20, .bool false), (31, .slice a xs.length c), (32, .int .i64 xs.length), (33, .int .i64 i)] ab ∧ Hid (Hp F w wv [rS a c 8 (xs.map callRow), rOut b G mm (l ++ beB 2 xs.length ++ callsB (xs.take i))])) (fun ab _ => xs.length - (intOf (ab.eval (.tmp 33))).toNat) (fun aa ww nn dd hs H => ⟨0, fF4_4, (m + 8), (Nat.zero_le _), (by omega), (Lib.hid rfl), nn, dd, (sat_sub ⟨rfl, rfl, rfl, rfl, rfl, rfl, rfl, rfl, trivial⟩ hs), H⟩) ?_
 rintro a1 wv ⟨i, G, mm, hi, hmm, hall, nn, dd, hs, H⟩
 have mu1_33 := hs 33 _ rfl
 refine wIn nn dd hs H ?_
 clear nn dd hs H
 refine wSeqK fun KK8 hK8 => ?_
 refine wReg ?_
 refine p_listW rfl ?_
 refine wB (c := decide (i < xs.length)) 34 rfl (by simp) ?_
 refine wN ?_
 refine tN (wKK hK8 ?_)
 refine wSeqK fun KK9 hK9 => ?_
 refine wCond (E := decide (i < xs.length)) rfl (fun z1 => ?_) (fun z1 => ?_)
 · skip
   have z1d : i < xs.length := of_decide_eq_true z1
   intro aa ww nn dd hs H
   obtain ⟨y, rfl⟩ := some_of_row (hp_held H (show rS a c 8 (xs.map callRow) ∈ _ by simp)) (i := i) (by simp; omega)
   obtain ⟨x, hx⟩ : ∃ x, xs[i]? = some x := ⟨xs[i], List.getElem?_eq_getElem (by omega)⟩
   have HRx := Lib.hid (show (xs.map callRow)[i]? = some [.int .i64 x.id, .int .i64 x.kind, .int .i64 x.src, .int .i64 x.dst, .int .i64 x.car, .int .i64 x.state, .int .i64 x.owner, .int .i64 x.born] by rw [List.getElem?_map, hx]; rfl)
   have HXx := Lib.hid hx
   clear hx
   refine wIn nn dd hs H ?_
   refine wSk ?_
   refine tN (wKK hK9 ?_)
   refine wSeqK fun KK10 hK10 => ?_
   refine wBlk ?_
   refine wSeqK fun KK11 hK11 => ?_
   refine wReg ?_
   refine wE (.pointer (some (y.add (i * 8)))) rfl rfl rfl (fun aa ww hs _ => by have e31 := hs 31 _ rfl; have g31 := gt_of e31; have e33 := hs 33 _ rfl; have g33 := gt_of e33; simp only [execOp]; go_simp <;> omega) ?_
   refine wX 36 (.agg #[.int .i64 x.id, .int .i64 x.kind, .int .i64 x.src, .int .i64 x.dst, .int .i64 x.car, .int .i64 x.state, .int .i64 x.owner, .int .i64 x.born]) rfl (fun aa ww KK hs H _ hk => hpS_load tyapi_Call H (y := y) rfl (hs _ _ rfl) (wnt_ok hs rfl) (by (repeat (first | exact List.Mem.head _ | apply List.Mem.tail))) HRx.out rfl hk) ?_
   refine wAl rfl rfl tyapi_Call fun b9 => ?_
   refine wSr rfl tyapi_Call 0 rfl rfl rfl rfl [.int .i64 x.id, .int .i64 x.kind, .int .i64 x.src, .int .i64 x.dst, .int .i64 x.car, .int .i64 x.state, .int .i64 x.owner, .int .i64 x.born] (by first | rfl | (simp only [spl]; rfl)) ?_
   refine wN ?_
   refine tN (wKK hK11 ?_)
   refine wSeqK fun KK12 hK12 => ?_
   refine wReg ?_
   iterate 2 refine p_listW rfl ?_
   refine wLr rfl tyapi_Call 0 rfl [.int .i64 x.id, .int .i64 x.kind, .int .i64 x.src, .int .i64 x.dst, .int .i64 x.car, .int .i64 x.state, .int .i64 x.owner, .int .i64 x.born] rfl rfl ?_
   refine wC (l := [.pointer (some ⟨b, 0, none⟩), .agg #[.int .i64 x.id, .int .i64 x.kind, .int .i64 x.src, .int .i64 x.dst, .int .i64 x.car, .int .i64 x.state, .int .i64 x.owner, .int .i64 x.born]]) Try.func48 rfl (by kernel_rfl) (fun wc H => callW b G mm (l ++ beB 2 xs.length ++ callsB (xs.take i)) x wc (H.out.at 2 rfl) (H.out.lt _ (List.mem_of_getElem? (show _ = some _ from rfl : [rB b9 25 [.int .i64 x.id, .int .i64 x.kind, .int .i64 x.src, .int .i64 x.dst, .int .i64 x.car, .int .i64 x.state, .int .i64 x.owner, .int .i64 x.born], rS (some y) c 8 (xs.map callRow), rOut b G mm (l ++ beB 2 xs.length ++ callsB (xs.take i))][2]? = some _))) (by omega)) rfl rfl rfl rfl ?_
   intro wc H
   rintro er wd ⟨rfl, l8_3, hpu, hla, hll⟩
   obtain ⟨fF8_3, H2⟩ := hp_put H (i := 2) rfl hpu
   replace H2 := hp_fact (hp_fact H2 hll) hla
   refine ⟨_, rfl, wkAt H2 ?_⟩
   clear H H2
   refine p_listW rfl ?_
   refine wN ?_
   refine tN (wKK hK12 ?_)
   refine wCond (E := !(callOk x)) rfl (fun z2 => ?_) (fun z2 => ?_)
   · skip
     have z2n : (callOk x) = false := Reg.bn z2
     refine wSeqK fun KK13 hK13 => ?_
     intro aa ww nn dd hs H
     have hcl := hp_told H (p := (l ++ beB 2 xs.length ++ callsB (xs.take i)).length ≤ l8_3.length) (by (repeat (first | exact List.Mem.head _ | apply List.Mem.tail)))
     simp only [List.length_append] at hcl
     obtain ⟨va2, vc2, hvc2, H⟩ := out_told H 4 rfl
     replace H := out_open H 4 rfl
     have hcut : l.length ≤ vc2 := by omega
     refine wIn nn dd hs H ?_
     intro aa ww nn dd hs H
     refine listW_r9 b F m l c xs hm h64 h65 vc hvc i mm hi hmm z1d y x b9 l8_3 va2 vc2 hvc2 hcut H aa nn (hs 0 _ rfl) (hs 7 _ rfl) ?_
     intro ab wv nn2 dd2 kp H2
     refine wIn nn2 (dd2.trans dd) (Sat.cons (Sat.cons (Sat.cons (Sat.cons (Sat.cons (Sat.cons (Sat.cons (Sat.cons (Sat.cons (Sat.cons (Sat.cons (sat_nil ab) ((kp 41 rfl).trans (hs 41 _ rfl))) ((kp 34 rfl).trans (hs 34 _ rfl))) ((kp 33 rfl).trans (hs 33 _ rfl))) ((kp 32 rfl).trans (hs 32 _ rfl))) ((kp 31 rfl).trans (hs 31 _ rfl))) ((kp 20 rfl).trans (hs 20 _ rfl))) ((kp 9 rfl).trans (hs 9 _ rfl))) ((kp 7 rfl).trans (hs 7 _ rfl))) ((kp 2 rfl).trans (hs 2 _ rfl))) ((kp 1 rfl).trans (hs 1 _ rfl))) ((kp 0 rfl).trans (hs 0 _ rfl))) H2 ?_
     clear hs H kp H2 dd dd2 nn nn2
     refine tN (wKK hK13 ?_)
     refine wSeqK fun KK14 hK14 => ?_
     refine wReg ?_
     refine p_listW rfl ?_
     refine wN ?_
     refine tN (wKK hK14 ?_)
     refine wRet ?_
     refine bR (tR (tR (bR (tR ?_))))
     exact wR1 rfl rfl (fun ww H => ⟨congrArg (fun z => Ending.returned (.bool z)) (all_not HXx.out z2n), H.out.off, fun h => by rw [← all_not HXx.out z2n] at h; cases h⟩)
   · skip
     have z2n : (callOk x) = true := Reg.bt z2
     refine wSk ?_
     refine bN (tN (wKK hK10 ?_))
     refine wReg ?_
     refine p_listW rfl ?_
     refine wI 51 rfl (IntWalk.i64_in _ (by omega)) ?_
     refine p_listW rfl ?_
     refine wN ?_
     refine tN ?_
     intro aa ww nn dd hs H
     have hcb := hp_told H (p := callOk x = true → l8_3 = (l ++ beB 2 xs.length ++ callsB (xs.take i)) ++ callB x) (by (repeat (first | exact List.Mem.head _ | apply List.Mem.tail)))
     rw [hcb z2n] at H
     rw [List.append_assoc (l ++ beB 2 xs.length), take_bytes HXx.out] at H
     clear hcb
     replace H := hp_front H 4 rfl
     skip
     replace H := hp_front H 4 rfl
     refine ⟨⟨i + 1, fF8_3, (mm + 100), (by omega), (by omega), (Lib.hid (take_all hall.out HXx.out z2n)), nn, dd, (sat_sub ⟨rfl, rfl, rfl, rfl, rfl, rfl, rfl, rfl, trivial⟩ hs), (hp_take H 2)⟩, ?_⟩
     have m33 := hs 33 _ rfl
     simp only [mu1_33, m33, intOf]
     omega
 · skip
   have z1d : ¬ (i < xs.length) := of_decide_eq_false z1
   refine wEx ?_
   refine tX (tX (bX (tN (wKK hK6 ?_))))
   refine wSeqK fun KK15 hK15 => ?_
   refine wReg ?_
   refine p_listW rfl ?_
   refine wN ?_
   refine tN (wKK hK15 ?_)
   refine wRet ?_
   exact wR1 rfl rfl (fun ww H => (by (obtain rfl : i = xs.length := by omega); (have ha := hall.out); rw [List.take_length] at ha H; rw [List.append_assoc] at H; exact ⟨congrArg (fun z => Ending.returned (.bool z)) ha.symm, H.out.off, fun _ => puts_mono (hp_puts H (by (repeat (first | exact List.Mem.head _ | apply List.Mem.tail)))) (by omega)⟩))
end Go.Proofs.Ytloemjhhedkhiaa.Nt

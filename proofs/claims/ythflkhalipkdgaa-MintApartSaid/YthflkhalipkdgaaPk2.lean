/- Contracts of the functions of layer 2 that write. -/
import Derived.Test.YthflkhalipkdgaaProg
import Derived.Below
import Derived.WalkKit
import Derived.KernelRfl
import Derived.RowKit3
import Derived.Deep.LoopGhost
import Derived.Deep.QuietTactic
import Derived.BigQuiet
import Derived.WideLaws
import Derived.Deep.DeepCutAuto
import Derived.Deep.CutBlock
import Derived.Lib.Hide
import Derived.Laws.BitsLemmas
import Derived.Laws.Bits64
import Derived.Laws.BitsAllLaws
import Derived.IntWalk
import Derived.Outline
import Derived.WalkSpells
import Derived.Test.YthflkhalipkdgaaMem
import Derived.OwnWalk
import Derived.Deep.AppendLies
import Derived.Lib.AppendStr
import Derived.Laws.BytesArg
import Derived.Test.YthflkhalipkdgaaPk1
namespace Go.Proofs.Ythflkhalipkdgaa.Pk
set_option maxRecDepth 20000
set_option linter.unusedVariables false
set_option linter.unusedSimpArgs false
open Go.RowKit Go.Proofs.Ythflkhalipkdgaa.Mem

/-- whether a number has so many bytes -/
def fitsV (w n : Int) : Bool := wide w && decide (0 ≤ n) && (w == 8 || n / 2 ^ (8 * w.toNat) == 0)
theorem wide_cases {w : Int} (h : wide w = true) : w = 1 ∨ w = 2 ∨ w = 4 ∨ w = 8 := by unfold wide at h; simp at h; omega
theorem fits (wd n : Int) (w : World) : Calls Try.prog 82 #[.int .i64 wd, .int .i64 n] w fun e w' => e = .returned (.bool (fitsV wd n)) ∧ w = w' := by
  by_cases hw : wide wd = true
  · have hc := wide_cases hw
    by_cases hn : 0 ≤ n
    · have hd : decide (0 ≤ n) = true := decide_eq_true hn
      rcases hc with rfl | rfl | rfl | rfl
      all_goals
        go_enter Try.func82, Try.ntmps82
        go_wp2_with (go_at_call 81; refine (isWide _ _).mono ?_; rintro e w' ⟨rfl, rfl⟩)
        go_ret
        exact ⟨ret_bool (by unfold fitsV; rw [hw, hd]; simp), rfl⟩
    · have hd : decide (0 ≤ n) = false := decide_eq_false hn
      rcases hc with rfl | rfl | rfl | rfl
      all_goals
        go_enter Try.func82, Try.ntmps82
        go_wp2_with (go_at_call 81; refine (isWide _ _).mono ?_; rintro e w' ⟨rfl, rfl⟩)
        go_ret
        exact ⟨ret_bool (by unfold fitsV; rw [hd]; simp), rfl⟩
  · have hf : wide wd = false := by simpa using hw
    go_enter Try.func82, Try.ntmps82
    go_wp2_with (go_at_call 81; refine (isWide _ _).mono ?_; rintro e w' ⟨rfl, rfl⟩)
    go_ret
    exact ⟨ret_bool (by unfold fitsV; rw [hf]; simp), rfl⟩

/-- bytes as cells -/
def bytesL (l : List Nat) : List Value := l.map fun c : Nat => Value.int .u8 (c : Int)
theorem bytesL_append (a b : List Nat) : bytesL (a ++ b) = bytesL a ++ bytesL b := by simp [bytesL]
theorem bytesL_length (l : List Nat) : (bytesL l).length = l.length := by simp [bytesL]
theorem strCells_bytesL (s : ByteArray) : Lib.strCells s = bytesL (nums s) := by simp [Lib.strCells, bytesL, nums]
/-- the writer at b: its slice v, which holds the bytes l -/
structure OutAt (w : World) (b : Nat) (v : Value) (l : List Nat) : Prop where
  blk : Blk w b #[v] 92
  owns : w.ownsRow 0 5 1 v l.length (bytesL l)
  apart : v.ownBlock ≠ some b
  small : ∀ c ∈ l, c < 256
/-- a slice goes on in its own block, or in a new one -/
def Goes (w : World) (v v' : Value) : Prop := v'.ownBlock = v.ownBlock ∨ ∃ k, v'.ownBlock = some k ∧ w.heap.size ≤ k
theorem Goes.refl (w : World) (v : Value) : Goes w v v := .inl rfl
theorem Goes.trans {w w1 : World} {v v1 v2 : Value} (h : Goes w v v1) (h' : Goes w1 v1 v2) (hs : w.heap.size ≤ w1.heap.size) : Goes w v v2 := by
  rcases h' with h' | ⟨k, hk, hk2⟩
  · rcases h with h | ⟨k, hk, hk2⟩
    · exact .inl (h'.trans h)
    · exact .inr ⟨k, h'.trans hk, hk2⟩
  · exact .inr ⟨k, hk, Nat.le_trans hs hk2⟩
theorem Goes.above {w : World} {v v' : Value} {B : Nat} (h : Goes w v v') (hv : ∀ k, v.ownBlock = some k → B ≤ k) (hB : B ≤ w.heap.size) : ∀ k, v'.ownBlock = some k → B ≤ k := by
  intro k hk
  rcases h with h | ⟨k', h, hk'⟩
  · exact hv k (by rw [← h]; exact hk)
  · rw [h] at hk
    simp at hk
    omega
theorem OutAt.off {S : List Nat} {w w' : World} {b : Nat} {v : Value} {l : List Nat} (h : OutAt w b v l) (ho : Off S w w') (hb : b ∉ S) (hv : ∀ k, v.ownBlock = some k → k ∉ S) : OutAt w' b v l :=
  ⟨ho.blk h.blk hb, ho.owns h.owns hv, h.apart, h.small⟩
theorem OutAt.lt {w : World} {b : Nat} {v : Value} {l : List Nat} (h : OutAt w b v l) : ∀ k, v.ownBlock = some k → k < w.heap.size := fun k hk => (h.owns.lt k hk).2
theorem OutAt.newOut {w : World} : OutAt (w.alloc (.cells #[.slice none 0 0] 92)) w.heap.size (.slice none 0 0) [] :=
  ⟨blk_new _ _ _, World.ownsRow_nil _ _ _ _, by simp [Value.ownBlock], by simp⟩

theorem outNum_nil (wd : Int) (vl : Value) (w : World) :
    Calls Try.prog 40 #[.pointer none, .int .i64 wd, vl] w fun e w' => e = .returned (.bool false) ∧ w = w' := by
  go_enter Try.func40, Try.ntmps40
  go_wp2
  go_ret
  exact ⟨rfl, rfl⟩
theorem outNum_bad (b : Nat) (wd : Int) (vl : Value) (w : World) (hw : wide wd = false) :
    Calls Try.prog 40 #[.pointer (some ⟨b, 0, none⟩), .int .i64 wd, vl] w fun e w' => e = .returned (.bool false) ∧ w = w' := by
  go_enter Try.func40, Try.ntmps40
  go_wp2_with (go_at_call 81; refine (isWide _ _).mono ?_; rintro e w' ⟨rfl, rfl⟩)
  go_ret
  exact ⟨rfl, rfl⟩
theorem outNum_no (b : Nat) (wd : Int) (x : Addr) (ns : List Int) (c : Nat) (w : World) (hw : wide wd = true) (hl : ns.length ≤ 1099511627776) (hr : ∀ (i : Nat) (h : i < ns.length), w.cell? (x.add i) = some (.int .i64 ns[i])) (hf : ns.all (fitsV wd) = false) :
    Calls Try.prog 40 #[.pointer (some ⟨b, 0, none⟩), .int .i64 wd, .slice (some x) ns.length c] w fun e w' => e = .returned (.bool false) ∧ w = w' := by
  have HF := Lib.hid hf
  clear hf
  have HR := Lib.hid hr
  clear hr
  go_enter Try.func40, Try.ntmps40
  go_wp2_with (go_at_call 81; refine (isWide _ _).mono ?_; rintro e w' ⟨rfl, rfl⟩)
  go_loop [21] (fun i => ∃ k : Nat, k ≤ ns.length ∧ i = .int .i64 k ∧ Hid ((ns.take k).all (fitsV wd) = true)) (fun i => ns.length - (intOf i).toNat)
  case atStart => exact ⟨0, Nat.zero_le _, rfl, Lib.hid (by simp)⟩
  case round =>
    obtain ⟨k, hk, rfl, HK⟩ := hrel
    by_cases hlt : k < ns.length
    · have hc := HR.out k hlt
      have HN := Lib.hid (show (ns.take (k + 1)).all (fitsV wd) = fitsV wd ns[k] by
        rw [List.take_succ_eq_append_getElem hlt, List.all_append, HK.out]; simp)
      generalize ns[k] = n at *
      cases hfn : fitsV wd n
      all_goals
        go_wp2_with (go_at_call 82; refine (fits _ _ _).mono ?_; rintro e w' ⟨rfl, rfl⟩)
      · go_ret
        exact ⟨rfl, rfl⟩
      · go_round
        case rel => exact ⟨k + 1, by omega, by go_num, Lib.hid (by rw [HN.out]; exact hfn)⟩
        case measure => simp [intOf]; omega
    · obtain rfl : k = ns.length := by omega
      have h1 := HK.out
      rw [List.take_length] at h1
      rw [HF.out] at h1
      cases h1

/-- a number's bytes, the highest first -/
def beB : Nat → Nat → List Nat
  | 0, _ => []
  | k + 1, n => beB k (n / 256) ++ [n % 256]
theorem beB_length : ∀ (k n : Nat), (beB k n).length = k
  | 0, _ => rfl
  | k + 1, n => by simp [beB, beB_length k]
theorem beB_lt : ∀ (k n : Nat), ∀ c ∈ beB k n, c < 256
  | 0, _, c, h => by simp [beB] at h
  | k + 1, n, c, h => by
    simp only [beB, List.mem_append, List.mem_singleton] at h
    rcases h with h | rfl
    · exact beB_lt k _ c h
    · omega
theorem beB_step (wd q n : Nat) (h : q < wd) : beB (wd - q) (n / 256 ^ q) = beB (wd - (q + 1)) (n / 256 ^ (q + 1)) ++ [n / 256 ^ q % 256] := by
  rw [show wd - q = (wd - (q + 1)) + 1 by omega]
  simp only [beB]
  rw [Nat.div_div_eq_div_mul, Nat.pow_succ]
def beBs (wd : Nat) (ns : List Int) : List Nat := (ns.map fun n : Int => beB wd n.toNat).flatten
theorem beBs_snoc (wd : Nat) (ns : List Int) (n : Int) : beBs wd (ns ++ [n]) = beBs wd ns ++ beB wd n.toNat := by simp [beBs]
theorem beBs_lt (wd : Nat) (ns : List Int) : ∀ c ∈ beBs wd ns, c < 256 := by
  intro c hc
  simp only [beBs, List.mem_flatten, List.mem_map] at hc
  obtain ⟨l, ⟨n, _, rfl⟩, h⟩ := hc
  exact beB_lt _ _ c h
theorem beBs_length (wd : Nat) : ∀ (ns : List Int), (beBs wd ns).length = wd * ns.length
  | [] => rfl
  | n :: ns => by
    have := beBs_length wd ns
    simp only [beBs] at this
    simp [beBs, beB_length, this, Nat.mul_add, Nat.add_comm]
theorem info_byte : (Try.prog.info? 5).map (fun i => (i.zero, i.size, i.bytes)) = some (some (.int .u8 0), 1, 1) := by kernel_rfl

theorem goes_mem {w : World} {v v' : Value} {b : Nat} (h : Goes w v v') : ∀ i, i < w.heap.size → i ∈ b :: v'.ownBlock.toList → i ∈ b :: v.ownBlock.toList := by
  intro i hi hm
  simp only [List.mem_cons, Option.mem_toList] at hm ⊢
  rcases hm with rfl | hm
  · exact .inl rfl
  · right
    rcases h with h | ⟨k, h, hk⟩
    · rw [← h]; exact hm
    · rw [h] at hm
      simp at hm
      omega
theorem goes_lies {wr : World} {v : Value} {g n cap : Nat} {H : Nat} (h : v.ownBlock = some g ∨ g = H) (hH : wr.heap.size ≤ H) : Goes wr v (.slice (some ⟨g, 0, none⟩) n cap) := by
  rcases h with h | h
  · exact .inl (by rw [h]; rfl)
  · exact .inr ⟨g, rfl, by omega⟩
/-- behind the append, ahead of the store -/
theorem out_grown {wr wa w1 : World} {b : Nat} {v : Value} {l : List Nat} (hok : OutAt wr b v l) (hwa : Off [] wr wa) (hg : wa.grownBy w1 v.ownBlock) : Blk w1 b #[v] 92 ∧ Off v.ownBlock.toList wr w1 := by
  have h1 : Off v.ownBlock.toList wr w1 := (hwa.mono (T := v.ownBlock.toList) (by simp)).grown hg (fun k hk => .inl (by simp [hk]))
  exact ⟨h1.blk hok.blk (by simp; exact fun h => hok.apart h), h1⟩
/-- behind the store -/
theorem out_stored {wr w1 : World} {b : Nat} {v v' : Value} {l m : List Nat} (hok : OutAt wr b v l) (hb : Blk w1 b #[v] 92) (ho : Off v.ownBlock.toList wr w1)
    (hown : w1.ownsRow 0 5 1 v' (l.length + m.length) (bytesL l ++ bytesL m)) (hg : Goes wr v v') (hm : ∀ c ∈ m, c < 256) :
    OutAt (w1.setCell ⟨b, 0, none⟩ v') b v' (l ++ m) ∧ Off (b :: v.ownBlock.toList) wr (w1.setCell ⟨b, 0, none⟩ v') := by
  have hap : v'.ownBlock ≠ some b := by
    rcases hg with h | ⟨k, h, hk⟩
    · rw [h]; exact hok.apart
    · rw [h]
      intro e
      have := hok.blk.lt
      simp at e
      omega
  refine ⟨⟨?_, ?_, hap, ?_⟩, ?_⟩
  · have := hb.set 0 v'
    simpa using this
  · have h1 : Off [b] w1 (w1.setCell ⟨b, 0, none⟩ v') := (Off.refl _ _).setCell _ _ (by simp)
    have h2 := h1.owns hown (fun k hk => by simp; intro e; exact hap (by rw [hk, e]))
    rw [List.length_append, bytesL_append]
    exact h2
  · intro c hc
    rw [List.mem_append] at hc
    exact hc.elim (hok.small c) (hm c)
  · exact (ho.mono (T := b :: v.ownBlock.toList) (fun k _ h => by simp at h ⊢; exact .inr h)).setCell _ _ (by simp)
theorem shift_byte (m q : Nat) : ((m : Int) / 2 ^ (q * 8) % 256) = ((m / 256 ^ q % 256 : Nat) : Int) := by
  rw [show (256 : Nat) = 2 ^ 8 from rfl, ← Nat.pow_mul, Nat.mul_comm 8 q]
  simp
set_option maxHeartbeats 1600000 in
theorem outNum_yes (b : Nat) (wd : Nat) (x : Addr) (ns : List Int) (c : Nat) (v : Value) (l : List Nat) (w : World) (hw : wide wd = true) (hl : ns.length ≤ 65536) (hll : l.length ≤ 1099511627776)
    (hr : ∀ (i : Nat) (h : i < ns.length), w.cell? (x.add i) = some (.int .i64 ns[i])) (hf : ns.all (fitsV wd) = true) (ho : OutAt w b v l) (hxb : x.block ≠ b) (hxv : some x.block ≠ v.ownBlock) :
    Calls Try.prog 40 #[.pointer (some ⟨b, 0, none⟩), .int .i64 wd, .slice (some x) ns.length c] w fun e w' => e = .returned (.bool true) ∧ ∃ v', OutAt w' b v' (l ++ beBs wd ns) ∧ Goes w v v' ∧ Off (b :: v.ownBlock.toList) w w' := by
  obtain ⟨i0, hi, hz0, hz1, hz2⟩ := info_parts info_byte
  have h8 := wide_le hw
  have HF := Lib.hid hf
  clear hf
  have HR := Lib.hid hr
  clear hr
  go_enter Try.func40, Try.ntmps40
  go_wp2_with (go_at_call 81; refine (isWide _ _).mono ?_; rintro e w' ⟨rfl, rfl⟩)
  go_loop [21] (fun i => ∃ k : Nat, k ≤ ns.length ∧ i = .int .i64 k) (fun i => ns.length - (intOf i).toNat)
  case atStart => exact ⟨0, Nat.zero_le _, rfl⟩
  case round =>
    obtain ⟨k, hk, rfl⟩ := hrel
    by_cases hlt : k < ns.length
    · have hc := HR.out k hlt
      have hfn : fitsV wd ns[k] = true := List.all_eq_true.mp HF.out _ (List.getElem_mem hlt)
      generalize ns[k] = n at *
      go_wp2_with (go_at_call 82; refine (fits _ _ _).mono ?_; rintro e w' ⟨rfl, rfl⟩)
      go_round
      case rel => exact ⟨k + 1, by omega, by go_num⟩
      case measure => simp [intOf]; omega
    · obtain rfl : k = ns.length := by omega
      go_wp2
      go_loopw [32] (fun i wr => ∃ (k : Nat) (v' : Value), k ≤ ns.length ∧ i = .int .i64 k ∧ OutAt wr b v' (l ++ beBs wd (ns.take k)) ∧ Goes w v v' ∧ Off (b :: v.ownBlock.toList) w wr) (fun i _ => ns.length - (intOf i).toNat)
      case atStart => exact ⟨0, v, Nat.zero_le _, rfl, by simpa [beBs] using ho, Goes.refl _ _, Off.refl _ _⟩
      case round =>
        obtain ⟨k, v', hk, rfl, hok, hg, hoff⟩ := hrel
        by_cases hlt : k < ns.length
        · have hc0 := HR.out k hlt
          have hfn : fitsV wd ns[k] = true := List.all_eq_true.mp HF.out _ (List.getElem_mem hlt)
          obtain ⟨m, hm⟩ : ∃ m : Nat, ns[k] = (m : Int) := Int.eq_ofNat_of_zero_le (by unfold fitsV at hfn; simp at hfn; exact hfn.1.2)
          have hc : wr.cell? (x.add k) = some (.int .i64 (m : Int)) := by
            rw [← hm, ← hc0]
            exact hoff.cell (by exact lt_of_cell hc0) (by rw [add_block]; simp; exact ⟨hxb, fun h => hxv h.symm⟩)
          have Hm := Lib.hid hm
          have HB0 := Lib.hid (show beBs wd (ns.take (k + 1)) = beBs wd (ns.take k) ++ beB wd m by
            rw [List.take_succ_eq_append_getElem hlt, beBs_snoc, hm]; rfl)
          have hbl : (beBs wd (ns.take k)).length ≤ 524288 := by
            rw [beBs_length, List.length_take]
            have : wd * min k ns.length ≤ 8 * 65536 := Nat.mul_le_mul h8 (by omega)
            omega
          clear hm hfn hc0
          generalize beBs wd (ns.take k) = pre at *
          go_wp2
          go_loopw [11] (fun vk wq => ∃ (r : Nat) (v2 : Value), r ≤ wd ∧ vk = .int .i64 ((r : Int) - 1) ∧ OutAt wq b v2 (l ++ pre ++ beB (wd - r) (m / 256 ^ r)) ∧ Goes w v v2 ∧ Off (b :: v.ownBlock.toList) w wq) (fun vk _ => (intOf vk + 1).toNat)
          case atStart => exact ⟨wd, v', Nat.le_refl _, rfl, by simpa [beB] using hok, hg, hoff⟩
          case round =>
            obtain ⟨r, v2, hrw, rfl, hok2, hg2, hoff2⟩ := hrel
            rcases r with _ | q
            · rw [show (((0 : Nat) : Int) - 1) = -1 from rfl]
              go_wp2
              go_roundw
              case rel =>
                refine ⟨k + 1, v2, by omega, by go_num, ?_, hg2, hoff2⟩
                rw [HB0.out, ← List.append_assoc]
                simpa using hok2
              case measure => simp [intOf]; omega
            · rw [show (((q + 1 : Nat) : Int) - 1) = (q : Int) by omega]
              have hcell := hok2.blk.cell 0 _ rfl
              have hq8 : q < 8 := by omega
              have HS := Lib.hid (beB_step wd q m (by omega))
              have hlen : (l ++ pre ++ beB (wd - (q + 1)) (m / 256 ^ (q + 1))).length ≤ 1099512152080 := by simp [beB_length]; omega
              generalize hL : l ++ pre ++ beB (wd - (q + 1)) (m / 256 ^ (q + 1)) = L at *
              have HL := Lib.hid hL
              clear hL
              go_wp2_with (first
                | (at_builtin; go_loud (refine wpList_append_lies _ rfl (.tmp 46) (.tmp 53) 71 rfl 0 5 i0 (.int .u8 0) 1 1 Try.underlying71 hi hz0 hz1 hz2 rfl (by decide) _ _ _ rfl (hok2.owns.alloc _) ⟨wr.heap.size, 0, none⟩ 1 1 [_] rfl rfl (new1 _ _ _) (by intro u hu; simp at hu; subst hu; rfl) (by decide) (by unfold maxLen; omega) (by omega) (by omega) _ rfl ?_; intro g cap w1 hown1 hgrow hat hglt; obtain ⟨hb1, ho1⟩ := out_grown hok2 ((Off.refl _ _).alloc _) hgrow; have hg1 : Goes wr v2 (.slice (some ⟨g, 0, none⟩) (L.length + 1) cap) := goes_lies hat (by simp); clear hgrow hat; have hc1 := hb1.cell 0 _ rfl; have hf1 := hb1.free 0)))
              go_roundw
              case rel =>
                rw [shift_byte] at hown1
                obtain ⟨hok3, hoff3⟩ := out_stored hok2 hb1 ho1 (m := [m / 256 ^ q % 256]) hown1 hg1 (by simp; omega)
                refine ⟨q, _, by omega, rfl, ?_, hg2.trans hg1 hoff2.size, ?_⟩
                · rw [HS.out, ← List.append_assoc, HL.out]
                  exact hok3
                · exact hoff2.trans hoff3 (goes_mem hg2)
              case measure => simp [intOf] <;> omega
        · obtain rfl : k = ns.length := by omega
          go_wp2
          go_ret
          refine ⟨rfl, v', ?_, hg, hoff⟩
          rw [List.take_length] at hok
          exact hok
/-- .. of one number, in a slice that was just made -/
theorem outNum_one (b : Nat) (wd : Nat) (n : Int) (g : Nat) (v : Value) (l : List Nat) (w : World) (hw : wide wd = true) (hll : l.length ≤ 1099511627776)
    (hf : fitsV wd n = true) (ho : OutAt w b v l) (hg : Blk w g #[.int .i64 n] 3) (hgb : g ≠ b) (hgv : some g ≠ v.ownBlock) :
    Calls Try.prog 40 #[.pointer (some ⟨b, 0, none⟩), .int .i64 wd, .slice (some ⟨g, 0, none⟩) 1 1] w fun e w' => e = .returned (.bool true) ∧ ∃ v', OutAt w' b v' (l ++ beB wd n.toNat) ∧ Goes w v v' ∧ Off (b :: v.ownBlock.toList) w w' := by
  have h := outNum_yes b wd ⟨g, 0, none⟩ [n] 1 v l w hw (by simp) hll (fun i hi => by
    obtain rfl : i = 0 := by simpa using hi
    exact hg.cell 0 _ rfl) (by simpa using hf) ho hgb hgv
  simpa [beBs] using h
end Go.Proofs.Ythflkhalipkdgaa.Pk

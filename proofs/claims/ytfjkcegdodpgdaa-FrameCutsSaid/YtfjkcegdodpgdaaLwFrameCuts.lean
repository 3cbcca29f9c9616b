/- Bytes are cut as the document cuts them: the walk of the statement. -/
import Derived.Test.YtfjkcegdodpgdaaProg
import Derived.Below
import Derived.WalkKit
import Derived.KernelRfl
import Derived.RowKit3
import Derived.Deep.LoopGhost
import Derived.Deep.QuietTactic
import Derived.BigQuiet
import Derived.WideLaws
import Derived.Deep.DeepCutAuto
import Derived.Deep.CutBlock
import Derived.Lib.Hide
import Derived.Laws.BitsLemmas
import Derived.Laws.Bits64
import Derived.Laws.BitsAllLaws
import Derived.IntWalk
import Derived.Outline
import Derived.WalkSpells
import Derived.Test.YtfjkcegdodpgdaaMem
import Derived.Test.YtfjkcegdodpgdaaFrAll
import Derived.Test.YtfjkcegdodpgdaaJoM
namespace Go.Proofs.Ytfjkcegdodpgdaa.Fr
open Go.RowKit Go.Proofs.Ytfjkcegdodpgdaa.Mem Go.Proofs.Ytfjkcegdodpgdaa.Pk

/-- what the document's frames of a row are -/
def wantV (bs : List ByteArray) : ByteArray := bs.foldl (fun w b => w ++ (ofV b).1) ⟨#[]⟩
theorem wantV_snoc (bs : List ByteArray) (b : ByteArray) : wantV (bs ++ [b]) = wantV bs ++ (ofV b).1 := by simp [wantV]
theorem wantV_ok : ∀ (n : Nat) (bs : List ByteArray), bs.length = n → bs.all okB = true → wantV bs = str (catL bs)
  | 0, bs, hn, _ => by
    obtain rfl : bs = [] := List.eq_nil_of_length_eq_zero hn
    rfl
  | n + 1, bs, hn, h => by
    obtain ⟨l, b, rfl⟩ : ∃ l b, bs = l ++ [b] := by
      rcases List.eq_nil_or_concat bs with h0 | ⟨l, b, h0⟩
      · rw [h0] at hn; cases hn
      · exact ⟨l, b, by rw [h0, List.concat_eq_append]⟩
    rw [List.all_append, Bool.and_eq_true] at h
    have hb : 1 ≤ b.size ∧ b.size ≤ 2048 := (okB_iff b).1 (by simpa using h.2)
    rw [wantV_snoc, catL_snoc, str_append, wantV_ok n l (by simpa using hn) h.1, ofV_yes b hb]
theorem ofV_okB (b : ByteArray) : ((ofV b).2 == 0) = okB b := by
  unfold ofV okB
  split
  · rename_i h
    rw [decide_eq_true h.1, decide_eq_true h.2]
    rfl
  · rename_i h
    symm
    show _ = false
    rw [← Bool.not_eq_true, Bool.and_eq_true, decide_eq_true_eq, decide_eq_true_eq]
    exact h
theorem ofV_len (b : ByteArray) (h : b.size ≤ 300) : (ofV b).1.size ≤ 306 := by
  unfold ofV
  split
  · show (str (frm (nums b))).size ≤ 306
    rw [ofV_size]
    omega
  · exact Nat.zero_le _
theorem cut_next (s x : ByteArray) (xs : List ByteArray) (r : ByteArray) (t : Nat) (h : cutV s = (x :: xs, r, t)) : (nextV s).2.2 = 1 ∧ (nextV s).1 = x ∧ cutV (s.extract (nextV s).2.1 s.size) = (xs, r, t) := by
  by_cases hn : (nextV s).2.2 = 1
  · rw [cutV_yes s hn] at h
    injection h with h1 h2
    injection h1 with h1 h3
    exact ⟨hn, h1, Prod.ext h3 h2⟩
  · rw [cutV_no s hn] at h
    injection h with h1 _
    cases h1
theorem cut_done (s r : ByteArray) (t : Nat) (h : cutV s = ([], r, t)) : (nextV s).2.2 ≠ 1 ∧ s = r ∧ (nextV s).2.2 = t := by
  by_cases hn : (nextV s).2.2 = 1
  · rw [cutV_yes s hn] at h
    injection h with h1 _
    cases h1
  · rw [cutV_no s hn] at h
    injection h with _ h2
    injection h2 with h2 h3
    exact ⟨hn, h2, h3⟩
set_option maxHeartbeats 3200000 in
theorem fcuts_main (a : Option Addr) (len cap : Nat) (bs : List ByteArray) (s : ByteArray) (w : World) (h : StrsIn w a len cap bs) (hl : len ≤ 20) (hs : s.size ≤ 4096) :
    Calls Try.prog 9 #[.slice a len cap, .string s] w fun e w' => e = .returned (.bool true) ∧ Below w.heap.size w w' := by
  have hst := Lib.hid h
  obtain ⟨rfl, _⟩ := id h
  have d1 : decide ((20 : Int) < (bs.length : Int)) = false := decide_eq_false (by omega)
  have d2 : decide ((4096 : Int) < (s.size : Int)) = false := decide_eq_false (by omega)
  have HC := Lib.hid h.cells
  clear h
  go_enter Try.func9, Try.ntmps9
  go_wp2_with (go_at_call 11; refine (awake _).mono ?_; rintro e w1 ⟨rfl, ho1⟩)
  have HO1 := Lib.hid ho1
  clear ho1
  go_loopw [5, 6, 7] (fun vw va vi wr => ∃ (k : Nat) (t : ByteArray) (ok : Bool), k ≤ bs.length ∧ vi = .int .i64 k ∧ vw = .string t ∧ va = .bool ok ∧ Hid (t = wantV (bs.take k) ∧ ok = (bs.take k).all okB) ∧ t.size ≤ 306 * k ∧ Off [] w wr) (fun _ _ vi _ => bs.length - (intOf vi).toNat)
  case atStart => exact ⟨0, ⟨#[]⟩, true, Nat.zero_le _, rfl, rfl, rfl, Lib.hid ⟨rfl, rfl⟩, Nat.zero_le _, HO1.out⟩
  case round =>
    obtain ⟨k, t, ok, hk, rfl, rfl, rfl, hw, htz, hof⟩ := hrel
    by_cases hlt : k < bs.length
    · obtain ⟨x, rfl, hx0⟩ := HC.out k hlt
      have hx : wr.cell? (x.add k) = some (.string bs[k]) := (hof.cell (lt_of_cell hx0) (by simp)).trans hx0
      clear hx0
      have htk := Lib.hid (show bs.take (k + 1) = bs.take k ++ [bs[k]] from List.take_succ_eq_append_getElem hlt)
      generalize bs[k] = b at *
      by_cases hb : b.size ≤ 300
      · have db : decide ((300 : Int) < (b.size : Int)) = false := decide_eq_false (by omega)
        have kf := Lib.hid (fun w' => refOf b w')
        have hbz := ofV_len b hb
        have hok := Lib.hid (ofV_okB b)
        rw [ofV_okB b] at kf
        have hn1 := Lib.hid (show wantV (bs.take (k + 1)) = wantV (bs.take k) ++ (ofV b).1 by rw [htk.out, wantV_snoc])
        have hn2 := Lib.hid (show (bs.take (k + 1)).all okB = ((bs.take k).all okB && okB b) by rw [htk.out, List.all_append]; simp)
        generalize (ofV b).1 = f at *
        generalize okB b = o at *
        have hz0 : t.size + f.size ≤ 9223372036854775807 := by omega
        cases ok
        all_goals
          go_wp2_with (go_at_call 13; refine (kf.out _).mono ?_; rintro e w3 ⟨rfl, ho3⟩; have hx3 : w3.cell? (x.add k) = some (.string b) := (ho3.cell (lt_of_cell hx) (by simp)).trans hx)
          go_roundw
          case rel => exact ⟨k + 1, _, _, by omega, by go_num, rfl, rfl, Lib.hid ⟨by rw [hn1.out, hw.out.1], by rw [hn2.out, ← hw.out.2]; simp⟩, by rw [ByteArray.size_append]; omega, hof.trans ho3 (by simp)⟩
          case measure => simp [intOf] <;> omega
      · have db : decide ((300 : Int) < (b.size : Int)) = true := decide_eq_true (by omega)
        go_wp2
        go_ret
        exact ⟨rfl, hof.to_below⟩
    · obtain rfl : k = bs.length := by omega
      have hw' := hw.out
      rw [List.take_length] at hw'
      have kc := Lib.hid (fun w' => cut s (by omega) w')
      obtain ⟨⟨l, r, u⟩, hq⟩ : ∃ q, cutV s = q := ⟨_, rfl⟩
      have hll : (cutV s).1.length ≤ s.size := Jo.cutN_len _ _
      rw [hq] at kc hll
      dsimp only at kc hll
      have hll2 : l.length ≤ 4096 := by omega
      have hav : (ok = true ∧ allV bs = (t, 0)) ∨ (ok = false ∧ allV bs = (⟨#[]⟩, 1)) := by
        cases hok : ok
        · exact .inr ⟨rfl, by unfold allV; rw [if_neg (by rw [← hw'.2, hok]; decide)]⟩
        · exact .inl ⟨rfl, by unfold allV; rw [if_pos (by rw [← hw'.2, hok]), hw'.1, wantV_ok _ bs rfl (by rw [← hw'.2, hok])]⟩
      have hqt := beq_yes (show t = t from rfl)
      have HQ := Lib.hid hq
      clear hw hw' hq
      rcases hav with ⟨rfl, hav⟩ | ⟨rfl, hav⟩
      all_goals
        have ka := Lib.hid (fun w' h => all a bs.length cap bs w' h (by omega))
        rw [hav] at ka
        dsimp only at ka
        clear hav
        go_wp2_with (first
          | (go_at_call 27; refine (ka.out wr ⟨rfl, hst.out.2.1.off hof (by simp), hst.out.2.2⟩).mono ?_; rintro e w2 ⟨rfl, ho2⟩)
          | (go_at_call 28; refine (kc.out _).mono ?_; rintro e w4 ⟨v, rfl, ho4, hown⟩; obtain ⟨va, vc, rfl, hg⟩ := Jo.cell_own hown))
        have hof4 := (hof.trans ho2 (by simp)).trans ho4 (by simp)
        have HG := Lib.hid hg
        clear hg hown ho2 ho4
        go_loopw [15, 16] (fun vs vi wq => ∃ (j : Nat) (y : ByteArray), j ≤ l.length ∧ vi = .int .i64 j ∧ vs = .string y ∧ y.size ≤ 4096 ∧ Hid (cutV y = (l.drop j, r, u)) ∧ Off [] w4 wq) (fun _ vi _ => l.length - (intOf vi).toNat)
        case atStart => exact ⟨0, s, Nat.zero_le _, rfl, rfl, hs, Lib.hid HQ.out, Off.refl _ _⟩
        case round =>
          obtain ⟨j, y, hj, rfl, rfl, hyz, hcy, hof5⟩ := hrel
          have kn := Lib.hid (fun w' => refNext y (by omega) w')
          by_cases hlt5 : j < l.length
          · obtain ⟨z, rfl, _, hz0⟩ := HG.out j hlt5
            have hz1 : wr.cell? (z.add j) = some (.string l[j]) := (hof5.cell (lt_of_cell hz0) (by simp)).trans hz0
            have hcn := hcy.out
            rw [List.drop_eq_getElem_cons hlt5] at hcn
            have hcx := cut_next y _ _ _ _ hcn
            obtain ⟨c1, c2, c3⟩ := hcx
            have hwh := next_whole y c1
            have hez : (y.extract (nextV y).2.1 y.size).size ≤ 4096 := by rw [ByteArray.size_extract]; omega
            rw [c1, c2] at kn
            have b1 : (j : Int) < (l.length : Int) := by omega
            clear hz0 hcn hcy
            generalize l[j] = lj at *
            generalize (nextV y).2.1 = n at *
            have b2 : (n : Int) ≤ (y.size : Int) := by omega
            have hqj := beq_yes (show lj = lj from rfl)
            have C3 := Lib.hid c3
            have HEZ := Lib.hid hez
            clear c3 c1 c2
            go_wp2_with (go_at_call 15; refine (kn.out _).mono ?_; rintro e w6 ⟨rfl, ho6⟩; have hz6 : w6.cell? (z.add j) = some (.string lj) := (ho6.cell (lt_of_cell hz1) (by simp)).trans hz1)
            go_roundw
            case rel => exact ⟨j + 1, y.extract n y.size, by omega, by go_num, rfl, HEZ.out, Lib.hid C3.out, hof5.trans ho6 (by simp)⟩
            case measure => simp [intOf] <;> omega
          · obtain rfl : j = l.length := by omega
            have hcd := hcy.out
            rw [List.drop_length] at hcd
            obtain ⟨c1, c2, c3⟩ := cut_done y r u hcd
            rw [c3] at kn
            have hu : (((u : Nat) : Int) != 1) = true := by rw [bne_iff_ne]; rw [c3] at c1; omega
            have hqr := beq_yes c2
            clear hcd c1 c2 c3 hcy
            generalize nextV y = qq at *
            go_wp2_with (go_at_call 15; refine (kn.out _).mono ?_; rintro e w6 ⟨rfl, ho6⟩)
            go_ret
            exact ⟨rfl, ((hof4.trans hof5 (by simp)).trans ho6 (by simp)).to_below⟩
theorem frameCuts (a : Option Addr) (len cap : Nat) (bs : List ByteArray) (s : ByteArray) (w : World) (h : StrsIn w a len cap bs) (_ : s.size ≤ 140737488351232) :
    Calls Try.prog 9 #[.slice a len cap, .string s] w fun e w' => e = .returned (.bool true) ∧ Below w.heap.size w w' := by
  by_cases hl : len ≤ 20
  · by_cases hs : s.size ≤ 4096
    · exact fcuts_main a len cap bs s w h hl hs
    · have d1 : decide ((20 : Int) < (len : Int)) = false := decide_eq_false (by omega)
      have d2 : decide ((4096 : Int) < (s.size : Int)) = true := decide_eq_true (by omega)
      clear h
      go_enter Try.func9, Try.ntmps9
      go_wp2_with (go_at_call 11; refine (awake _).mono ?_; rintro e w1 ⟨rfl, ho1⟩)
      go_ret
      exact ⟨rfl, ho1.to_below⟩
  · have d1 : decide ((20 : Int) < (len : Int)) = true := decide_eq_true (by omega)
    clear h
    go_enter Try.func9, Try.ntmps9
    go_wp2_with (go_at_call 11; refine (awake _).mono ?_; rintro e w1 ⟨rfl, ho1⟩)
    go_ret
    exact ⟨rfl, ho1.to_below⟩
end Go.Proofs.Ytfjkcegdodpgdaa.Fr

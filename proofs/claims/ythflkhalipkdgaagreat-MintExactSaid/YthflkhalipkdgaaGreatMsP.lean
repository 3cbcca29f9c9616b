/- Layer 35: what is drawn can be (plain laws, by hand). -/
import Derived.Test.YthflkhalipkdgaaGreatMnS
import Derived.Test.YthflkhalipkdgaaGreatGM
import Derived.Test.YthflkhalipkdgaaGreatCall2
namespace Go.Proofs.YthflkhalipkdgaaGreat.Mn
set_option maxRecDepth 20000
open Go.RowKit Go.Proofs.YthflkhalipkdgaaGreat.Mem Go.Proofs.YthflkhalipkdgaaGreat.Si Go.Proofs.YthflkhalipkdgaaGreat.Ca Go.Proofs.YthflkhalipkdgaaGreat.Ms Go.Proofs.YthflkhalipkdgaaGreat.Pk
set_option linter.unusedVariables false
set_option linter.unusedSimpArgs false
theorem fits1 {n : Int} (h : 0 ≤ n ∧ n ≤ 255) : fitsV 1 n = true := by
  have : n / 256 = 0 := by omega
  simp [fitsV, wide, this, h.1]
theorem fits4 {n : Int} (h : 0 ≤ n ∧ n ≤ 4294967295) : fitsV 4 n = true := by
  have : n / 4294967296 = 0 := by omega
  simp [fitsV, wide, this, h.1]
theorem encs1 {n : Int} (h : 0 ≤ n ∧ n ≤ 255) : (encs ((1 : Nat) : Int) [n]).2 = true := by
  unfold encs
  rw [if_pos (by simp only [List.all_cons, List.all_nil]; rw [show ((1 : Nat) : Int) = 1 from rfl, fits1 h]; rfl)]
theorem encs4 {n : Int} (h : 0 ≤ n ∧ n ≤ 4294967295) : (encs ((4 : Nat) : Int) [n]).2 = true := by
  unfold encs
  rw [if_pos (by simp only [List.all_cons, List.all_nil]; rw [show ((4 : Nat) : Int) = 4 from rfl, fits4 h]; rfl)]
theorem encs44 {n m : Int} (h : 0 ≤ n ∧ n ≤ 4294967295) (h2 : 0 ≤ m ∧ m ≤ 4294967295) : (encs 4 [n, m]).2 = true := by
  unfold encs
  rw [if_pos (by simp only [List.all_cons, List.all_nil]; rw [fits4 h, fits4 h2]; rfl)]
theorem enc_good {q : ReqV} {ps : List Part} (hq : okReq q) (hp : partsV q.kind = some ps) (hc : isCountV q.seq = true) (hf : isFilterV q.filter = true) (ha : (ps.all fun p => (encPart q p).2) = true) (hv : fillV q ps = q) : (encodeV q).2 = 0 := by
  rw [encode_whole ⟨hq, hp, hc, hf, ha⟩ hv]
theorem kind_is (s : Nat) : kindOf s = 4 ∨ kindOf s = 5 ∨ kindOf s = 6 ∨ kindOf s = 7 ∨ kindOf s = 8 ∨ kindOf s = 9 ∨ kindOf s = 10 := by
  have h := belN_lt s (n := 10) (by decide)
  unfold kindOf
  generalize belN s 10 = k at *
  rcases (by omega : k = 0 ∨ k = 1 ∨ k = 2 ∨ k = 3 ∨ k = 4 ∨ k = 5 ∨ k = 6 ∨ k = 7 ∨ k = 8 ∨ k = 9) with rfl | rfl | rfl | rfl | rfl | rfl | rfl | rfl | rfl | rfl <;> decide
theorem key_ok {now : Int} {n : Nat} (h : 0 ≤ now ∧ now ≤ 1073741824) (hn : n < 8) : (0 ≤ keyV now n ∧ keyV now n ≤ 18446744073709551615) ∧ keyV now n / 4294967296 = now ∧ keyV now n % 4294967296 = n := by
  unfold keyV
  omega
theorem ask1 {c : Cfg} (f : Int) : Ca.askV c ⟨0, 1, f, 0, 0, 0, 0, 0⟩ = (floorV c f && decide (f < c.floors)) := by simp [Ca.askV]
theorem ask2 {c : Cfg} (f : Int) : Ca.askV c ⟨0, 2, f, 0, 0, 0, 0, 0⟩ = (floorV c f && decide (1 < f)) := by simp [Ca.askV]
theorem ask3 {c : Cfg} (t r : Int) : Ca.askV c ⟨0, 3, 0, t, r, 0, 0, 0⟩ = (carV c r && floorV c t) := by simp [Ca.askV]
theorem ask4 {c : Cfg} (f t : Int) : Ca.askV c ⟨0, 4, f, t, 0, 0, 0, 0⟩ = (floorV c f && floorV c t && f != t) := by simp [Ca.askV]
theorem drawCall_is {c : Cfg} (s : Nat) (hck : (checkV c != 0) = false) : ∃ k f t r, (drawCall s c).1 = ⟨0, k, f, t, r, 0, 0, 0⟩ ∧ (1 ≤ k ∧ k ≤ 4) ∧ (0 ≤ f ∧ f ≤ 32) ∧ (0 ≤ t ∧ t ≤ 32) ∧ (0 ≤ r ∧ r ≤ 4) ∧ Ca.askV c ⟨0, k, f, t, r, 0, 0, 0⟩ = ((k != 4) || (f != t)) := by
  have hr := cfg_rng hck
  have hc0 : (checkV c == 0) = true := by simpa [bne] using hck
  have hb := belN_lt s (n := 4) (by decide)
  have hf : ∀ n : Int, 1 ≤ n → n ≤ c.floors → floorV c n = true := fun n h1 h2 => by simp [floorV, hc0, h1, h2]
  have ha : ∀ n : Int, 1 ≤ n → n ≤ c.cars → carV c n = true := fun n h1 h2 => by simp [carV, hc0, h1, h2]
  unfold drawCall
  generalize belN s 4 = b at *
  rcases (by omega : b = 0 ∨ b = 1 ∨ b = 2 ∨ b = 3) with rfl | rfl | rfl | rfl
  · have h1 := belV_lt (nextN s) (n := c.floors - 1) (by omega)
    refine ⟨1, 1 + belV (nextN s) (c.floors - 1), 0, 0, rfl, by omega, by omega, by omega, by omega, ?_⟩
    rw [ask1, hf (1 + belV (nextN s) (c.floors - 1)) (by omega) (by omega), decide_eq_true (show 1 + belV (nextN s) (c.floors - 1) < c.floors by omega)]
    rfl
  · have h1 := belV_lt (nextN s) (n := c.floors - 1) (by omega)
    refine ⟨2, 2 + belV (nextN s) (c.floors - 1), 0, 0, rfl, by omega, by omega, by omega, by omega, ?_⟩
    rw [ask2, hf (2 + belV (nextN s) (c.floors - 1)) (by omega) (by omega), decide_eq_true (show 1 < 2 + belV (nextN s) (c.floors - 1) by omega)]
    rfl
  · have h1 := belV_lt (nextN s) (n := c.cars) (by omega)
    have h2 := belV_lt (nextN (nextN s)) (n := c.floors) (by omega)
    refine ⟨3, 0, 1 + belV (nextN (nextN s)) c.floors, 1 + belV (nextN s) c.cars, rfl, by omega, by omega, by omega, by omega, ?_⟩
    rw [ask3, hf (1 + belV (nextN (nextN s)) c.floors) (by omega) (by omega), ha (1 + belV (nextN s) c.cars) (by omega) (by omega)]
    rfl
  · have h1 := belV_lt (nextN s) (n := c.floors) (by omega)
    have h2 := belV_lt (nextN (nextN s)) (n := c.floors) (by omega)
    refine ⟨4, 1 + belV (nextN s) c.floors, 1 + belV (nextN (nextN s)) c.floors, 0, rfl, by omega, by omega, by omega, by omega, ?_⟩
    rw [ask4, hf (1 + belV (nextN s) c.floors) (by omega) (by omega), hf (1 + belV (nextN (nextN s)) c.floors) (by omega) (by omega)]
    rfl
theorem drawFilter_is (s : Nat) : isFilterV (drawFilter s).1 = true ∧ (0 ≤ (drawFilter s).1.kind ∧ (drawFilter s).1.kind ≤ 255) ∧ 0 ≤ (drawFilter s).1.n ∧ (drawFilter s).1.n ≤ 255 := by
  have hb := belN_lt s (n := 4) (by decide)
  have hb2 := belN_lt (nextN s) (n := 8) (by decide)
  unfold drawFilter
  generalize belN s 4 = b at *
  generalize belN (nextN s) 8 = k at *
  cases h : (((b : Nat) : Int) != 0) with
  | false =>
    have h0 : b = 0 := by simp at h; exact h
    subst h0
    refine ⟨rfl, ?_, ?_⟩ <;> (simp only [cond_false]; omega)
  | true =>
    have h0 : b ≠ 0 := by simp at h; exact h
    simp only [cond_true]
    refine ⟨?_, by omega, by omega⟩
    unfold isFilterV
    rw [if_neg (by simp; omega)]
    simp [isCountV]
    omega
theorem seq_ok (s : Nat) : isCountV (seqOf s) = true := by
  have := belN_lt (nextN s) (n := 1000) (by decide)
  unfold isCountV seqOf
  rw [decide_eq_true (by omega), decide_eq_true (by omega)]
  rfl
theorem enc_count {q : ReqV} {wd off : Nat} {n : Int} (e : fieldOf q off = n) (h : isCountV n = true) (h2 : (encs wd [n]).2 = true) : (encPart q (.num wd off .count)).2 = true := by
  unfold encPart
  simp only [Chk.is, e, h, if_true]
  exact h2
theorem count_ok {n : Int} (h : 0 ≤ n ∧ n ≤ 1073741824) : isCountV n = true := by
  unfold isCountV
  rw [decide_eq_true h.1, decide_eq_true h.2]
  rfl
set_option maxHeartbeats 3200000 in
theorem drawOk_enc {c : Cfg} {s : Nat} {now : Int} (hck : (checkV c != 0) = false) (hn : 0 ≤ now ∧ now ≤ 1073741824) : okReq (drawOk s c now).1 ∧ (encodeV (drawOk s c now).1).2 = 0 := by
  have hr := cfg_rng hck
  have hs := seq_ok s
  have hz : isFilterV ⟨0, 0⟩ = true := rfl
  have z4 : (0 : Int) ≤ 0 ∧ (0 : Int) ≤ 4294967295 := by decide
  have z8 : (0 : Int) ≤ 0 ∧ (0 : Int) ≤ 18446744073709551615 := by decide
  unfold drawOk
  rcases kind_is s with h | h | h | h | h | h | h
  all_goals rw [h]
  · obtain ⟨k, f, t, r, e, hk, hf, ht, hcr, _⟩ := drawCall_is (nextN (nextN (nextN s))) hck
    have hy := key_ok hn (belN_lt (nextN (nextN s)) (n := 8) (by decide))
    show okReq (⟨4, seqOf s, 0, 0, 0, keyV now (belN (nextN (nextN s)) 8), (drawCall (nextN (nextN (nextN s))) c).1, 0, 0, 0, ⟨0, 0⟩⟩ : ReqV) ∧ (encodeV (⟨4, seqOf s, 0, 0, 0, keyV now (belN (nextN (nextN s)) 8), (drawCall (nextN (nextN (nextN s))) c).1, 0, 0, 0, ⟨0, 0⟩⟩ : ReqV)).2 = 0
    rw [e]
    have hq : okReq (⟨4, seqOf s, 0, 0, 0, keyV now (belN (nextN (nextN s)) 8), ⟨0, k, f, t, r, 0, 0, 0⟩, 0, 0, 0, ⟨0, 0⟩⟩ : ReqV) := ⟨z4, hy.1⟩
    refine (show okReq (⟨4, seqOf s, 0, 0, 0, keyV now (belN (nextN (nextN s)) 8), ⟨0, k, f, t, r, 0, 0, 0⟩, 0, 0, 0, ⟨0, 0⟩⟩ : ReqV) ∧ (encodeV (⟨4, seqOf s, 0, 0, 0, keyV now (belN (nextN (nextN s)) 8), ⟨0, k, f, t, r, 0, 0, 0⟩, 0, 0, 0, ⟨0, 0⟩⟩ : ReqV)).2 = 0 from ⟨hq, enc_good (ps := [.key, .num 1 7 .whole, .num 1 8 .whole, .num 1 9 .whole, .num 1 10 .whole]) hq rfl hs hz ?_ rfl⟩)
    simp only [List.all_cons, List.all_nil, Bool.and_eq_true]
    exact ⟨encs44 (n := keyV now (belN (nextN (nextN s)) 8) / 4294967296) (m := keyV now (belN (nextN (nextN s)) 8) % 4294967296) (by rw [hy.2.1]; omega) (by rw [hy.2.2]; omega), encs1 (n := k) (by omega), encs1 (n := f) (by omega), encs1 (n := t) (by omega), encs1 (n := r) (by omega), trivial⟩
  · have hb := belN_lt (nextN (nextN (nextN s))) (n := 20) (by decide)
    have hy := key_ok hn (belN_lt (nextN (nextN s)) (n := 8) (by decide))
    have hq : okReq (⟨5, seqOf s, 0, 0, 0, keyV now (belN (nextN (nextN s)) 8), ⟨0, 0, 0, 0, 0, 0, 0, 0⟩, 1 + (belN (nextN (nextN (nextN s))) 20 : Int), 0, 0, ⟨0, 0⟩⟩ : ReqV) := ⟨z4, hy.1⟩
    refine (show okReq (⟨5, seqOf s, 0, 0, 0, keyV now (belN (nextN (nextN s)) 8), ⟨0, 0, 0, 0, 0, 0, 0, 0⟩, 1 + (belN (nextN (nextN (nextN s))) 20 : Int), 0, 0, ⟨0, 0⟩⟩ : ReqV) ∧ (encodeV (⟨5, seqOf s, 0, 0, 0, keyV now (belN (nextN (nextN s)) 8), ⟨0, 0, 0, 0, 0, 0, 0, 0⟩, 1 + (belN (nextN (nextN (nextN s))) 20 : Int), 0, 0, ⟨0, 0⟩⟩ : ReqV)).2 = 0 from ⟨hq, enc_good (ps := [.key, .num 4 14 .count]) hq rfl hs hz ?_ rfl⟩)
    simp only [List.all_cons, List.all_nil, Bool.and_eq_true]
    exact ⟨encs44 (n := keyV now (belN (nextN (nextN s)) 8) / 4294967296) (m := keyV now (belN (nextN (nextN s)) 8) % 4294967296) (by rw [hy.2.1]; omega) (by rw [hy.2.2]; omega), enc_count rfl (count_ok (n := 1 + (belN (nextN (nextN (nextN s))) 20 : Int)) (by omega)) (encs4 (n := 1 + (belN (nextN (nextN (nextN s))) 20 : Int)) (by omega)), trivial⟩
  · have hb := belN_lt (nextN (nextN s)) (n := 20) (by decide)
    have hq : okReq (⟨6, seqOf s, 0, 0, 0, 0, ⟨0, 0, 0, 0, 0, 0, 0, 0⟩, 1 + (belN (nextN (nextN s)) 20 : Int), 0, 0, ⟨0, 0⟩⟩ : ReqV) := ⟨z4, z8⟩
    refine (show okReq (⟨6, seqOf s, 0, 0, 0, 0, ⟨0, 0, 0, 0, 0, 0, 0, 0⟩, 1 + (belN (nextN (nextN s)) 20 : Int), 0, 0, ⟨0, 0⟩⟩ : ReqV) ∧ (encodeV (⟨6, seqOf s, 0, 0, 0, 0, ⟨0, 0, 0, 0, 0, 0, 0, 0⟩, 1 + (belN (nextN (nextN s)) 20 : Int), 0, 0, ⟨0, 0⟩⟩ : ReqV)).2 = 0 from ⟨hq, enc_good (ps := [.num 4 14 .count]) hq rfl hs hz ?_ rfl⟩)
    simp only [List.all_cons, List.all_nil, Bool.and_eq_true]
    exact ⟨enc_count rfl (count_ok (n := 1 + (belN (nextN (nextN s)) 20 : Int)) (by omega)) (encs4 (n := 1 + (belN (nextN (nextN s)) 20 : Int)) (by omega)), trivial⟩
  · have hq : okReq (⟨7, seqOf s, 0, 0, 0, 0, ⟨0, 0, 0, 0, 0, 0, 0, 0⟩, 0, 0, 0, ⟨0, 0⟩⟩ : ReqV) := ⟨z4, z8⟩
    refine (show okReq (⟨7, seqOf s, 0, 0, 0, 0, ⟨0, 0, 0, 0, 0, 0, 0, 0⟩, 0, 0, 0, ⟨0, 0⟩⟩ : ReqV) ∧ (encodeV (⟨7, seqOf s, 0, 0, 0, 0, ⟨0, 0, 0, 0, 0, 0, 0, 0⟩, 0, 0, 0, ⟨0, 0⟩⟩ : ReqV)).2 = 0 from ⟨hq, enc_good (ps := []) hq rfl hs hz ?_ rfl⟩)
    rfl
  · obtain ⟨h1, h2, h3⟩ := drawFilter_is (nextN (nextN s))
    have hq : okReq (⟨8, seqOf s, 0, 0, 0, 0, ⟨0, 0, 0, 0, 0, 0, 0, 0⟩, 0, 0, 0, (drawFilter (nextN (nextN s))).1⟩ : ReqV) := ⟨z4, z8⟩
    refine (show okReq (⟨8, seqOf s, 0, 0, 0, 0, ⟨0, 0, 0, 0, 0, 0, 0, 0⟩, 0, 0, 0, (drawFilter (nextN (nextN s))).1⟩ : ReqV) ∧ (encodeV (⟨8, seqOf s, 0, 0, 0, 0, ⟨0, 0, 0, 0, 0, 0, 0, 0⟩, 0, 0, 0, (drawFilter (nextN (nextN s))).1⟩ : ReqV)).2 = 0 from ⟨hq, enc_good (ps := [.num 1 17 .whole, .num 4 18 .count]) hq rfl hs h1 ?_ rfl⟩)
    simp only [List.all_cons, List.all_nil, Bool.and_eq_true]
    exact ⟨encs1 (n := (drawFilter (nextN (nextN s))).1.kind) h2, enc_count rfl (count_ok (n := (drawFilter (nextN (nextN s))).1.n) (by omega)) (encs4 (n := (drawFilter (nextN (nextN s))).1.n) (by omega)), trivial⟩
  · have hq : okReq (⟨9, seqOf s, 0, 0, 0, 0, ⟨0, 0, 0, 0, 0, 0, 0, 0⟩, 0, 0, 0, ⟨0, 0⟩⟩ : ReqV) := ⟨z4, z8⟩
    refine (show okReq (⟨9, seqOf s, 0, 0, 0, 0, ⟨0, 0, 0, 0, 0, 0, 0, 0⟩, 0, 0, 0, ⟨0, 0⟩⟩ : ReqV) ∧ (encodeV (⟨9, seqOf s, 0, 0, 0, 0, ⟨0, 0, 0, 0, 0, 0, 0, 0⟩, 0, 0, 0, ⟨0, 0⟩⟩ : ReqV)).2 = 0 from ⟨hq, enc_good (ps := []) hq rfl hs hz ?_ rfl⟩)
    rfl
  · have hb := belV_lt (nextN (nextN s)) (n := c.cars) (by omega)
    have hm : 1 ≤ drawMode (nextN (nextN (nextN s))) ∧ drawMode (nextN (nextN (nextN s))) ≤ 2 := by unfold drawMode; cases ((belN (nextN (nextN (nextN s))) 8 : Int) == 0) <;> decide
    have hq : okReq (⟨10, seqOf s, 0, 0, 0, 0, ⟨0, 0, 0, 0, 0, 0, 0, 0⟩, 0, 1 + belV (nextN (nextN s)) c.cars, drawMode (nextN (nextN (nextN s))), ⟨0, 0⟩⟩ : ReqV) := ⟨z4, z8⟩
    refine (show okReq (⟨10, seqOf s, 0, 0, 0, 0, ⟨0, 0, 0, 0, 0, 0, 0, 0⟩, 0, 1 + belV (nextN (nextN s)) c.cars, drawMode (nextN (nextN (nextN s))), ⟨0, 0⟩⟩ : ReqV) ∧ (encodeV (⟨10, seqOf s, 0, 0, 0, 0, ⟨0, 0, 0, 0, 0, 0, 0, 0⟩, 0, 1 + belV (nextN (nextN s)) c.cars, drawMode (nextN (nextN (nextN s))), ⟨0, 0⟩⟩ : ReqV)).2 = 0 from ⟨hq, enc_good (ps := [.num 1 15 .whole, .num 1 16 .whole]) hq rfl hs hz ?_ rfl⟩)
    simp only [List.all_cons, List.all_nil, Bool.and_eq_true]
    exact ⟨encs1 (n := 1 + belV (nextN (nextN s)) c.cars) (by omega), encs1 (n := drawMode (nextN (nextN (nextN s)))) (by omega), trivial⟩
end Go.Proofs.YthflkhalipkdgaaGreat.Mn

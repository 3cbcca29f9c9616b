/- What is turned turns the sum: the walk of the statement. -/
import Derived.Test.YtpofjeenednjcaaProg
import Derived.Below
import Derived.WalkKit
import Derived.KernelRfl
import Derived.RowKit3
import Derived.Deep.LoopGhost
import Derived.Deep.QuietTactic
import Derived.BigQuiet
import Derived.WideLaws
import Derived.Deep.DeepCutAuto
import Derived.Deep.CutBlock
import Derived.Lib.Hide
import Derived.Laws.BitsLemmas
import Derived.Laws.Bits64
import Derived.Laws.BitsAllLaws
import Derived.IntWalk
import Derived.Outline
import Derived.WalkSpells
import Derived.Test.YtpofjeenednjcaaMem
import Derived.Test.YtpofjeenednjcaaCrcA
import Derived.Test.YtpofjeenednjcaaInv
import Derived.RegionTactic
import Derived.ChangeAlike
import Derived.Deep.RegionWith
import Derived.Deep.RegionHeld3
import Derived.Deep.OwnRows
import Derived.Laws.BytesArg
namespace Go.Proofs.Ytpofjeenednjcaa.CrcF
open Go.RowKit Go.Proofs.Ytpofjeenednjcaa Go.Proofs.Ytpofjeenednjcaa.Mem

/-- a block of bytes -/
def bytesArr (l : List Nat) : Array Value := (l.map fun c : Nat => Value.int .u8 (c : Int)).toArray
theorem bytesArr_get (l : List Nat) (i : Nat) (h : i < l.length) : (bytesArr l)[i]? = some (.int .u8 ((l[i] : Nat) : Int)) := by simp [bytesArr, h]
theorem bytesArr_set (l : List Nat) (i v : Nat) : (bytesArr l).setIfInBounds i (.int .u8 (v : Int)) = bytesArr (l.set i v) := by simp [bytesArr, List.map_set]
theorem made_bytes (n : Nat) : madeCells #[.int .u8 0] n = bytesArr (List.replicate n 0) := by
  apply Array.ext
  · simp [madeCells, bytesArr]
  · intro i h1 h2
    simp [madeCells, bytesArr, Nat.mod_one]
theorem turn3 (a b c : ByteArray) (k : Nat) (ha : k < a.size) (hb : k < b.size) (hc : k < c.size) :
    bits BinOp.xor IntKind.u8 (bits BinOp.xor IntKind.u8 ↑a[k].toNat ↑b[k].toNat) ↑c[k].toNat = ((a[k].toNat ^^^ b[k].toNat ^^^ c[k].toNat : Nat) : Int) := by
  have h1 := a[k].toNat_lt
  have h2 := b[k].toNat_lt
  have h3 := c[k].toNat_lt
  rw [u8_xor_nat _ _ h1 h2, u8_xor_nat _ _ (Nat.xor_lt_two_pow (n := 8) h1 h2) h3]
theorem take_set_succ (l : List Nat) (k v : Nat) (h : k < l.length) : (l.set k v).take (k + 1) = l.take k ++ [v] := by
  rw [List.take_succ_eq_append_getElem (by simpa using h), List.take_set_of_le (by omega)]
  simp
theorem take_succ_nums (s : ByteArray) (k : Nat) (h : k < s.size) : (nums s).take (k + 1) = (nums s).take k ++ [s[k].toNat] := nums_take s k h
theorem zip3_lt : ∀ (x y z : List Nat), (∀ c ∈ x, c < 256) → (∀ c ∈ y, c < 256) → (∀ c ∈ z, c < 256) → ∀ c ∈ Crc.zip3 x y z, c < 256
  | a :: x, b :: y, c :: z, hx, hy, hz, d, hd => by
    simp only [Crc.zip3, List.mem_cons] at hd
    rcases hd with rfl | hd
    · exact Nat.xor_lt_two_pow (n := 8) (Nat.xor_lt_two_pow (n := 8) (hx a (by simp)) (hy b (by simp))) (hz c (by simp))
    · exact zip3_lt x y z (fun e he => hx e (by simp [he])) (fun e he => hy e (by simp [he])) (fun e he => hz e (by simp [he])) d hd
  | [], _, _, _, _, _, d, hd => by simp [Crc.zip3] at hd
  | _ :: _, [], _, _, _, _, d, hd => by simp [Crc.zip3] at hd
  | _ :: _, _ :: _, [], _, _, _, d, hd => by simp [Crc.zip3] at hd
/-- bytes as a text, wherever they stand so -/
theorem conv_bytes (l : List Nat) (n b : Nat) (hl : l.length = n) (hlt : ∀ c ∈ l, c < 256) : ∃ t : ByteArray, t.size = n ∧ nums t = l ∧ ∀ (w : World), Blk w b (bytesArr l) 5 →
    (convert 33 9 (.slice (some ⟨b, 0, none⟩) n n)).run Try.prog w = .ok (.string t) w := by
  refine ⟨strOfNums (l.map fun c : Nat => (c : Int)), by rw [strOfNums_size]; simpa using hl, ?_, fun w hb => ?_⟩
  · simp only [nums, strOfNums_data, List.map_map]
    refine (List.map_congr_left (g := id) fun c hc => ?_).trans (by simp)
    have := hlt c hc
    simp
    omega
  · refine run_convert_bytes_arg w _ 5 Try.underlying33 Try.underlying5 b 0 n n _ (by simp; exact hl) (fun i hi => ?_) _ Try.underlying9
    rw [Nat.zero_add, hb.cell i _ (bytesArr_get l i (by omega))]
    simp [hl, hi]
theorem of_newd (s : ByteArray) (hs : s.size ≤ 140737488351232) (n : Nat) (w : World) (hn : n = w.heap.size) :
    Calls Try.prog 16 #[.slice (some ⟨n, 0, none⟩) 1 1] (w.alloc (.cells #[.string s] 9)).drew fun e w' => e = .returned (.int .u32 ((Crc.crc (nums s) : Nat) : Int)) ∧ (w.alloc (.cells #[.string s] 9)).drew = w' :=
  of_blk s n _ (blk_new' w _ _ n hn).drew hs
theorem of_newd2 (s : ByteArray) (hs : s.size ≤ 140737488351232) (n : Nat) (w : World) (o : Obj) (hn : n = w.heap.size) :
    Calls Try.prog 16 #[.slice (some ⟨n, 0, none⟩) 1 1] ((w.alloc (.cells #[.string s] 9)).alloc o).drew fun e w' => e = .returned (.int .u32 ((Crc.crc (nums s) : Nat) : Int)) ∧ ((w.alloc (.cells #[.string s] 9)).alloc o).drew = w' :=
  of_blk s n _ ((blk_new' w _ _ n hn).alloc o).drew hs
theorem nums_ext (s : ByteArray) (m : Nat) : nums (s.extract 0 m) = (nums s).take m := by
  simp [nums, ByteArray.data_extract]
theorem turned (a b c : ByteArray) (l : List Nat) (hl : l = Crc.zip3 (nums a) ((nums b).take a.size) ((nums c).take a.size)) (hb : a.size ≤ b.size) (hc : a.size ≤ c.size) :
    (((Crc.crc l : Nat) : Int) == bits BinOp.xor IntKind.u32 (bits BinOp.xor IntKind.u32 ((Crc.crc (nums a) : Nat) : Int) ((Crc.crc (nums (b.extract 0 a.size)) : Nat) : Int)) ((Crc.crc (nums (c.extract 0 a.size)) : Nat) : Int)) = true := by
  have h1 := Crc.crc_lt (nums a) (nums_lt a)
  have h2 := Crc.crc_lt (nums (b.extract 0 a.size)) (nums_lt _)
  have h3 := Crc.crc_lt (nums (c.extract 0 a.size)) (nums_lt _)
  rw [xorC h1 h2, xorC (Crc.xor_lt h1 h2) h3, nums_ext, nums_ext, hl, Crc.crc_zip3 _ _ _ (by simp [nums_length]; omega) (by simp [nums_length]; omega)]
  simp
theorem info_byte : (Try.prog.info? 5).map (fun i => (i.zero, i.size, i.bytes)) = some (some (.int .u8 0), 1, 1) := by kernel_rfl
/-- a slice of one text -/
def fS (s : ByteArray) (v : Value) (w : World) : Prop := ∃ n, v = .slice (some ⟨n, 0, none⟩) 1 1 ∧ Blk w n #[.string s] 9
theorem fS_off {s : ByteArray} {v : Value} {w w' : World} (ho : Off [] w w') (h : fS s v w) : fS s v w' := by
  obtain ⟨n, hv, hb⟩ := h
  exact ⟨n, hv, ho.blk hb (by simp)⟩
def crcVal (s : ByteArray) : Value := .int .u32 ((Crc.crc (nums s) : Nat) : Int)
/-- what each operation of the last line puts into its slot -/
def lineF (a b c t : ByteArray) (g : Nat) : Nat → Value → World → Prop
  | 0, v, _ => v = .slice (some ⟨g, 0, none⟩) a.size a.size
  | 1, v, _ => v = .string t
  | 2, v, w => fS t v w
  | 3, v, _ => v = crcVal t
  | 4, v, _ => v = .string a
  | 5, v, w => fS a v w
  | 6, v, _ => v = crcVal a
  | 7, v, _ => v = .string b
  | 8, v, _ => v = .string a
  | 9, v, _ => v = .int .i64 a.size
  | 10, v, _ => v = .string (b.extract 0 a.size)
  | 11, v, w => fS (b.extract 0 a.size) v w
  | 12, v, _ => v = crcVal (b.extract 0 a.size)
  | 13, v, _ => v = .int .u32 (bits BinOp.xor IntKind.u32 ((Crc.crc (nums a) : Nat) : Int) ((Crc.crc (nums (b.extract 0 a.size)) : Nat) : Int))
  | 14, v, _ => v = .string c
  | 15, v, _ => v = .string a
  | 16, v, _ => v = .int .i64 a.size
  | 17, v, _ => v = .string (c.extract 0 a.size)
  | 18, v, w => fS (c.extract 0 a.size) v w
  | 19, v, _ => v = crcVal (c.extract 0 a.size)
  | 20, v, _ => v = .int .u32 (bits BinOp.xor IntKind.u32 (bits BinOp.xor IntKind.u32 ((Crc.crc (nums a) : Nat) : Int) ((Crc.crc (nums (b.extract 0 a.size)) : Nat) : Int)) ((Crc.crc (nums (c.extract 0 a.size)) : Nat) : Int))
  | 21, v, _ => v = .bool true
  | _, v, _ => v = .bool true
theorem lineF_off {a b c t : ByteArray} {g j : Nat} {v : Value} {w w' : World} (ho : Off [] w w') (h : lineF a b c t g j v w) : lineF a b c t g j v w' := by
  unfold lineF at *
  split at h <;> first | exact fS_off ho h | exact h
set_option maxHeartbeats 16000000 in
theorem crcTurns_main (a b c : ByteArray) (w : World) (ha : a.size ≤ 4096) (hb : a.size ≤ b.size) (hc : a.size ≤ c.size) (wb : b.size ≤ 140737488351232) (wc : c.size ≤ 140737488351232) :
    Calls Try.prog 7 #[.string a, .string b, .string c] w fun e w' => e = .returned (.bool true) ∧ Below w.heap.size w w' := by
  have hd1 : decide (4096 < a.size) = false := decide_eq_false (by omega)
  have hd2 : decide (b.size < a.size) = false := decide_eq_false (by omega)
  have hd3 : decide (c.size < a.size) = false := decide_eq_false (by omega)
  have hmk := run_make_row' (P := Try.prog) 33 5 (.int .u8 0) 1 Try.underlying33 info_byte rfl .i64 .i64 a.size (by omega) (by omega)
  go_enter Try.func7, Try.ntmps7
  go_wp2_with (go_at_call 15; refine (awake _).mono ?_; rintro e w0 ⟨rfl, ho⟩)
  go_loopw [8] (fun vi wr => ∃ (k : Nat) (l : List Nat), k ≤ a.size ∧ l.length = a.size ∧ vi = .int .i64 k ∧ Hid (l.take k = Crc.zip3 ((nums a).take k) ((nums b).take k) ((nums c).take k)) ∧ Blk wr w0.heap.size (bytesArr l) 5 ∧ Below w.heap.size w wr)
    (fun vi _ => a.size - (intOf vi).toNat)
  case atStart => exact ⟨0, List.replicate a.size 0, Nat.zero_le _, by simp, rfl, Lib.hid rfl, by rw [← made_bytes]; exact blk_new _ _ _, (ho.alloc _).to_below⟩
  case round =>
    obtain ⟨k, l, hk, hl, rfl, HL, hblk, hbel⟩ := hrel
    by_cases hlt : k < a.size
    · have hf := hblk.free k
      have hcell := hblk.cell k _ (bytesArr_get l k (by omega))
      generalize l[k]'(by omega) = old at hcell
      have hB := Lib.hid hblk
      clear hblk
      have hlb : k < b.size := by omega
      have hlc : k < c.size := by omega
      go_wp2
      go_region
      go_wp2
      go_roundw
      case rel =>
        have hval := turn3 a b c k (by omega) (by omega) (by omega)
        refine ⟨k + 1, l.set k (a[k].toNat ^^^ b[k].toNat ^^^ c[k].toNat), by omega, by simp; exact hl, by go_num, ?_, ?_, ?_⟩
        · refine Lib.hid ?_
          rw [take_set_succ l k _ (by omega), HL.out, take_succ_nums a k (by omega), take_succ_nums b k (by omega), take_succ_nums c k (by omega), Crc.zip3_snoc _ _ _ _ _ _ (by simp [nums_length]; omega) (by simp [nums_length]; omega)]
        · rw [← bytesArr_set, hval]
          exact (hB.out.set k _).drew
        · exact (hbel.setCell ho.size _).drew
      case measure => simp [intOf]; omega
    · obtain rfl : k = a.size := by omega
      have hz : l = Crc.zip3 (nums a) ((nums b).take a.size) ((nums c).take a.size) := by
        have := HL.out
        rw [List.take_of_length_le (by omega), List.take_of_length_le (l := nums a) (by rw [nums_length]; omega)] at this
        exact this
      obtain ⟨t, htz, htn, hconv⟩ := conv_bytes l a.size w0.heap.size hl (by rw [hz]; exact zip3_lt _ _ _ (nums_lt a) (fun c hc => nums_lt b c (List.mem_of_mem_take hc)) (fun d hd => nums_lt c d (List.mem_of_mem_take hd)))
      have hzh := Lib.hid hz
      have htz : t.size ≤ 140737488351232 := by omega
      clear hz
      go_wp2
      have hbx : (b.extract 0 a.size).size ≤ 140737488351232 := by simp [ByteArray.size_extract]; omega
      have hcx : (c.extract 0 a.size).size ≤ 140737488351232 := by simp [ByteArray.size_extract]; omega
      have hax : a.size ≤ 140737488351232 := by omega
      have hconv' := Lib.hid hconv
      clear hconv
      have hTN := Lib.hid (show (((Crc.crc (nums t) : Nat) : Int) == (bits BinOp.xor IntKind.u32 (bits BinOp.xor IntKind.u32 (((Crc.crc (nums (a)) : Nat) : Int)) (((Crc.crc (nums (b.extract 0 a.size)) : Nat) : Int))) (((Crc.crc (nums (c.extract 0 a.size)) : Nat) : Int)))) = true by rw [htn]; exact turned a b c l hzh.out hb hc)
      clear htn
      refine Inv.wp_region_facts (by kernel_rfl) (by kernel_rfl) (by kernel_rfl) (by kernel_rfl) 73 rfl (by kernel_rfl) (by kernel_rfl) (fun w' => Blk w' w0.heap.size (bytesArr l) 5 ∧ Below w.heap.size w w') (lineF a b c t w0.heap.size) (fun j v w1 w2 _ ho h => lineF_off ho h) (fun w1 w2 h ho => ⟨ho.blk h.1 (by simp), h.2.trans (ho.to_below.mono h.2.size)⟩) ⟨hblk, hbel.drew⟩ ?_ ?_
      · intro i o ho a' w' hfr hW hdep K hK
        match i, ho with
        | 0, ho =>
          injection ho with ho
          subst ho
          have e7 : a'.eval (.tmp 7) = (.slice (some ⟨w0.heap.size, 0, none⟩) a.size a.size) := hfr.old 7 (by kernel_rfl)
          exact Inv.wp_val (.slice (some ⟨w0.heap.size, 0, none⟩) a.size a.size) (by simp [execOp, e7]) (hK _ _ (Off.refl _ _) rfl)
        | 1, ho =>
          injection ho with ho
          subst ho
          have e51 : (a'.tmps[51]?).getD undef = (.slice (some ⟨w0.heap.size, 0, none⟩) a.size a.size) := by simpa [Act.eval, Inv.slotv, Inv.dstAt, crcVal] using (show _ = _ from hdep ⟨0, .data⟩ (by simp) rfl)
          have hcv := hconv'.out w' hW.1
          exact Inv.wp_val (.string t) (by simp only [execOp]; go_simp) (hK _ _ (Off.refl _ _) rfl)
        | 2, ho =>
          injection ho with ho
          subst ho
          have e52 : (a'.tmps[52]?).getD undef = (.string (t)) := by simpa [Act.eval, Inv.slotv, Inv.dstAt, crcVal] using (show _ = _ from hdep ⟨1, .data⟩ (by simp) rfl)
          refine Inv.wp_val (w' := w'.alloc (.cells #[.string (t)] 9)) (.slice (some ⟨w'.heap.size, 0, none⟩) 1 1) (by simp only [execOp]; go_simp) (hK _ _ ((Off.refl [] w').alloc _) ⟨_, rfl, blk_new _ _ _⟩)
        | 3, ho =>
          injection ho with ho
          subst ho
          have hs := hdep ⟨2, .data⟩ (by simp) rfl
          obtain ⟨n, hn0, hb⟩ : fS (t) (a'.eval (.tmp 53)) w' := hs
          have hn : (a'.tmps[53]?).getD undef = .slice (some ⟨n, 0, none⟩) 1 1 := by simpa [Act.eval] using hn0
          clear hn0
          refine Inv.wp_call 16 #[.slice (some ⟨n, 0, none⟩) 1 1] (by simp only [execOp]; go_simp) (of_blk (t) n w' hb htz) ?_
          rintro e w2 ⟨rfl, rfl⟩
          exact ⟨_, rfl, hK _ _ (Off.refl _ _) rfl⟩
        | 4, ho =>
          injection ho with ho
          subst ho
          have e0 : a'.eval (.tmp 0) = (.string a) := hfr.old 0 (by kernel_rfl)
          exact Inv.wp_val (.string a) (by simp [execOp, e0]) (hK _ _ (Off.refl _ _) rfl)
        | 5, ho =>
          injection ho with ho
          subst ho
          have e55 : (a'.tmps[55]?).getD undef = (.string (a)) := by simpa [Act.eval, Inv.slotv, Inv.dstAt, crcVal] using (show _ = _ from hdep ⟨4, .data⟩ (by simp) rfl)
          refine Inv.wp_val (w' := w'.alloc (.cells #[.string (a)] 9)) (.slice (some ⟨w'.heap.size, 0, none⟩) 1 1) (by simp only [execOp]; go_simp) (hK _ _ ((Off.refl [] w').alloc _) ⟨_, rfl, blk_new _ _ _⟩)
        | 6, ho =>
          injection ho with ho
          subst ho
          have hs := hdep ⟨5, .data⟩ (by simp) rfl
          obtain ⟨n, hn0, hb⟩ : fS (a) (a'.eval (.tmp 56)) w' := hs
          have hn : (a'.tmps[56]?).getD undef = .slice (some ⟨n, 0, none⟩) 1 1 := by simpa [Act.eval] using hn0
          clear hn0
          refine Inv.wp_call 16 #[.slice (some ⟨n, 0, none⟩) 1 1] (by simp only [execOp]; go_simp) (of_blk (a) n w' hb hax) ?_
          rintro e w2 ⟨rfl, rfl⟩
          exact ⟨_, rfl, hK _ _ (Off.refl _ _) rfl⟩
        | 7, ho =>
          injection ho with ho
          subst ho
          have e1 : a'.eval (.tmp 1) = (.string b) := hfr.old 1 (by kernel_rfl)
          exact Inv.wp_val (.string b) (by simp [execOp, e1]) (hK _ _ (Off.refl _ _) rfl)
        | 8, ho =>
          injection ho with ho
          subst ho
          have e0 : a'.eval (.tmp 0) = (.string a) := hfr.old 0 (by kernel_rfl)
          exact Inv.wp_val (.string a) (by simp [execOp, e0]) (hK _ _ (Off.refl _ _) rfl)
        | 9, ho =>
          injection ho with ho
          subst ho
          have e59 : (a'.tmps[59]?).getD undef = (.string a) := by simpa [Act.eval, Inv.slotv, Inv.dstAt, crcVal] using (show _ = _ from hdep ⟨8, .data⟩ (by simp) rfl)
          exact Inv.wp_val (.int .i64 a.size) (by simp only [execOp]; go_simp) (hK _ _ (Off.refl _ _) rfl)
        | 10, ho =>
          injection ho with ho
          subst ho
          have e58 : (a'.tmps[58]?).getD undef = (.string b) := by simpa [Act.eval, Inv.slotv, Inv.dstAt, crcVal] using (show _ = _ from hdep ⟨7, .data⟩ (by simp) rfl)
          have e60 : (a'.tmps[60]?).getD undef = (.int .i64 a.size) := by simpa [Act.eval, Inv.slotv, Inv.dstAt, crcVal] using (show _ = _ from hdep ⟨9, .data⟩ (by simp) rfl)
          exact Inv.wp_val (.string (b.extract 0 a.size)) (by simp only [execOp]; go_simp) (hK _ _ (Off.refl _ _) rfl)
        | 11, ho =>
          injection ho with ho
          subst ho
          have e61 : (a'.tmps[61]?).getD undef = (.string (b.extract 0 a.size)) := by simpa [Act.eval, Inv.slotv, Inv.dstAt, crcVal] using (show _ = _ from hdep ⟨10, .data⟩ (by simp) rfl)
          refine Inv.wp_val (w' := w'.alloc (.cells #[.string (b.extract 0 a.size)] 9)) (.slice (some ⟨w'.heap.size, 0, none⟩) 1 1) (by simp only [execOp]; go_simp) (hK _ _ ((Off.refl [] w').alloc _) ⟨_, rfl, blk_new _ _ _⟩)
        | 12, ho =>
          injection ho with ho
          subst ho
          have hs := hdep ⟨11, .data⟩ (by simp) rfl
          obtain ⟨n, hn0, hb⟩ : fS (b.extract 0 a.size) (a'.eval (.tmp 62)) w' := hs
          have hn : (a'.tmps[62]?).getD undef = .slice (some ⟨n, 0, none⟩) 1 1 := by simpa [Act.eval] using hn0
          clear hn0
          refine Inv.wp_call 16 #[.slice (some ⟨n, 0, none⟩) 1 1] (by simp only [execOp]; go_simp) (of_blk (b.extract 0 a.size) n w' hb hbx) ?_
          rintro e w2 ⟨rfl, rfl⟩
          exact ⟨_, rfl, hK _ _ (Off.refl _ _) rfl⟩
        | 13, ho =>
          injection ho with ho
          subst ho
          have e57 : (a'.tmps[57]?).getD undef = (.int .u32 (((Crc.crc (nums (a)) : Nat) : Int))) := by simpa [Act.eval, Inv.slotv, Inv.dstAt, crcVal] using (show _ = _ from hdep ⟨6, .data⟩ (by simp) rfl)
          have e63 : (a'.tmps[63]?).getD undef = (.int .u32 (((Crc.crc (nums (b.extract 0 a.size)) : Nat) : Int))) := by simpa [Act.eval, Inv.slotv, Inv.dstAt, crcVal] using (show _ = _ from hdep ⟨12, .data⟩ (by simp) rfl)
          exact Inv.wp_val (.int .u32 (bits BinOp.xor IntKind.u32 (((Crc.crc (nums (a)) : Nat) : Int)) (((Crc.crc (nums (b.extract 0 a.size)) : Nat) : Int)))) (by simp only [execOp]; go_simp) (hK _ _ (Off.refl _ _) rfl)
        | 14, ho =>
          injection ho with ho
          subst ho
          have e2 : a'.eval (.tmp 2) = (.string c) := hfr.old 2 (by kernel_rfl)
          exact Inv.wp_val (.string c) (by simp [execOp, e2]) (hK _ _ (Off.refl _ _) rfl)
        | 15, ho =>
          injection ho with ho
          subst ho
          have e0 : a'.eval (.tmp 0) = (.string a) := hfr.old 0 (by kernel_rfl)
          exact Inv.wp_val (.string a) (by simp [execOp, e0]) (hK _ _ (Off.refl _ _) rfl)
        | 16, ho =>
          injection ho with ho
          subst ho
          have e66 : (a'.tmps[66]?).getD undef = (.string a) := by simpa [Act.eval, Inv.slotv, Inv.dstAt, crcVal] using (show _ = _ from hdep ⟨15, .data⟩ (by simp) rfl)
          exact Inv.wp_val (.int .i64 a.size) (by simp only [execOp]; go_simp) (hK _ _ (Off.refl _ _) rfl)
        | 17, ho =>
          injection ho with ho
          subst ho
          have e65 : (a'.tmps[65]?).getD undef = (.string c) := by simpa [Act.eval, Inv.slotv, Inv.dstAt, crcVal] using (show _ = _ from hdep ⟨14, .data⟩ (by simp) rfl)
          have e67 : (a'.tmps[67]?).getD undef = (.int .i64 a.size) := by simpa [Act.eval, Inv.slotv, Inv.dstAt, crcVal] using (show _ = _ from hdep ⟨16, .data⟩ (by simp) rfl)
          exact Inv.wp_val (.string (c.extract 0 a.size)) (by simp only [execOp]; go_simp) (hK _ _ (Off.refl _ _) rfl)
        | 18, ho =>
          injection ho with ho
          subst ho
          have e68 : (a'.tmps[68]?).getD undef = (.string (c.extract 0 a.size)) := by simpa [Act.eval, Inv.slotv, Inv.dstAt, crcVal] using (show _ = _ from hdep ⟨17, .data⟩ (by simp) rfl)
          refine Inv.wp_val (w' := w'.alloc (.cells #[.string (c.extract 0 a.size)] 9)) (.slice (some ⟨w'.heap.size, 0, none⟩) 1 1) (by simp only [execOp]; go_simp) (hK _ _ ((Off.refl [] w').alloc _) ⟨_, rfl, blk_new _ _ _⟩)
        | 19, ho =>
          injection ho with ho
          subst ho
          have hs := hdep ⟨18, .data⟩ (by simp) rfl
          obtain ⟨n, hn0, hb⟩ : fS (c.extract 0 a.size) (a'.eval (.tmp 69)) w' := hs
          have hn : (a'.tmps[69]?).getD undef = .slice (some ⟨n, 0, none⟩) 1 1 := by simpa [Act.eval] using hn0
          clear hn0
          refine Inv.wp_call 16 #[.slice (some ⟨n, 0, none⟩) 1 1] (by simp only [execOp]; go_simp) (of_blk (c.extract 0 a.size) n w' hb hcx) ?_
          rintro e w2 ⟨rfl, rfl⟩
          exact ⟨_, rfl, hK _ _ (Off.refl _ _) rfl⟩
        | 20, ho =>
          injection ho with ho
          subst ho
          have e64 : (a'.tmps[64]?).getD undef = (.int .u32 (bits BinOp.xor IntKind.u32 (((Crc.crc (nums (a)) : Nat) : Int)) (((Crc.crc (nums (b.extract 0 a.size)) : Nat) : Int)))) := by simpa [Act.eval, Inv.slotv, Inv.dstAt, crcVal] using (show _ = _ from hdep ⟨13, .data⟩ (by simp) rfl)
          have e70 : (a'.tmps[70]?).getD undef = (.int .u32 (((Crc.crc (nums (c.extract 0 a.size)) : Nat) : Int))) := by simpa [Act.eval, Inv.slotv, Inv.dstAt, crcVal] using (show _ = _ from hdep ⟨19, .data⟩ (by simp) rfl)
          exact Inv.wp_val (.int .u32 (bits BinOp.xor IntKind.u32 (bits BinOp.xor IntKind.u32 (((Crc.crc (nums (a)) : Nat) : Int)) (((Crc.crc (nums (b.extract 0 a.size)) : Nat) : Int))) (((Crc.crc (nums (c.extract 0 a.size)) : Nat) : Int)))) (by simp only [execOp]; go_simp) (hK _ _ (Off.refl _ _) rfl)
        | 21, ho =>
          injection ho with ho
          subst ho
          have e54 : (a'.tmps[54]?).getD undef = (.int .u32 (((Crc.crc (nums (t)) : Nat) : Int))) := by simpa [Act.eval, Inv.slotv, Inv.dstAt, crcVal] using (show _ = _ from hdep ⟨3, .data⟩ (by simp) rfl)
          have e71 : (a'.tmps[71]?).getD undef = (.int .u32 (bits BinOp.xor IntKind.u32 (bits BinOp.xor IntKind.u32 (((Crc.crc (nums (a)) : Nat) : Int)) (((Crc.crc (nums (b.extract 0 a.size)) : Nat) : Int))) (((Crc.crc (nums (c.extract 0 a.size)) : Nat) : Int)))) := by simpa [Act.eval, Inv.slotv, Inv.dstAt, crcVal] using (show _ = _ from hdep ⟨20, .data⟩ (by simp) rfl)
          have htn := hTN.out
          exact Inv.wp_val (.bool true) (by simp only [execOp]; go_simp) (hK _ _ (Off.refl _ _) rfl)
        | 22, ho =>
          injection ho with ho
          subst ho
          have e72 : (a'.tmps[72]?).getD undef = (.bool true) := by simpa [Act.eval, Inv.slotv, Inv.dstAt, crcVal] using (show _ = _ from hdep ⟨21, .data⟩ (by simp) rfl)
          exact Inv.wp_val (.bool true) (by simp only [execOp]; go_simp) (hK _ _ (Off.refl _ _) rfl)
        | n + 23, ho => simp at ho
      · intro vs w' hW hF
        have h22 : vs 22 = .bool true := hF 22 (by decide)
        simp only [List.size_toArray, List.length_cons, List.length_nil, Nat.reduceAdd, Inv.putAll, Inv.dstAt, List.getElem?_toArray, List.getElem?_cons_zero, List.getElem?_cons_succ, Option.bind_some, Act.put, List.setIfInBounds_toArray, List.set_cons_zero, List.set_cons_succ]
        go_wp2
        go_ret
        exact ⟨congrArg Ending.returned (show vs 22 = .bool true from h22), hW.2⟩
set_option maxHeartbeats 1600000 in
theorem crcTurns (a b c : ByteArray) (w : World) (wa : a.size ≤ 140737488351232) (wb : b.size ≤ 140737488351232) (wc : c.size ≤ 140737488351232) :
    Calls Try.prog 7 #[.string a, .string b, .string c] w fun e w' => e = .returned (.bool true) ∧ Below w.heap.size w w' := by
  by_cases ha : a.size ≤ 4096
  · have hd1 : decide (4096 < a.size) = false := decide_eq_false (by omega)
    by_cases hb : a.size ≤ b.size
    · have hd2 : decide (b.size < a.size) = false := decide_eq_false (by omega)
      by_cases hc : a.size ≤ c.size
      · exact crcTurns_main a b c w ha hb hc wb wc
      · have hd3 : decide (c.size < a.size) = true := decide_eq_true (by omega)
        go_enter Try.func7, Try.ntmps7
        go_wp2_with (go_at_call 15; refine (awake _).mono ?_; rintro e w0 ⟨rfl, ho⟩)
        go_ret
        exact ⟨rfl, ho.to_below⟩
    · have hd2 : decide (b.size < a.size) = true := decide_eq_true (by omega)
      go_enter Try.func7, Try.ntmps7
      go_wp2_with (go_at_call 15; refine (awake _).mono ?_; rintro e w0 ⟨rfl, ho⟩)
      go_ret
      exact ⟨rfl, ho.to_below⟩
  · have hd1 : decide (4096 < a.size) = true := decide_eq_true (by omega)
    go_enter Try.func7, Try.ntmps7
    go_wp2_with (go_at_call 15; refine (awake _).mono ?_; rintro e w0 ⟨rfl, ho⟩)
    go_ret
    exact ⟨rfl, ho.to_below⟩
end Go.Proofs.Ytpofjeenednjcaa.CrcF

/- What is kept, and what is not, are all: the walk of the statement. -/
import Derived.Test.YtfhhfmkfkoemjaaProg
import Derived.Below
import Derived.WalkKit
import Derived.KernelRfl
import Derived.RowKit3
import Derived.Deep.LoopGhost
import Derived.Deep.QuietTactic
import Derived.BigQuiet
import Derived.WideLaws
import Derived.Deep.DeepCutAuto
import Derived.Deep.CutBlock
import Derived.Lib.Hide
import Derived.Laws.BitsLemmas
import Derived.Laws.Bits64
import Derived.Laws.BitsAllLaws
import Derived.IntWalk
import Derived.Outline
import Derived.WalkSpells
import Derived.Test.YtfhhfmkfkoemjaaMem
import Derived.Test.YtfhhfmkfkoemjaaSp6
import Derived.Test.YtfhhfmkfkoemjaaLwShelfStays
namespace Go.Proofs.Ytfhhfmkfkoemjaa.Si6
open Go.RowKit Go.Proofs.Ytfhhfmkfkoemjaa.Mem

set_option maxRecDepth 20000
set_option maxHeartbeats 16000000
theorem does_p (k : Int) (fs : List ActV) (ps : List PairV) (hps : Hid (ps = doesV k fs [])) (hl : fs.length ≤ 40) (a b : Option Addr) (c d : Nat) (w : World) (h : (rS a c 2 (([] : List PairV).map rowOf)).holds w) (h2 : (rS b d 3 (fs.map actRow)).holds w) : Calls Try.prog 31 #[.agg #[.int .i64 k, .slice a 0 c], .slice b fs.length d] w fun e w' => ∃ a' c', e = .returned (.agg #[.int .i64 k, .slice a' ps.length c']) ∧ Gives w w' [rS a c 2 (([] : List PairV).map rowOf)] a' c' ps := by
  rw [hps.out]
  exact doesC k a b c d [] fs w h h2 List.Pairwise.nil (by simp; omega)
theorem keepPIs (k t : Int) (ht : 2 ≤ t ∧ t ≤ 4) (ps : List PairV) (hb : ps.length ≤ 1000000) (a : Option Addr) (c : Nat) (w : World) (h : (rS a c 2 (ps.map rowOf)).holds w) : Calls Try.prog 32 #[.agg #[.int .i64 k, .slice a ps.length c], .func (.func 33) #[.agg #[.int .i64 t]] #[]] w fun e w' => ∃ a' c', e = .returned (.agg #[.int .i64 k, .slice a' (ps.filter (keptV t)).length c']) ∧ Gives w w' [] a' c' (ps.filter (keptV t)) :=
  keepIs k a c ps _ (.agg #[.int .i64 t]) w h hb (fun w2 _ p _ => partIs _ p ht w2)
theorem keepPNot (k t : Int) (ht : 2 ≤ t ∧ t ≤ 4) (ps : List PairV) (hb : ps.length ≤ 1000000) (a : Option Addr) (c : Nat) (w : World) (h : (rS a c 2 (ps.map rowOf)).holds w) : Calls Try.prog 32 #[.agg #[.int .i64 k, .slice a ps.length c], .func (.func 34) #[.agg #[.int .i64 t]] #[]] w fun e w' => ∃ a' c', e = .returned (.agg #[.int .i64 k, .slice a' (ps.filter fun p => !keptV t p).length c']) ∧ Gives w w' [] a' c' (ps.filter fun p => !keptV t p) :=
  keepNot k a c ps _ (.agg #[.int .i64 t]) w h hb (fun w2 _ p _ => partNot _ p ht w2)
theorem withPA (k v : Int) (key : ByteArray) (ps : List PairV) (hs : Hid (Sorted ps)) (hb : ps.length ≤ 1000000) (q : isV key ps = true) (a : Option Addr) (c : Nat) (w : World) (h : (rS a c 2 (ps.map rowOf)).holds w) : Calls Try.prog 27 #[.agg #[.int .i64 k, .slice a ps.length c], .string key, .int .i64 v] w fun e w' => ∃ a' c', e = .returned (.tuple #[.agg #[.int .i64 k, .slice a' (ps.set (posV key ps) (key, v)).length c'], .bool true]) ∧ Gives w w' [rS a c 2 (ps.map rowOf)] a' c' (ps.set (posV key ps) (key, v)) := by
  have h9 := withC k a c ps key v w h hs.out hb
  rw [with_is q] at h9
  exact h9
theorem withPB (k v : Int) (key : ByteArray) (ps : List PairV) (hs : Hid (Sorted ps)) (hb : ps.length ≤ 1000000) (q : isV key ps = false) (q2 : ((ps.length : Int) == k) = true) (a : Option Addr) (c : Nat) (w : World) (h : (rS a c 2 (ps.map rowOf)).holds w) : Calls Try.prog 27 #[.agg #[.int .i64 k, .slice a ps.length c], .string key, .int .i64 v] w fun e w' => ∃ a' c', e = .returned (.tuple #[.agg #[.int .i64 k, .slice a' ps.length c'], .bool false]) ∧ Gives w w' [rS a c 2 (ps.map rowOf)] a' c' ps := by
  have h9 := withC k a c ps key v w h hs.out hb
  rw [with_full q q2] at h9
  exact h9
theorem withPC (k v : Int) (key : ByteArray) (ps : List PairV) (hs : Hid (Sorted ps)) (hb : ps.length ≤ 1000000) (q : isV key ps = false) (q2 : ((ps.length : Int) == k) = false) (a : Option Addr) (c : Nat) (w : World) (h : (rS a c 2 (ps.map rowOf)).holds w) : Calls Try.prog 27 #[.agg #[.int .i64 k, .slice a ps.length c], .string key, .int .i64 v] w fun e w' => ∃ a' c', e = .returned (.tuple #[.agg #[.int .i64 k, .slice a' (insAt ps (posV key ps) (key, v)).length c'], .bool true]) ∧ Gives w w' [rS a c 2 (ps.map rowOf)] a' c' (insAt ps (posV key ps) (key, v)) := by
  have h9 := withC k a c ps key v w h hs.out hb
  rw [with_new q q2] at h9
  exact h9
theorem parts15 (k : Int) (ax : Option Addr) (X ps : List PairV) (cx c15 m ii bx : Nat) (y : Addr) (p : PairV) (b : Bool) (hlt : ii < m) (hX : Sorted X) (hXb : X.length ≤ 1000000) (hg : (getV p.1 X).2 = b) (HR : (ps.map rowOf)[ii]? = some [.string p.1, .int .i64 p.2]) {w0 w : World} {R : List Res} (H : Hid (Hp [] w0 w R)) (m1 : rB bx 43 [.int .i64 k, .slice ax X.length cx] ∈ R) (m2 : rS ax cx 2 (X.map rowOf) ∈ R) (m3 : rS (some y) c15 2 (ps.map rowOf) ∈ R) (a0 : Act) (hN : a0.tmps.size = 137) (o13 : a0.eval (.tmp 13) = .pointer (some ⟨bx, 0, none⟩)) (o15 : a0.eval (.tmp 15) = .slice (some y) m c15) (o16 : a0.eval (.tmp 16) = .int .i64 ii) {Q : Exit → Act → World → Prop} (hfin : ∀ w', Hid (Hp [] w0 w' R) → Q .normal ((((((((((((a0.put (some 74) (.agg #[.int .i64 k, .slice ax X.length cx])).put (some 75) (.slice (some y) m c15)).put (some 76) (.int .i64 ii)).put (some 77) (.pointer (some (y.add (ii * 2))))).put (some 78) (.pointer (some (y.add (ii * 2))))).put (some 79) (.string p.1)).put (some 80) (.tuple #[.int .i64 (getV p.1 X).1, .bool b])).put (some 73) (.tuple #[.int .i64 (getV p.1 X).1, .bool b])).put (some 81) (.int .i64 (getV p.1 X).1)).put (some 82) (.bool b)).put (some 17) (.int .i64 (getV p.1 X).1)).put (some 18) (.bool b)) w') : (Code.region 15 #[{ dst := some 74, op := Op.load 43 (Operand.tmp 13), type := 43, pos := "own.go:96", after := #[], guard := none }, { dst := some 75, op := Op.move (Operand.tmp 15), type := 41, pos := "own.go:96", after := #[], guard := none }, { dst := some 76, op := Op.move (Operand.tmp 16), type := 3, pos := "own.go:96", after := #[], guard := none }, { dst := some 77, op := Op.indexAddr 41 (Operand.tmp 75) (Operand.tmp 76), type := 0, pos := "own.go:96", after := #[{ on := 1, ground := Ground.data }, { on := 2, ground := Ground.data }], guard := none }, { dst := some 78, op := Op.fieldAddr 62 (Operand.tmp 77) 0, type := 0, pos := "own.go:96", after := #[{ on := 3, ground := Ground.data }], guard := none }, { dst := some 79, op := Op.load 9 (Operand.tmp 78), type := 9, pos := "own.go:96", after := #[{ on := 4, ground := Ground.data }], guard := none }, { dst := some 80, op := Op.call { callee := Callee.value (Operand.func 29), args := #[Operand.tmp 74, Operand.tmp 79], argTypes := #[43, 9] }, type := 48, pos := "own.go:96", after := #[{ on := 0, ground := Ground.data }, { on := 5, ground := Ground.data }], guard := none }, { dst := some 73, op := Op.move (Operand.tmp 80), type := 48, pos := "own.go:96", after := #[{ on := 6, ground := Ground.data }], guard := none }, { dst := some 81, op := Op.extract (Operand.tmp 73) 0, type := 3, pos := "own.go:96", after := #[{ on := 7, ground := Ground.data }], guard := none }, { dst := some 82, op := Op.extract (Operand.tmp 73) 1, type := 4, pos := "own.go:96", after := #[{ on := 7, ground := Ground.data }, { on := 10, ground := Ground.gcOnly Departure.lateStores }], guard := none }, { dst := some 17, op := Op.assign (Operand.tmp 81), type := 3, pos := "own.go:96", after := #[{ on := 8, ground := Ground.data }, { on := 6, ground := Ground.chain }, { on := 0, ground := Ground.phase }, { on := 1, ground := Ground.phase }, { on := 2, ground := Ground.phase }, { on := 3, ground := Ground.phase }, { on := 4, ground := Ground.phase }, { on := 5, ground := Ground.phase }, { on := 6, ground := Ground.phase }, { on := 7, ground := Ground.phase }, { on := 8, ground := Ground.phase }, { on := 9, ground := Ground.textOnly Departure.lateStores }], guard := none }, { dst := some 18, op := Op.assign (Operand.tmp 82), type := 4, pos := "own.go:96", after := #[{ on := 9, ground := Ground.data }, { on := 10, ground := Ground.chain }, { on := 0, ground := Ground.phase }, { on := 1, ground := Ground.phase }, { on := 2, ground := Ground.phase }, { on := 3, ground := Ground.phase }, { on := 4, ground := Ground.phase }, { on := 5, ground := Ground.phase }, { on := 6, ground := Ground.phase }, { on := 7, ground := Ground.phase }, { on := 8, ground := Ground.phase }, { on := 9, ground := Ground.phase }, { on := 10, ground := Ground.phase }], guard := none }] true).wp Try.prog Q a0 w := by
  refine hp_walksF H (fun j v w' => match j with | 0 => v = .agg #[.int .i64 k, .slice ax X.length cx] | 1 => v = .slice (some y) m c15 | 2 => v = .int .i64 ii | 3 => v = .pointer (some (y.add (ii * 2))) | 4 => v = .pointer (some (y.add (ii * 2))) | 5 => v = .string p.1 | 6 => v = .tuple #[.int .i64 (getV p.1 X).1, .bool b] | 7 => v = .tuple #[.int .i64 (getV p.1 X).1, .bool b] | 8 => v = .int .i64 (getV p.1 X).1 | 9 => v = .bool b | 10 => v = .int .i64 (getV p.1 X).1 | 11 => v = .bool b | _ => True) ?_ (by kernel_rfl) ⟨[0, 0, 0, 1, 2, 3, 4, 5, 6, 6, 7, 8], by kernel_rfl⟩ (by kernel_rfl) 137 hN (by kernel_rfl) (by kernel_rfl) ?_ ?_ ?_
  · intro j v w' w'' h ho
    match j, h with
    | 0, h => exact h
    | 1, h => exact h
    | 2, h => exact h
    | 3, h => exact h
    | 4, h => exact h
    | 5, h => exact h
    | 6, h => exact h
    | 7, h => exact h
    | 8, h => exact h
    | 9, h => exact h
    | 10, h => exact h
    | 11, h => exact h
    | _ + 12, _ => trivial
  · intro i o ho a' w' hfr H hdep hwant Q' hQ
    match i, ho with
    | 0, ho =>
      have ho2 := Option.some.inj ho
      clear ho
      subst ho2
      have e13 : a'.eval (.tmp 13) = .pointer (some ⟨bx, 0, none⟩) := (hfr.old 13 (by kernel_rfl)).trans o13
      have g13 : (a'.tmps[13]?).getD undef = .pointer (some ⟨bx, 0, none⟩) := by rw [← Array.getD_eq_getD_getElem?]; exact e13
      refine hpA_load tyshelf_Shelf_string__int_ H rfl e13 hwant (by first | assumption | ((repeat (first | exact List.Mem.head _ | apply List.Mem.tail)))) rfl rfl ?_
      exact hQ _ _ (Off.refl [] _) H rfl
    | 1, ho =>
      have ho2 := Option.some.inj ho
      clear ho
      subst ho2
      have e15 : a'.eval (.tmp 15) = .slice (some y) m c15 := (hfr.old 15 (by kernel_rfl)).trans o15
      have g15 : (a'.tmps[15]?).getD undef = .slice (some y) m c15 := by rw [← Array.getD_eq_getD_getElem?]; exact e15
      refine wpList_step fun K hK => ?_
      rw [if_pos hwant]
      exact Inv.wp_val (.slice (some y) m c15) (by simp only [execOp]; go_simp) (hK _ _ (hQ _ _ (Off.refl [] _) H rfl))
    | 2, ho =>
      have ho2 := Option.some.inj ho
      clear ho
      subst ho2
      have e16 : a'.eval (.tmp 16) = .int .i64 ii := (hfr.old 16 (by kernel_rfl)).trans o16
      have g16 : (a'.tmps[16]?).getD undef = .int .i64 ii := by rw [← Array.getD_eq_getD_getElem?]; exact e16
      refine wpList_step fun K hK => ?_
      rw [if_pos hwant]
      exact Inv.wp_val (.int .i64 ii) (by simp only [execOp]; go_simp) (hK _ _ (hQ _ _ (Off.refl [] _) H rfl))
    | 3, ho =>
      have ho2 := Option.some.inj ho
      clear ho
      subst ho2
      have e75 : a'.eval (.tmp 75) = .slice (some y) m c15 := hdep ⟨1, .data⟩ (by simp) rfl
      have g75 : (a'.tmps[75]?).getD undef = .slice (some y) m c15 := by rw [← Array.getD_eq_getD_getElem?]; exact e75
      have e76 : a'.eval (.tmp 76) = .int .i64 ii := hdep ⟨2, .data⟩ (by simp) rfl
      have g76 : (a'.tmps[76]?).getD undef = .int .i64 ii := by rw [← Array.getD_eq_getD_getElem?]; exact e76
      refine wpList_step fun K hK => ?_
      rw [if_pos hwant]
      exact Inv.wp_val (.pointer (some (y.add (ii * 2)))) (by simp only [execOp]; go_simp) (hK _ _ (hQ _ _ (Off.refl [] _) H rfl))
    | 4, ho =>
      have ho2 := Option.some.inj ho
      clear ho
      subst ho2
      have e77 : a'.eval (.tmp 77) = .pointer (some (y.add (ii * 2))) := hdep ⟨3, .data⟩ (by simp) rfl
      have g77 : (a'.tmps[77]?).getD undef = .pointer (some (y.add (ii * 2))) := by rw [← Array.getD_eq_getD_getElem?]; exact e77
      refine wpList_step fun K hK => ?_
      rw [if_pos hwant]
      exact Inv.wp_val (.pointer (some (y.add (ii * 2)))) (by simp only [execOp]; go_simp) (hK _ _ (hQ _ _ (Off.refl [] _) H rfl))
    | 5, ho =>
      have ho2 := Option.some.inj ho
      clear ho
      subst ho2
      have e78 : a'.eval (.tmp 78) = .pointer (some (y.add (ii * 2))) := hdep ⟨4, .data⟩ (by simp) rfl
      have g78 : (a'.tmps[78]?).getD undef = .pointer (some (y.add (ii * 2))) := by rw [← Array.getD_eq_getD_getElem?]; exact e78
      refine hpS_load1 0 tystring H rfl e78 hwant (by first | assumption | ((repeat (first | exact List.Mem.head _ | apply List.Mem.tail)))) HR rfl (by simp [Addr.add]) ?_
      exact hQ _ _ (Off.refl [] _) H rfl
    | 6, ho =>
      have ho2 := Option.some.inj ho
      clear ho
      subst ho2
      have e74 : a'.eval (.tmp 74) = .agg #[.int .i64 k, .slice ax X.length cx] := hdep ⟨0, .data⟩ (by simp) rfl
      have g74 : (a'.tmps[74]?).getD undef = .agg #[.int .i64 k, .slice ax X.length cx] := by rw [← Array.getD_eq_getD_getElem?]; exact e74
      have e79 : a'.eval (.tmp 79) = .string p.1 := hdep ⟨5, .data⟩ (by simp) rfl
      have g79 : (a'.tmps[79]?).getD undef = .string p.1 := by rw [← Array.getD_eq_getD_getElem?]; exact e79
      refine wpList_step fun K hK => ?_
      rw [if_pos hwant]
      refine Inv.wp_call 29 #[.agg #[.int .i64 k, .slice ax X.length cx], .string p.1] (by simp only [execOp]; go_simp) (by have h9 := getC k _ _ X p.1 w' (hp_held H m2) hX hXb; rw [hg] at h9; exact h9) ?_
      rintro e w2 ⟨rfl, ho⟩
      exact ⟨_, rfl, hK _ _ (hQ _ _ ho (Lib.hid (H.out.quiet ho)) rfl)⟩
    | 7, ho =>
      have ho2 := Option.some.inj ho
      clear ho
      subst ho2
      have e80 : a'.eval (.tmp 80) = .tuple #[.int .i64 (getV p.1 X).1, .bool b] := hdep ⟨6, .data⟩ (by simp) rfl
      have g80 : (a'.tmps[80]?).getD undef = .tuple #[.int .i64 (getV p.1 X).1, .bool b] := by rw [← Array.getD_eq_getD_getElem?]; exact e80
      refine wpList_step fun K hK => ?_
      rw [if_pos hwant]
      exact Inv.wp_val (.tuple #[.int .i64 (getV p.1 X).1, .bool b]) (by simp only [execOp]; go_simp) (hK _ _ (hQ _ _ (Off.refl [] _) H rfl))
    | 8, ho =>
      have ho2 := Option.some.inj ho
      clear ho
      subst ho2
      have e73 : a'.eval (.tmp 73) = .tuple #[.int .i64 (getV p.1 X).1, .bool b] := hdep ⟨7, .data⟩ (by simp) rfl
      have g73 : (a'.tmps[73]?).getD undef = .tuple #[.int .i64 (getV p.1 X).1, .bool b] := by rw [← Array.getD_eq_getD_getElem?]; exact e73
      refine wpList_step fun K hK => ?_
      rw [if_pos hwant]
      exact Inv.wp_val (.int .i64 (getV p.1 X).1) (by simp only [execOp]; go_simp) (hK _ _ (hQ _ _ (Off.refl [] _) H rfl))
    | 9, ho =>
      have ho2 := Option.some.inj ho
      clear ho
      subst ho2
      have e73 : a'.eval (.tmp 73) = .tuple #[.int .i64 (getV p.1 X).1, .bool b] := hdep ⟨7, .data⟩ (by simp) rfl
      have g73 : (a'.tmps[73]?).getD undef = .tuple #[.int .i64 (getV p.1 X).1, .bool b] := by rw [← Array.getD_eq_getD_getElem?]; exact e73
      refine wpList_step fun K hK => ?_
      rw [if_pos hwant]
      exact Inv.wp_val (.bool b) (by simp only [execOp]; go_simp) (hK _ _ (hQ _ _ (Off.refl [] _) H rfl))
    | 10, ho =>
      have ho2 := Option.some.inj ho
      clear ho
      subst ho2
      have e81 : a'.eval (.tmp 81) = .int .i64 (getV p.1 X).1 := hdep ⟨8, .data⟩ (by simp) rfl
      have g81 : (a'.tmps[81]?).getD undef = .int .i64 (getV p.1 X).1 := by rw [← Array.getD_eq_getD_getElem?]; exact e81
      refine wpList_step fun K hK => ?_
      rw [if_pos hwant]
      exact Inv.wp_val (.int .i64 (getV p.1 X).1) (by simp only [execOp]; go_simp) (hK _ _ (hQ _ _ (Off.refl [] _) H rfl))
    | 11, ho =>
      have ho2 := Option.some.inj ho
      clear ho
      subst ho2
      have e82 : a'.eval (.tmp 82) = .bool b := hdep ⟨9, .data⟩ (by simp) rfl
      have g82 : (a'.tmps[82]?).getD undef = .bool b := by rw [← Array.getD_eq_getD_getElem?]; exact e82
      refine wpList_step fun K hK => ?_
      rw [if_pos hwant]
      exact Inv.wp_val (.bool b) (by simp only [execOp]; go_simp) (hK _ _ (hQ _ _ (Off.refl [] _) H rfl))
    | _ + 12, ho => simp at ho
  · intro i o ho a' w' hdep hwant
    match i, ho with
    | 0, ho =>
      have ho2 := Option.some.inj ho
      clear ho
      subst ho2
      exact (skip_none hwant rfl).elim
    | 1, ho =>
      have ho2 := Option.some.inj ho
      clear ho
      subst ho2
      exact (skip_none hwant rfl).elim
    | 2, ho =>
      have ho2 := Option.some.inj ho
      clear ho
      subst ho2
      exact (skip_none hwant rfl).elim
    | 3, ho =>
      have ho2 := Option.some.inj ho
      clear ho
      subst ho2
      exact (skip_none hwant rfl).elim
    | 4, ho =>
      have ho2 := Option.some.inj ho
      clear ho
      subst ho2
      exact (skip_none hwant rfl).elim
    | 5, ho =>
      have ho2 := Option.some.inj ho
      clear ho
      subst ho2
      exact (skip_none hwant rfl).elim
    | 6, ho =>
      have ho2 := Option.some.inj ho
      clear ho
      subst ho2
      exact (skip_none hwant rfl).elim
    | 7, ho =>
      have ho2 := Option.some.inj ho
      clear ho
      subst ho2
      exact (skip_none hwant rfl).elim
    | 8, ho =>
      have ho2 := Option.some.inj ho
      clear ho
      subst ho2
      exact (skip_none hwant rfl).elim
    | 9, ho =>
      have ho2 := Option.some.inj ho
      clear ho
      subst ho2
      exact (skip_none hwant rfl).elim
    | 10, ho =>
      have ho2 := Option.some.inj ho
      clear ho
      subst ho2
      exact (skip_none hwant rfl).elim
    | 11, ho =>
      have ho2 := Option.some.inj ho
      clear ho
      subst ho2
      exact (skip_none hwant rfl).elim
    | _ + 12, ho => simp at ho
  · clear H
    intro vs w5 H hv
    have v0 : vs 0 = .agg #[.int .i64 k, .slice ax X.length cx] := hv 0 (by decide)
    have v1 : vs 1 = .slice (some y) m c15 := hv 1 (by decide)
    have v2 : vs 2 = .int .i64 ii := hv 2 (by decide)
    have v3 : vs 3 = .pointer (some (y.add (ii * 2))) := hv 3 (by decide)
    have v4 : vs 4 = .pointer (some (y.add (ii * 2))) := hv 4 (by decide)
    have v5 : vs 5 = .string p.1 := hv 5 (by decide)
    have v6 : vs 6 = .tuple #[.int .i64 (getV p.1 X).1, .bool b] := hv 6 (by decide)
    have v7 : vs 7 = .tuple #[.int .i64 (getV p.1 X).1, .bool b] := hv 7 (by decide)
    have v8 : vs 8 = .int .i64 (getV p.1 X).1 := hv 8 (by decide)
    have v9 : vs 9 = .bool b := hv 9 (by decide)
    have v10 : vs 10 = .int .i64 (getV p.1 X).1 := hv 10 (by decide)
    have v11 : vs 11 = .bool b := hv 11 (by decide)
    clear hv
    simp only [List.size_toArray, List.length_cons, List.length_nil, Nat.reduceAdd, Inv.putAll, Inv.dstAt, List.getElem?_toArray, List.getElem?_cons_zero, List.getElem?_cons_succ, Option.bind_some, v0, v1, v2, v3, v4, v5, v6, v7, v8, v9, v10, v11]
    exact hfin _ H
theorem parts16 (k : Int) (ax : Option Addr) (X ps : List PairV) (cx c15 m ii bx : Nat) (y : Addr) (p : PairV) (b : Bool) (hlt : ii < m) (hX : Sorted X) (hXb : X.length ≤ 1000000) (hg : (getV p.1 X).2 = b) (HR : (ps.map rowOf)[ii]? = some [.string p.1, .int .i64 p.2]) {w0 w : World} {R : List Res} (H : Hid (Hp [] w0 w R)) (m1 : rB bx 43 [.int .i64 k, .slice ax X.length cx] ∈ R) (m2 : rS ax cx 2 (X.map rowOf) ∈ R) (m3 : rS (some y) c15 2 (ps.map rowOf) ∈ R) (a0 : Act) (hN : a0.tmps.size = 137) (o14 : a0.eval (.tmp 14) = .pointer (some ⟨bx, 0, none⟩)) (o15 : a0.eval (.tmp 15) = .slice (some y) m c15) (o16 : a0.eval (.tmp 16) = .int .i64 ii) {Q : Exit → Act → World → Prop} (hfin : ∀ w', Hid (Hp [] w0 w' R) → Q .normal ((((((((((((a0.put (some 84) (.agg #[.int .i64 k, .slice ax X.length cx])).put (some 85) (.slice (some y) m c15)).put (some 86) (.int .i64 ii)).put (some 87) (.pointer (some (y.add (ii * 2))))).put (some 88) (.pointer (some (y.add (ii * 2))))).put (some 89) (.string p.1)).put (some 90) (.tuple #[.int .i64 (getV p.1 X).1, .bool b])).put (some 83) (.tuple #[.int .i64 (getV p.1 X).1, .bool b])).put (some 91) (.int .i64 (getV p.1 X).1)).put (some 92) (.bool b)).put (some 19) (.int .i64 (getV p.1 X).1)).put (some 20) (.bool b)) w') : (Code.region 16 #[{ dst := some 84, op := Op.load 43 (Operand.tmp 14), type := 43, pos := "own.go:97", after := #[], guard := none }, { dst := some 85, op := Op.move (Operand.tmp 15), type := 41, pos := "own.go:97", after := #[], guard := none }, { dst := some 86, op := Op.move (Operand.tmp 16), type := 3, pos := "own.go:97", after := #[], guard := none }, { dst := some 87, op := Op.indexAddr 41 (Operand.tmp 85) (Operand.tmp 86), type := 0, pos := "own.go:97", after := #[{ on := 1, ground := Ground.data }, { on := 2, ground := Ground.data }], guard := none }, { dst := some 88, op := Op.fieldAddr 62 (Operand.tmp 87) 0, type := 0, pos := "own.go:97", after := #[{ on := 3, ground := Ground.data }], guard := none }, { dst := some 89, op := Op.load 9 (Operand.tmp 88), type := 9, pos := "own.go:97", after := #[{ on := 4, ground := Ground.data }], guard := none }, { dst := some 90, op := Op.call { callee := Callee.value (Operand.func 29), args := #[Operand.tmp 84, Operand.tmp 89], argTypes := #[43, 9] }, type := 48, pos := "own.go:97", after := #[{ on := 0, ground := Ground.data }, { on := 5, ground := Ground.data }], guard := none }, { dst := some 83, op := Op.move (Operand.tmp 90), type := 48, pos := "own.go:97", after := #[{ on := 6, ground := Ground.data }], guard := none }, { dst := some 91, op := Op.extract (Operand.tmp 83) 0, type := 3, pos := "own.go:97", after := #[{ on := 7, ground := Ground.data }], guard := none }, { dst := some 92, op := Op.extract (Operand.tmp 83) 1, type := 4, pos := "own.go:97", after := #[{ on := 7, ground := Ground.data }, { on := 10, ground := Ground.gcOnly Departure.lateStores }], guard := none }, { dst := some 19, op := Op.assign (Operand.tmp 91), type := 3, pos := "own.go:97", after := #[{ on := 8, ground := Ground.data }, { on := 6, ground := Ground.chain }, { on := 0, ground := Ground.phase }, { on := 1, ground := Ground.phase }, { on := 2, ground := Ground.phase }, { on := 3, ground := Ground.phase }, { on := 4, ground := Ground.phase }, { on := 5, ground := Ground.phase }, { on := 6, ground := Ground.phase }, { on := 7, ground := Ground.phase }, { on := 8, ground := Ground.phase }, { on := 9, ground := Ground.textOnly Departure.lateStores }], guard := none }, { dst := some 20, op := Op.assign (Operand.tmp 92), type := 4, pos := "own.go:97", after := #[{ on := 9, ground := Ground.data }, { on := 10, ground := Ground.chain }, { on := 0, ground := Ground.phase }, { on := 1, ground := Ground.phase }, { on := 2, ground := Ground.phase }, { on := 3, ground := Ground.phase }, { on := 4, ground := Ground.phase }, { on := 5, ground := Ground.phase }, { on := 6, ground := Ground.phase }, { on := 7, ground := Ground.phase }, { on := 8, ground := Ground.phase }, { on := 9, ground := Ground.phase }, { on := 10, ground := Ground.phase }], guard := none }] true).wp Try.prog Q a0 w := by
  refine hp_walksF H (fun j v w' => match j with | 0 => v = .agg #[.int .i64 k, .slice ax X.length cx] | 1 => v = .slice (some y) m c15 | 2 => v = .int .i64 ii | 3 => v = .pointer (some (y.add (ii * 2))) | 4 => v = .pointer (some (y.add (ii * 2))) | 5 => v = .string p.1 | 6 => v = .tuple #[.int .i64 (getV p.1 X).1, .bool b] | 7 => v = .tuple #[.int .i64 (getV p.1 X).1, .bool b] | 8 => v = .int .i64 (getV p.1 X).1 | 9 => v = .bool b | 10 => v = .int .i64 (getV p.1 X).1 | 11 => v = .bool b | _ => True) ?_ (by kernel_rfl) ⟨[0, 0, 0, 1, 2, 3, 4, 5, 6, 6, 7, 8], by kernel_rfl⟩ (by kernel_rfl) 137 hN (by kernel_rfl) (by kernel_rfl) ?_ ?_ ?_
  · intro j v w' w'' h ho
    match j, h with
    | 0, h => exact h
    | 1, h => exact h
    | 2, h => exact h
    | 3, h => exact h
    | 4, h => exact h
    | 5, h => exact h
    | 6, h => exact h
    | 7, h => exact h
    | 8, h => exact h
    | 9, h => exact h
    | 10, h => exact h
    | 11, h => exact h
    | _ + 12, _ => trivial
  · intro i o ho a' w' hfr H hdep hwant Q' hQ
    match i, ho with
    | 0, ho =>
      have ho2 := Option.some.inj ho
      clear ho
      subst ho2
      have e14 : a'.eval (.tmp 14) = .pointer (some ⟨bx, 0, none⟩) := (hfr.old 14 (by kernel_rfl)).trans o14
      have g14 : (a'.tmps[14]?).getD undef = .pointer (some ⟨bx, 0, none⟩) := by rw [← Array.getD_eq_getD_getElem?]; exact e14
      refine hpA_load tyshelf_Shelf_string__int_ H rfl e14 hwant (by first | assumption | ((repeat (first | exact List.Mem.head _ | apply List.Mem.tail)))) rfl rfl ?_
      exact hQ _ _ (Off.refl [] _) H rfl
    | 1, ho =>
      have ho2 := Option.some.inj ho
      clear ho
      subst ho2
      have e15 : a'.eval (.tmp 15) = .slice (some y) m c15 := (hfr.old 15 (by kernel_rfl)).trans o15
      have g15 : (a'.tmps[15]?).getD undef = .slice (some y) m c15 := by rw [← Array.getD_eq_getD_getElem?]; exact e15
      refine wpList_step fun K hK => ?_
      rw [if_pos hwant]
      exact Inv.wp_val (.slice (some y) m c15) (by simp only [execOp]; go_simp) (hK _ _ (hQ _ _ (Off.refl [] _) H rfl))
    | 2, ho =>
      have ho2 := Option.some.inj ho
      clear ho
      subst ho2
      have e16 : a'.eval (.tmp 16) = .int .i64 ii := (hfr.old 16 (by kernel_rfl)).trans o16
      have g16 : (a'.tmps[16]?).getD undef = .int .i64 ii := by rw [← Array.getD_eq_getD_getElem?]; exact e16
      refine wpList_step fun K hK => ?_
      rw [if_pos hwant]
      exact Inv.wp_val (.int .i64 ii) (by simp only [execOp]; go_simp) (hK _ _ (hQ _ _ (Off.refl [] _) H rfl))
    | 3, ho =>
      have ho2 := Option.some.inj ho
      clear ho
      subst ho2
      have e85 : a'.eval (.tmp 85) = .slice (some y) m c15 := hdep ⟨1, .data⟩ (by simp) rfl
      have g85 : (a'.tmps[85]?).getD undef = .slice (some y) m c15 := by rw [← Array.getD_eq_getD_getElem?]; exact e85
      have e86 : a'.eval (.tmp 86) = .int .i64 ii := hdep ⟨2, .data⟩ (by simp) rfl
      have g86 : (a'.tmps[86]?).getD undef = .int .i64 ii := by rw [← Array.getD_eq_getD_getElem?]; exact e86
      refine wpList_step fun K hK => ?_
      rw [if_pos hwant]
      exact Inv.wp_val (.pointer (some (y.add (ii * 2)))) (by simp only [execOp]; go_simp) (hK _ _ (hQ _ _ (Off.refl [] _) H rfl))
    | 4, ho =>
      have ho2 := Option.some.inj ho
      clear ho
      subst ho2
      have e87 : a'.eval (.tmp 87) = .pointer (some (y.add (ii * 2))) := hdep ⟨3, .data⟩ (by simp) rfl
      have g87 : (a'.tmps[87]?).getD undef = .pointer (some (y.add (ii * 2))) := by rw [← Array.getD_eq_getD_getElem?]; exact e87
      refine wpList_step fun K hK => ?_
      rw [if_pos hwant]
      exact Inv.wp_val (.pointer (some (y.add (ii * 2)))) (by simp only [execOp]; go_simp) (hK _ _ (hQ _ _ (Off.refl [] _) H rfl))
    | 5, ho =>
      have ho2 := Option.some.inj ho
      clear ho
      subst ho2
      have e88 : a'.eval (.tmp 88) = .pointer (some (y.add (ii * 2))) := hdep ⟨4, .data⟩ (by simp) rfl
      have g88 : (a'.tmps[88]?).getD undef = .pointer (some (y.add (ii * 2))) := by rw [← Array.getD_eq_getD_getElem?]; exact e88
      refine hpS_load1 0 tystring H rfl e88 hwant (by first | assumption | ((repeat (first | exact List.Mem.head _ | apply List.Mem.tail)))) HR rfl (by simp [Addr.add]) ?_
      exact hQ _ _ (Off.refl [] _) H rfl
    | 6, ho =>
      have ho2 := Option.some.inj ho
      clear ho
      subst ho2
      have e84 : a'.eval (.tmp 84) = .agg #[.int .i64 k, .slice ax X.length cx] := hdep ⟨0, .data⟩ (by simp) rfl
      have g84 : (a'.tmps[84]?).getD undef = .agg #[.int .i64 k, .slice ax X.length cx] := by rw [← Array.getD_eq_getD_getElem?]; exact e84
      have e89 : a'.eval (.tmp 89) = .string p.1 := hdep ⟨5, .data⟩ (by simp) rfl
      have g89 : (a'.tmps[89]?).getD undef = .string p.1 := by rw [← Array.getD_eq_getD_getElem?]; exact e89
      refine wpList_step fun K hK => ?_
      rw [if_pos hwant]
      refine Inv.wp_call 29 #[.agg #[.int .i64 k, .slice ax X.length cx], .string p.1] (by simp only [execOp]; go_simp) (by have h9 := getC k _ _ X p.1 w' (hp_held H m2) hX hXb; rw [hg] at h9; exact h9) ?_
      rintro e w2 ⟨rfl, ho⟩
      exact ⟨_, rfl, hK _ _ (hQ _ _ ho (Lib.hid (H.out.quiet ho)) rfl)⟩
    | 7, ho =>
      have ho2 := Option.some.inj ho
      clear ho
      subst ho2
      have e90 : a'.eval (.tmp 90) = .tuple #[.int .i64 (getV p.1 X).1, .bool b] := hdep ⟨6, .data⟩ (by simp) rfl
      have g90 : (a'.tmps[90]?).getD undef = .tuple #[.int .i64 (getV p.1 X).1, .bool b] := by rw [← Array.getD_eq_getD_getElem?]; exact e90
      refine wpList_step fun K hK => ?_
      rw [if_pos hwant]
      exact Inv.wp_val (.tuple #[.int .i64 (getV p.1 X).1, .bool b]) (by simp only [execOp]; go_simp) (hK _ _ (hQ _ _ (Off.refl [] _) H rfl))
    | 8, ho =>
      have ho2 := Option.some.inj ho
      clear ho
      subst ho2
      have e83 : a'.eval (.tmp 83) = .tuple #[.int .i64 (getV p.1 X).1, .bool b] := hdep ⟨7, .data⟩ (by simp) rfl
      have g83 : (a'.tmps[83]?).getD undef = .tuple #[.int .i64 (getV p.1 X).1, .bool b] := by rw [← Array.getD_eq_getD_getElem?]; exact e83
      refine wpList_step fun K hK => ?_
      rw [if_pos hwant]
      exact Inv.wp_val (.int .i64 (getV p.1 X).1) (by simp only [execOp]; go_simp) (hK _ _ (hQ _ _ (Off.refl [] _) H rfl))
    | 9, ho =>
      have ho2 := Option.some.inj ho
      clear ho
      subst ho2
      have e83 : a'.eval (.tmp 83) = .tuple #[.int .i64 (getV p.1 X).1, .bool b] := hdep ⟨7, .data⟩ (by simp) rfl
      have g83 : (a'.tmps[83]?).getD undef = .tuple #[.int .i64 (getV p.1 X).1, .bool b] := by rw [← Array.getD_eq_getD_getElem?]; exact e83
      refine wpList_step fun K hK => ?_
      rw [if_pos hwant]
      exact Inv.wp_val (.bool b) (by simp only [execOp]; go_simp) (hK _ _ (hQ _ _ (Off.refl [] _) H rfl))
    | 10, ho =>
      have ho2 := Option.some.inj ho
      clear ho
      subst ho2
      have e91 : a'.eval (.tmp 91) = .int .i64 (getV p.1 X).1 := hdep ⟨8, .data⟩ (by simp) rfl
      have g91 : (a'.tmps[91]?).getD undef = .int .i64 (getV p.1 X).1 := by rw [← Array.getD_eq_getD_getElem?]; exact e91
      refine wpList_step fun K hK => ?_
      rw [if_pos hwant]
      exact Inv.wp_val (.int .i64 (getV p.1 X).1) (by simp only [execOp]; go_simp) (hK _ _ (hQ _ _ (Off.refl [] _) H rfl))
    | 11, ho =>
      have ho2 := Option.some.inj ho
      clear ho
      subst ho2
      have e92 : a'.eval (.tmp 92) = .bool b := hdep ⟨9, .data⟩ (by simp) rfl
      have g92 : (a'.tmps[92]?).getD undef = .bool b := by rw [← Array.getD_eq_getD_getElem?]; exact e92
      refine wpList_step fun K hK => ?_
      rw [if_pos hwant]
      exact Inv.wp_val (.bool b) (by simp only [execOp]; go_simp) (hK _ _ (hQ _ _ (Off.refl [] _) H rfl))
    | _ + 12, ho => simp at ho
  · intro i o ho a' w' hdep hwant
    match i, ho with
    | 0, ho =>
      have ho2 := Option.some.inj ho
      clear ho
      subst ho2
      exact (skip_none hwant rfl).elim
    | 1, ho =>
      have ho2 := Option.some.inj ho
      clear ho
      subst ho2
      exact (skip_none hwant rfl).elim
    | 2, ho =>
      have ho2 := Option.some.inj ho
      clear ho
      subst ho2
      exact (skip_none hwant rfl).elim
    | 3, ho =>
      have ho2 := Option.some.inj ho
      clear ho
      subst ho2
      exact (skip_none hwant rfl).elim
    | 4, ho =>
      have ho2 := Option.some.inj ho
      clear ho
      subst ho2
      exact (skip_none hwant rfl).elim
    | 5, ho =>
      have ho2 := Option.some.inj ho
      clear ho
      subst ho2
      exact (skip_none hwant rfl).elim
    | 6, ho =>
      have ho2 := Option.some.inj ho
      clear ho
      subst ho2
      exact (skip_none hwant rfl).elim
    | 7, ho =>
      have ho2 := Option.some.inj ho
      clear ho
      subst ho2
      exact (skip_none hwant rfl).elim
    | 8, ho =>
      have ho2 := Option.some.inj ho
      clear ho
      subst ho2
      exact (skip_none hwant rfl).elim
    | 9, ho =>
      have ho2 := Option.some.inj ho
      clear ho
      subst ho2
      exact (skip_none hwant rfl).elim
    | 10, ho =>
      have ho2 := Option.some.inj ho
      clear ho
      subst ho2
      exact (skip_none hwant rfl).elim
    | 11, ho =>
      have ho2 := Option.some.inj ho
      clear ho
      subst ho2
      exact (skip_none hwant rfl).elim
    | _ + 12, ho => simp at ho
  · clear H
    intro vs w5 H hv
    have v0 : vs 0 = .agg #[.int .i64 k, .slice ax X.length cx] := hv 0 (by decide)
    have v1 : vs 1 = .slice (some y) m c15 := hv 1 (by decide)
    have v2 : vs 2 = .int .i64 ii := hv 2 (by decide)
    have v3 : vs 3 = .pointer (some (y.add (ii * 2))) := hv 3 (by decide)
    have v4 : vs 4 = .pointer (some (y.add (ii * 2))) := hv 4 (by decide)
    have v5 : vs 5 = .string p.1 := hv 5 (by decide)
    have v6 : vs 6 = .tuple #[.int .i64 (getV p.1 X).1, .bool b] := hv 6 (by decide)
    have v7 : vs 7 = .tuple #[.int .i64 (getV p.1 X).1, .bool b] := hv 7 (by decide)
    have v8 : vs 8 = .int .i64 (getV p.1 X).1 := hv 8 (by decide)
    have v9 : vs 9 = .bool b := hv 9 (by decide)
    have v10 : vs 10 = .int .i64 (getV p.1 X).1 := hv 10 (by decide)
    have v11 : vs 11 = .bool b := hv 11 (by decide)
    clear hv
    simp only [List.size_toArray, List.length_cons, List.length_nil, Nat.reduceAdd, Inv.putAll, Inv.dstAt, List.getElem?_toArray, List.getElem?_cons_zero, List.getElem?_cons_succ, Option.bind_some, v0, v1, v2, v3, v4, v5, v6, v7, v8, v9, v10, v11]
    exact hfin _ H
theorem parts17 (t : Int) (ps : List PairV) (c15 m ii b12 : Nat) (y : Addr) (p : PairV) (b : Bool) (hlt : ii < m) (ht : 2 ≤ t ∧ t ≤ 4) (hq9 : keptV t p = b) (hb1 : (b == !b) = false) (hb2 : (b != b) = false) (HR : (ps.map rowOf)[ii]? = some [.string p.1, .int .i64 p.2]) {w0 w : World} {R : List Res} (H : Hid (Hp [] w0 w R)) (m1 : rB b12 56 [.int .i64 t] ∈ R) (m3 : rS (some y) c15 2 (ps.map rowOf) ∈ R) (a0 : Act) (hN : a0.tmps.size = 137) (o18 : a0.eval (.tmp 18) = .bool b) (o20 : a0.eval (.tmp 20) = .bool (!b)) (o12 : a0.eval (.tmp 12) = .pointer (some ⟨b12, 0, none⟩)) (o15 : a0.eval (.tmp 15) = .slice (some y) m c15) (o16 : a0.eval (.tmp 16) = .int .i64 ii) {Q : Exit → Act → World → Prop} (hfin : ∀ w', Hid (Hp [] w0 w' R) → Q .normal (((((((((((((((((((a0.put (some 93) (.bool b)).put (some 94) (.bool (!b))).put (some 95) (.bool false)).put (some 96) (.bool false)).put (some 97) (.bool b)).put (some 98) (.agg #[.int .i64 t])).put (some 99) (.slice (some y) m c15)).put (some 100) (.int .i64 ii)).put (some 101) (.pointer (some (y.add (ii * 2))))).put (some 102) (.pointer (some (y.add (ii * 2))))).put (some 103) (.string p.1)).put (some 104) (.slice (some y) m c15)).put (some 105) (.int .i64 ii)).put (some 106) (.pointer (some (y.add (ii * 2))))).put (some 107) (.pointer (some ⟨(y.add (ii * 2)).block, (y.add (ii * 2)).off + 1, none⟩))).put (some 108) (.int .i64 p.2)).put (some 109) (.bool b)).put (some 110) (.bool false)).put (some 111) (.bool false)) w') : (Code.region 17 #[{ dst := some 93, op := Op.move (Operand.tmp 18), type := 4, pos := "own.go:98", after := #[], guard := none }, { dst := some 94, op := Op.move (Operand.tmp 20), type := 4, pos := "own.go:98", after := #[], guard := none }, { dst := some 95, op := Op.binOp BinOp.eql 4 (Operand.tmp 93) (Operand.tmp 94) 4, type := 4, pos := "own.go:98", after := #[{ on := 0, ground := Ground.data }, { on := 1, ground := Ground.data }], guard := none }, { dst := some 96, op := Op.move (Operand.tmp 95), type := 4, pos := "own.go:98", after := #[{ on := 2, ground := Ground.data }], guard := none }, { dst := some 97, op := Op.move (Operand.tmp 18), type := 4, pos := "own.go:98", after := #[{ on := 3, ground := Ground.guard }], guard := some (3, false) }, { dst := some 98, op := Op.load 56 (Operand.tmp 12), type := 56, pos := "own.go:98", after := #[{ on := 3, ground := Ground.guard }], guard := some (3, false) }, { dst := some 99, op := Op.move (Operand.tmp 15), type := 41, pos := "own.go:98", after := #[{ on := 3, ground := Ground.guard }], guard := some (3, false) }, { dst := some 100, op := Op.move (Operand.tmp 16), type := 3, pos := "own.go:98", after := #[{ on := 3, ground := Ground.guard }], guard := some (3, false) }, { dst := some 101, op := Op.indexAddr 41 (Operand.tmp 99) (Operand.tmp 100), type := 0, pos := "own.go:98", after := #[{ on := 6, ground := Ground.data }, { on := 7, ground := Ground.data }, { on := 3, ground := Ground.guard }], guard := some (3, false) }, { dst := some 102, op := Op.fieldAddr 62 (Operand.tmp 101) 0, type := 0, pos := "own.go:98", after := #[{ on := 8, ground := Ground.data }, { on := 3, ground := Ground.guard }], guard := some (3, false) }, { dst := some 103, op := Op.load 9 (Operand.tmp 102), type := 9, pos := "own.go:98", after := #[{ on := 9, ground := Ground.data }, { on := 3, ground := Ground.guard }], guard := some (3, false) }, { dst := some 104, op := Op.move (Operand.tmp 15), type := 41, pos := "own.go:98", after := #[{ on := 3, ground := Ground.guard }], guard := some (3, false) }, { dst := some 105, op := Op.move (Operand.tmp 16), type := 3, pos := "own.go:98", after := #[{ on := 3, ground := Ground.guard }], guard := some (3, false) }, { dst := some 106, op := Op.indexAddr 41 (Operand.tmp 104) (Operand.tmp 105), type := 0, pos := "own.go:98", after := #[{ on := 11, ground := Ground.data }, { on := 12, ground := Ground.data }, { on := 3, ground := Ground.guard }], guard := some (3, false) }, { dst := some 107, op := Op.fieldAddr 62 (Operand.tmp 106) 1, type := 0, pos := "own.go:98", after := #[{ on := 13, ground := Ground.data }, { on := 3, ground := Ground.guard }], guard := some (3, false) }, { dst := some 108, op := Op.load 3 (Operand.tmp 107), type := 3, pos := "own.go:98", after := #[{ on := 14, ground := Ground.data }, { on := 3, ground := Ground.guard }], guard := some (3, false) }, { dst := some 109, op := Op.call { callee := Callee.value (Operand.func 33), args := #[Operand.tmp 98, Operand.tmp 103, Operand.tmp 108], argTypes := #[56, 9, 3] }, type := 4, pos := "own.go:98", after := #[{ on := 5, ground := Ground.data }, { on := 10, ground := Ground.data }, { on := 15, ground := Ground.data }, { on := 3, ground := Ground.chain }, { on := 3, ground := Ground.guard }], guard := some (3, false) }, { dst := some 110, op := Op.binOp BinOp.neq 4 (Operand.tmp 97) (Operand.tmp 109) 4, type := 4, pos := "own.go:98", after := #[{ on := 4, ground := Ground.data }, { on := 16, ground := Ground.data }, { on := 3, ground := Ground.guard }], guard := some (3, false) }, { dst := some 111, op := Op.pick (Operand.tmp 96) (Operand.const (Value.bool true)) (Operand.tmp 110), type := 4, pos := "own.go:98", after := #[{ on := 3, ground := Ground.data }, { on := 17, ground := Ground.data }], guard := none }] true).wp Try.prog Q a0 w := by
  refine hp_walksF H (fun j v w' => match j with | 0 => v = .bool b | 1 => v = .bool (!b) | 2 => v = .bool false | 3 => v = .bool false | 4 => v = .bool b | 5 => v = .agg #[.int .i64 t] | 6 => v = .slice (some y) m c15 | 7 => v = .int .i64 ii | 8 => v = .pointer (some (y.add (ii * 2))) | 9 => v = .pointer (some (y.add (ii * 2))) | 10 => v = .string p.1 | 11 => v = .slice (some y) m c15 | 12 => v = .int .i64 ii | 13 => v = .pointer (some (y.add (ii * 2))) | 14 => v = .pointer (some ⟨(y.add (ii * 2)).block, (y.add (ii * 2)).off + 1, none⟩) | 15 => v = .int .i64 p.2 | 16 => v = .bool b | 17 => v = .bool false | 18 => v = .bool false | _ => True) ?_ (by kernel_rfl) ⟨[0, 0, 1, 2, 3, 3, 3, 3, 4, 5, 6, 3, 3, 4, 5, 6, 7, 8, 9], by kernel_rfl⟩ (by kernel_rfl) 137 hN (by kernel_rfl) (by kernel_rfl) ?_ ?_ ?_
  · intro j v w' w'' h ho
    match j, h with
    | 0, h => exact h
    | 1, h => exact h
    | 2, h => exact h
    | 3, h => exact h
    | 4, h => exact h
    | 5, h => exact h
    | 6, h => exact h
    | 7, h => exact h
    | 8, h => exact h
    | 9, h => exact h
    | 10, h => exact h
    | 11, h => exact h
    | 12, h => exact h
    | 13, h => exact h
    | 14, h => exact h
    | 15, h => exact h
    | 16, h => exact h
    | 17, h => exact h
    | 18, h => exact h
    | _ + 19, _ => trivial
  · intro i o ho a' w' hfr H hdep hwant Q' hQ
    match i, ho with
    | 0, ho =>
      have ho2 := Option.some.inj ho
      clear ho
      subst ho2
      have e18 : a'.eval (.tmp 18) = .bool b := (hfr.old 18 (by kernel_rfl)).trans o18
      have g18 : (a'.tmps[18]?).getD undef = .bool b := by rw [← Array.getD_eq_getD_getElem?]; exact e18
      refine wpList_step fun K hK => ?_
      rw [if_pos hwant]
      exact Inv.wp_val (.bool b) (by simp only [execOp]; go_simp) (hK _ _ (hQ _ _ (Off.refl [] _) H rfl))
    | 1, ho =>
      have ho2 := Option.some.inj ho
      clear ho
      subst ho2
      have e20 : a'.eval (.tmp 20) = .bool (!b) := (hfr.old 20 (by kernel_rfl)).trans o20
      have g20 : (a'.tmps[20]?).getD undef = .bool (!b) := by rw [← Array.getD_eq_getD_getElem?]; exact e20
      refine wpList_step fun K hK => ?_
      rw [if_pos hwant]
      exact Inv.wp_val (.bool (!b)) (by simp only [execOp]; go_simp) (hK _ _ (hQ _ _ (Off.refl [] _) H rfl))
    | 2, ho =>
      have ho2 := Option.some.inj ho
      clear ho
      subst ho2
      have e93 : a'.eval (.tmp 93) = .bool b := hdep ⟨0, .data⟩ (by simp) rfl
      have g93 : (a'.tmps[93]?).getD undef = .bool b := by rw [← Array.getD_eq_getD_getElem?]; exact e93
      have e94 : a'.eval (.tmp 94) = .bool (!b) := hdep ⟨1, .data⟩ (by simp) rfl
      have g94 : (a'.tmps[94]?).getD undef = .bool (!b) := by rw [← Array.getD_eq_getD_getElem?]; exact e94
      refine wpList_step fun K hK => ?_
      rw [if_pos hwant]
      exact Inv.wp_val (.bool false) (by simp only [execOp]; go_simp) (hK _ _ (hQ _ _ (Off.refl [] _) H rfl))
    | 3, ho =>
      have ho2 := Option.some.inj ho
      clear ho
      subst ho2
      have e95 : a'.eval (.tmp 95) = .bool false := hdep ⟨2, .data⟩ (by simp) rfl
      have g95 : (a'.tmps[95]?).getD undef = .bool false := by rw [← Array.getD_eq_getD_getElem?]; exact e95
      refine wpList_step fun K hK => ?_
      rw [if_pos hwant]
      exact Inv.wp_val (.bool false) (by simp only [execOp]; go_simp) (hK _ _ (hQ _ _ (Off.refl [] _) H rfl))
    | 4, ho =>
      have ho2 := Option.some.inj ho
      clear ho
      subst ho2
      have e18 : a'.eval (.tmp 18) = .bool b := (hfr.old 18 (by kernel_rfl)).trans o18
      have g18 : (a'.tmps[18]?).getD undef = .bool b := by rw [← Array.getD_eq_getD_getElem?]; exact e18
      refine wpList_step fun K hK => ?_
      rw [if_pos hwant]
      exact Inv.wp_val (.bool b) (by simp only [execOp]; go_simp) (hK _ _ (hQ _ _ (Off.refl [] _) H rfl))
    | 5, ho =>
      have ho2 := Option.some.inj ho
      clear ho
      subst ho2
      have e12 : a'.eval (.tmp 12) = .pointer (some ⟨b12, 0, none⟩) := (hfr.old 12 (by kernel_rfl)).trans o12
      have g12 : (a'.tmps[12]?).getD undef = .pointer (some ⟨b12, 0, none⟩) := by rw [← Array.getD_eq_getD_getElem?]; exact e12
      refine hpA_load tyhoistwaylaw06_part H rfl e12 hwant (by first | assumption | ((repeat (first | exact List.Mem.head _ | apply List.Mem.tail)))) rfl rfl ?_
      exact hQ _ _ (Off.refl [] _) H rfl
    | 6, ho =>
      have ho2 := Option.some.inj ho
      clear ho
      subst ho2
      have e15 : a'.eval (.tmp 15) = .slice (some y) m c15 := (hfr.old 15 (by kernel_rfl)).trans o15
      have g15 : (a'.tmps[15]?).getD undef = .slice (some y) m c15 := by rw [← Array.getD_eq_getD_getElem?]; exact e15
      refine wpList_step fun K hK => ?_
      rw [if_pos hwant]
      exact Inv.wp_val (.slice (some y) m c15) (by simp only [execOp]; go_simp) (hK _ _ (hQ _ _ (Off.refl [] _) H rfl))
    | 7, ho =>
      have ho2 := Option.some.inj ho
      clear ho
      subst ho2
      have e16 : a'.eval (.tmp 16) = .int .i64 ii := (hfr.old 16 (by kernel_rfl)).trans o16
      have g16 : (a'.tmps[16]?).getD undef = .int .i64 ii := by rw [← Array.getD_eq_getD_getElem?]; exact e16
      refine wpList_step fun K hK => ?_
      rw [if_pos hwant]
      exact Inv.wp_val (.int .i64 ii) (by simp only [execOp]; go_simp) (hK _ _ (hQ _ _ (Off.refl [] _) H rfl))
    | 8, ho =>
      have ho2 := Option.some.inj ho
      clear ho
      subst ho2
      have e99 : a'.eval (.tmp 99) = .slice (some y) m c15 := hdep ⟨6, .data⟩ (by simp) rfl
      have g99 : (a'.tmps[99]?).getD undef = .slice (some y) m c15 := by rw [← Array.getD_eq_getD_getElem?]; exact e99
      have e100 : a'.eval (.tmp 100) = .int .i64 ii := hdep ⟨7, .data⟩ (by simp) rfl
      have g100 : (a'.tmps[100]?).getD undef = .int .i64 ii := by rw [← Array.getD_eq_getD_getElem?]; exact e100
      refine wpList_step fun K hK => ?_
      rw [if_pos hwant]
      exact Inv.wp_val (.pointer (some (y.add (ii * 2)))) (by simp only [execOp]; go_simp) (hK _ _ (hQ _ _ (Off.refl [] _) H rfl))
    | 9, ho =>
      have ho2 := Option.some.inj ho
      clear ho
      subst ho2
      have e101 : a'.eval (.tmp 101) = .pointer (some (y.add (ii * 2))) := hdep ⟨8, .data⟩ (by simp) rfl
      have g101 : (a'.tmps[101]?).getD undef = .pointer (some (y.add (ii * 2))) := by rw [← Array.getD_eq_getD_getElem?]; exact e101
      refine wpList_step fun K hK => ?_
      rw [if_pos hwant]
      exact Inv.wp_val (.pointer (some (y.add (ii * 2)))) (by simp only [execOp]; go_simp) (hK _ _ (hQ _ _ (Off.refl [] _) H rfl))
    | 10, ho =>
      have ho2 := Option.some.inj ho
      clear ho
      subst ho2
      have e102 : a'.eval (.tmp 102) = .pointer (some (y.add (ii * 2))) := hdep ⟨9, .data⟩ (by simp) rfl
      have g102 : (a'.tmps[102]?).getD undef = .pointer (some (y.add (ii * 2))) := by rw [← Array.getD_eq_getD_getElem?]; exact e102
      refine hpS_load1 0 tystring H rfl e102 hwant (by first | assumption | ((repeat (first | exact List.Mem.head _ | apply List.Mem.tail)))) HR rfl (by simp [Addr.add]) ?_
      exact hQ _ _ (Off.refl [] _) H rfl
    | 11, ho =>
      have ho2 := Option.some.inj ho
      clear ho
      subst ho2
      have e15 : a'.eval (.tmp 15) = .slice (some y) m c15 := (hfr.old 15 (by kernel_rfl)).trans o15
      have g15 : (a'.tmps[15]?).getD undef = .slice (some y) m c15 := by rw [← Array.getD_eq_getD_getElem?]; exact e15
      refine wpList_step fun K hK => ?_
      rw [if_pos hwant]
      exact Inv.wp_val (.slice (some y) m c15) (by simp only [execOp]; go_simp) (hK _ _ (hQ _ _ (Off.refl [] _) H rfl))
    | 12, ho =>
      have ho2 := Option.some.inj ho
      clear ho
      subst ho2
      have e16 : a'.eval (.tmp 16) = .int .i64 ii := (hfr.old 16 (by kernel_rfl)).trans o16
      have g16 : (a'.tmps[16]?).getD undef = .int .i64 ii := by rw [← Array.getD_eq_getD_getElem?]; exact e16
      refine wpList_step fun K hK => ?_
      rw [if_pos hwant]
      exact Inv.wp_val (.int .i64 ii) (by simp only [execOp]; go_simp) (hK _ _ (hQ _ _ (Off.refl [] _) H rfl))
    | 13, ho =>
      have ho2 := Option.some.inj ho
      clear ho
      subst ho2
      have e104 : a'.eval (.tmp 104) = .slice (some y) m c15 := hdep ⟨11, .data⟩ (by simp) rfl
      have g104 : (a'.tmps[104]?).getD undef = .slice (some y) m c15 := by rw [← Array.getD_eq_getD_getElem?]; exact e104
      have e105 : a'.eval (.tmp 105) = .int .i64 ii := hdep ⟨12, .data⟩ (by simp) rfl
      have g105 : (a'.tmps[105]?).getD undef = .int .i64 ii := by rw [← Array.getD_eq_getD_getElem?]; exact e105
      refine wpList_step fun K hK => ?_
      rw [if_pos hwant]
      exact Inv.wp_val (.pointer (some (y.add (ii * 2)))) (by simp only [execOp]; go_simp) (hK _ _ (hQ _ _ (Off.refl [] _) H rfl))
    | 14, ho =>
      have ho2 := Option.some.inj ho
      clear ho
      subst ho2
      have e106 : a'.eval (.tmp 106) = .pointer (some (y.add (ii * 2))) := hdep ⟨13, .data⟩ (by simp) rfl
      have g106 : (a'.tmps[106]?).getD undef = .pointer (some (y.add (ii * 2))) := by rw [← Array.getD_eq_getD_getElem?]; exact e106
      refine wpList_step fun K hK => ?_
      rw [if_pos hwant]
      exact Inv.wp_val (.pointer (some ⟨(y.add (ii * 2)).block, (y.add (ii * 2)).off + 1, none⟩)) (by simp only [execOp]; go_simp) (hK _ _ (hQ _ _ (Off.refl [] _) H rfl))
    | 15, ho =>
      have ho2 := Option.some.inj ho
      clear ho
      subst ho2
      have e107 : a'.eval (.tmp 107) = .pointer (some ⟨(y.add (ii * 2)).block, (y.add (ii * 2)).off + 1, none⟩) := hdep ⟨14, .data⟩ (by simp) rfl
      have g107 : (a'.tmps[107]?).getD undef = .pointer (some ⟨(y.add (ii * 2)).block, (y.add (ii * 2)).off + 1, none⟩) := by rw [← Array.getD_eq_getD_getElem?]; exact e107
      refine hpS_load1 1 tyint H rfl e107 hwant (by first | assumption | ((repeat (first | exact List.Mem.head _ | apply List.Mem.tail)))) HR rfl (by simp [Addr.add]) ?_
      exact hQ _ _ (Off.refl [] _) H rfl
    | 16, ho =>
      have ho2 := Option.some.inj ho
      clear ho
      subst ho2
      have e98 : a'.eval (.tmp 98) = .agg #[.int .i64 t] := hdep ⟨5, .data⟩ (by simp) rfl
      have g98 : (a'.tmps[98]?).getD undef = .agg #[.int .i64 t] := by rw [← Array.getD_eq_getD_getElem?]; exact e98
      have e103 : a'.eval (.tmp 103) = .string p.1 := hdep ⟨10, .data⟩ (by simp) rfl
      have g103 : (a'.tmps[103]?).getD undef = .string p.1 := by rw [← Array.getD_eq_getD_getElem?]; exact e103
      have e108 : a'.eval (.tmp 108) = .int .i64 p.2 := hdep ⟨15, .data⟩ (by simp) rfl
      have g108 : (a'.tmps[108]?).getD undef = .int .i64 p.2 := by rw [← Array.getD_eq_getD_getElem?]; exact e108
      refine wpList_step fun K hK => ?_
      rw [if_pos hwant]
      refine Inv.wp_call 33 #[.agg #[.int .i64 t], .string p.1, .int .i64 p.2] (by simp only [execOp]; go_simp) (by have h9 := partIs t p ht w'; rw [hq9] at h9; exact h9) ?_
      rintro e w2 ⟨rfl, ho⟩
      exact ⟨_, rfl, hK _ _ (hQ _ _ ho (Lib.hid (H.out.quiet ho)) rfl)⟩
    | 17, ho =>
      have ho2 := Option.some.inj ho
      clear ho
      subst ho2
      have e97 : a'.eval (.tmp 97) = .bool b := hdep ⟨4, .data⟩ (by simp) rfl
      have g97 : (a'.tmps[97]?).getD undef = .bool b := by rw [← Array.getD_eq_getD_getElem?]; exact e97
      have e109 : a'.eval (.tmp 109) = .bool b := hdep ⟨16, .data⟩ (by simp) rfl
      have g109 : (a'.tmps[109]?).getD undef = .bool b := by rw [← Array.getD_eq_getD_getElem?]; exact e109
      refine wpList_step fun K hK => ?_
      rw [if_pos hwant]
      exact Inv.wp_val (.bool false) (by simp only [execOp]; go_simp) (hK _ _ (hQ _ _ (Off.refl [] _) H rfl))
    | 18, ho =>
      have ho2 := Option.some.inj ho
      clear ho
      subst ho2
      have e96 : a'.eval (.tmp 96) = .bool false := hdep ⟨3, .data⟩ (by simp) rfl
      have g96 : (a'.tmps[96]?).getD undef = .bool false := by rw [← Array.getD_eq_getD_getElem?]; exact e96
      have e110 : a'.eval (.tmp 110) = .bool false := hdep ⟨17, .data⟩ (by simp) rfl
      have g110 : (a'.tmps[110]?).getD undef = .bool false := by rw [← Array.getD_eq_getD_getElem?]; exact e110
      refine wpList_step fun K hK => ?_
      rw [if_pos hwant]
      exact Inv.wp_val (.bool false) (by simp only [execOp]; go_simp) (hK _ _ (hQ _ _ (Off.refl [] _) H rfl))
    | _ + 19, ho => simp at ho
  · intro i o ho a' w' hdep hwant
    match i, ho with
    | 0, ho =>
      have ho2 := Option.some.inj ho
      clear ho
      subst ho2
      exact (skip_none hwant rfl).elim
    | 1, ho =>
      have ho2 := Option.some.inj ho
      clear ho
      subst ho2
      exact (skip_none hwant rfl).elim
    | 2, ho =>
      have ho2 := Option.some.inj ho
      clear ho
      subst ho2
      exact (skip_none hwant rfl).elim
    | 3, ho =>
      have ho2 := Option.some.inj ho
      clear ho
      subst ho2
      exact (skip_none hwant rfl).elim
    | 4, ho =>
      have ho2 := Option.some.inj ho
      clear ho
      subst ho2
      have eg : a'.tmps.getD 96 undef = .bool false := hdep ⟨3, .guard⟩ (by simp) rfl
      exact (skip_want hwant rfl (by kernel_rfl) eg).elim
    | 5, ho =>
      have ho2 := Option.some.inj ho
      clear ho
      subst ho2
      have eg : a'.tmps.getD 96 undef = .bool false := hdep ⟨3, .guard⟩ (by simp) rfl
      exact (skip_want hwant rfl (by kernel_rfl) eg).elim
    | 6, ho =>
      have ho2 := Option.some.inj ho
      clear ho
      subst ho2
      have eg : a'.tmps.getD 96 undef = .bool false := hdep ⟨3, .guard⟩ (by simp) rfl
      exact (skip_want hwant rfl (by kernel_rfl) eg).elim
    | 7, ho =>
      have ho2 := Option.some.inj ho
      clear ho
      subst ho2
      have eg : a'.tmps.getD 96 undef = .bool false := hdep ⟨3, .guard⟩ (by simp) rfl
      exact (skip_want hwant rfl (by kernel_rfl) eg).elim
    | 8, ho =>
      have ho2 := Option.some.inj ho
      clear ho
      subst ho2
      have eg : a'.tmps.getD 96 undef = .bool false := hdep ⟨3, .guard⟩ (by simp) rfl
      exact (skip_want hwant rfl (by kernel_rfl) eg).elim
    | 9, ho =>
      have ho2 := Option.some.inj ho
      clear ho
      subst ho2
      have eg : a'.tmps.getD 96 undef = .bool false := hdep ⟨3, .guard⟩ (by simp) rfl
      exact (skip_want hwant rfl (by kernel_rfl) eg).elim
    | 10, ho =>
      have ho2 := Option.some.inj ho
      clear ho
      subst ho2
      have eg : a'.tmps.getD 96 undef = .bool false := hdep ⟨3, .guard⟩ (by simp) rfl
      exact (skip_want hwant rfl (by kernel_rfl) eg).elim
    | 11, ho =>
      have ho2 := Option.some.inj ho
      clear ho
      subst ho2
      have eg : a'.tmps.getD 96 undef = .bool false := hdep ⟨3, .guard⟩ (by simp) rfl
      exact (skip_want hwant rfl (by kernel_rfl) eg).elim
    | 12, ho =>
      have ho2 := Option.some.inj ho
      clear ho
      subst ho2
      have eg : a'.tmps.getD 96 undef = .bool false := hdep ⟨3, .guard⟩ (by simp) rfl
      exact (skip_want hwant rfl (by kernel_rfl) eg).elim
    | 13, ho =>
      have ho2 := Option.some.inj ho
      clear ho
      subst ho2
      have eg : a'.tmps.getD 96 undef = .bool false := hdep ⟨3, .guard⟩ (by simp) rfl
      exact (skip_want hwant rfl (by kernel_rfl) eg).elim
    | 14, ho =>
      have ho2 := Option.some.inj ho
      clear ho
      subst ho2
      have eg : a'.tmps.getD 96 undef = .bool false := hdep ⟨3, .guard⟩ (by simp) rfl
      exact (skip_want hwant rfl (by kernel_rfl) eg).elim
    | 15, ho =>
      have ho2 := Option.some.inj ho
      clear ho
      subst ho2
      have eg : a'.tmps.getD 96 undef = .bool false := hdep ⟨3, .guard⟩ (by simp) rfl
      exact (skip_want hwant rfl (by kernel_rfl) eg).elim
    | 16, ho =>
      have ho2 := Option.some.inj ho
      clear ho
      subst ho2
      have eg : a'.tmps.getD 96 undef = .bool false := hdep ⟨3, .guard⟩ (by simp) rfl
      exact (skip_want hwant rfl (by kernel_rfl) eg).elim
    | 17, ho =>
      have ho2 := Option.some.inj ho
      clear ho
      subst ho2
      have eg : a'.tmps.getD 96 undef = .bool false := hdep ⟨3, .guard⟩ (by simp) rfl
      exact (skip_want hwant rfl (by kernel_rfl) eg).elim
    | 18, ho =>
      have ho2 := Option.some.inj ho
      clear ho
      subst ho2
      exact (skip_none hwant rfl).elim
    | _ + 19, ho => simp at ho
  · clear H
    intro vs w5 H hv
    have v0 : vs 0 = .bool b := hv 0 (by decide)
    have v1 : vs 1 = .bool (!b) := hv 1 (by decide)
    have v2 : vs 2 = .bool false := hv 2 (by decide)
    have v3 : vs 3 = .bool false := hv 3 (by decide)
    have v4 : vs 4 = .bool b := hv 4 (by decide)
    have v5 : vs 5 = .agg #[.int .i64 t] := hv 5 (by decide)
    have v6 : vs 6 = .slice (some y) m c15 := hv 6 (by decide)
    have v7 : vs 7 = .int .i64 ii := hv 7 (by decide)
    have v8 : vs 8 = .pointer (some (y.add (ii * 2))) := hv 8 (by decide)
    have v9 : vs 9 = .pointer (some (y.add (ii * 2))) := hv 9 (by decide)
    have v10 : vs 10 = .string p.1 := hv 10 (by decide)
    have v11 : vs 11 = .slice (some y) m c15 := hv 11 (by decide)
    have v12 : vs 12 = .int .i64 ii := hv 12 (by decide)
    have v13 : vs 13 = .pointer (some (y.add (ii * 2))) := hv 13 (by decide)
    have v14 : vs 14 = .pointer (some ⟨(y.add (ii * 2)).block, (y.add (ii * 2)).off + 1, none⟩) := hv 14 (by decide)
    have v15 : vs 15 = .int .i64 p.2 := hv 15 (by decide)
    have v16 : vs 16 = .bool b := hv 16 (by decide)
    have v17 : vs 17 = .bool false := hv 17 (by decide)
    have v18 : vs 18 = .bool false := hv 18 (by decide)
    clear hv
    simp only [List.size_toArray, List.length_cons, List.length_nil, Nat.reduceAdd, Inv.putAll, Inv.dstAt, List.getElem?_toArray, List.getElem?_cons_zero, List.getElem?_cons_succ, Option.bind_some, v0, v1, v2, v3, v4, v5, v6, v7, v8, v9, v10, v11, v12, v13, v14, v15, v16, v17, v18]
    exact hfin _ H
theorem parts9 (k : Int) (ax ay az : Option Addr) (X Y ps : List PairV) (cx cy cz bx by_ bz : Nat) (hsum : (X.length : Int) + (Y.length : Int) = (ps.length : Int)) (hwr : IntKind.i64.wrap (ps.length : Int) = (ps.length : Int)) {w0 w : World} {R : List Res} (H : Hid (Hp [] w0 w R)) (m1 : rB bx 43 [.int .i64 k, .slice ax X.length cx] ∈ R) (m2 : rB by_ 43 [.int .i64 k, .slice ay Y.length cy] ∈ R) (m3 : rB bz 43 [.int .i64 k, .slice az ps.length cz] ∈ R) (a0 : Act) (hN : a0.tmps.size = 137) (o13 : a0.eval (.tmp 13) = .pointer (some ⟨bx, 0, none⟩)) (o14 : a0.eval (.tmp 14) = .pointer (some ⟨by_, 0, none⟩)) (o11 : a0.eval (.tmp 11) = .pointer (some ⟨bz, 0, none⟩)) {Q : Exit → Act → World → Prop} (hfin : ∀ w', Hid (Hp [] w0 w' R) → Q .normal ((((((((a0.put (some 57) (.agg #[.int .i64 k, .slice ax X.length cx])).put (some 58) (.int .i64 X.length)).put (some 59) (.agg #[.int .i64 k, .slice ay Y.length cy])).put (some 60) (.int .i64 Y.length)).put (some 61) (.int .i64 (ps.length : Int))).put (some 62) (.agg #[.int .i64 k, .slice az ps.length cz])).put (some 63) (.int .i64 ps.length)).put (some 64) (.bool false)) w') : (Code.region 9 #[{ dst := some 57, op := Op.load 43 (Operand.tmp 13), type := 43, pos := "own.go:91", after := #[], guard := none }, { dst := some 58, op := Op.call { callee := Callee.value (Operand.func 35), args := #[Operand.tmp 57], argTypes := #[43] }, type := 3, pos := "own.go:91", after := #[{ on := 0, ground := Ground.data }], guard := none }, { dst := some 59, op := Op.load 43 (Operand.tmp 14), type := 43, pos := "own.go:91", after := #[], guard := none }, { dst := some 60, op := Op.call { callee := Callee.value (Operand.func 35), args := #[Operand.tmp 59], argTypes := #[43] }, type := 3, pos := "own.go:91", after := #[{ on := 2, ground := Ground.data }, { on := 1, ground := Ground.chain }], guard := none }, { dst := some 61, op := Op.binOp BinOp.add 3 (Operand.tmp 58) (Operand.tmp 60) 3, type := 3, pos := "own.go:91", after := #[{ on := 1, ground := Ground.data }, { on := 3, ground := Ground.data }], guard := none }, { dst := some 62, op := Op.load 43 (Operand.tmp 11), type := 43, pos := "own.go:91", after := #[], guard := none }, { dst := some 63, op := Op.call { callee := Callee.value (Operand.func 35), args := #[Operand.tmp 62], argTypes := #[43] }, type := 3, pos := "own.go:91", after := #[{ on := 5, ground := Ground.data }, { on := 3, ground := Ground.chain }], guard := none }, { dst := some 64, op := Op.binOp BinOp.neq 3 (Operand.tmp 61) (Operand.tmp 63) 3, type := 4, pos := "own.go:91", after := #[{ on := 4, ground := Ground.data }, { on := 6, ground := Ground.data }], guard := none }] true).wp Try.prog Q a0 w := by
  refine hp_walksF H (fun j v w' => match j with | 0 => v = .agg #[.int .i64 k, .slice ax X.length cx] | 1 => v = .int .i64 X.length | 2 => v = .agg #[.int .i64 k, .slice ay Y.length cy] | 3 => v = .int .i64 Y.length | 4 => v = .int .i64 (ps.length : Int) | 5 => v = .agg #[.int .i64 k, .slice az ps.length cz] | 6 => v = .int .i64 ps.length | 7 => v = .bool false | _ => True) ?_ (by kernel_rfl) ⟨[0, 1, 0, 2, 3, 0, 3, 4], by kernel_rfl⟩ (by kernel_rfl) 137 hN (by kernel_rfl) (by kernel_rfl) ?_ ?_ ?_
  · intro j v w' w'' h ho
    match j, h with
    | 0, h => exact h
    | 1, h => exact h
    | 2, h => exact h
    | 3, h => exact h
    | 4, h => exact h
    | 5, h => exact h
    | 6, h => exact h
    | 7, h => exact h
    | _ + 8, _ => trivial
  · intro i o ho a' w' hfr H hdep hwant Q' hQ
    match i, ho with
    | 0, ho =>
      have ho2 := Option.some.inj ho
      clear ho
      subst ho2
      have e13 : a'.eval (.tmp 13) = .pointer (some ⟨bx, 0, none⟩) := (hfr.old 13 (by kernel_rfl)).trans o13
      have g13 : (a'.tmps[13]?).getD undef = .pointer (some ⟨bx, 0, none⟩) := by rw [← Array.getD_eq_getD_getElem?]; exact e13
      refine hpA_load tyshelf_Shelf_string__int_ H rfl e13 hwant (by first | assumption | ((repeat (first | exact List.Mem.head _ | apply List.Mem.tail)))) rfl rfl ?_
      exact hQ _ _ (Off.refl [] _) H rfl
    | 1, ho =>
      have ho2 := Option.some.inj ho
      clear ho
      subst ho2
      have e57 : a'.eval (.tmp 57) = .agg #[.int .i64 k, .slice ax X.length cx] := hdep ⟨0, .data⟩ (by simp) rfl
      have g57 : (a'.tmps[57]?).getD undef = .agg #[.int .i64 k, .slice ax X.length cx] := by rw [← Array.getD_eq_getD_getElem?]; exact e57
      refine wpList_step fun K hK => ?_
      rw [if_pos hwant]
      refine Inv.wp_call 35 #[.agg #[.int .i64 k, .slice ax X.length cx]] (by simp only [execOp]; go_simp) (lenC _ _ _ _ _) ?_
      rintro e w2 ⟨rfl, ho⟩
      exact ⟨_, rfl, hK _ _ (hQ _ _ ho (Lib.hid (H.out.quiet ho)) rfl)⟩
    | 2, ho =>
      have ho2 := Option.some.inj ho
      clear ho
      subst ho2
      have e14 : a'.eval (.tmp 14) = .pointer (some ⟨by_, 0, none⟩) := (hfr.old 14 (by kernel_rfl)).trans o14
      have g14 : (a'.tmps[14]?).getD undef = .pointer (some ⟨by_, 0, none⟩) := by rw [← Array.getD_eq_getD_getElem?]; exact e14
      refine hpA_load tyshelf_Shelf_string__int_ H rfl e14 hwant (by first | assumption | ((repeat (first | exact List.Mem.head _ | apply List.Mem.tail)))) rfl rfl ?_
      exact hQ _ _ (Off.refl [] _) H rfl
    | 3, ho =>
      have ho2 := Option.some.inj ho
      clear ho
      subst ho2
      have e59 : a'.eval (.tmp 59) = .agg #[.int .i64 k, .slice ay Y.length cy] := hdep ⟨2, .data⟩ (by simp) rfl
      have g59 : (a'.tmps[59]?).getD undef = .agg #[.int .i64 k, .slice ay Y.length cy] := by rw [← Array.getD_eq_getD_getElem?]; exact e59
      refine wpList_step fun K hK => ?_
      rw [if_pos hwant]
      refine Inv.wp_call 35 #[.agg #[.int .i64 k, .slice ay Y.length cy]] (by simp only [execOp]; go_simp) (lenC _ _ _ _ _) ?_
      rintro e w2 ⟨rfl, ho⟩
      exact ⟨_, rfl, hK _ _ (hQ _ _ ho (Lib.hid (H.out.quiet ho)) rfl)⟩
    | 4, ho =>
      have ho2 := Option.some.inj ho
      clear ho
      subst ho2
      have e58 : a'.eval (.tmp 58) = .int .i64 X.length := hdep ⟨1, .data⟩ (by simp) rfl
      have g58 : (a'.tmps[58]?).getD undef = .int .i64 X.length := by rw [← Array.getD_eq_getD_getElem?]; exact e58
      have e60 : a'.eval (.tmp 60) = .int .i64 Y.length := hdep ⟨3, .data⟩ (by simp) rfl
      have g60 : (a'.tmps[60]?).getD undef = .int .i64 Y.length := by rw [← Array.getD_eq_getD_getElem?]; exact e60
      refine wpList_step fun K hK => ?_
      rw [if_pos hwant]
      exact Inv.wp_val (.int .i64 (ps.length : Int)) (by simp only [execOp]; go_simp) (hK _ _ (hQ _ _ (Off.refl [] _) H rfl))
    | 5, ho =>
      have ho2 := Option.some.inj ho
      clear ho
      subst ho2
      have e11 : a'.eval (.tmp 11) = .pointer (some ⟨bz, 0, none⟩) := (hfr.old 11 (by kernel_rfl)).trans o11
      have g11 : (a'.tmps[11]?).getD undef = .pointer (some ⟨bz, 0, none⟩) := by rw [← Array.getD_eq_getD_getElem?]; exact e11
      refine hpA_load tyshelf_Shelf_string__int_ H rfl e11 hwant (by first | assumption | ((repeat (first | exact List.Mem.head _ | apply List.Mem.tail)))) rfl rfl ?_
      exact hQ _ _ (Off.refl [] _) H rfl
    | 6, ho =>
      have ho2 := Option.some.inj ho
      clear ho
      subst ho2
      have e62 : a'.eval (.tmp 62) = .agg #[.int .i64 k, .slice az ps.length cz] := hdep ⟨5, .data⟩ (by simp) rfl
      have g62 : (a'.tmps[62]?).getD undef = .agg #[.int .i64 k, .slice az ps.length cz] := by rw [← Array.getD_eq_getD_getElem?]; exact e62
      refine wpList_step fun K hK => ?_
      rw [if_pos hwant]
      refine Inv.wp_call 35 #[.agg #[.int .i64 k, .slice az ps.length cz]] (by simp only [execOp]; go_simp) (lenC _ _ _ _ _) ?_
      rintro e w2 ⟨rfl, ho⟩
      exact ⟨_, rfl, hK _ _ (hQ _ _ ho (Lib.hid (H.out.quiet ho)) rfl)⟩
    | 7, ho =>
      have ho2 := Option.some.inj ho
      clear ho
      subst ho2
      have e61 : a'.eval (.tmp 61) = .int .i64 (ps.length : Int) := hdep ⟨4, .data⟩ (by simp) rfl
      have g61 : (a'.tmps[61]?).getD undef = .int .i64 (ps.length : Int) := by rw [← Array.getD_eq_getD_getElem?]; exact e61
      have e63 : a'.eval (.tmp 63) = .int .i64 ps.length := hdep ⟨6, .data⟩ (by simp) rfl
      have g63 : (a'.tmps[63]?).getD undef = .int .i64 ps.length := by rw [← Array.getD_eq_getD_getElem?]; exact e63
      refine wpList_step fun K hK => ?_
      rw [if_pos hwant]
      exact Inv.wp_val (.bool false) (by simp only [execOp]; go_simp) (hK _ _ (hQ _ _ (Off.refl [] _) H rfl))
    | _ + 8, ho => simp at ho
  · intro i o ho a' w' hdep hwant
    match i, ho with
    | 0, ho =>
      have ho2 := Option.some.inj ho
      clear ho
      subst ho2
      exact (skip_none hwant rfl).elim
    | 1, ho =>
      have ho2 := Option.some.inj ho
      clear ho
      subst ho2
      exact (skip_none hwant rfl).elim
    | 2, ho =>
      have ho2 := Option.some.inj ho
      clear ho
      subst ho2
      exact (skip_none hwant rfl).elim
    | 3, ho =>
      have ho2 := Option.some.inj ho
      clear ho
      subst ho2
      exact (skip_none hwant rfl).elim
    | 4, ho =>
      have ho2 := Option.some.inj ho
      clear ho
      subst ho2
      exact (skip_none hwant rfl).elim
    | 5, ho =>
      have ho2 := Option.some.inj ho
      clear ho
      subst ho2
      exact (skip_none hwant rfl).elim
    | 6, ho =>
      have ho2 := Option.some.inj ho
      clear ho
      subst ho2
      exact (skip_none hwant rfl).elim
    | 7, ho =>
      have ho2 := Option.some.inj ho
      clear ho
      subst ho2
      exact (skip_none hwant rfl).elim
    | _ + 8, ho => simp at ho
  · clear H
    intro vs w5 H hv
    have v0 : vs 0 = .agg #[.int .i64 k, .slice ax X.length cx] := hv 0 (by decide)
    have v1 : vs 1 = .int .i64 X.length := hv 1 (by decide)
    have v2 : vs 2 = .agg #[.int .i64 k, .slice ay Y.length cy] := hv 2 (by decide)
    have v3 : vs 3 = .int .i64 Y.length := hv 3 (by decide)
    have v4 : vs 4 = .int .i64 (ps.length : Int) := hv 4 (by decide)
    have v5 : vs 5 = .agg #[.int .i64 k, .slice az ps.length cz] := hv 5 (by decide)
    have v6 : vs 6 = .int .i64 ps.length := hv 6 (by decide)
    have v7 : vs 7 = .bool false := hv 7 (by decide)
    clear hv
    simp only [List.size_toArray, List.length_cons, List.length_nil, Nat.reduceAdd, Inv.putAll, Inv.dstAt, List.getElem?_toArray, List.getElem?_cons_zero, List.getElem?_cons_succ, Option.bind_some, v0, v1, v2, v3, v4, v5, v6, v7]
    exact hfin _ H
theorem parts21 (k : Int) (key : ByteArray) (X ps : List PairV) (ax az : Option Addr) (cx cz bx bz : Nat) (e was : Bool) (hX : Sorted X) (hXb : X.length ≤ 1000000) (hb : ps.length ≤ 1000000) (hWb : (withoutV key X).length ≤ 1000000) (he : decide (withoutV key X = ps) = e) (hew : (e == !was) = true) {w0 w : World} {R : List Res} (H : Hid (Hp [] w0 w R)) (m1 : rB bx 43 [.int .i64 k, .slice ax X.length cx] ∈ R) (m2 : rS ax cx 2 (X.map rowOf) ∈ R) (m3 : rB bz 43 [.int .i64 k, .slice az ps.length cz] ∈ R) (m4 : rS az cz 2 (ps.map rowOf) ∈ R) (a0 : Act) (hN : a0.tmps.size = 137) (o22 : a0.eval (.tmp 22) = .bool true) (o21 : a0.eval (.tmp 21) = .pointer (some ⟨bx, 0, none⟩)) (o3 : a0.eval (.tmp 3) = .string key) (o11 : a0.eval (.tmp 11) = .pointer (some ⟨bz, 0, none⟩)) (o24 : a0.eval (.tmp 24) = .bool was) {Q : Exit → Act → World → Prop} (hfin : ∀ w' a7 c7, Hid (Hp [] w0 w' R) → ((rS a7 c7 2 ((withoutV key X).map rowOf)).holds w') → Q .normal (((((((((((((a0.put (some 125) (.bool true)).put (some 126) (.bool false)).put (some 127) (.bool false)).put (some 128) (.agg #[.int .i64 k, .slice ax X.length cx])).put (some 129) (.string key)).put (some 130) (.agg #[.int .i64 k, .slice a7 (withoutV key X).length c7])).put (some 131) (.agg #[.int .i64 k, .slice az ps.length cz])).put (some 132) (.bool e)).put (some 133) (.bool was)).put (some 134) (.bool (!was))).put (some 135) (.bool true)).put (some 136) (.bool true)).put (some 10) (.bool true)) w') : (Code.region 21 #[{ dst := some 125, op := Op.move (Operand.tmp 22), type := 4, pos := "own.go:104", after := #[], guard := none }, { dst := some 126, op := Op.unOp UnOp.not 4 (Operand.tmp 125), type := 4, pos := "own.go:104", after := #[{ on := 0, ground := Ground.data }], guard := none }, { dst := some 127, op := Op.move (Operand.tmp 126), type := 4, pos := "own.go:104", after := #[{ on := 1, ground := Ground.data }], guard := none }, { dst := some 128, op := Op.load 43 (Operand.tmp 21), type := 43, pos := "own.go:104", after := #[{ on := 2, ground := Ground.guard }], guard := some (2, false) }, { dst := some 129, op := Op.move (Operand.tmp 3), type := 9, pos := "own.go:104", after := #[{ on := 2, ground := Ground.guard }], guard := some (2, false) }, { dst := some 130, op := Op.call { callee := Callee.value (Operand.func 37), args := #[Operand.tmp 128, Operand.tmp 129], argTypes := #[43, 9] }, type := 43, pos := "own.go:104", after := #[{ on := 3, ground := Ground.data }, { on := 4, ground := Ground.data }, { on := 2, ground := Ground.chain }, { on := 2, ground := Ground.guard }], guard := some (2, false) }, { dst := some 131, op := Op.load 43 (Operand.tmp 11), type := 43, pos := "own.go:104", after := #[{ on := 2, ground := Ground.guard }], guard := some (2, false) }, { dst := some 132, op := Op.call { callee := Callee.value (Operand.func 30), args := #[Operand.tmp 130, Operand.tmp 131], argTypes := #[43, 43] }, type := 4, pos := "own.go:104", after := #[{ on := 5, ground := Ground.data }, { on := 6, ground := Ground.data }, { on := 5, ground := Ground.chain }, { on := 2, ground := Ground.guard }], guard := some (2, false) }, { dst := some 133, op := Op.move (Operand.tmp 24), type := 4, pos := "own.go:104", after := #[{ on := 2, ground := Ground.guard }], guard := some (2, false) }, { dst := some 134, op := Op.unOp UnOp.not 4 (Operand.tmp 133), type := 4, pos := "own.go:104", after := #[{ on := 8, ground := Ground.data }, { on := 2, ground := Ground.guard }], guard := some (2, false) }, { dst := some 135, op := Op.binOp BinOp.eql 4 (Operand.tmp 132) (Operand.tmp 134) 4, type := 4, pos := "own.go:104", after := #[{ on := 7, ground := Ground.data }, { on := 9, ground := Ground.data }, { on := 2, ground := Ground.guard }], guard := some (2, false) }, { dst := some 136, op := Op.pick (Operand.tmp 127) (Operand.const (Value.bool true)) (Operand.tmp 135), type := 4, pos := "own.go:104", after := #[{ on := 2, ground := Ground.data }, { on := 10, ground := Ground.data }], guard := none }, { dst := some 10, op := Op.assign (Operand.tmp 136), type := 4, pos := "own.go:104", after := #[{ on := 11, ground := Ground.data }, { on := 7, ground := Ground.chain }, { on := 0, ground := Ground.phase }, { on := 1, ground := Ground.phase }, { on := 2, ground := Ground.phase }, { on := 3, ground := Ground.phase }, { on := 4, ground := Ground.phase }, { on := 5, ground := Ground.phase }, { on := 6, ground := Ground.phase }, { on := 7, ground := Ground.phase }, { on := 8, ground := Ground.phase }, { on := 9, ground := Ground.phase }, { on := 10, ground := Ground.phase }, { on := 11, ground := Ground.phase }], guard := none }] true).wp Try.prog Q a0 w := by
  refine hp_walksF H (fun j v w' => match j with | 0 => v = .bool true | 1 => v = .bool false | 2 => v = .bool false | 3 => v = .agg #[.int .i64 k, .slice ax X.length cx] | 4 => v = .string key | 5 => ∃ a7 c7, v = .agg #[.int .i64 k, .slice a7 (withoutV key X).length c7] ∧ (rS a7 c7 2 ((withoutV key X).map rowOf)).holds w' | 6 => v = .agg #[.int .i64 k, .slice az ps.length cz] | 7 => v = .bool e | 8 => v = .bool was | 9 => v = .bool (!was) | 10 => v = .bool true | 11 => v = .bool true | 12 => v = .bool true | _ => True) ?_ (by kernel_rfl) ⟨[0, 1, 2, 3, 3, 4, 3, 5, 3, 4, 6, 7, 8], by kernel_rfl⟩ (by kernel_rfl) 137 hN (by kernel_rfl) (by kernel_rfl) ?_ ?_ ?_
  · intro j v w' w'' h ho
    match j, h with
    | 0, h => exact h
    | 1, h => exact h
    | 2, h => exact h
    | 3, h => exact h
    | 4, h => exact h
    | 5, ⟨a7, c7, h1, h2⟩ => exact ⟨a7, c7, h1, (rS a7 c7 2 _).stable _ _ (fun q hq => ho.block q (rS_lt h2 (by decide) q hq) (by simp)) h2⟩
    | 6, h => exact h
    | 7, h => exact h
    | 8, h => exact h
    | 9, h => exact h
    | 10, h => exact h
    | 11, h => exact h
    | 12, h => exact h
    | _ + 13, _ => trivial
  · intro i o ho a' w' hfr H hdep hwant Q' hQ
    match i, ho with
    | 0, ho =>
      have ho2 := Option.some.inj ho
      clear ho
      subst ho2
      have e22 : a'.eval (.tmp 22) = .bool true := (hfr.old 22 (by kernel_rfl)).trans o22
      have g22 : (a'.tmps[22]?).getD undef = .bool true := by rw [← Array.getD_eq_getD_getElem?]; exact e22
      refine wpList_step fun K hK => ?_
      rw [if_pos hwant]
      exact Inv.wp_val (.bool true) (by simp only [execOp]; go_simp) (hK _ _ (hQ _ _ (Off.refl [] _) H rfl))
    | 1, ho =>
      have ho2 := Option.some.inj ho
      clear ho
      subst ho2
      have e125 : a'.eval (.tmp 125) = .bool true := hdep ⟨0, .data⟩ (by simp) rfl
      have g125 : (a'.tmps[125]?).getD undef = .bool true := by rw [← Array.getD_eq_getD_getElem?]; exact e125
      refine wpList_step fun K hK => ?_
      rw [if_pos hwant]
      exact Inv.wp_val (.bool false) (by simp only [execOp]; go_simp) (hK _ _ (hQ _ _ (Off.refl [] _) H rfl))
    | 2, ho =>
      have ho2 := Option.some.inj ho
      clear ho
      subst ho2
      have e126 : a'.eval (.tmp 126) = .bool false := hdep ⟨1, .data⟩ (by simp) rfl
      have g126 : (a'.tmps[126]?).getD undef = .bool false := by rw [← Array.getD_eq_getD_getElem?]; exact e126
      refine wpList_step fun K hK => ?_
      rw [if_pos hwant]
      exact Inv.wp_val (.bool false) (by simp only [execOp]; go_simp) (hK _ _ (hQ _ _ (Off.refl [] _) H rfl))
    | 3, ho =>
      have ho2 := Option.some.inj ho
      clear ho
      subst ho2
      have e21 : a'.eval (.tmp 21) = .pointer (some ⟨bx, 0, none⟩) := (hfr.old 21 (by kernel_rfl)).trans o21
      have g21 : (a'.tmps[21]?).getD undef = .pointer (some ⟨bx, 0, none⟩) := by rw [← Array.getD_eq_getD_getElem?]; exact e21
      refine hpA_load tyshelf_Shelf_string__int_ H rfl e21 hwant (by first | assumption | ((repeat (first | exact List.Mem.head _ | apply List.Mem.tail)))) rfl rfl ?_
      exact hQ _ _ (Off.refl [] _) H rfl
    | 4, ho =>
      have ho2 := Option.some.inj ho
      clear ho
      subst ho2
      have e3 : a'.eval (.tmp 3) = .string key := (hfr.old 3 (by kernel_rfl)).trans o3
      have g3 : (a'.tmps[3]?).getD undef = .string key := by rw [← Array.getD_eq_getD_getElem?]; exact e3
      refine wpList_step fun K hK => ?_
      rw [if_pos hwant]
      exact Inv.wp_val (.string key) (by simp only [execOp]; go_simp) (hK _ _ (hQ _ _ (Off.refl [] _) H rfl))
    | 5, ho =>
      have ho2 := Option.some.inj ho
      clear ho
      subst ho2
      have e128 : a'.eval (.tmp 128) = .agg #[.int .i64 k, .slice ax X.length cx] := hdep ⟨3, .data⟩ (by simp) rfl
      have g128 : (a'.tmps[128]?).getD undef = .agg #[.int .i64 k, .slice ax X.length cx] := by rw [← Array.getD_eq_getD_getElem?]; exact e128
      have e129 : a'.eval (.tmp 129) = .string key := hdep ⟨4, .data⟩ (by simp) rfl
      have g129 : (a'.tmps[129]?).getD undef = .string key := by rw [← Array.getD_eq_getD_getElem?]; exact e129
      refine wpList_step fun K hK => ?_
      rw [if_pos hwant]
      refine Inv.wp_call 37 #[.agg #[.int .i64 k, .slice ax X.length cx], .string key] (by simp only [execOp]; go_simp) (withoutC k _ _ X key w' (hp_held H m2) hX hXb) ?_
      rintro e w2 ⟨a7, c7, rfl, h7⟩
      exact ⟨_, rfl, hK _ _ (hQ _ _ h7.2.2 (Lib.hid (H.out.quiet h7.2.2)) ⟨a7, c7, rfl, h7.1⟩)⟩
    | 6, ho =>
      have ho2 := Option.some.inj ho
      clear ho
      subst ho2
      have e11 : a'.eval (.tmp 11) = .pointer (some ⟨bz, 0, none⟩) := (hfr.old 11 (by kernel_rfl)).trans o11
      have g11 : (a'.tmps[11]?).getD undef = .pointer (some ⟨bz, 0, none⟩) := by rw [← Array.getD_eq_getD_getElem?]; exact e11
      refine hpA_load tyshelf_Shelf_string__int_ H rfl e11 hwant (by first | assumption | ((repeat (first | exact List.Mem.head _ | apply List.Mem.tail)))) rfl rfl ?_
      exact hQ _ _ (Off.refl [] _) H rfl
    | 7, ho =>
      have ho2 := Option.some.inj ho
      clear ho
      subst ho2
      obtain ⟨a7, c7, e130, s130⟩ : ∃ a7 c7, a'.eval (.tmp 130) = .agg #[.int .i64 k, .slice a7 (withoutV key X).length c7] ∧ (rS a7 c7 2 ((withoutV key X).map rowOf)).holds w' := hdep ⟨5, .data⟩ (by simp) rfl
      have g130 : (a'.tmps[130]?).getD undef = .agg #[.int .i64 k, .slice a7 (withoutV key X).length c7] := by rw [← Array.getD_eq_getD_getElem?]; exact e130
      have e131 : a'.eval (.tmp 131) = .agg #[.int .i64 k, .slice az ps.length cz] := hdep ⟨6, .data⟩ (by simp) rfl
      have g131 : (a'.tmps[131]?).getD undef = .agg #[.int .i64 k, .slice az ps.length cz] := by rw [← Array.getD_eq_getD_getElem?]; exact e131
      refine wpList_step fun K hK => ?_
      rw [if_pos hwant]
      refine Inv.wp_call 30 #[.agg #[.int .i64 k, .slice a7 (withoutV key X).length c7], .agg #[.int .i64 k, .slice az ps.length cz]] (by simp only [execOp]; go_simp) (by have h9 := equalC k k _ _ _ _ (withoutV key X) ps w' s130 (hp_held H m4) hWb hb; simp only [beq_self_eq_true, Bool.true_and, he] at h9; exact h9) ?_
      rintro e w2 ⟨rfl, ho⟩
      exact ⟨_, rfl, hK _ _ (hQ _ _ ho (Lib.hid (H.out.quiet ho)) rfl)⟩
    | 8, ho =>
      have ho2 := Option.some.inj ho
      clear ho
      subst ho2
      have e24 : a'.eval (.tmp 24) = .bool was := (hfr.old 24 (by kernel_rfl)).trans o24
      have g24 : (a'.tmps[24]?).getD undef = .bool was := by rw [← Array.getD_eq_getD_getElem?]; exact e24
      refine wpList_step fun K hK => ?_
      rw [if_pos hwant]
      exact Inv.wp_val (.bool was) (by simp only [execOp]; go_simp) (hK _ _ (hQ _ _ (Off.refl [] _) H rfl))
    | 9, ho =>
      have ho2 := Option.some.inj ho
      clear ho
      subst ho2
      have e133 : a'.eval (.tmp 133) = .bool was := hdep ⟨8, .data⟩ (by simp) rfl
      have g133 : (a'.tmps[133]?).getD undef = .bool was := by rw [← Array.getD_eq_getD_getElem?]; exact e133
      refine wpList_step fun K hK => ?_
      rw [if_pos hwant]
      exact Inv.wp_val (.bool (!was)) (by simp only [execOp]; go_simp) (hK _ _ (hQ _ _ (Off.refl [] _) H rfl))
    | 10, ho =>
      have ho2 := Option.some.inj ho
      clear ho
      subst ho2
      have e132 : a'.eval (.tmp 132) = .bool e := hdep ⟨7, .data⟩ (by simp) rfl
      have g132 : (a'.tmps[132]?).getD undef = .bool e := by rw [← Array.getD_eq_getD_getElem?]; exact e132
      have e134 : a'.eval (.tmp 134) = .bool (!was) := hdep ⟨9, .data⟩ (by simp) rfl
      have g134 : (a'.tmps[134]?).getD undef = .bool (!was) := by rw [← Array.getD_eq_getD_getElem?]; exact e134
      refine wpList_step fun K hK => ?_
      rw [if_pos hwant]
      exact Inv.wp_val (.bool true) (by simp only [execOp]; go_simp) (hK _ _ (hQ _ _ (Off.refl [] _) H rfl))
    | 11, ho =>
      have ho2 := Option.some.inj ho
      clear ho
      subst ho2
      have e127 : a'.eval (.tmp 127) = .bool false := hdep ⟨2, .data⟩ (by simp) rfl
      have g127 : (a'.tmps[127]?).getD undef = .bool false := by rw [← Array.getD_eq_getD_getElem?]; exact e127
      have e135 : a'.eval (.tmp 135) = .bool true := hdep ⟨10, .data⟩ (by simp) rfl
      have g135 : (a'.tmps[135]?).getD undef = .bool true := by rw [← Array.getD_eq_getD_getElem?]; exact e135
      refine wpList_step fun K hK => ?_
      rw [if_pos hwant]
      exact Inv.wp_val (.bool true) (by simp only [execOp]; go_simp) (hK _ _ (hQ _ _ (Off.refl [] _) H rfl))
    | 12, ho =>
      have ho2 := Option.some.inj ho
      clear ho
      subst ho2
      have e136 : a'.eval (.tmp 136) = .bool true := hdep ⟨11, .data⟩ (by simp) rfl
      have g136 : (a'.tmps[136]?).getD undef = .bool true := by rw [← Array.getD_eq_getD_getElem?]; exact e136
      refine wpList_step fun K hK => ?_
      rw [if_pos hwant]
      exact Inv.wp_val (.bool true) (by simp only [execOp]; go_simp) (hK _ _ (hQ _ _ (Off.refl [] _) H rfl))
    | _ + 13, ho => simp at ho
  · intro i o ho a' w' hdep hwant
    match i, ho with
    | 0, ho =>
      have ho2 := Option.some.inj ho
      clear ho
      subst ho2
      exact (skip_none hwant rfl).elim
    | 1, ho =>
      have ho2 := Option.some.inj ho
      clear ho
      subst ho2
      exact (skip_none hwant rfl).elim
    | 2, ho =>
      have ho2 := Option.some.inj ho
      clear ho
      subst ho2
      exact (skip_none hwant rfl).elim
    | 3, ho =>
      have ho2 := Option.some.inj ho
      clear ho
      subst ho2
      have eg : a'.tmps.getD 127 undef = .bool false := hdep ⟨2, .guard⟩ (by simp) rfl
      exact (skip_want hwant rfl (by kernel_rfl) eg).elim
    | 4, ho =>
      have ho2 := Option.some.inj ho
      clear ho
      subst ho2
      have eg : a'.tmps.getD 127 undef = .bool false := hdep ⟨2, .guard⟩ (by simp) rfl
      exact (skip_want hwant rfl (by kernel_rfl) eg).elim
    | 5, ho =>
      have ho2 := Option.some.inj ho
      clear ho
      subst ho2
      have eg : a'.tmps.getD 127 undef = .bool false := hdep ⟨2, .guard⟩ (by simp) rfl
      exact (skip_want hwant rfl (by kernel_rfl) eg).elim
    | 6, ho =>
      have ho2 := Option.some.inj ho
      clear ho
      subst ho2
      have eg : a'.tmps.getD 127 undef = .bool false := hdep ⟨2, .guard⟩ (by simp) rfl
      exact (skip_want hwant rfl (by kernel_rfl) eg).elim
    | 7, ho =>
      have ho2 := Option.some.inj ho
      clear ho
      subst ho2
      have eg : a'.tmps.getD 127 undef = .bool false := hdep ⟨2, .guard⟩ (by simp) rfl
      exact (skip_want hwant rfl (by kernel_rfl) eg).elim
    | 8, ho =>
      have ho2 := Option.some.inj ho
      clear ho
      subst ho2
      have eg : a'.tmps.getD 127 undef = .bool false := hdep ⟨2, .guard⟩ (by simp) rfl
      exact (skip_want hwant rfl (by kernel_rfl) eg).elim
    | 9, ho =>
      have ho2 := Option.some.inj ho
      clear ho
      subst ho2
      have eg : a'.tmps.getD 127 undef = .bool false := hdep ⟨2, .guard⟩ (by simp) rfl
      exact (skip_want hwant rfl (by kernel_rfl) eg).elim
    | 10, ho =>
      have ho2 := Option.some.inj ho
      clear ho
      subst ho2
      have eg : a'.tmps.getD 127 undef = .bool false := hdep ⟨2, .guard⟩ (by simp) rfl
      exact (skip_want hwant rfl (by kernel_rfl) eg).elim
    | 11, ho =>
      have ho2 := Option.some.inj ho
      clear ho
      subst ho2
      exact (skip_none hwant rfl).elim
    | 12, ho =>
      have ho2 := Option.some.inj ho
      clear ho
      subst ho2
      exact (skip_none hwant rfl).elim
    | _ + 13, ho => simp at ho
  · clear H
    intro vs w5 H hv
    have v0 : vs 0 = .bool true := hv 0 (by decide)
    have v1 : vs 1 = .bool false := hv 1 (by decide)
    have v2 : vs 2 = .bool false := hv 2 (by decide)
    have v3 : vs 3 = .agg #[.int .i64 k, .slice ax X.length cx] := hv 3 (by decide)
    have v4 : vs 4 = .string key := hv 4 (by decide)
    obtain ⟨a7, c7, v5, s5⟩ : ∃ a7 c7, vs 5 = .agg #[.int .i64 k, .slice a7 (withoutV key X).length c7] ∧ (rS a7 c7 2 ((withoutV key X).map rowOf)).holds w5 := hv 5 (by decide)
    have v6 : vs 6 = .agg #[.int .i64 k, .slice az ps.length cz] := hv 6 (by decide)
    have v7 : vs 7 = .bool e := hv 7 (by decide)
    have v8 : vs 8 = .bool was := hv 8 (by decide)
    have v9 : vs 9 = .bool (!was) := hv 9 (by decide)
    have v10 : vs 10 = .bool true := hv 10 (by decide)
    have v11 : vs 11 = .bool true := hv 11 (by decide)
    have v12 : vs 12 = .bool true := hv 12 (by decide)
    clear hv
    simp only [List.size_toArray, List.length_cons, List.length_nil, Nat.reduceAdd, Inv.putAll, Inv.dstAt, List.getElem?_toArray, List.getElem?_cons_zero, List.getElem?_cons_succ, Option.bind_some, v0, v1, v2, v3, v4, v5, v6, v7, v8, v9, v10, v11, v12]
    exact hfin _ _ _ H s5
theorem parts21B (ps : List PairV) {w0 w : World} {R : List Res} (H : Hid (Hp [] w0 w R))  (a0 : Act) (hN : a0.tmps.size = 137) (o22 : a0.eval (.tmp 22) = .bool false) {Q : Exit → Act → World → Prop} (hfin : ∀ w', Hid (Hp [] w0 w' R) → Q .normal (((((((((((((a0.put (some 125) (.bool false)).put (some 126) (.bool true)).put (some 127) (.bool true)).put (some 128) (undef)).put (some 129) (undef)).put (some 130) (undef)).put (some 131) (undef)).put (some 132) (undef)).put (some 133) (undef)).put (some 134) (undef)).put (some 135) (undef)).put (some 136) (.bool true)).put (some 10) (.bool true)) w') : (Code.region 21 #[{ dst := some 125, op := Op.move (Operand.tmp 22), type := 4, pos := "own.go:104", after := #[], guard := none }, { dst := some 126, op := Op.unOp UnOp.not 4 (Operand.tmp 125), type := 4, pos := "own.go:104", after := #[{ on := 0, ground := Ground.data }], guard := none }, { dst := some 127, op := Op.move (Operand.tmp 126), type := 4, pos := "own.go:104", after := #[{ on := 1, ground := Ground.data }], guard := none }, { dst := some 128, op := Op.load 43 (Operand.tmp 21), type := 43, pos := "own.go:104", after := #[{ on := 2, ground := Ground.guard }], guard := some (2, false) }, { dst := some 129, op := Op.move (Operand.tmp 3), type := 9, pos := "own.go:104", after := #[{ on := 2, ground := Ground.guard }], guard := some (2, false) }, { dst := some 130, op := Op.call { callee := Callee.value (Operand.func 37), args := #[Operand.tmp 128, Operand.tmp 129], argTypes := #[43, 9] }, type := 43, pos := "own.go:104", after := #[{ on := 3, ground := Ground.data }, { on := 4, ground := Ground.data }, { on := 2, ground := Ground.chain }, { on := 2, ground := Ground.guard }], guard := some (2, false) }, { dst := some 131, op := Op.load 43 (Operand.tmp 11), type := 43, pos := "own.go:104", after := #[{ on := 2, ground := Ground.guard }], guard := some (2, false) }, { dst := some 132, op := Op.call { callee := Callee.value (Operand.func 30), args := #[Operand.tmp 130, Operand.tmp 131], argTypes := #[43, 43] }, type := 4, pos := "own.go:104", after := #[{ on := 5, ground := Ground.data }, { on := 6, ground := Ground.data }, { on := 5, ground := Ground.chain }, { on := 2, ground := Ground.guard }], guard := some (2, false) }, { dst := some 133, op := Op.move (Operand.tmp 24), type := 4, pos := "own.go:104", after := #[{ on := 2, ground := Ground.guard }], guard := some (2, false) }, { dst := some 134, op := Op.unOp UnOp.not 4 (Operand.tmp 133), type := 4, pos := "own.go:104", after := #[{ on := 8, ground := Ground.data }, { on := 2, ground := Ground.guard }], guard := some (2, false) }, { dst := some 135, op := Op.binOp BinOp.eql 4 (Operand.tmp 132) (Operand.tmp 134) 4, type := 4, pos := "own.go:104", after := #[{ on := 7, ground := Ground.data }, { on := 9, ground := Ground.data }, { on := 2, ground := Ground.guard }], guard := some (2, false) }, { dst := some 136, op := Op.pick (Operand.tmp 127) (Operand.const (Value.bool true)) (Operand.tmp 135), type := 4, pos := "own.go:104", after := #[{ on := 2, ground := Ground.data }, { on := 10, ground := Ground.data }], guard := none }, { dst := some 10, op := Op.assign (Operand.tmp 136), type := 4, pos := "own.go:104", after := #[{ on := 11, ground := Ground.data }, { on := 7, ground := Ground.chain }, { on := 0, ground := Ground.phase }, { on := 1, ground := Ground.phase }, { on := 2, ground := Ground.phase }, { on := 3, ground := Ground.phase }, { on := 4, ground := Ground.phase }, { on := 5, ground := Ground.phase }, { on := 6, ground := Ground.phase }, { on := 7, ground := Ground.phase }, { on := 8, ground := Ground.phase }, { on := 9, ground := Ground.phase }, { on := 10, ground := Ground.phase }, { on := 11, ground := Ground.phase }], guard := none }] true).wp Try.prog Q a0 w := by
  refine hp_walksF H (fun j v w' => match j with | 0 => v = .bool false | 1 => v = .bool true | 2 => v = .bool true | 3 => v = undef | 4 => v = undef | 5 => v = undef | 6 => v = undef | 7 => v = undef | 8 => v = undef | 9 => v = undef | 10 => v = undef | 11 => v = .bool true | 12 => v = .bool true | _ => True) ?_ (by kernel_rfl) ⟨[0, 1, 2, 3, 3, 4, 3, 5, 3, 4, 6, 7, 8], by kernel_rfl⟩ (by kernel_rfl) 137 hN (by kernel_rfl) (by kernel_rfl) ?_ ?_ ?_
  · intro j v w' w'' h ho
    match j, h with
    | 0, h => exact h
    | 1, h => exact h
    | 2, h => exact h
    | 3, h => exact h
    | 4, h => exact h
    | 5, h => exact h
    | 6, h => exact h
    | 7, h => exact h
    | 8, h => exact h
    | 9, h => exact h
    | 10, h => exact h
    | 11, h => exact h
    | 12, h => exact h
    | _ + 13, _ => trivial
  · intro i o ho a' w' hfr H hdep hwant Q' hQ
    match i, ho with
    | 0, ho =>
      have ho2 := Option.some.inj ho
      clear ho
      subst ho2
      have e22 : a'.eval (.tmp 22) = .bool false := (hfr.old 22 (by kernel_rfl)).trans o22
      have g22 : (a'.tmps[22]?).getD undef = .bool false := by rw [← Array.getD_eq_getD_getElem?]; exact e22
      refine wpList_step fun K hK => ?_
      rw [if_pos hwant]
      exact Inv.wp_val (.bool false) (by simp only [execOp]; go_simp) (hK _ _ (hQ _ _ (Off.refl [] _) H rfl))
    | 1, ho =>
      have ho2 := Option.some.inj ho
      clear ho
      subst ho2
      have e125 : a'.eval (.tmp 125) = .bool false := hdep ⟨0, .data⟩ (by simp) rfl
      have g125 : (a'.tmps[125]?).getD undef = .bool false := by rw [← Array.getD_eq_getD_getElem?]; exact e125
      refine wpList_step fun K hK => ?_
      rw [if_pos hwant]
      exact Inv.wp_val (.bool true) (by simp only [execOp]; go_simp) (hK _ _ (hQ _ _ (Off.refl [] _) H rfl))
    | 2, ho =>
      have ho2 := Option.some.inj ho
      clear ho
      subst ho2
      have e126 : a'.eval (.tmp 126) = .bool true := hdep ⟨1, .data⟩ (by simp) rfl
      have g126 : (a'.tmps[126]?).getD undef = .bool true := by rw [← Array.getD_eq_getD_getElem?]; exact e126
      refine wpList_step fun K hK => ?_
      rw [if_pos hwant]
      exact Inv.wp_val (.bool true) (by simp only [execOp]; go_simp) (hK _ _ (hQ _ _ (Off.refl [] _) H rfl))
    | 3, ho =>
      have ho2 := Option.some.inj ho
      clear ho
      subst ho2
      have eg : a'.tmps.getD 127 undef = .bool true := hdep ⟨2, .guard⟩ (by simp) rfl
      exact (keep_bad hwant rfl (by kernel_rfl) eg).elim
    | 4, ho =>
      have ho2 := Option.some.inj ho
      clear ho
      subst ho2
      have eg : a'.tmps.getD 127 undef = .bool true := hdep ⟨2, .guard⟩ (by simp) rfl
      exact (keep_bad hwant rfl (by kernel_rfl) eg).elim
    | 5, ho =>
      have ho2 := Option.some.inj ho
      clear ho
      subst ho2
      have eg : a'.tmps.getD 127 undef = .bool true := hdep ⟨2, .guard⟩ (by simp) rfl
      exact (keep_bad hwant rfl (by kernel_rfl) eg).elim
    | 6, ho =>
      have ho2 := Option.some.inj ho
      clear ho
      subst ho2
      have eg : a'.tmps.getD 127 undef = .bool true := hdep ⟨2, .guard⟩ (by simp) rfl
      exact (keep_bad hwant rfl (by kernel_rfl) eg).elim
    | 7, ho =>
      have ho2 := Option.some.inj ho
      clear ho
      subst ho2
      have eg : a'.tmps.getD 127 undef = .bool true := hdep ⟨2, .guard⟩ (by simp) rfl
      exact (keep_bad hwant rfl (by kernel_rfl) eg).elim
    | 8, ho =>
      have ho2 := Option.some.inj ho
      clear ho
      subst ho2
      have eg : a'.tmps.getD 127 undef = .bool true := hdep ⟨2, .guard⟩ (by simp) rfl
      exact (keep_bad hwant rfl (by kernel_rfl) eg).elim
    | 9, ho =>
      have ho2 := Option.some.inj ho
      clear ho
      subst ho2
      have eg : a'.tmps.getD 127 undef = .bool true := hdep ⟨2, .guard⟩ (by simp) rfl
      exact (keep_bad hwant rfl (by kernel_rfl) eg).elim
    | 10, ho =>
      have ho2 := Option.some.inj ho
      clear ho
      subst ho2
      have eg : a'.tmps.getD 127 undef = .bool true := hdep ⟨2, .guard⟩ (by simp) rfl
      exact (keep_bad hwant rfl (by kernel_rfl) eg).elim
    | 11, ho =>
      have ho2 := Option.some.inj ho
      clear ho
      subst ho2
      have e127 : a'.eval (.tmp 127) = .bool true := hdep ⟨2, .data⟩ (by simp) rfl
      have g127 : (a'.tmps[127]?).getD undef = .bool true := by rw [← Array.getD_eq_getD_getElem?]; exact e127
      have e135 : a'.eval (.tmp 135) = undef := hdep ⟨10, .data⟩ (by simp) rfl
      have g135 : (a'.tmps[135]?).getD undef = undef := by rw [← Array.getD_eq_getD_getElem?]; exact e135
      refine wpList_step fun K hK => ?_
      rw [if_pos hwant]
      exact Inv.wp_val (.bool true) (by simp only [execOp]; go_simp) (hK _ _ (hQ _ _ (Off.refl [] _) H rfl))
    | 12, ho =>
      have ho2 := Option.some.inj ho
      clear ho
      subst ho2
      have e136 : a'.eval (.tmp 136) = .bool true := hdep ⟨11, .data⟩ (by simp) rfl
      have g136 : (a'.tmps[136]?).getD undef = .bool true := by rw [← Array.getD_eq_getD_getElem?]; exact e136
      refine wpList_step fun K hK => ?_
      rw [if_pos hwant]
      exact Inv.wp_val (.bool true) (by simp only [execOp]; go_simp) (hK _ _ (hQ _ _ (Off.refl [] _) H rfl))
    | _ + 13, ho => simp at ho
  · intro i o ho a' w' hdep hwant
    match i, ho with
    | 0, ho =>
      have ho2 := Option.some.inj ho
      clear ho
      subst ho2
      exact (skip_none hwant rfl).elim
    | 1, ho =>
      have ho2 := Option.some.inj ho
      clear ho
      subst ho2
      exact (skip_none hwant rfl).elim
    | 2, ho =>
      have ho2 := Option.some.inj ho
      clear ho
      subst ho2
      exact (skip_none hwant rfl).elim
    | 3, ho =>
      have ho2 := Option.some.inj ho
      clear ho
      subst ho2
      exact (rfl : undef = undef)
    | 4, ho =>
      have ho2 := Option.some.inj ho
      clear ho
      subst ho2
      exact (rfl : undef = undef)
    | 5, ho =>
      have ho2 := Option.some.inj ho
      clear ho
      subst ho2
      exact (rfl : undef = undef)
    | 6, ho =>
      have ho2 := Option.some.inj ho
      clear ho
      subst ho2
      exact (rfl : undef = undef)
    | 7, ho =>
      have ho2 := Option.some.inj ho
      clear ho
      subst ho2
      exact (rfl : undef = undef)
    | 8, ho =>
      have ho2 := Option.some.inj ho
      clear ho
      subst ho2
      exact (rfl : undef = undef)
    | 9, ho =>
      have ho2 := Option.some.inj ho
      clear ho
      subst ho2
      exact (rfl : undef = undef)
    | 10, ho =>
      have ho2 := Option.some.inj ho
      clear ho
      subst ho2
      exact (rfl : undef = undef)
    | 11, ho =>
      have ho2 := Option.some.inj ho
      clear ho
      subst ho2
      exact (skip_none hwant rfl).elim
    | 12, ho =>
      have ho2 := Option.some.inj ho
      clear ho
      subst ho2
      exact (skip_none hwant rfl).elim
    | _ + 13, ho => simp at ho
  · clear H
    intro vs w5 H hv
    have v0 : vs 0 = .bool false := hv 0 (by decide)
    have v1 : vs 1 = .bool true := hv 1 (by decide)
    have v2 : vs 2 = .bool true := hv 2 (by decide)
    have v3 : vs 3 = undef := hv 3 (by decide)
    have v4 : vs 4 = undef := hv 4 (by decide)
    have v5 : vs 5 = undef := hv 5 (by decide)
    have v6 : vs 6 = undef := hv 6 (by decide)
    have v7 : vs 7 = undef := hv 7 (by decide)
    have v8 : vs 8 = undef := hv 8 (by decide)
    have v9 : vs 9 = undef := hv 9 (by decide)
    have v10 : vs 10 = undef := hv 10 (by decide)
    have v11 : vs 11 = .bool true := hv 11 (by decide)
    have v12 : vs 12 = .bool true := hv 12 (by decide)
    clear hv
    simp only [List.size_toArray, List.length_cons, List.length_nil, Nat.reduceAdd, Inv.putAll, Inv.dstAt, List.getElem?_toArray, List.getElem?_cons_zero, List.getElem?_cons_succ, Option.bind_some, v0, v1, v2, v3, v4, v5, v6, v7, v8, v9, v10, v11, v12]
    exact hfin _ H
theorem few_out (key : ByteArray) (X : List PairV) (h : X.length ≤ 1000000) : (withoutV key X).length ≤ 1000000 := by
  unfold withoutV
  split
  · simp [delAt]; omega
  · exact h
theorem getP (key : ByteArray) (ps : List PairV) (b : Bool) (hs : Hid (Sorted ps)) (hb : ps.length ≤ 1000000) (q : isV key ps = b) (k : Int) (a : Option Addr) (c : Nat) (w : World) (h : (rS a c 2 (ps.map rowOf)).holds w) : Calls Try.prog 29 #[.agg #[.int .i64 k, .slice a ps.length c], .string key] w fun e w' => e = .returned (.tuple #[.int .i64 (getV key ps).1, .bool b]) ∧ Off [] w w' := by
  have h9 := getC k a c ps key w h hs.out hb
  rw [get_is, q] at h9
  exact h9
theorem parts_A (n k t by_ v : Int) (key : ByteArray) (ra : Option Addr) (rc : Nat) (fs : List ActV) (ps : List PairV) (w : World) (hl : fs.length ≤ 40) (l2 : ¬ (10 < (key.size : Int))) (hk : 1 ≤ k ∧ k ≤ 40) (hkn : wrap64 (1 + wrap64 ((IntKind.u64.wrap n).tmod 40)) = k) (ht : 2 ≤ t ∧ t ≤ 4) (htn : wrap64 (2 + wrap64 ((IntKind.u64.wrap by_).tmod 3)) = t) (hps : Hid (ps = doesV k fs [])) (h1 : Hid ((rS ra rc 3 (fs.map actRow)).holds w)) (q : isV key ps = true) : Calls Try.prog 7 #[.int .i64 n, .slice ra fs.length rc, .int .i64 by_, .string key, .int .i64 v] w fun e w' => e = .returned (.bool true) ∧ Off [] w w' := by
  have H0 := Lib.hid (Hp.start [] w)
  have H := hp_old H0 h1.out (by decide)
  clear H0 h1
  have hsp : Hid (Sorted ps) := Lib.hid (by rw [hps.out]; exact sorted_does k fs List.Pairwise.nil)
  have hb : ps.length ≤ 1000000 := by have h9 := few_does k fs []; rw [← hps.out] at h9; simp at h9; omega
  have hbs := Lib.hid (show ps.length ≤ 40 by have h9 := few_does k fs []; rw [← hps.out] at h9; simp at h9; omega)
  have l1 : ¬ (40 < (fs.length : Int)) := by omega
  go_enter Try.func7, Try.ntmps7
  go_upto_region 9 with (first
    | ((with_reducible apply g_mem); (focus (exact rfl)); first
      | ((with_reducible apply hpN_alloc tyshelf_Shelf_string__int_ 11 H); (focus (exact rfl)); (focus (exact rfl)); (focus (exact rfl)); intro w5 b11 H5; clear H; have H := H5; clear H5)
      | ((with_reducible apply hpA_store tyshelf_Shelf_string__int_ H); (focus (exact rfl)); (focus (exact rfl)); (focus (exact rfl)); (focus (exact rfl)); (focus (exact rfl)); (focus (repeat (first | apply Put.head | apply Put.tail))); (focus (first | (simp; done) | (simp [Value.oneCell']; done))); (focus (first | (simp; done) | (simp [Value.oneCell']; done))); (focus ((try simp only [spl]); exact rfl)); (focus (exact rfl)); intro w5 H5; clear H; have H := H5; clear H5)
      | ((with_reducible apply hpN_alloc tyhoistwaylaw06_part 12 H); (focus (exact rfl)); (focus (exact rfl)); (focus (exact rfl)); intro w5 b12 H5; clear H; have H := H5; clear H5)
      | ((with_reducible apply hpA_store tyhoistwaylaw06_part H); (focus (exact rfl)); (focus (exact rfl)); (focus (exact rfl)); (focus (exact rfl)); (focus (exact rfl)); (focus (repeat (first | apply Put.head | apply Put.tail))); (focus (first | (simp; done) | (simp [Value.oneCell']; done))); (focus (first | (simp; done) | (simp [Value.oneCell']; done))); (focus ((try simp only [spl]); exact rfl)); (focus (exact rfl)); intro w5 H5; clear H; have H := H5; clear H5)
      | ((with_reducible apply hpA_load tyshelf_Shelf_string__int_ H); (focus (exact rfl)); (focus (exact rfl)); (focus (first | (exact rfl) | (simp [Region.wanted]; done) | (simp only [Region.wanted]; go_simp; done))); (focus (repeat (first | exact List.Mem.head _ | apply List.Mem.tail))); (focus ((try simp only [List.drop_zero, List.drop_succ_cons, List.take_succ_cons, List.take_zero]); exact rfl)); (focus (exact rfl)))
      | ((with_reducible apply hpA_load tyhoistwaylaw06_part H); (focus (exact rfl)); (focus (exact rfl)); (focus (first | (exact rfl) | (simp [Region.wanted]; done) | (simp only [Region.wanted]; go_simp; done))); (focus (repeat (first | exact List.Mem.head _ | apply List.Mem.tail))); (focus ((try simp only [List.drop_zero, List.drop_succ_cons, List.take_succ_cons, List.take_zero]); exact rfl)); (focus (exact rfl)))
      | ((with_reducible apply hpN_alloc tyshelf_Shelf_string__int_ 13 H); (focus (exact rfl)); (focus (exact rfl)); (focus (exact rfl)); intro w5 b13 H5; clear H; have H := H5; clear H5)
      | ((with_reducible apply hpN_alloc tyshelf_Shelf_string__int_ 14 H); (focus (exact rfl)); (focus (exact rfl)); (focus (exact rfl)); intro w5 b14 H5; clear H; have H := H5; clear H5)
      | ((with_reducible apply hpA_load1 tystring H); (focus (exact rfl)); (focus (exact rfl)); (focus (first | (exact rfl) | (simp [Region.wanted]; done) | (simp only [Region.wanted]; go_simp; done))); (focus (repeat (first | exact List.Mem.head _ | apply List.Mem.tail))); (focus ((try simp only [List.getElem?_cons_zero, List.getElem?_cons_succ]); exact rfl)))
      | ((with_reducible apply hpA_load1 tyint H); (focus (exact rfl)); (focus (exact rfl)); (focus (first | (exact rfl) | (simp [Region.wanted]; done) | (simp only [Region.wanted]; go_simp; done))); (focus (repeat (first | exact List.Mem.head _ | apply List.Mem.tail))); (focus ((try simp only [List.getElem?_cons_zero, List.getElem?_cons_succ]); exact rfl)))
      | ((with_reducible apply hpN_alloc tyshelf_Shelf_string__int_ 21 H); (focus (exact rfl)); (focus (exact rfl)); (focus (exact rfl)); intro w5 b21 H5; clear H; have H := H5; clear H5))
    | (go_at_call 25; (with_reducible refine (awake6 _).mono ?_); rintro e w5 ⟨rfl, ho⟩; have H5 := Lib.hid (H.out.quiet ho); clear H ho; have H := H5; clear H5)
    | (go_at_call 33; (with_reducible refine (partIs _ p hby _).mono ?_); rintro e w5 ⟨rfl, ho⟩; have H5 := Lib.hid (H.out.quiet ho); clear H ho; have H := H5; clear H5)
    | (go_at_call 26; (with_reducible refine (newK k hk _).mono ?_); rintro e w5 ⟨rfl, ho⟩; have H5 := hp_none (Lib.hid (H.out.quiet ho)) 2 (by decide); clear H ho; have H := H5; clear H5)
    | (go_at_call 31; (with_reducible refine (does_p k fs ps hps hl _ _ _ _ _ (hp_held H (by simp)) (hp_held H (by simp))).mono ?_); rintro e w5 ⟨a11, c11, rfl, h5⟩; have hsz := H.out.off.size; have H5 := hp_got H h5.2.2 h5.1 (by decide) h5.2.1 (by simp); clear H; have H := H5; clear H5)
    | (go_at_call 32; (with_reducible refine (keepPIs k t ht ps hb _ _ _ (hp_held H (by simp))).mono ?_); rintro e w5 ⟨a13, c13, rfl, h5⟩; have hsz := H.out.off.size; have H5 := hp_got H h5.2.2 h5.1 (by decide) h5.2.1 (by simp); clear H; have H := H5; clear H5)
    | (go_at_call 32; (with_reducible refine (keepPNot k t ht ps hb _ _ _ (hp_held H (by simp))).mono ?_); rintro e w5 ⟨a14, c14, rfl, h5⟩; have hsz := H.out.off.size; have H5 := hp_got H h5.2.2 h5.1 (by decide) h5.2.1 (by simp); clear H; have H := H5; clear H5))
  have hsum : (((ps.filter (keptV t)).length : Nat) : Int) + (((ps.filter fun p => !keptV t p).length : Nat) : Int) = (ps.length : Int) := by have h9 := parts_sum (keptV t) ps; omega
  refine parts9 k a13 a14 a11 (ps.filter (keptV t)) (ps.filter fun p => !keptV t p) ps c13 c14 c11 b13 b14 b11 hsum (by rw [IntKind.wrap_i64]; omega) H (by simp) (by simp) (by simp) _ rfl rfl rfl rfl ?_
  intro w5 H5
  clear H
  have H := H5
  clear H5
  simp only [Act.put, List.setIfInBounds_toArray, List.set_cons_zero, List.set_cons_succ]
  clear hsum
  go_wp2_with (first
    | ((with_reducible apply g_mem); (focus (exact rfl)); first
      | ((with_reducible apply hpN_alloc tyshelf_Shelf_string__int_ 11 H); (focus (exact rfl)); (focus (exact rfl)); (focus (exact rfl)); intro w5 b11 H5; clear H; have H := H5; clear H5)
      | ((with_reducible apply hpA_store tyshelf_Shelf_string__int_ H); (focus (exact rfl)); (focus (exact rfl)); (focus (exact rfl)); (focus (exact rfl)); (focus (exact rfl)); (focus (repeat (first | apply Put.head | apply Put.tail))); (focus (first | (simp; done) | (simp [Value.oneCell']; done))); (focus (first | (simp; done) | (simp [Value.oneCell']; done))); (focus ((try simp only [spl]); exact rfl)); (focus (exact rfl)); intro w5 H5; clear H; have H := H5; clear H5)
      | ((with_reducible apply hpN_alloc tyhoistwaylaw06_part 12 H); (focus (exact rfl)); (focus (exact rfl)); (focus (exact rfl)); intro w5 b12 H5; clear H; have H := H5; clear H5)
      | ((with_reducible apply hpA_store tyhoistwaylaw06_part H); (focus (exact rfl)); (focus (exact rfl)); (focus (exact rfl)); (focus (exact rfl)); (focus (exact rfl)); (focus (repeat (first | apply Put.head | apply Put.tail))); (focus (first | (simp; done) | (simp [Value.oneCell']; done))); (focus (first | (simp; done) | (simp [Value.oneCell']; done))); (focus ((try simp only [spl]); exact rfl)); (focus (exact rfl)); intro w5 H5; clear H; have H := H5; clear H5)
      | ((with_reducible apply hpA_load tyshelf_Shelf_string__int_ H); (focus (exact rfl)); (focus (exact rfl)); (focus (first | (exact rfl) | (simp [Region.wanted]; done) | (simp only [Region.wanted]; go_simp; done))); (focus (repeat (first | exact List.Mem.head _ | apply List.Mem.tail))); (focus ((try simp only [List.drop_zero, List.drop_succ_cons, List.take_succ_cons, List.take_zero]); exact rfl)); (focus (exact rfl)))
      | ((with_reducible apply hpA_load tyhoistwaylaw06_part H); (focus (exact rfl)); (focus (exact rfl)); (focus (first | (exact rfl) | (simp [Region.wanted]; done) | (simp only [Region.wanted]; go_simp; done))); (focus (repeat (first | exact List.Mem.head _ | apply List.Mem.tail))); (focus ((try simp only [List.drop_zero, List.drop_succ_cons, List.take_succ_cons, List.take_zero]); exact rfl)); (focus (exact rfl)))
      | ((with_reducible apply hpN_alloc tyshelf_Shelf_string__int_ 13 H); (focus (exact rfl)); (focus (exact rfl)); (focus (exact rfl)); intro w5 b13 H5; clear H; have H := H5; clear H5)
      | ((with_reducible apply hpN_alloc tyshelf_Shelf_string__int_ 14 H); (focus (exact rfl)); (focus (exact rfl)); (focus (exact rfl)); intro w5 b14 H5; clear H; have H := H5; clear H5)
      | ((with_reducible apply hpA_load1 tystring H); (focus (exact rfl)); (focus (exact rfl)); (focus (first | (exact rfl) | (simp [Region.wanted]; done) | (simp only [Region.wanted]; go_simp; done))); (focus (repeat (first | exact List.Mem.head _ | apply List.Mem.tail))); (focus ((try simp only [List.getElem?_cons_zero, List.getElem?_cons_succ]); exact rfl)))
      | ((with_reducible apply hpA_load1 tyint H); (focus (exact rfl)); (focus (exact rfl)); (focus (first | (exact rfl) | (simp [Region.wanted]; done) | (simp only [Region.wanted]; go_simp; done))); (focus (repeat (first | exact List.Mem.head _ | apply List.Mem.tail))); (focus ((try simp only [List.getElem?_cons_zero, List.getElem?_cons_succ]); exact rfl)))
      | ((with_reducible apply hpN_alloc tyshelf_Shelf_string__int_ 21 H); (focus (exact rfl)); (focus (exact rfl)); (focus (exact rfl)); intro w5 b21 H5; clear H; have H := H5; clear H5))
    | (go_at_call 25; (with_reducible refine (awake6 _).mono ?_); rintro e w5 ⟨rfl, ho⟩; have H5 := Lib.hid (H.out.quiet ho); clear H ho; have H := H5; clear H5)
    | (go_at_call 33; (with_reducible refine (partIs _ p hby _).mono ?_); rintro e w5 ⟨rfl, ho⟩; have H5 := Lib.hid (H.out.quiet ho); clear H ho; have H := H5; clear H5)
    | (go_at_call 36; (with_reducible refine (listC k _ _ ps _ (hp_held H (by simp)) hb).mono ?_); rintro e w5 ⟨a15, c15, rfl, h5⟩; have hsz := H.out.off.size; have H5 := hp_got H h5.2.2 h5.1 (by decide) h5.2.1 (by simp); clear H; have H := H5; clear H5))
  have HN := Lib.hid (fun j (hj : j < ps.length) => some_of_row (hp_held H (show rS a15 c15 2 (ps.map rowOf) ∈ _ by simp)) (i := j) (by simpa using hj))
  generalize hn : ps.length = m at *
  go_loopw [16] (fun vi wr => ∃ ii : Nat, ii ≤ m ∧ vi = .int .i64 ii ∧ Hid (Hp [] w wr [rS a15 c15 2 (ps.map rowOf), rB b14 43 [.int .i64 k, .slice a14 (ps.filter fun p => !keptV t p).length c14], rS a14 c14 2 ((ps.filter fun p => !keptV t p).map rowOf), rB b13 43 [.int .i64 k, .slice a13 (ps.filter (keptV t)).length c13], rS a13 c13 2 ((ps.filter (keptV t)).map rowOf), rB b12 56 [.int .i64 t], rB b11 43 [.int .i64 k, .slice a11 m c11], rS a11 c11 2 (ps.map rowOf), rS none 0 2 [], rS ra rc 3 (fs.map actRow)])) (fun vi _ => m - (intOf vi).toNat)
  case atStart => exact ⟨0, by omega, rfl, H⟩
  case round =>
    clear H
    obtain ⟨ii, hi, rfl, H⟩ := hrel
    by_cases hlt : ii < m
    · obtain ⟨y, rfl⟩ := HN.out ii (by omega)
      obtain ⟨p, hp, _⟩ := row_cons (ps := ps) (i := ii) (by omega)
      have HR := Lib.hid (row_at hp)
      have HgF := Lib.hid (get_filter hsp.out (keptV t) (List.mem_of_getElem? hp))
      have HgG := Lib.hid (get_filter hsp.out (fun p => !keptV t p) (List.mem_of_getElem? hp))
      clear hp
      obtain ⟨b, hq9⟩ : ∃ b, keptV t p = b := ⟨_, rfl⟩
      have HQ9 := Lib.hid hq9
      clear hq9
      have hb1 : (b == !b) = false := by cases b <;> rfl
      have hb2 : (b != b) = false := by cases b <;> rfl
      have HB1 := Lib.hid hb1
      have HB2 := Lib.hid hb2
      clear hb1 hb2
      go_upto_region 15 with (first
        | ((with_reducible apply g_mem); (focus (exact rfl)); first
      | ((with_reducible apply hpN_alloc tyshelf_Shelf_string__int_ 11 H); (focus (exact rfl)); (focus (exact rfl)); (focus (exact rfl)); intro w5 b11 H5; clear H; have H := H5; clear H5)
      | ((with_reducible apply hpA_store tyshelf_Shelf_string__int_ H); (focus (exact rfl)); (focus (exact rfl)); (focus (exact rfl)); (focus (exact rfl)); (focus (exact rfl)); (focus (repeat (first | apply Put.head | apply Put.tail))); (focus (first | (simp; done) | (simp [Value.oneCell']; done))); (focus (first | (simp; done) | (simp [Value.oneCell']; done))); (focus ((try simp only [spl]); exact rfl)); (focus (exact rfl)); intro w5 H5; clear H; have H := H5; clear H5)
      | ((with_reducible apply hpN_alloc tyhoistwaylaw06_part 12 H); (focus (exact rfl)); (focus (exact rfl)); (focus (exact rfl)); intro w5 b12 H5; clear H; have H := H5; clear H5)
      | ((with_reducible apply hpA_store tyhoistwaylaw06_part H); (focus (exact rfl)); (focus (exact rfl)); (focus (exact rfl)); (focus (exact rfl)); (focus (exact rfl)); (focus (repeat (first | apply Put.head | apply Put.tail))); (focus (first | (simp; done) | (simp [Value.oneCell']; done))); (focus (first | (simp; done) | (simp [Value.oneCell']; done))); (focus ((try simp only [spl]); exact rfl)); (focus (exact rfl)); intro w5 H5; clear H; have H := H5; clear H5)
      | ((with_reducible apply hpA_load tyshelf_Shelf_string__int_ H); (focus (exact rfl)); (focus (exact rfl)); (focus (first | (exact rfl) | (simp [Region.wanted]; done) | (simp only [Region.wanted]; go_simp; done))); (focus (repeat (first | exact List.Mem.head _ | apply List.Mem.tail))); (focus ((try simp only [List.drop_zero, List.drop_succ_cons, List.take_succ_cons, List.take_zero]); exact rfl)); (focus (exact rfl)))
      | ((with_reducible apply hpA_load tyhoistwaylaw06_part H); (focus (exact rfl)); (focus (exact rfl)); (focus (first | (exact rfl) | (simp [Region.wanted]; done) | (simp only [Region.wanted]; go_simp; done))); (focus (repeat (first | exact List.Mem.head _ | apply List.Mem.tail))); (focus ((try simp only [List.drop_zero, List.drop_succ_cons, List.take_succ_cons, List.take_zero]); exact rfl)); (focus (exact rfl)))
      | ((with_reducible apply hpN_alloc tyshelf_Shelf_string__int_ 13 H); (focus (exact rfl)); (focus (exact rfl)); (focus (exact rfl)); intro w5 b13 H5; clear H; have H := H5; clear H5)
      | ((with_reducible apply hpN_alloc tyshelf_Shelf_string__int_ 14 H); (focus (exact rfl)); (focus (exact rfl)); (focus (exact rfl)); intro w5 b14 H5; clear H; have H := H5; clear H5)
      | ((with_reducible apply hpA_load1 tystring H); (focus (exact rfl)); (focus (exact rfl)); (focus (first | (exact rfl) | (simp [Region.wanted]; done) | (simp only [Region.wanted]; go_simp; done))); (focus (repeat (first | exact List.Mem.head _ | apply List.Mem.tail))); (focus ((try simp only [List.getElem?_cons_zero, List.getElem?_cons_succ]); exact rfl)))
      | ((with_reducible apply hpA_load1 tyint H); (focus (exact rfl)); (focus (exact rfl)); (focus (first | (exact rfl) | (simp [Region.wanted]; done) | (simp only [Region.wanted]; go_simp; done))); (focus (repeat (first | exact List.Mem.head _ | apply List.Mem.tail))); (focus ((try simp only [List.getElem?_cons_zero, List.getElem?_cons_succ]); exact rfl)))
      | ((with_reducible apply hpN_alloc tyshelf_Shelf_string__int_ 21 H); (focus (exact rfl)); (focus (exact rfl)); (focus (exact rfl)); intro w5 b21 H5; clear H; have H := H5; clear H5))
        | (go_at_call 25; (with_reducible refine (awake6 _).mono ?_); rintro e w5 ⟨rfl, ho⟩; have H5 := Lib.hid (H.out.quiet ho); clear H ho; have H := H5; clear H5)
        | (go_at_call 33; (with_reducible refine (partIs _ p hby _).mono ?_); rintro e w5 ⟨rfl, ho⟩; have H5 := Lib.hid (H.out.quiet ho); clear H ho; have H := H5; clear H5))
      refine parts15 k a13 (ps.filter (keptV t)) ps c13 c15 m ii b13 y p b hlt (sorted_keep hsp.out _) (Nat.le_trans (List.length_filter_le _ _) (by omega)) (HgF.out.trans HQ9.out) HR.out H (by simp) (by simp) (by simp) _ rfl rfl rfl rfl ?_
      intro w5 H5
      clear H
      have H := H5
      clear H5
      simp only [Act.put, List.setIfInBounds_toArray, List.set_cons_zero, List.set_cons_succ]
      go_upto_region 16 with (first
        | ((with_reducible apply g_mem); (focus (exact rfl)); first
      | ((with_reducible apply hpN_alloc tyshelf_Shelf_string__int_ 11 H); (focus (exact rfl)); (focus (exact rfl)); (focus (exact rfl)); intro w5 b11 H5; clear H; have H := H5; clear H5)
      | ((with_reducible apply hpA_store tyshelf_Shelf_string__int_ H); (focus (exact rfl)); (focus (exact rfl)); (focus (exact rfl)); (focus (exact rfl)); (focus (exact rfl)); (focus (repeat (first | apply Put.head | apply Put.tail))); (focus (first | (simp; done) | (simp [Value.oneCell']; done))); (focus (first | (simp; done) | (simp [Value.oneCell']; done))); (focus ((try simp only [spl]); exact rfl)); (focus (exact rfl)); intro w5 H5; clear H; have H := H5; clear H5)
      | ((with_reducible apply hpN_alloc tyhoistwaylaw06_part 12 H); (focus (exact rfl)); (focus (exact rfl)); (focus (exact rfl)); intro w5 b12 H5; clear H; have H := H5; clear H5)
      | ((with_reducible apply hpA_store tyhoistwaylaw06_part H); (focus (exact rfl)); (focus (exact rfl)); (focus (exact rfl)); (focus (exact rfl)); (focus (exact rfl)); (focus (repeat (first | apply Put.head | apply Put.tail))); (focus (first | (simp; done) | (simp [Value.oneCell']; done))); (focus (first | (simp; done) | (simp [Value.oneCell']; done))); (focus ((try simp only [spl]); exact rfl)); (focus (exact rfl)); intro w5 H5; clear H; have H := H5; clear H5)
      | ((with_reducible apply hpA_load tyshelf_Shelf_string__int_ H); (focus (exact rfl)); (focus (exact rfl)); (focus (first | (exact rfl) | (simp [Region.wanted]; done) | (simp only [Region.wanted]; go_simp; done))); (focus (repeat (first | exact List.Mem.head _ | apply List.Mem.tail))); (focus ((try simp only [List.drop_zero, List.drop_succ_cons, List.take_succ_cons, List.take_zero]); exact rfl)); (focus (exact rfl)))
      | ((with_reducible apply hpA_load tyhoistwaylaw06_part H); (focus (exact rfl)); (focus (exact rfl)); (focus (first | (exact rfl) | (simp [Region.wanted]; done) | (simp only [Region.wanted]; go_simp; done))); (focus (repeat (first | exact List.Mem.head _ | apply List.Mem.tail))); (focus ((try simp only [List.drop_zero, List.drop_succ_cons, List.take_succ_cons, List.take_zero]); exact rfl)); (focus (exact rfl)))
      | ((with_reducible apply hpN_alloc tyshelf_Shelf_string__int_ 13 H); (focus (exact rfl)); (focus (exact rfl)); (focus (exact rfl)); intro w5 b13 H5; clear H; have H := H5; clear H5)
      | ((with_reducible apply hpN_alloc tyshelf_Shelf_string__int_ 14 H); (focus (exact rfl)); (focus (exact rfl)); (focus (exact rfl)); intro w5 b14 H5; clear H; have H := H5; clear H5)
      | ((with_reducible apply hpA_load1 tystring H); (focus (exact rfl)); (focus (exact rfl)); (focus (first | (exact rfl) | (simp [Region.wanted]; done) | (simp only [Region.wanted]; go_simp; done))); (focus (repeat (first | exact List.Mem.head _ | apply List.Mem.tail))); (focus ((try simp only [List.getElem?_cons_zero, List.getElem?_cons_succ]); exact rfl)))
      | ((with_reducible apply hpA_load1 tyint H); (focus (exact rfl)); (focus (exact rfl)); (focus (first | (exact rfl) | (simp [Region.wanted]; done) | (simp only [Region.wanted]; go_simp; done))); (focus (repeat (first | exact List.Mem.head _ | apply List.Mem.tail))); (focus ((try simp only [List.getElem?_cons_zero, List.getElem?_cons_succ]); exact rfl)))
      | ((with_reducible apply hpN_alloc tyshelf_Shelf_string__int_ 21 H); (focus (exact rfl)); (focus (exact rfl)); (focus (exact rfl)); intro w5 b21 H5; clear H; have H := H5; clear H5))
        | (go_at_call 25; (with_reducible refine (awake6 _).mono ?_); rintro e w5 ⟨rfl, ho⟩; have H5 := Lib.hid (H.out.quiet ho); clear H ho; have H := H5; clear H5)
        | (go_at_call 33; (with_reducible refine (partIs _ p hby _).mono ?_); rintro e w5 ⟨rfl, ho⟩; have H5 := Lib.hid (H.out.quiet ho); clear H ho; have H := H5; clear H5))
      refine parts16 k a14 (ps.filter fun p => !keptV t p) ps c14 c15 m ii b14 y p (!b) hlt (sorted_keep hsp.out _) (Nat.le_trans (List.length_filter_le _ _) (by omega)) (HgG.out.trans (by rw [HQ9.out])) HR.out H (by simp) (by simp) (by simp) _ rfl rfl rfl rfl ?_
      intro w5 H5
      clear H
      have H := H5
      clear H5
      simp only [Act.put, List.setIfInBounds_toArray, List.set_cons_zero, List.set_cons_succ]
      go_upto_region 17 with (first
        | ((with_reducible apply g_mem); (focus (exact rfl)); first
      | ((with_reducible apply hpN_alloc tyshelf_Shelf_string__int_ 11 H); (focus (exact rfl)); (focus (exact rfl)); (focus (exact rfl)); intro w5 b11 H5; clear H; have H := H5; clear H5)
      | ((with_reducible apply hpA_store tyshelf_Shelf_string__int_ H); (focus (exact rfl)); (focus (exact rfl)); (focus (exact rfl)); (focus (exact rfl)); (focus (exact rfl)); (focus (repeat (first | apply Put.head | apply Put.tail))); (focus (first | (simp; done) | (simp [Value.oneCell']; done))); (focus (first | (simp; done) | (simp [Value.oneCell']; done))); (focus ((try simp only [spl]); exact rfl)); (focus (exact rfl)); intro w5 H5; clear H; have H := H5; clear H5)
      | ((with_reducible apply hpN_alloc tyhoistwaylaw06_part 12 H); (focus (exact rfl)); (focus (exact rfl)); (focus (exact rfl)); intro w5 b12 H5; clear H; have H := H5; clear H5)
      | ((with_reducible apply hpA_store tyhoistwaylaw06_part H); (focus (exact rfl)); (focus (exact rfl)); (focus (exact rfl)); (focus (exact rfl)); (focus (exact rfl)); (focus (repeat (first | apply Put.head | apply Put.tail))); (focus (first | (simp; done) | (simp [Value.oneCell']; done))); (focus (first | (simp; done) | (simp [Value.oneCell']; done))); (focus ((try simp only [spl]); exact rfl)); (focus (exact rfl)); intro w5 H5; clear H; have H := H5; clear H5)
      | ((with_reducible apply hpA_load tyshelf_Shelf_string__int_ H); (focus (exact rfl)); (focus (exact rfl)); (focus (first | (exact rfl) | (simp [Region.wanted]; done) | (simp only [Region.wanted]; go_simp; done))); (focus (repeat (first | exact List.Mem.head _ | apply List.Mem.tail))); (focus ((try simp only [List.drop_zero, List.drop_succ_cons, List.take_succ_cons, List.take_zero]); exact rfl)); (focus (exact rfl)))
      | ((with_reducible apply hpA_load tyhoistwaylaw06_part H); (focus (exact rfl)); (focus (exact rfl)); (focus (first | (exact rfl) | (simp [Region.wanted]; done) | (simp only [Region.wanted]; go_simp; done))); (focus (repeat (first | exact List.Mem.head _ | apply List.Mem.tail))); (focus ((try simp only [List.drop_zero, List.drop_succ_cons, List.take_succ_cons, List.take_zero]); exact rfl)); (focus (exact rfl)))
      | ((with_reducible apply hpN_alloc tyshelf_Shelf_string__int_ 13 H); (focus (exact rfl)); (focus (exact rfl)); (focus (exact rfl)); intro w5 b13 H5; clear H; have H := H5; clear H5)
      | ((with_reducible apply hpN_alloc tyshelf_Shelf_string__int_ 14 H); (focus (exact rfl)); (focus (exact rfl)); (focus (exact rfl)); intro w5 b14 H5; clear H; have H := H5; clear H5)
      | ((with_reducible apply hpA_load1 tystring H); (focus (exact rfl)); (focus (exact rfl)); (focus (first | (exact rfl) | (simp [Region.wanted]; done) | (simp only [Region.wanted]; go_simp; done))); (focus (repeat (first | exact List.Mem.head _ | apply List.Mem.tail))); (focus ((try simp only [List.getElem?_cons_zero, List.getElem?_cons_succ]); exact rfl)))
      | ((with_reducible apply hpA_load1 tyint H); (focus (exact rfl)); (focus (exact rfl)); (focus (first | (exact rfl) | (simp [Region.wanted]; done) | (simp only [Region.wanted]; go_simp; done))); (focus (repeat (first | exact List.Mem.head _ | apply List.Mem.tail))); (focus ((try simp only [List.getElem?_cons_zero, List.getElem?_cons_succ]); exact rfl)))
      | ((with_reducible apply hpN_alloc tyshelf_Shelf_string__int_ 21 H); (focus (exact rfl)); (focus (exact rfl)); (focus (exact rfl)); intro w5 b21 H5; clear H; have H := H5; clear H5))
        | (go_at_call 25; (with_reducible refine (awake6 _).mono ?_); rintro e w5 ⟨rfl, ho⟩; have H5 := Lib.hid (H.out.quiet ho); clear H ho; have H := H5; clear H5)
        | (go_at_call 33; (with_reducible refine (partIs _ p hby _).mono ?_); rintro e w5 ⟨rfl, ho⟩; have H5 := Lib.hid (H.out.quiet ho); clear H ho; have H := H5; clear H5))
      refine parts17 t ps c15 m ii b12 y p b hlt ht HQ9.out HB1.out HB2.out HR.out H (by simp) (by simp) _ rfl rfl rfl rfl rfl rfl ?_
      intro w5 H5
      clear H
      have H := H5
      clear H5
      simp only [Act.put, List.setIfInBounds_toArray, List.set_cons_zero, List.set_cons_succ]
      go_wp2_with (first
        | ((with_reducible apply g_mem); (focus (exact rfl)); first
      | ((with_reducible apply hpN_alloc tyshelf_Shelf_string__int_ 11 H); (focus (exact rfl)); (focus (exact rfl)); (focus (exact rfl)); intro w5 b11 H5; clear H; have H := H5; clear H5)
      | ((with_reducible apply hpA_store tyshelf_Shelf_string__int_ H); (focus (exact rfl)); (focus (exact rfl)); (focus (exact rfl)); (focus (exact rfl)); (focus (exact rfl)); (focus (repeat (first | apply Put.head | apply Put.tail))); (focus (first | (simp; done) | (simp [Value.oneCell']; done))); (focus (first | (simp; done) | (simp [Value.oneCell']; done))); (focus ((try simp only [spl]); exact rfl)); (focus (exact rfl)); intro w5 H5; clear H; have H := H5; clear H5)
      | ((with_reducible apply hpN_alloc tyhoistwaylaw06_part 12 H); (focus (exact rfl)); (focus (exact rfl)); (focus (exact rfl)); intro w5 b12 H5; clear H; have H := H5; clear H5)
      | ((with_reducible apply hpA_store tyhoistwaylaw06_part H); (focus (exact rfl)); (focus (exact rfl)); (focus (exact rfl)); (focus (exact rfl)); (focus (exact rfl)); (focus (repeat (first | apply Put.head | apply Put.tail))); (focus (first | (simp; done) | (simp [Value.oneCell']; done))); (focus (first | (simp; done) | (simp [Value.oneCell']; done))); (focus ((try simp only [spl]); exact rfl)); (focus (exact rfl)); intro w5 H5; clear H; have H := H5; clear H5)
      | ((with_reducible apply hpA_load tyshelf_Shelf_string__int_ H); (focus (exact rfl)); (focus (exact rfl)); (focus (first | (exact rfl) | (simp [Region.wanted]; done) | (simp only [Region.wanted]; go_simp; done))); (focus (repeat (first | exact List.Mem.head _ | apply List.Mem.tail))); (focus ((try simp only [List.drop_zero, List.drop_succ_cons, List.take_succ_cons, List.take_zero]); exact rfl)); (focus (exact rfl)))
      | ((with_reducible apply hpA_load tyhoistwaylaw06_part H); (focus (exact rfl)); (focus (exact rfl)); (focus (first | (exact rfl) | (simp [Region.wanted]; done) | (simp only [Region.wanted]; go_simp; done))); (focus (repeat (first | exact List.Mem.head _ | apply List.Mem.tail))); (focus ((try simp only [List.drop_zero, List.drop_succ_cons, List.take_succ_cons, List.take_zero]); exact rfl)); (focus (exact rfl)))
      | ((with_reducible apply hpN_alloc tyshelf_Shelf_string__int_ 13 H); (focus (exact rfl)); (focus (exact rfl)); (focus (exact rfl)); intro w5 b13 H5; clear H; have H := H5; clear H5)
      | ((with_reducible apply hpN_alloc tyshelf_Shelf_string__int_ 14 H); (focus (exact rfl)); (focus (exact rfl)); (focus (exact rfl)); intro w5 b14 H5; clear H; have H := H5; clear H5)
      | ((with_reducible apply hpA_load1 tystring H); (focus (exact rfl)); (focus (exact rfl)); (focus (first | (exact rfl) | (simp [Region.wanted]; done) | (simp only [Region.wanted]; go_simp; done))); (focus (repeat (first | exact List.Mem.head _ | apply List.Mem.tail))); (focus ((try simp only [List.getElem?_cons_zero, List.getElem?_cons_succ]); exact rfl)))
      | ((with_reducible apply hpA_load1 tyint H); (focus (exact rfl)); (focus (exact rfl)); (focus (first | (exact rfl) | (simp [Region.wanted]; done) | (simp only [Region.wanted]; go_simp; done))); (focus (repeat (first | exact List.Mem.head _ | apply List.Mem.tail))); (focus ((try simp only [List.getElem?_cons_zero, List.getElem?_cons_succ]); exact rfl)))
      | ((with_reducible apply hpN_alloc tyshelf_Shelf_string__int_ 21 H); (focus (exact rfl)); (focus (exact rfl)); (focus (exact rfl)); intro w5 b21 H5; clear H; have H := H5; clear H5))
        | (go_at_call 25; (with_reducible refine (awake6 _).mono ?_); rintro e w5 ⟨rfl, ho⟩; have H5 := Lib.hid (H.out.quiet ho); clear H ho; have H := H5; clear H5)
        | (go_at_call 33; (with_reducible refine (partIs _ p hby _).mono ?_); rintro e w5 ⟨rfl, ho⟩; have H5 := Lib.hid (H.out.quiet ho); clear H ho; have H := H5; clear H5))
      go_roundw
      case rel => exact ⟨ii + 1, by omega, by go_num, H⟩
      case measure => simp [intOf]; omega
    · subst hn
      obtain rfl : ii = ps.length := by omega
      clear HN hlt hi
      go_upto_region 21 with (first
        | ((with_reducible apply g_mem); (focus (exact rfl)); first
      | ((with_reducible apply hpN_alloc tyshelf_Shelf_string__int_ 11 H); (focus (exact rfl)); (focus (exact rfl)); (focus (exact rfl)); intro w5 b11 H5; clear H; have H := H5; clear H5)
      | ((with_reducible apply hpA_store tyshelf_Shelf_string__int_ H); (focus (exact rfl)); (focus (exact rfl)); (focus (exact rfl)); (focus (exact rfl)); (focus (exact rfl)); (focus (repeat (first | apply Put.head | apply Put.tail))); (focus (first | (simp; done) | (simp [Value.oneCell']; done))); (focus (first | (simp; done) | (simp [Value.oneCell']; done))); (focus ((try simp only [spl]); exact rfl)); (focus (exact rfl)); intro w5 H5; clear H; have H := H5; clear H5)
      | ((with_reducible apply hpN_alloc tyhoistwaylaw06_part 12 H); (focus (exact rfl)); (focus (exact rfl)); (focus (exact rfl)); intro w5 b12 H5; clear H; have H := H5; clear H5)
      | ((with_reducible apply hpA_store tyhoistwaylaw06_part H); (focus (exact rfl)); (focus (exact rfl)); (focus (exact rfl)); (focus (exact rfl)); (focus (exact rfl)); (focus (repeat (first | apply Put.head | apply Put.tail))); (focus (first | (simp; done) | (simp [Value.oneCell']; done))); (focus (first | (simp; done) | (simp [Value.oneCell']; done))); (focus ((try simp only [spl]); exact rfl)); (focus (exact rfl)); intro w5 H5; clear H; have H := H5; clear H5)
      | ((with_reducible apply hpA_load tyshelf_Shelf_string__int_ H); (focus (exact rfl)); (focus (exact rfl)); (focus (first | (exact rfl) | (simp [Region.wanted]; done) | (simp only [Region.wanted]; go_simp; done))); (focus (repeat (first | exact List.Mem.head _ | apply List.Mem.tail))); (focus ((try simp only [List.drop_zero, List.drop_succ_cons, List.take_succ_cons, List.take_zero]); exact rfl)); (focus (exact rfl)))
      | ((with_reducible apply hpA_load tyhoistwaylaw06_part H); (focus (exact rfl)); (focus (exact rfl)); (focus (first | (exact rfl) | (simp [Region.wanted]; done) | (simp only [Region.wanted]; go_simp; done))); (focus (repeat (first | exact List.Mem.head _ | apply List.Mem.tail))); (focus ((try simp only [List.drop_zero, List.drop_succ_cons, List.take_succ_cons, List.take_zero]); exact rfl)); (focus (exact rfl)))
      | ((with_reducible apply hpN_alloc tyshelf_Shelf_string__int_ 13 H); (focus (exact rfl)); (focus (exact rfl)); (focus (exact rfl)); intro w5 b13 H5; clear H; have H := H5; clear H5)
      | ((with_reducible apply hpN_alloc tyshelf_Shelf_string__int_ 14 H); (focus (exact rfl)); (focus (exact rfl)); (focus (exact rfl)); intro w5 b14 H5; clear H; have H := H5; clear H5)
      | ((with_reducible apply hpA_load1 tystring H); (focus (exact rfl)); (focus (exact rfl)); (focus (first | (exact rfl) | (simp [Region.wanted]; done) | (simp only [Region.wanted]; go_simp; done))); (focus (repeat (first | exact List.Mem.head _ | apply List.Mem.tail))); (focus ((try simp only [List.getElem?_cons_zero, List.getElem?_cons_succ]); exact rfl)))
      | ((with_reducible apply hpA_load1 tyint H); (focus (exact rfl)); (focus (exact rfl)); (focus (first | (exact rfl) | (simp [Region.wanted]; done) | (simp only [Region.wanted]; go_simp; done))); (focus (repeat (first | exact List.Mem.head _ | apply List.Mem.tail))); (focus ((try simp only [List.getElem?_cons_zero, List.getElem?_cons_succ]); exact rfl)))
      | ((with_reducible apply hpN_alloc tyshelf_Shelf_string__int_ 21 H); (focus (exact rfl)); (focus (exact rfl)); (focus (exact rfl)); intro w5 b21 H5; clear H; have H := H5; clear H5))
        | (go_at_call 25; (with_reducible refine (awake6 _).mono ?_); rintro e w5 ⟨rfl, ho⟩; have H5 := Lib.hid (H.out.quiet ho); clear H ho; have H := H5; clear H5)
        | (go_at_call 33; (with_reducible refine (partIs _ p hby _).mono ?_); rintro e w5 ⟨rfl, ho⟩; have H5 := Lib.hid (H.out.quiet ho); clear H ho; have H := H5; clear H5)
        | (go_at_call 27; (with_reducible refine (withPA k v key ps hsp hb q _ _ _ (hp_held H (by simp))).mono ?_); rintro e w5 ⟨a21, c21, rfl, h5⟩; have hsz := H.out.off.size; have H5 := hp_got H h5.2.2 h5.1 (by decide) h5.2.1 (by simp); clear H; have H := H5; clear H5)
        | (go_at_call 29; (with_reducible refine (getP key ps true hsp hb q k _ _ _ (hp_held H (by simp))).mono ?_); rintro e w5 ⟨rfl, ho⟩; have H5 := Lib.hid (H.out.quiet ho); clear H ho; have H := H5; clear H5))
      refine parts21 k key (ps.set (posV key ps) (key, v)) ps a21 a11 c21 c11 b21 b11 false true (sorted_set hsp.out v q) (by simpa using hb) hb (few_out _ _ (by simpa using hb)) (without_less hsp.out v q) rfl H (by simp) (by simp) (by simp) (by simp) _ rfl rfl rfl rfl rfl rfl ?_
      intro w5 a7 c7 H5 _
      clear H
      have H := H5
      clear H5
      simp only [Act.put, List.setIfInBounds_toArray, List.set_cons_zero, List.set_cons_succ]
      go_wp2_with fail
      go_ret
      exact ⟨rfl, H.out.off⟩
theorem parts_B (n k t by_ v : Int) (key : ByteArray) (ra : Option Addr) (rc : Nat) (fs : List ActV) (ps : List PairV) (w : World) (hl : fs.length ≤ 40) (l2 : ¬ (10 < (key.size : Int))) (hk : 1 ≤ k ∧ k ≤ 40) (hkn : wrap64 (1 + wrap64 ((IntKind.u64.wrap n).tmod 40)) = k) (ht : 2 ≤ t ∧ t ≤ 4) (htn : wrap64 (2 + wrap64 ((IntKind.u64.wrap by_).tmod 3)) = t) (hps : Hid (ps = doesV k fs [])) (h1 : Hid ((rS ra rc 3 (fs.map actRow)).holds w)) (q : isV key ps = false) (q2 : ((ps.length : Int) == k) = true) : Calls Try.prog 7 #[.int .i64 n, .slice ra fs.length rc, .int .i64 by_, .string key, .int .i64 v] w fun e w' => e = .returned (.bool true) ∧ Off [] w w' := by
  have H0 := Lib.hid (Hp.start [] w)
  have H := hp_old H0 h1.out (by decide)
  clear H0 h1
  have hsp : Hid (Sorted ps) := Lib.hid (by rw [hps.out]; exact sorted_does k fs List.Pairwise.nil)
  have hb : ps.length ≤ 1000000 := by have h9 := few_does k fs []; rw [← hps.out] at h9; simp at h9; omega
  have hbs := Lib.hid (show ps.length ≤ 40 by have h9 := few_does k fs []; rw [← hps.out] at h9; simp at h9; omega)
  have l1 : ¬ (40 < (fs.length : Int)) := by omega
  go_enter Try.func7, Try.ntmps7
  go_upto_region 9 with (first
    | ((with_reducible apply g_mem); (focus (exact rfl)); first
      | ((with_reducible apply hpN_alloc tyshelf_Shelf_string__int_ 11 H); (focus (exact rfl)); (focus (exact rfl)); (focus (exact rfl)); intro w5 b11 H5; clear H; have H := H5; clear H5)
      | ((with_reducible apply hpA_store tyshelf_Shelf_string__int_ H); (focus (exact rfl)); (focus (exact rfl)); (focus (exact rfl)); (focus (exact rfl)); (focus (exact rfl)); (focus (repeat (first | apply Put.head | apply Put.tail))); (focus (first | (simp; done) | (simp [Value.oneCell']; done))); (focus (first | (simp; done) | (simp [Value.oneCell']; done))); (focus ((try simp only [spl]); exact rfl)); (focus (exact rfl)); intro w5 H5; clear H; have H := H5; clear H5)
      | ((with_reducible apply hpN_alloc tyhoistwaylaw06_part 12 H); (focus (exact rfl)); (focus (exact rfl)); (focus (exact rfl)); intro w5 b12 H5; clear H; have H := H5; clear H5)
      | ((with_reducible apply hpA_store tyhoistwaylaw06_part H); (focus (exact rfl)); (focus (exact rfl)); (focus (exact rfl)); (focus (exact rfl)); (focus (exact rfl)); (focus (repeat (first | apply Put.head | apply Put.tail))); (focus (first | (simp; done) | (simp [Value.oneCell']; done))); (focus (first | (simp; done) | (simp [Value.oneCell']; done))); (focus ((try simp only [spl]); exact rfl)); (focus (exact rfl)); intro w5 H5; clear H; have H := H5; clear H5)
      | ((with_reducible apply hpA_load tyshelf_Shelf_string__int_ H); (focus (exact rfl)); (focus (exact rfl)); (focus (first | (exact rfl) | (simp [Region.wanted]; done) | (simp only [Region.wanted]; go_simp; done))); (focus (repeat (first | exact List.Mem.head _ | apply List.Mem.tail))); (focus ((try simp only [List.drop_zero, List.drop_succ_cons, List.take_succ_cons, List.take_zero]); exact rfl)); (focus (exact rfl)))
      | ((with_reducible apply hpA_load tyhoistwaylaw06_part H); (focus (exact rfl)); (focus (exact rfl)); (focus (first | (exact rfl) | (simp [Region.wanted]; done) | (simp only [Region.wanted]; go_simp; done))); (focus (repeat (first | exact List.Mem.head _ | apply List.Mem.tail))); (focus ((try simp only [List.drop_zero, List.drop_succ_cons, List.take_succ_cons, List.take_zero]); exact rfl)); (focus (exact rfl)))
      | ((with_reducible apply hpN_alloc tyshelf_Shelf_string__int_ 13 H); (focus (exact rfl)); (focus (exact rfl)); (focus (exact rfl)); intro w5 b13 H5; clear H; have H := H5; clear H5)
      | ((with_reducible apply hpN_alloc tyshelf_Shelf_string__int_ 14 H); (focus (exact rfl)); (focus (exact rfl)); (focus (exact rfl)); intro w5 b14 H5; clear H; have H := H5; clear H5)
      | ((with_reducible apply hpA_load1 tystring H); (focus (exact rfl)); (focus (exact rfl)); (focus (first | (exact rfl) | (simp [Region.wanted]; done) | (simp only [Region.wanted]; go_simp; done))); (focus (repeat (first | exact List.Mem.head _ | apply List.Mem.tail))); (focus ((try simp only [List.getElem?_cons_zero, List.getElem?_cons_succ]); exact rfl)))
      | ((with_reducible apply hpA_load1 tyint H); (focus (exact rfl)); (focus (exact rfl)); (focus (first | (exact rfl) | (simp [Region.wanted]; done) | (simp only [Region.wanted]; go_simp; done))); (focus (repeat (first | exact List.Mem.head _ | apply List.Mem.tail))); (focus ((try simp only [List.getElem?_cons_zero, List.getElem?_cons_succ]); exact rfl)))
      | ((with_reducible apply hpN_alloc tyshelf_Shelf_string__int_ 21 H); (focus (exact rfl)); (focus (exact rfl)); (focus (exact rfl)); intro w5 b21 H5; clear H; have H := H5; clear H5))
    | (go_at_call 25; (with_reducible refine (awake6 _).mono ?_); rintro e w5 ⟨rfl, ho⟩; have H5 := Lib.hid (H.out.quiet ho); clear H ho; have H := H5; clear H5)
    | (go_at_call 33; (with_reducible refine (partIs _ p hby _).mono ?_); rintro e w5 ⟨rfl, ho⟩; have H5 := Lib.hid (H.out.quiet ho); clear H ho; have H := H5; clear H5)
    | (go_at_call 26; (with_reducible refine (newK k hk _).mono ?_); rintro e w5 ⟨rfl, ho⟩; have H5 := hp_none (Lib.hid (H.out.quiet ho)) 2 (by decide); clear H ho; have H := H5; clear H5)
    | (go_at_call 31; (with_reducible refine (does_p k fs ps hps hl _ _ _ _ _ (hp_held H (by simp)) (hp_held H (by simp))).mono ?_); rintro e w5 ⟨a11, c11, rfl, h5⟩; have hsz := H.out.off.size; have H5 := hp_got H h5.2.2 h5.1 (by decide) h5.2.1 (by simp); clear H; have H := H5; clear H5)
    | (go_at_call 32; (with_reducible refine (keepPIs k t ht ps hb _ _ _ (hp_held H (by simp))).mono ?_); rintro e w5 ⟨a13, c13, rfl, h5⟩; have hsz := H.out.off.size; have H5 := hp_got H h5.2.2 h5.1 (by decide) h5.2.1 (by simp); clear H; have H := H5; clear H5)
    | (go_at_call 32; (with_reducible refine (keepPNot k t ht ps hb _ _ _ (hp_held H (by simp))).mono ?_); rintro e w5 ⟨a14, c14, rfl, h5⟩; have hsz := H.out.off.size; have H5 := hp_got H h5.2.2 h5.1 (by decide) h5.2.1 (by simp); clear H; have H := H5; clear H5))
  have hsum : (((ps.filter (keptV t)).length : Nat) : Int) + (((ps.filter fun p => !keptV t p).length : Nat) : Int) = (ps.length : Int) := by have h9 := parts_sum (keptV t) ps; omega
  refine parts9 k a13 a14 a11 (ps.filter (keptV t)) (ps.filter fun p => !keptV t p) ps c13 c14 c11 b13 b14 b11 hsum (by rw [IntKind.wrap_i64]; omega) H (by simp) (by simp) (by simp) _ rfl rfl rfl rfl ?_
  intro w5 H5
  clear H
  have H := H5
  clear H5
  simp only [Act.put, List.setIfInBounds_toArray, List.set_cons_zero, List.set_cons_succ]
  clear hsum
  go_wp2_with (first
    | ((with_reducible apply g_mem); (focus (exact rfl)); first
      | ((with_reducible apply hpN_alloc tyshelf_Shelf_string__int_ 11 H); (focus (exact rfl)); (focus (exact rfl)); (focus (exact rfl)); intro w5 b11 H5; clear H; have H := H5; clear H5)
      | ((with_reducible apply hpA_store tyshelf_Shelf_string__int_ H); (focus (exact rfl)); (focus (exact rfl)); (focus (exact rfl)); (focus (exact rfl)); (focus (exact rfl)); (focus (repeat (first | apply Put.head | apply Put.tail))); (focus (first | (simp; done) | (simp [Value.oneCell']; done))); (focus (first | (simp; done) | (simp [Value.oneCell']; done))); (focus ((try simp only [spl]); exact rfl)); (focus (exact rfl)); intro w5 H5; clear H; have H := H5; clear H5)
      | ((with_reducible apply hpN_alloc tyhoistwaylaw06_part 12 H); (focus (exact rfl)); (focus (exact rfl)); (focus (exact rfl)); intro w5 b12 H5; clear H; have H := H5; clear H5)
      | ((with_reducible apply hpA_store tyhoistwaylaw06_part H); (focus (exact rfl)); (focus (exact rfl)); (focus (exact rfl)); (focus (exact rfl)); (focus (exact rfl)); (focus (repeat (first | apply Put.head | apply Put.tail))); (focus (first | (simp; done) | (simp [Value.oneCell']; done))); (focus (first | (simp; done) | (simp [Value.oneCell']; done))); (focus ((try simp only [spl]); exact rfl)); (focus (exact rfl)); intro w5 H5; clear H; have H := H5; clear H5)
      | ((with_reducible apply hpA_load tyshelf_Shelf_string__int_ H); (focus (exact rfl)); (focus (exact rfl)); (focus (first | (exact rfl) | (simp [Region.wanted]; done) | (simp only [Region.wanted]; go_simp; done))); (focus (repeat (first | exact List.Mem.head _ | apply List.Mem.tail))); (focus ((try simp only [List.drop_zero, List.drop_succ_cons, List.take_succ_cons, List.take_zero]); exact rfl)); (focus (exact rfl)))
      | ((with_reducible apply hpA_load tyhoistwaylaw06_part H); (focus (exact rfl)); (focus (exact rfl)); (focus (first | (exact rfl) | (simp [Region.wanted]; done) | (simp only [Region.wanted]; go_simp; done))); (focus (repeat (first | exact List.Mem.head _ | apply List.Mem.tail))); (focus ((try simp only [List.drop_zero, List.drop_succ_cons, List.take_succ_cons, List.take_zero]); exact rfl)); (focus (exact rfl)))
      | ((with_reducible apply hpN_alloc tyshelf_Shelf_string__int_ 13 H); (focus (exact rfl)); (focus (exact rfl)); (focus (exact rfl)); intro w5 b13 H5; clear H; have H := H5; clear H5)
      | ((with_reducible apply hpN_alloc tyshelf_Shelf_string__int_ 14 H); (focus (exact rfl)); (focus (exact rfl)); (focus (exact rfl)); intro w5 b14 H5; clear H; have H := H5; clear H5)
      | ((with_reducible apply hpA_load1 tystring H); (focus (exact rfl)); (focus (exact rfl)); (focus (first | (exact rfl) | (simp [Region.wanted]; done) | (simp only [Region.wanted]; go_simp; done))); (focus (repeat (first | exact List.Mem.head _ | apply List.Mem.tail))); (focus ((try simp only [List.getElem?_cons_zero, List.getElem?_cons_succ]); exact rfl)))
      | ((with_reducible apply hpA_load1 tyint H); (focus (exact rfl)); (focus (exact rfl)); (focus (first | (exact rfl) | (simp [Region.wanted]; done) | (simp only [Region.wanted]; go_simp; done))); (focus (repeat (first | exact List.Mem.head _ | apply List.Mem.tail))); (focus ((try simp only [List.getElem?_cons_zero, List.getElem?_cons_succ]); exact rfl)))
      | ((with_reducible apply hpN_alloc tyshelf_Shelf_string__int_ 21 H); (focus (exact rfl)); (focus (exact rfl)); (focus (exact rfl)); intro w5 b21 H5; clear H; have H := H5; clear H5))
    | (go_at_call 25; (with_reducible refine (awake6 _).mono ?_); rintro e w5 ⟨rfl, ho⟩; have H5 := Lib.hid (H.out.quiet ho); clear H ho; have H := H5; clear H5)
    | (go_at_call 33; (with_reducible refine (partIs _ p hby _).mono ?_); rintro e w5 ⟨rfl, ho⟩; have H5 := Lib.hid (H.out.quiet ho); clear H ho; have H := H5; clear H5)
    | (go_at_call 36; (with_reducible refine (listC k _ _ ps _ (hp_held H (by simp)) hb).mono ?_); rintro e w5 ⟨a15, c15, rfl, h5⟩; have hsz := H.out.off.size; have H5 := hp_got H h5.2.2 h5.1 (by decide) h5.2.1 (by simp); clear H; have H := H5; clear H5))
  have HN := Lib.hid (fun j (hj : j < ps.length) => some_of_row (hp_held H (show rS a15 c15 2 (ps.map rowOf) ∈ _ by simp)) (i := j) (by simpa using hj))
  generalize hn : ps.length = m at *
  go_loopw [16] (fun vi wr => ∃ ii : Nat, ii ≤ m ∧ vi = .int .i64 ii ∧ Hid (Hp [] w wr [rS a15 c15 2 (ps.map rowOf), rB b14 43 [.int .i64 k, .slice a14 (ps.filter fun p => !keptV t p).length c14], rS a14 c14 2 ((ps.filter fun p => !keptV t p).map rowOf), rB b13 43 [.int .i64 k, .slice a13 (ps.filter (keptV t)).length c13], rS a13 c13 2 ((ps.filter (keptV t)).map rowOf), rB b12 56 [.int .i64 t], rB b11 43 [.int .i64 k, .slice a11 m c11], rS a11 c11 2 (ps.map rowOf), rS none 0 2 [], rS ra rc 3 (fs.map actRow)])) (fun vi _ => m - (intOf vi).toNat)
  case atStart => exact ⟨0, by omega, rfl, H⟩
  case round =>
    clear H
    obtain ⟨ii, hi, rfl, H⟩ := hrel
    by_cases hlt : ii < m
    · obtain ⟨y, rfl⟩ := HN.out ii (by omega)
      obtain ⟨p, hp, _⟩ := row_cons (ps := ps) (i := ii) (by omega)
      have HR := Lib.hid (row_at hp)
      have HgF := Lib.hid (get_filter hsp.out (keptV t) (List.mem_of_getElem? hp))
      have HgG := Lib.hid (get_filter hsp.out (fun p => !keptV t p) (List.mem_of_getElem? hp))
      clear hp
      obtain ⟨b, hq9⟩ : ∃ b, keptV t p = b := ⟨_, rfl⟩
      have HQ9 := Lib.hid hq9
      clear hq9
      have hb1 : (b == !b) = false := by cases b <;> rfl
      have hb2 : (b != b) = false := by cases b <;> rfl
      have HB1 := Lib.hid hb1
      have HB2 := Lib.hid hb2
      clear hb1 hb2
      go_upto_region 15 with (first
        | ((with_reducible apply g_mem); (focus (exact rfl)); first
      | ((with_reducible apply hpN_alloc tyshelf_Shelf_string__int_ 11 H); (focus (exact rfl)); (focus (exact rfl)); (focus (exact rfl)); intro w5 b11 H5; clear H; have H := H5; clear H5)
      | ((with_reducible apply hpA_store tyshelf_Shelf_string__int_ H); (focus (exact rfl)); (focus (exact rfl)); (focus (exact rfl)); (focus (exact rfl)); (focus (exact rfl)); (focus (repeat (first | apply Put.head | apply Put.tail))); (focus (first | (simp; done) | (simp [Value.oneCell']; done))); (focus (first | (simp; done) | (simp [Value.oneCell']; done))); (focus ((try simp only [spl]); exact rfl)); (focus (exact rfl)); intro w5 H5; clear H; have H := H5; clear H5)
      | ((with_reducible apply hpN_alloc tyhoistwaylaw06_part 12 H); (focus (exact rfl)); (focus (exact rfl)); (focus (exact rfl)); intro w5 b12 H5; clear H; have H := H5; clear H5)
      | ((with_reducible apply hpA_store tyhoistwaylaw06_part H); (focus (exact rfl)); (focus (exact rfl)); (focus (exact rfl)); (focus (exact rfl)); (focus (exact rfl)); (focus (repeat (first | apply Put.head | apply Put.tail))); (focus (first | (simp; done) | (simp [Value.oneCell']; done))); (focus (first | (simp; done) | (simp [Value.oneCell']; done))); (focus ((try simp only [spl]); exact rfl)); (focus (exact rfl)); intro w5 H5; clear H; have H := H5; clear H5)
      | ((with_reducible apply hpA_load tyshelf_Shelf_string__int_ H); (focus (exact rfl)); (focus (exact rfl)); (focus (first | (exact rfl) | (simp [Region.wanted]; done) | (simp only [Region.wanted]; go_simp; done))); (focus (repeat (first | exact List.Mem.head _ | apply List.Mem.tail))); (focus ((try simp only [List.drop_zero, List.drop_succ_cons, List.take_succ_cons, List.take_zero]); exact rfl)); (focus (exact rfl)))
      | ((with_reducible apply hpA_load tyhoistwaylaw06_part H); (focus (exact rfl)); (focus (exact rfl)); (focus (first | (exact rfl) | (simp [Region.wanted]; done) | (simp only [Region.wanted]; go_simp; done))); (focus (repeat (first | exact List.Mem.head _ | apply List.Mem.tail))); (focus ((try simp only [List.drop_zero, List.drop_succ_cons, List.take_succ_cons, List.take_zero]); exact rfl)); (focus (exact rfl)))
      | ((with_reducible apply hpN_alloc tyshelf_Shelf_string__int_ 13 H); (focus (exact rfl)); (focus (exact rfl)); (focus (exact rfl)); intro w5 b13 H5; clear H; have H := H5; clear H5)
      | ((with_reducible apply hpN_alloc tyshelf_Shelf_string__int_ 14 H); (focus (exact rfl)); (focus (exact rfl)); (focus (exact rfl)); intro w5 b14 H5; clear H; have H := H5; clear H5)
      | ((with_reducible apply hpA_load1 tystring H); (focus (exact rfl)); (focus (exact rfl)); (focus (first | (exact rfl) | (simp [Region.wanted]; done) | (simp only [Region.wanted]; go_simp; done))); (focus (repeat (first | exact List.Mem.head _ | apply List.Mem.tail))); (focus ((try simp only [List.getElem?_cons_zero, List.getElem?_cons_succ]); exact rfl)))
      | ((with_reducible apply hpA_load1 tyint H); (focus (exact rfl)); (focus (exact rfl)); (focus (first | (exact rfl) | (simp [Region.wanted]; done) | (simp only [Region.wanted]; go_simp; done))); (focus (repeat (first | exact List.Mem.head _ | apply List.Mem.tail))); (focus ((try simp only [List.getElem?_cons_zero, List.getElem?_cons_succ]); exact rfl)))
      | ((with_reducible apply hpN_alloc tyshelf_Shelf_string__int_ 21 H); (focus (exact rfl)); (focus (exact rfl)); (focus (exact rfl)); intro w5 b21 H5; clear H; have H := H5; clear H5))
        | (go_at_call 25; (with_reducible refine (awake6 _).mono ?_); rintro e w5 ⟨rfl, ho⟩; have H5 := Lib.hid (H.out.quiet ho); clear H ho; have H := H5; clear H5)
        | (go_at_call 33; (with_reducible refine (partIs _ p hby _).mono ?_); rintro e w5 ⟨rfl, ho⟩; have H5 := Lib.hid (H.out.quiet ho); clear H ho; have H := H5; clear H5))
      refine parts15 k a13 (ps.filter (keptV t)) ps c13 c15 m ii b13 y p b hlt (sorted_keep hsp.out _) (Nat.le_trans (List.length_filter_le _ _) (by omega)) (HgF.out.trans HQ9.out) HR.out H (by simp) (by simp) (by simp) _ rfl rfl rfl rfl ?_
      intro w5 H5
      clear H
      have H := H5
      clear H5
      simp only [Act.put, List.setIfInBounds_toArray, List.set_cons_zero, List.set_cons_succ]
      go_upto_region 16 with (first
        | ((with_reducible apply g_mem); (focus (exact rfl)); first
      | ((with_reducible apply hpN_alloc tyshelf_Shelf_string__int_ 11 H); (focus (exact rfl)); (focus (exact rfl)); (focus (exact rfl)); intro w5 b11 H5; clear H; have H := H5; clear H5)
      | ((with_reducible apply hpA_store tyshelf_Shelf_string__int_ H); (focus (exact rfl)); (focus (exact rfl)); (focus (exact rfl)); (focus (exact rfl)); (focus (exact rfl)); (focus (repeat (first | apply Put.head | apply Put.tail))); (focus (first | (simp; done) | (simp [Value.oneCell']; done))); (focus (first | (simp; done) | (simp [Value.oneCell']; done))); (focus ((try simp only [spl]); exact rfl)); (focus (exact rfl)); intro w5 H5; clear H; have H := H5; clear H5)
      | ((with_reducible apply hpN_alloc tyhoistwaylaw06_part 12 H); (focus (exact rfl)); (focus (exact rfl)); (focus (exact rfl)); intro w5 b12 H5; clear H; have H := H5; clear H5)
      | ((with_reducible apply hpA_store tyhoistwaylaw06_part H); (focus (exact rfl)); (focus (exact rfl)); (focus (exact rfl)); (focus (exact rfl)); (focus (exact rfl)); (focus (repeat (first | apply Put.head | apply Put.tail))); (focus (first | (simp; done) | (simp [Value.oneCell']; done))); (focus (first | (simp; done) | (simp [Value.oneCell']; done))); (focus ((try simp only [spl]); exact rfl)); (focus (exact rfl)); intro w5 H5; clear H; have H := H5; clear H5)
      | ((with_reducible apply hpA_load tyshelf_Shelf_string__int_ H); (focus (exact rfl)); (focus (exact rfl)); (focus (first | (exact rfl) | (simp [Region.wanted]; done) | (simp only [Region.wanted]; go_simp; done))); (focus (repeat (first | exact List.Mem.head _ | apply List.Mem.tail))); (focus ((try simp only [List.drop_zero, List.drop_succ_cons, List.take_succ_cons, List.take_zero]); exact rfl)); (focus (exact rfl)))
      | ((with_reducible apply hpA_load tyhoistwaylaw06_part H); (focus (exact rfl)); (focus (exact rfl)); (focus (first | (exact rfl) | (simp [Region.wanted]; done) | (simp only [Region.wanted]; go_simp; done))); (focus (repeat (first | exact List.Mem.head _ | apply List.Mem.tail))); (focus ((try simp only [List.drop_zero, List.drop_succ_cons, List.take_succ_cons, List.take_zero]); exact rfl)); (focus (exact rfl)))
      | ((with_reducible apply hpN_alloc tyshelf_Shelf_string__int_ 13 H); (focus (exact rfl)); (focus (exact rfl)); (focus (exact rfl)); intro w5 b13 H5; clear H; have H := H5; clear H5)
      | ((with_reducible apply hpN_alloc tyshelf_Shelf_string__int_ 14 H); (focus (exact rfl)); (focus (exact rfl)); (focus (exact rfl)); intro w5 b14 H5; clear H; have H := H5; clear H5)
      | ((with_reducible apply hpA_load1 tystring H); (focus (exact rfl)); (focus (exact rfl)); (focus (first | (exact rfl) | (simp [Region.wanted]; done) | (simp only [Region.wanted]; go_simp; done))); (focus (repeat (first | exact List.Mem.head _ | apply List.Mem.tail))); (focus ((try simp only [List.getElem?_cons_zero, List.getElem?_cons_succ]); exact rfl)))
      | ((with_reducible apply hpA_load1 tyint H); (focus (exact rfl)); (focus (exact rfl)); (focus (first | (exact rfl) | (simp [Region.wanted]; done) | (simp only [Region.wanted]; go_simp; done))); (focus (repeat (first | exact List.Mem.head _ | apply List.Mem.tail))); (focus ((try simp only [List.getElem?_cons_zero, List.getElem?_cons_succ]); exact rfl)))
      | ((with_reducible apply hpN_alloc tyshelf_Shelf_string__int_ 21 H); (focus (exact rfl)); (focus (exact rfl)); (focus (exact rfl)); intro w5 b21 H5; clear H; have H := H5; clear H5))
        | (go_at_call 25; (with_reducible refine (awake6 _).mono ?_); rintro e w5 ⟨rfl, ho⟩; have H5 := Lib.hid (H.out.quiet ho); clear H ho; have H := H5; clear H5)
        | (go_at_call 33; (with_reducible refine (partIs _ p hby _).mono ?_); rintro e w5 ⟨rfl, ho⟩; have H5 := Lib.hid (H.out.quiet ho); clear H ho; have H := H5; clear H5))
      refine parts16 k a14 (ps.filter fun p => !keptV t p) ps c14 c15 m ii b14 y p (!b) hlt (sorted_keep hsp.out _) (Nat.le_trans (List.length_filter_le _ _) (by omega)) (HgG.out.trans (by rw [HQ9.out])) HR.out H (by simp) (by simp) (by simp) _ rfl rfl rfl rfl ?_
      intro w5 H5
      clear H
      have H := H5
      clear H5
      simp only [Act.put, List.setIfInBounds_toArray, List.set_cons_zero, List.set_cons_succ]
      go_upto_region 17 with (first
        | ((with_reducible apply g_mem); (focus (exact rfl)); first
      | ((with_reducible apply hpN_alloc tyshelf_Shelf_string__int_ 11 H); (focus (exact rfl)); (focus (exact rfl)); (focus (exact rfl)); intro w5 b11 H5; clear H; have H := H5; clear H5)
      | ((with_reducible apply hpA_store tyshelf_Shelf_string__int_ H); (focus (exact rfl)); (focus (exact rfl)); (focus (exact rfl)); (focus (exact rfl)); (focus (exact rfl)); (focus (repeat (first | apply Put.head | apply Put.tail))); (focus (first | (simp; done) | (simp [Value.oneCell']; done))); (focus (first | (simp; done) | (simp [Value.oneCell']; done))); (focus ((try simp only [spl]); exact rfl)); (focus (exact rfl)); intro w5 H5; clear H; have H := H5; clear H5)
      | ((with_reducible apply hpN_alloc tyhoistwaylaw06_part 12 H); (focus (exact rfl)); (focus (exact rfl)); (focus (exact rfl)); intro w5 b12 H5; clear H; have H := H5; clear H5)
      | ((with_reducible apply hpA_store tyhoistwaylaw06_part H); (focus (exact rfl)); (focus (exact rfl)); (focus (exact rfl)); (focus (exact rfl)); (focus (exact rfl)); (focus (repeat (first | apply Put.head | apply Put.tail))); (focus (first | (simp; done) | (simp [Value.oneCell']; done))); (focus (first | (simp; done) | (simp [Value.oneCell']; done))); (focus ((try simp only [spl]); exact rfl)); (focus (exact rfl)); intro w5 H5; clear H; have H := H5; clear H5)
      | ((with_reducible apply hpA_load tyshelf_Shelf_string__int_ H); (focus (exact rfl)); (focus (exact rfl)); (focus (first | (exact rfl) | (simp [Region.wanted]; done) | (simp only [Region.wanted]; go_simp; done))); (focus (repeat (first | exact List.Mem.head _ | apply List.Mem.tail))); (focus ((try simp only [List.drop_zero, List.drop_succ_cons, List.take_succ_cons, List.take_zero]); exact rfl)); (focus (exact rfl)))
      | ((with_reducible apply hpA_load tyhoistwaylaw06_part H); (focus (exact rfl)); (focus (exact rfl)); (focus (first | (exact rfl) | (simp [Region.wanted]; done) | (simp only [Region.wanted]; go_simp; done))); (focus (repeat (first | exact List.Mem.head _ | apply List.Mem.tail))); (focus ((try simp only [List.drop_zero, List.drop_succ_cons, List.take_succ_cons, List.take_zero]); exact rfl)); (focus (exact rfl)))
      | ((with_reducible apply hpN_alloc tyshelf_Shelf_string__int_ 13 H); (focus (exact rfl)); (focus (exact rfl)); (focus (exact rfl)); intro w5 b13 H5; clear H; have H := H5; clear H5)
      | ((with_reducible apply hpN_alloc tyshelf_Shelf_string__int_ 14 H); (focus (exact rfl)); (focus (exact rfl)); (focus (exact rfl)); intro w5 b14 H5; clear H; have H := H5; clear H5)
      | ((with_reducible apply hpA_load1 tystring H); (focus (exact rfl)); (focus (exact rfl)); (focus (first | (exact rfl) | (simp [Region.wanted]; done) | (simp only [Region.wanted]; go_simp; done))); (focus (repeat (first | exact List.Mem.head _ | apply List.Mem.tail))); (focus ((try simp only [List.getElem?_cons_zero, List.getElem?_cons_succ]); exact rfl)))
      | ((with_reducible apply hpA_load1 tyint H); (focus (exact rfl)); (focus (exact rfl)); (focus (first | (exact rfl) | (simp [Region.wanted]; done) | (simp only [Region.wanted]; go_simp; done))); (focus (repeat (first | exact List.Mem.head _ | apply List.Mem.tail))); (focus ((try simp only [List.getElem?_cons_zero, List.getElem?_cons_succ]); exact rfl)))
      | ((with_reducible apply hpN_alloc tyshelf_Shelf_string__int_ 21 H); (focus (exact rfl)); (focus (exact rfl)); (focus (exact rfl)); intro w5 b21 H5; clear H; have H := H5; clear H5))
        | (go_at_call 25; (with_reducible refine (awake6 _).mono ?_); rintro e w5 ⟨rfl, ho⟩; have H5 := Lib.hid (H.out.quiet ho); clear H ho; have H := H5; clear H5)
        | (go_at_call 33; (with_reducible refine (partIs _ p hby _).mono ?_); rintro e w5 ⟨rfl, ho⟩; have H5 := Lib.hid (H.out.quiet ho); clear H ho; have H := H5; clear H5))
      refine parts17 t ps c15 m ii b12 y p b hlt ht HQ9.out HB1.out HB2.out HR.out H (by simp) (by simp) _ rfl rfl rfl rfl rfl rfl ?_
      intro w5 H5
      clear H
      have H := H5
      clear H5
      simp only [Act.put, List.setIfInBounds_toArray, List.set_cons_zero, List.set_cons_succ]
      go_wp2_with (first
        | ((with_reducible apply g_mem); (focus (exact rfl)); first
      | ((with_reducible apply hpN_alloc tyshelf_Shelf_string__int_ 11 H); (focus (exact rfl)); (focus (exact rfl)); (focus (exact rfl)); intro w5 b11 H5; clear H; have H := H5; clear H5)
      | ((with_reducible apply hpA_store tyshelf_Shelf_string__int_ H); (focus (exact rfl)); (focus (exact rfl)); (focus (exact rfl)); (focus (exact rfl)); (focus (exact rfl)); (focus (repeat (first | apply Put.head | apply Put.tail))); (focus (first | (simp; done) | (simp [Value.oneCell']; done))); (focus (first | (simp; done) | (simp [Value.oneCell']; done))); (focus ((try simp only [spl]); exact rfl)); (focus (exact rfl)); intro w5 H5; clear H; have H := H5; clear H5)
      | ((with_reducible apply hpN_alloc tyhoistwaylaw06_part 12 H); (focus (exact rfl)); (focus (exact rfl)); (focus (exact rfl)); intro w5 b12 H5; clear H; have H := H5; clear H5)
      | ((with_reducible apply hpA_store tyhoistwaylaw06_part H); (focus (exact rfl)); (focus (exact rfl)); (focus (exact rfl)); (focus (exact rfl)); (focus (exact rfl)); (focus (repeat (first | apply Put.head | apply Put.tail))); (focus (first | (simp; done) | (simp [Value.oneCell']; done))); (focus (first | (simp; done) | (simp [Value.oneCell']; done))); (focus ((try simp only [spl]); exact rfl)); (focus (exact rfl)); intro w5 H5; clear H; have H := H5; clear H5)
      | ((with_reducible apply hpA_load tyshelf_Shelf_string__int_ H); (focus (exact rfl)); (focus (exact rfl)); (focus (first | (exact rfl) | (simp [Region.wanted]; done) | (simp only [Region.wanted]; go_simp; done))); (focus (repeat (first | exact List.Mem.head _ | apply List.Mem.tail))); (focus ((try simp only [List.drop_zero, List.drop_succ_cons, List.take_succ_cons, List.take_zero]); exact rfl)); (focus (exact rfl)))
      | ((with_reducible apply hpA_load tyhoistwaylaw06_part H); (focus (exact rfl)); (focus (exact rfl)); (focus (first | (exact rfl) | (simp [Region.wanted]; done) | (simp only [Region.wanted]; go_simp; done))); (focus (repeat (first | exact List.Mem.head _ | apply List.Mem.tail))); (focus ((try simp only [List.drop_zero, List.drop_succ_cons, List.take_succ_cons, List.take_zero]); exact rfl)); (focus (exact rfl)))
      | ((with_reducible apply hpN_alloc tyshelf_Shelf_string__int_ 13 H); (focus (exact rfl)); (focus (exact rfl)); (focus (exact rfl)); intro w5 b13 H5; clear H; have H := H5; clear H5)
      | ((with_reducible apply hpN_alloc tyshelf_Shelf_string__int_ 14 H); (focus (exact rfl)); (focus (exact rfl)); (focus (exact rfl)); intro w5 b14 H5; clear H; have H := H5; clear H5)
      | ((with_reducible apply hpA_load1 tystring H); (focus (exact rfl)); (focus (exact rfl)); (focus (first | (exact rfl) | (simp [Region.wanted]; done) | (simp only [Region.wanted]; go_simp; done))); (focus (repeat (first | exact List.Mem.head _ | apply List.Mem.tail))); (focus ((try simp only [List.getElem?_cons_zero, List.getElem?_cons_succ]); exact rfl)))
      | ((with_reducible apply hpA_load1 tyint H); (focus (exact rfl)); (focus (exact rfl)); (focus (first | (exact rfl) | (simp [Region.wanted]; done) | (simp only [Region.wanted]; go_simp; done))); (focus (repeat (first | exact List.Mem.head _ | apply List.Mem.tail))); (focus ((try simp only [List.getElem?_cons_zero, List.getElem?_cons_succ]); exact rfl)))
      | ((with_reducible apply hpN_alloc tyshelf_Shelf_string__int_ 21 H); (focus (exact rfl)); (focus (exact rfl)); (focus (exact rfl)); intro w5 b21 H5; clear H; have H := H5; clear H5))
        | (go_at_call 25; (with_reducible refine (awake6 _).mono ?_); rintro e w5 ⟨rfl, ho⟩; have H5 := Lib.hid (H.out.quiet ho); clear H ho; have H := H5; clear H5)
        | (go_at_call 33; (with_reducible refine (partIs _ p hby _).mono ?_); rintro e w5 ⟨rfl, ho⟩; have H5 := Lib.hid (H.out.quiet ho); clear H ho; have H := H5; clear H5))
      go_roundw
      case rel => exact ⟨ii + 1, by omega, by go_num, H⟩
      case measure => simp [intOf]; omega
    · subst hn
      obtain rfl : ii = ps.length := by omega
      clear HN hlt hi
      go_upto_region 21 with (first
        | ((with_reducible apply g_mem); (focus (exact rfl)); first
      | ((with_reducible apply hpN_alloc tyshelf_Shelf_string__int_ 11 H); (focus (exact rfl)); (focus (exact rfl)); (focus (exact rfl)); intro w5 b11 H5; clear H; have H := H5; clear H5)
      | ((with_reducible apply hpA_store tyshelf_Shelf_string__int_ H); (focus (exact rfl)); (focus (exact rfl)); (focus (exact rfl)); (focus (exact rfl)); (focus (exact rfl)); (focus (repeat (first | apply Put.head | apply Put.tail))); (focus (first | (simp; done) | (simp [Value.oneCell']; done))); (focus (first | (simp; done) | (simp [Value.oneCell']; done))); (focus ((try simp only [spl]); exact rfl)); (focus (exact rfl)); intro w5 H5; clear H; have H := H5; clear H5)
      | ((with_reducible apply hpN_alloc tyhoistwaylaw06_part 12 H); (focus (exact rfl)); (focus (exact rfl)); (focus (exact rfl)); intro w5 b12 H5; clear H; have H := H5; clear H5)
      | ((with_reducible apply hpA_store tyhoistwaylaw06_part H); (focus (exact rfl)); (focus (exact rfl)); (focus (exact rfl)); (focus (exact rfl)); (focus (exact rfl)); (focus (repeat (first | apply Put.head | apply Put.tail))); (focus (first | (simp; done) | (simp [Value.oneCell']; done))); (focus (first | (simp; done) | (simp [Value.oneCell']; done))); (focus ((try simp only [spl]); exact rfl)); (focus (exact rfl)); intro w5 H5; clear H; have H := H5; clear H5)
      | ((with_reducible apply hpA_load tyshelf_Shelf_string__int_ H); (focus (exact rfl)); (focus (exact rfl)); (focus (first | (exact rfl) | (simp [Region.wanted]; done) | (simp only [Region.wanted]; go_simp; done))); (focus (repeat (first | exact List.Mem.head _ | apply List.Mem.tail))); (focus ((try simp only [List.drop_zero, List.drop_succ_cons, List.take_succ_cons, List.take_zero]); exact rfl)); (focus (exact rfl)))
      | ((with_reducible apply hpA_load tyhoistwaylaw06_part H); (focus (exact rfl)); (focus (exact rfl)); (focus (first | (exact rfl) | (simp [Region.wanted]; done) | (simp only [Region.wanted]; go_simp; done))); (focus (repeat (first | exact List.Mem.head _ | apply List.Mem.tail))); (focus ((try simp only [List.drop_zero, List.drop_succ_cons, List.take_succ_cons, List.take_zero]); exact rfl)); (focus (exact rfl)))
      | ((with_reducible apply hpN_alloc tyshelf_Shelf_string__int_ 13 H); (focus (exact rfl)); (focus (exact rfl)); (focus (exact rfl)); intro w5 b13 H5; clear H; have H := H5; clear H5)
      | ((with_reducible apply hpN_alloc tyshelf_Shelf_string__int_ 14 H); (focus (exact rfl)); (focus (exact rfl)); (focus (exact rfl)); intro w5 b14 H5; clear H; have H := H5; clear H5)
      | ((with_reducible apply hpA_load1 tystring H); (focus (exact rfl)); (focus (exact rfl)); (focus (first | (exact rfl) | (simp [Region.wanted]; done) | (simp only [Region.wanted]; go_simp; done))); (focus (repeat (first | exact List.Mem.head _ | apply List.Mem.tail))); (focus ((try simp only [List.getElem?_cons_zero, List.getElem?_cons_succ]); exact rfl)))
      | ((with_reducible apply hpA_load1 tyint H); (focus (exact rfl)); (focus (exact rfl)); (focus (first | (exact rfl) | (simp [Region.wanted]; done) | (simp only [Region.wanted]; go_simp; done))); (focus (repeat (first | exact List.Mem.head _ | apply List.Mem.tail))); (focus ((try simp only [List.getElem?_cons_zero, List.getElem?_cons_succ]); exact rfl)))
      | ((with_reducible apply hpN_alloc tyshelf_Shelf_string__int_ 21 H); (focus (exact rfl)); (focus (exact rfl)); (focus (exact rfl)); intro w5 b21 H5; clear H; have H := H5; clear H5))
        | (go_at_call 25; (with_reducible refine (awake6 _).mono ?_); rintro e w5 ⟨rfl, ho⟩; have H5 := Lib.hid (H.out.quiet ho); clear H ho; have H := H5; clear H5)
        | (go_at_call 33; (with_reducible refine (partIs _ p hby _).mono ?_); rintro e w5 ⟨rfl, ho⟩; have H5 := Lib.hid (H.out.quiet ho); clear H ho; have H := H5; clear H5)
        | (go_at_call 27; (with_reducible refine (withPB k v key ps hsp hb q q2 _ _ _ (hp_held H (by simp))).mono ?_); rintro e w5 ⟨a21, c21, rfl, h5⟩; have hsz := H.out.off.size; have H5 := hp_got H h5.2.2 h5.1 (by decide) h5.2.1 (by simp); clear H; have H := H5; clear H5)
        | (go_at_call 29; (with_reducible refine (getP key ps false hsp hb q k _ _ _ (hp_held H (by simp))).mono ?_); rintro e w5 ⟨rfl, ho⟩; have H5 := Lib.hid (H.out.quiet ho); clear H ho; have H := H5; clear H5))
      refine parts21B ps H _ rfl rfl ?_
      intro w5 H5
      clear H
      have H := H5
      clear H5
      simp only [Act.put, List.setIfInBounds_toArray, List.set_cons_zero, List.set_cons_succ]
      go_wp2_with fail
      go_ret
      exact ⟨rfl, H.out.off⟩
theorem parts_C (n k t by_ v : Int) (key : ByteArray) (ra : Option Addr) (rc : Nat) (fs : List ActV) (ps : List PairV) (w : World) (hl : fs.length ≤ 40) (l2 : ¬ (10 < (key.size : Int))) (hk : 1 ≤ k ∧ k ≤ 40) (hkn : wrap64 (1 + wrap64 ((IntKind.u64.wrap n).tmod 40)) = k) (ht : 2 ≤ t ∧ t ≤ 4) (htn : wrap64 (2 + wrap64 ((IntKind.u64.wrap by_).tmod 3)) = t) (hps : Hid (ps = doesV k fs [])) (h1 : Hid ((rS ra rc 3 (fs.map actRow)).holds w)) (q : isV key ps = false) (q2 : ((ps.length : Int) == k) = false) : Calls Try.prog 7 #[.int .i64 n, .slice ra fs.length rc, .int .i64 by_, .string key, .int .i64 v] w fun e w' => e = .returned (.bool true) ∧ Off [] w w' := by
  have H0 := Lib.hid (Hp.start [] w)
  have H := hp_old H0 h1.out (by decide)
  clear H0 h1
  have hsp : Hid (Sorted ps) := Lib.hid (by rw [hps.out]; exact sorted_does k fs List.Pairwise.nil)
  have hb : ps.length ≤ 1000000 := by have h9 := few_does k fs []; rw [← hps.out] at h9; simp at h9; omega
  have hbs := Lib.hid (show ps.length ≤ 40 by have h9 := few_does k fs []; rw [← hps.out] at h9; simp at h9; omega)
  have l1 : ¬ (40 < (fs.length : Int)) := by omega
  go_enter Try.func7, Try.ntmps7
  go_upto_region 9 with (first
    | ((with_reducible apply g_mem); (focus (exact rfl)); first
      | ((with_reducible apply hpN_alloc tyshelf_Shelf_string__int_ 11 H); (focus (exact rfl)); (focus (exact rfl)); (focus (exact rfl)); intro w5 b11 H5; clear H; have H := H5; clear H5)
      | ((with_reducible apply hpA_store tyshelf_Shelf_string__int_ H); (focus (exact rfl)); (focus (exact rfl)); (focus (exact rfl)); (focus (exact rfl)); (focus (exact rfl)); (focus (repeat (first | apply Put.head | apply Put.tail))); (focus (first | (simp; done) | (simp [Value.oneCell']; done))); (focus (first | (simp; done) | (simp [Value.oneCell']; done))); (focus ((try simp only [spl]); exact rfl)); (focus (exact rfl)); intro w5 H5; clear H; have H := H5; clear H5)
      | ((with_reducible apply hpN_alloc tyhoistwaylaw06_part 12 H); (focus (exact rfl)); (focus (exact rfl)); (focus (exact rfl)); intro w5 b12 H5; clear H; have H := H5; clear H5)
      | ((with_reducible apply hpA_store tyhoistwaylaw06_part H); (focus (exact rfl)); (focus (exact rfl)); (focus (exact rfl)); (focus (exact rfl)); (focus (exact rfl)); (focus (repeat (first | apply Put.head | apply Put.tail))); (focus (first | (simp; done) | (simp [Value.oneCell']; done))); (focus (first | (simp; done) | (simp [Value.oneCell']; done))); (focus ((try simp only [spl]); exact rfl)); (focus (exact rfl)); intro w5 H5; clear H; have H := H5; clear H5)
      | ((with_reducible apply hpA_load tyshelf_Shelf_string__int_ H); (focus (exact rfl)); (focus (exact rfl)); (focus (first | (exact rfl) | (simp [Region.wanted]; done) | (simp only [Region.wanted]; go_simp; done))); (focus (repeat (first | exact List.Mem.head _ | apply List.Mem.tail))); (focus ((try simp only [List.drop_zero, List.drop_succ_cons, List.take_succ_cons, List.take_zero]); exact rfl)); (focus (exact rfl)))
      | ((with_reducible apply hpA_load tyhoistwaylaw06_part H); (focus (exact rfl)); (focus (exact rfl)); (focus (first | (exact rfl) | (simp [Region.wanted]; done) | (simp only [Region.wanted]; go_simp; done))); (focus (repeat (first | exact List.Mem.head _ | apply List.Mem.tail))); (focus ((try simp only [List.drop_zero, List.drop_succ_cons, List.take_succ_cons, List.take_zero]); exact rfl)); (focus (exact rfl)))
      | ((with_reducible apply hpN_alloc tyshelf_Shelf_string__int_ 13 H); (focus (exact rfl)); (focus (exact rfl)); (focus (exact rfl)); intro w5 b13 H5; clear H; have H := H5; clear H5)
      | ((with_reducible apply hpN_alloc tyshelf_Shelf_string__int_ 14 H); (focus (exact rfl)); (focus (exact rfl)); (focus (exact rfl)); intro w5 b14 H5; clear H; have H := H5; clear H5)
      | ((with_reducible apply hpA_load1 tystring H); (focus (exact rfl)); (focus (exact rfl)); (focus (first | (exact rfl) | (simp [Region.wanted]; done) | (simp only [Region.wanted]; go_simp; done))); (focus (repeat (first | exact List.Mem.head _ | apply List.Mem.tail))); (focus ((try simp only [List.getElem?_cons_zero, List.getElem?_cons_succ]); exact rfl)))
      | ((with_reducible apply hpA_load1 tyint H); (focus (exact rfl)); (focus (exact rfl)); (focus (first | (exact rfl) | (simp [Region.wanted]; done) | (simp only [Region.wanted]; go_simp; done))); (focus (repeat (first | exact List.Mem.head _ | apply List.Mem.tail))); (focus ((try simp only [List.getElem?_cons_zero, List.getElem?_cons_succ]); exact rfl)))
      | ((with_reducible apply hpN_alloc tyshelf_Shelf_string__int_ 21 H); (focus (exact rfl)); (focus (exact rfl)); (focus (exact rfl)); intro w5 b21 H5; clear H; have H := H5; clear H5))
    | (go_at_call 25; (with_reducible refine (awake6 _).mono ?_); rintro e w5 ⟨rfl, ho⟩; have H5 := Lib.hid (H.out.quiet ho); clear H ho; have H := H5; clear H5)
    | (go_at_call 33; (with_reducible refine (partIs _ p hby _).mono ?_); rintro e w5 ⟨rfl, ho⟩; have H5 := Lib.hid (H.out.quiet ho); clear H ho; have H := H5; clear H5)
    | (go_at_call 26; (with_reducible refine (newK k hk _).mono ?_); rintro e w5 ⟨rfl, ho⟩; have H5 := hp_none (Lib.hid (H.out.quiet ho)) 2 (by decide); clear H ho; have H := H5; clear H5)
    | (go_at_call 31; (with_reducible refine (does_p k fs ps hps hl _ _ _ _ _ (hp_held H (by simp)) (hp_held H (by simp))).mono ?_); rintro e w5 ⟨a11, c11, rfl, h5⟩; have hsz := H.out.off.size; have H5 := hp_got H h5.2.2 h5.1 (by decide) h5.2.1 (by simp); clear H; have H := H5; clear H5)
    | (go_at_call 32; (with_reducible refine (keepPIs k t ht ps hb _ _ _ (hp_held H (by simp))).mono ?_); rintro e w5 ⟨a13, c13, rfl, h5⟩; have hsz := H.out.off.size; have H5 := hp_got H h5.2.2 h5.1 (by decide) h5.2.1 (by simp); clear H; have H := H5; clear H5)
    | (go_at_call 32; (with_reducible refine (keepPNot k t ht ps hb _ _ _ (hp_held H (by simp))).mono ?_); rintro e w5 ⟨a14, c14, rfl, h5⟩; have hsz := H.out.off.size; have H5 := hp_got H h5.2.2 h5.1 (by decide) h5.2.1 (by simp); clear H; have H := H5; clear H5))
  have hsum : (((ps.filter (keptV t)).length : Nat) : Int) + (((ps.filter fun p => !keptV t p).length : Nat) : Int) = (ps.length : Int) := by have h9 := parts_sum (keptV t) ps; omega
  refine parts9 k a13 a14 a11 (ps.filter (keptV t)) (ps.filter fun p => !keptV t p) ps c13 c14 c11 b13 b14 b11 hsum (by rw [IntKind.wrap_i64]; omega) H (by simp) (by simp) (by simp) _ rfl rfl rfl rfl ?_
  intro w5 H5
  clear H
  have H := H5
  clear H5
  simp only [Act.put, List.setIfInBounds_toArray, List.set_cons_zero, List.set_cons_succ]
  clear hsum
  go_wp2_with (first
    | ((with_reducible apply g_mem); (focus (exact rfl)); first
      | ((with_reducible apply hpN_alloc tyshelf_Shelf_string__int_ 11 H); (focus (exact rfl)); (focus (exact rfl)); (focus (exact rfl)); intro w5 b11 H5; clear H; have H := H5; clear H5)
      | ((with_reducible apply hpA_store tyshelf_Shelf_string__int_ H); (focus (exact rfl)); (focus (exact rfl)); (focus (exact rfl)); (focus (exact rfl)); (focus (exact rfl)); (focus (repeat (first | apply Put.head | apply Put.tail))); (focus (first | (simp; done) | (simp [Value.oneCell']; done))); (focus (first | (simp; done) | (simp [Value.oneCell']; done))); (focus ((try simp only [spl]); exact rfl)); (focus (exact rfl)); intro w5 H5; clear H; have H := H5; clear H5)
      | ((with_reducible apply hpN_alloc tyhoistwaylaw06_part 12 H); (focus (exact rfl)); (focus (exact rfl)); (focus (exact rfl)); intro w5 b12 H5; clear H; have H := H5; clear H5)
      | ((with_reducible apply hpA_store tyhoistwaylaw06_part H); (focus (exact rfl)); (focus (exact rfl)); (focus (exact rfl)); (focus (exact rfl)); (focus (exact rfl)); (focus (repeat (first | apply Put.head | apply Put.tail))); (focus (first | (simp; done) | (simp [Value.oneCell']; done))); (focus (first | (simp; done) | (simp [Value.oneCell']; done))); (focus ((try simp only [spl]); exact rfl)); (focus (exact rfl)); intro w5 H5; clear H; have H := H5; clear H5)
      | ((with_reducible apply hpA_load tyshelf_Shelf_string__int_ H); (focus (exact rfl)); (focus (exact rfl)); (focus (first | (exact rfl) | (simp [Region.wanted]; done) | (simp only [Region.wanted]; go_simp; done))); (focus (repeat (first | exact List.Mem.head _ | apply List.Mem.tail))); (focus ((try simp only [List.drop_zero, List.drop_succ_cons, List.take_succ_cons, List.take_zero]); exact rfl)); (focus (exact rfl)))
      | ((with_reducible apply hpA_load tyhoistwaylaw06_part H); (focus (exact rfl)); (focus (exact rfl)); (focus (first | (exact rfl) | (simp [Region.wanted]; done) | (simp only [Region.wanted]; go_simp; done))); (focus (repeat (first | exact List.Mem.head _ | apply List.Mem.tail))); (focus ((try simp only [List.drop_zero, List.drop_succ_cons, List.take_succ_cons, List.take_zero]); exact rfl)); (focus (exact rfl)))
      | ((with_reducible apply hpN_alloc tyshelf_Shelf_string__int_ 13 H); (focus (exact rfl)); (focus (exact rfl)); (focus (exact rfl)); intro w5 b13 H5; clear H; have H := H5; clear H5)
      | ((with_reducible apply hpN_alloc tyshelf_Shelf_string__int_ 14 H); (focus (exact rfl)); (focus (exact rfl)); (focus (exact rfl)); intro w5 b14 H5; clear H; have H := H5; clear H5)
      | ((with_reducible apply hpA_load1 tystring H); (focus (exact rfl)); (focus (exact rfl)); (focus (first | (exact rfl) | (simp [Region.wanted]; done) | (simp only [Region.wanted]; go_simp; done))); (focus (repeat (first | exact List.Mem.head _ | apply List.Mem.tail))); (focus ((try simp only [List.getElem?_cons_zero, List.getElem?_cons_succ]); exact rfl)))
      | ((with_reducible apply hpA_load1 tyint H); (focus (exact rfl)); (focus (exact rfl)); (focus (first | (exact rfl) | (simp [Region.wanted]; done) | (simp only [Region.wanted]; go_simp; done))); (focus (repeat (first | exact List.Mem.head _ | apply List.Mem.tail))); (focus ((try simp only [List.getElem?_cons_zero, List.getElem?_cons_succ]); exact rfl)))
      | ((with_reducible apply hpN_alloc tyshelf_Shelf_string__int_ 21 H); (focus (exact rfl)); (focus (exact rfl)); (focus (exact rfl)); intro w5 b21 H5; clear H; have H := H5; clear H5))
    | (go_at_call 25; (with_reducible refine (awake6 _).mono ?_); rintro e w5 ⟨rfl, ho⟩; have H5 := Lib.hid (H.out.quiet ho); clear H ho; have H := H5; clear H5)
    | (go_at_call 33; (with_reducible refine (partIs _ p hby _).mono ?_); rintro e w5 ⟨rfl, ho⟩; have H5 := Lib.hid (H.out.quiet ho); clear H ho; have H := H5; clear H5)
    | (go_at_call 36; (with_reducible refine (listC k _ _ ps _ (hp_held H (by simp)) hb).mono ?_); rintro e w5 ⟨a15, c15, rfl, h5⟩; have hsz := H.out.off.size; have H5 := hp_got H h5.2.2 h5.1 (by decide) h5.2.1 (by simp); clear H; have H := H5; clear H5))
  have HN := Lib.hid (fun j (hj : j < ps.length) => some_of_row (hp_held H (show rS a15 c15 2 (ps.map rowOf) ∈ _ by simp)) (i := j) (by simpa using hj))
  generalize hn : ps.length = m at *
  go_loopw [16] (fun vi wr => ∃ ii : Nat, ii ≤ m ∧ vi = .int .i64 ii ∧ Hid (Hp [] w wr [rS a15 c15 2 (ps.map rowOf), rB b14 43 [.int .i64 k, .slice a14 (ps.filter fun p => !keptV t p).length c14], rS a14 c14 2 ((ps.filter fun p => !keptV t p).map rowOf), rB b13 43 [.int .i64 k, .slice a13 (ps.filter (keptV t)).length c13], rS a13 c13 2 ((ps.filter (keptV t)).map rowOf), rB b12 56 [.int .i64 t], rB b11 43 [.int .i64 k, .slice a11 m c11], rS a11 c11 2 (ps.map rowOf), rS none 0 2 [], rS ra rc 3 (fs.map actRow)])) (fun vi _ => m - (intOf vi).toNat)
  case atStart => exact ⟨0, by omega, rfl, H⟩
  case round =>
    clear H
    obtain ⟨ii, hi, rfl, H⟩ := hrel
    by_cases hlt : ii < m
    · obtain ⟨y, rfl⟩ := HN.out ii (by omega)
      obtain ⟨p, hp, _⟩ := row_cons (ps := ps) (i := ii) (by omega)
      have HR := Lib.hid (row_at hp)
      have HgF := Lib.hid (get_filter hsp.out (keptV t) (List.mem_of_getElem? hp))
      have HgG := Lib.hid (get_filter hsp.out (fun p => !keptV t p) (List.mem_of_getElem? hp))
      clear hp
      obtain ⟨b, hq9⟩ : ∃ b, keptV t p = b := ⟨_, rfl⟩
      have HQ9 := Lib.hid hq9
      clear hq9
      have hb1 : (b == !b) = false := by cases b <;> rfl
      have hb2 : (b != b) = false := by cases b <;> rfl
      have HB1 := Lib.hid hb1
      have HB2 := Lib.hid hb2
      clear hb1 hb2
      go_upto_region 15 with (first
        | ((with_reducible apply g_mem); (focus (exact rfl)); first
      | ((with_reducible apply hpN_alloc tyshelf_Shelf_string__int_ 11 H); (focus (exact rfl)); (focus (exact rfl)); (focus (exact rfl)); intro w5 b11 H5; clear H; have H := H5; clear H5)
      | ((with_reducible apply hpA_store tyshelf_Shelf_string__int_ H); (focus (exact rfl)); (focus (exact rfl)); (focus (exact rfl)); (focus (exact rfl)); (focus (exact rfl)); (focus (repeat (first | apply Put.head | apply Put.tail))); (focus (first | (simp; done) | (simp [Value.oneCell']; done))); (focus (first | (simp; done) | (simp [Value.oneCell']; done))); (focus ((try simp only [spl]); exact rfl)); (focus (exact rfl)); intro w5 H5; clear H; have H := H5; clear H5)
      | ((with_reducible apply hpN_alloc tyhoistwaylaw06_part 12 H); (focus (exact rfl)); (focus (exact rfl)); (focus (exact rfl)); intro w5 b12 H5; clear H; have H := H5; clear H5)
      | ((with_reducible apply hpA_store tyhoistwaylaw06_part H); (focus (exact rfl)); (focus (exact rfl)); (focus (exact rfl)); (focus (exact rfl)); (focus (exact rfl)); (focus (repeat (first | apply Put.head | apply Put.tail))); (focus (first | (simp; done) | (simp [Value.oneCell']; done))); (focus (first | (simp; done) | (simp [Value.oneCell']; done))); (focus ((try simp only [spl]); exact rfl)); (focus (exact rfl)); intro w5 H5; clear H; have H := H5; clear H5)
      | ((with_reducible apply hpA_load tyshelf_Shelf_string__int_ H); (focus (exact rfl)); (focus (exact rfl)); (focus (first | (exact rfl) | (simp [Region.wanted]; done) | (simp only [Region.wanted]; go_simp; done))); (focus (repeat (first | exact List.Mem.head _ | apply List.Mem.tail))); (focus ((try simp only [List.drop_zero, List.drop_succ_cons, List.take_succ_cons, List.take_zero]); exact rfl)); (focus (exact rfl)))
      | ((with_reducible apply hpA_load tyhoistwaylaw06_part H); (focus (exact rfl)); (focus (exact rfl)); (focus (first | (exact rfl) | (simp [Region.wanted]; done) | (simp only [Region.wanted]; go_simp; done))); (focus (repeat (first | exact List.Mem.head _ | apply List.Mem.tail))); (focus ((try simp only [List.drop_zero, List.drop_succ_cons, List.take_succ_cons, List.take_zero]); exact rfl)); (focus (exact rfl)))
      | ((with_reducible apply hpN_alloc tyshelf_Shelf_string__int_ 13 H); (focus (exact rfl)); (focus (exact rfl)); (focus (exact rfl)); intro w5 b13 H5; clear H; have H := H5; clear H5)
      | ((with_reducible apply hpN_alloc tyshelf_Shelf_string__int_ 14 H); (focus (exact rfl)); (focus (exact rfl)); (focus (exact rfl)); intro w5 b14 H5; clear H; have H := H5; clear H5)
      | ((with_reducible apply hpA_load1 tystring H); (focus (exact rfl)); (focus (exact rfl)); (focus (first | (exact rfl) | (simp [Region.wanted]; done) | (simp only [Region.wanted]; go_simp; done))); (focus (repeat (first | exact List.Mem.head _ | apply List.Mem.tail))); (focus ((try simp only [List.getElem?_cons_zero, List.getElem?_cons_succ]); exact rfl)))
      | ((with_reducible apply hpA_load1 tyint H); (focus (exact rfl)); (focus (exact rfl)); (focus (first | (exact rfl) | (simp [Region.wanted]; done) | (simp only [Region.wanted]; go_simp; done))); (focus (repeat (first | exact List.Mem.head _ | apply List.Mem.tail))); (focus ((try simp only [List.getElem?_cons_zero, List.getElem?_cons_succ]); exact rfl)))
      | ((with_reducible apply hpN_alloc tyshelf_Shelf_string__int_ 21 H); (focus (exact rfl)); (focus (exact rfl)); (focus (exact rfl)); intro w5 b21 H5; clear H; have H := H5; clear H5))
        | (go_at_call 25; (with_reducible refine (awake6 _).mono ?_); rintro e w5 ⟨rfl, ho⟩; have H5 := Lib.hid (H.out.quiet ho); clear H ho; have H := H5; clear H5)
        | (go_at_call 33; (with_reducible refine (partIs _ p hby _).mono ?_); rintro e w5 ⟨rfl, ho⟩; have H5 := Lib.hid (H.out.quiet ho); clear H ho; have H := H5; clear H5))
      refine parts15 k a13 (ps.filter (keptV t)) ps c13 c15 m ii b13 y p b hlt (sorted_keep hsp.out _) (Nat.le_trans (List.length_filter_le _ _) (by omega)) (HgF.out.trans HQ9.out) HR.out H (by simp) (by simp) (by simp) _ rfl rfl rfl rfl ?_
      intro w5 H5
      clear H
      have H := H5
      clear H5
      simp only [Act.put, List.setIfInBounds_toArray, List.set_cons_zero, List.set_cons_succ]
      go_upto_region 16 with (first
        | ((with_reducible apply g_mem); (focus (exact rfl)); first
      | ((with_reducible apply hpN_alloc tyshelf_Shelf_string__int_ 11 H); (focus (exact rfl)); (focus (exact rfl)); (focus (exact rfl)); intro w5 b11 H5; clear H; have H := H5; clear H5)
      | ((with_reducible apply hpA_store tyshelf_Shelf_string__int_ H); (focus (exact rfl)); (focus (exact rfl)); (focus (exact rfl)); (focus (exact rfl)); (focus (exact rfl)); (focus (repeat (first | apply Put.head | apply Put.tail))); (focus (first | (simp; done) | (simp [Value.oneCell']; done))); (focus (first | (simp; done) | (simp [Value.oneCell']; done))); (focus ((try simp only [spl]); exact rfl)); (focus (exact rfl)); intro w5 H5; clear H; have H := H5; clear H5)
      | ((with_reducible apply hpN_alloc tyhoistwaylaw06_part 12 H); (focus (exact rfl)); (focus (exact rfl)); (focus (exact rfl)); intro w5 b12 H5; clear H; have H := H5; clear H5)
      | ((with_reducible apply hpA_store tyhoistwaylaw06_part H); (focus (exact rfl)); (focus (exact rfl)); (focus (exact rfl)); (focus (exact rfl)); (focus (exact rfl)); (focus (repeat (first | apply Put.head | apply Put.tail))); (focus (first | (simp; done) | (simp [Value.oneCell']; done))); (focus (first | (simp; done) | (simp [Value.oneCell']; done))); (focus ((try simp only [spl]); exact rfl)); (focus (exact rfl)); intro w5 H5; clear H; have H := H5; clear H5)
      | ((with_reducible apply hpA_load tyshelf_Shelf_string__int_ H); (focus (exact rfl)); (focus (exact rfl)); (focus (first | (exact rfl) | (simp [Region.wanted]; done) | (simp only [Region.wanted]; go_simp; done))); (focus (repeat (first | exact List.Mem.head _ | apply List.Mem.tail))); (focus ((try simp only [List.drop_zero, List.drop_succ_cons, List.take_succ_cons, List.take_zero]); exact rfl)); (focus (exact rfl)))
      | ((with_reducible apply hpA_load tyhoistwaylaw06_part H); (focus (exact rfl)); (focus (exact rfl)); (focus (first | (exact rfl) | (simp [Region.wanted]; done) | (simp only [Region.wanted]; go_simp; done))); (focus (repeat (first | exact List.Mem.head _ | apply List.Mem.tail))); (focus ((try simp only [List.drop_zero, List.drop_succ_cons, List.take_succ_cons, List.take_zero]); exact rfl)); (focus (exact rfl)))
      | ((with_reducible apply hpN_alloc tyshelf_Shelf_string__int_ 13 H); (focus (exact rfl)); (focus (exact rfl)); (focus (exact rfl)); intro w5 b13 H5; clear H; have H := H5; clear H5)
      | ((with_reducible apply hpN_alloc tyshelf_Shelf_string__int_ 14 H); (focus (exact rfl)); (focus (exact rfl)); (focus (exact rfl)); intro w5 b14 H5; clear H; have H := H5; clear H5)
      | ((with_reducible apply hpA_load1 tystring H); (focus (exact rfl)); (focus (exact rfl)); (focus (first | (exact rfl) | (simp [Region.wanted]; done) | (simp only [Region.wanted]; go_simp; done))); (focus (repeat (first | exact List.Mem.head _ | apply List.Mem.tail))); (focus ((try simp only [List.getElem?_cons_zero, List.getElem?_cons_succ]); exact rfl)))
      | ((with_reducible apply hpA_load1 tyint H); (focus (exact rfl)); (focus (exact rfl)); (focus (first | (exact rfl) | (simp [Region.wanted]; done) | (simp only [Region.wanted]; go_simp; done))); (focus (repeat (first | exact List.Mem.head _ | apply List.Mem.tail))); (focus ((try simp only [List.getElem?_cons_zero, List.getElem?_cons_succ]); exact rfl)))
      | ((with_reducible apply hpN_alloc tyshelf_Shelf_string__int_ 21 H); (focus (exact rfl)); (focus (exact rfl)); (focus (exact rfl)); intro w5 b21 H5; clear H; have H := H5; clear H5))
        | (go_at_call 25; (with_reducible refine (awake6 _).mono ?_); rintro e w5 ⟨rfl, ho⟩; have H5 := Lib.hid (H.out.quiet ho); clear H ho; have H := H5; clear H5)
        | (go_at_call 33; (with_reducible refine (partIs _ p hby _).mono ?_); rintro e w5 ⟨rfl, ho⟩; have H5 := Lib.hid (H.out.quiet ho); clear H ho; have H := H5; clear H5))
      refine parts16 k a14 (ps.filter fun p => !keptV t p) ps c14 c15 m ii b14 y p (!b) hlt (sorted_keep hsp.out _) (Nat.le_trans (List.length_filter_le _ _) (by omega)) (HgG.out.trans (by rw [HQ9.out])) HR.out H (by simp) (by simp) (by simp) _ rfl rfl rfl rfl ?_
      intro w5 H5
      clear H
      have H := H5
      clear H5
      simp only [Act.put, List.setIfInBounds_toArray, List.set_cons_zero, List.set_cons_succ]
      go_upto_region 17 with (first
        | ((with_reducible apply g_mem); (focus (exact rfl)); first
      | ((with_reducible apply hpN_alloc tyshelf_Shelf_string__int_ 11 H); (focus (exact rfl)); (focus (exact rfl)); (focus (exact rfl)); intro w5 b11 H5; clear H; have H := H5; clear H5)
      | ((with_reducible apply hpA_store tyshelf_Shelf_string__int_ H); (focus (exact rfl)); (focus (exact rfl)); (focus (exact rfl)); (focus (exact rfl)); (focus (exact rfl)); (focus (repeat (first | apply Put.head | apply Put.tail))); (focus (first | (simp; done) | (simp [Value.oneCell']; done))); (focus (first | (simp; done) | (simp [Value.oneCell']; done))); (focus ((try simp only [spl]); exact rfl)); (focus (exact rfl)); intro w5 H5; clear H; have H := H5; clear H5)
      | ((with_reducible apply hpN_alloc tyhoistwaylaw06_part 12 H); (focus (exact rfl)); (focus (exact rfl)); (focus (exact rfl)); intro w5 b12 H5; clear H; have H := H5; clear H5)
      | ((with_reducible apply hpA_store tyhoistwaylaw06_part H); (focus (exact rfl)); (focus (exact rfl)); (focus (exact rfl)); (focus (exact rfl)); (focus (exact rfl)); (focus (repeat (first | apply Put.head | apply Put.tail))); (focus (first | (simp; done) | (simp [Value.oneCell']; done))); (focus (first | (simp; done) | (simp [Value.oneCell']; done))); (focus ((try simp only [spl]); exact rfl)); (focus (exact rfl)); intro w5 H5; clear H; have H := H5; clear H5)
      | ((with_reducible apply hpA_load tyshelf_Shelf_string__int_ H); (focus (exact rfl)); (focus (exact rfl)); (focus (first | (exact rfl) | (simp [Region.wanted]; done) | (simp only [Region.wanted]; go_simp; done))); (focus (repeat (first | exact List.Mem.head _ | apply List.Mem.tail))); (focus ((try simp only [List.drop_zero, List.drop_succ_cons, List.take_succ_cons, List.take_zero]); exact rfl)); (focus (exact rfl)))
      | ((with_reducible apply hpA_load tyhoistwaylaw06_part H); (focus (exact rfl)); (focus (exact rfl)); (focus (first | (exact rfl) | (simp [Region.wanted]; done) | (simp only [Region.wanted]; go_simp; done))); (focus (repeat (first | exact List.Mem.head _ | apply List.Mem.tail))); (focus ((try simp only [List.drop_zero, List.drop_succ_cons, List.take_succ_cons, List.take_zero]); exact rfl)); (focus (exact rfl)))
      | ((with_reducible apply hpN_alloc tyshelf_Shelf_string__int_ 13 H); (focus (exact rfl)); (focus (exact rfl)); (focus (exact rfl)); intro w5 b13 H5; clear H; have H := H5; clear H5)
      | ((with_reducible apply hpN_alloc tyshelf_Shelf_string__int_ 14 H); (focus (exact rfl)); (focus (exact rfl)); (focus (exact rfl)); intro w5 b14 H5; clear H; have H := H5; clear H5)
      | ((with_reducible apply hpA_load1 tystring H); (focus (exact rfl)); (focus (exact rfl)); (focus (first | (exact rfl) | (simp [Region.wanted]; done) | (simp only [Region.wanted]; go_simp; done))); (focus (repeat (first | exact List.Mem.head _ | apply List.Mem.tail))); (focus ((try simp only [List.getElem?_cons_zero, List.getElem?_cons_succ]); exact rfl)))
      | ((with_reducible apply hpA_load1 tyint H); (focus (exact rfl)); (focus (exact rfl)); (focus (first | (exact rfl) | (simp [Region.wanted]; done) | (simp only [Region.wanted]; go_simp; done))); (focus (repeat (first | exact List.Mem.head _ | apply List.Mem.tail))); (focus ((try simp only [List.getElem?_cons_zero, List.getElem?_cons_succ]); exact rfl)))
      | ((with_reducible apply hpN_alloc tyshelf_Shelf_string__int_ 21 H); (focus (exact rfl)); (focus (exact rfl)); (focus (exact rfl)); intro w5 b21 H5; clear H; have H := H5; clear H5))
        | (go_at_call 25; (with_reducible refine (awake6 _).mono ?_); rintro e w5 ⟨rfl, ho⟩; have H5 := Lib.hid (H.out.quiet ho); clear H ho; have H := H5; clear H5)
        | (go_at_call 33; (with_reducible refine (partIs _ p hby _).mono ?_); rintro e w5 ⟨rfl, ho⟩; have H5 := Lib.hid (H.out.quiet ho); clear H ho; have H := H5; clear H5))
      refine parts17 t ps c15 m ii b12 y p b hlt ht HQ9.out HB1.out HB2.out HR.out H (by simp) (by simp) _ rfl rfl rfl rfl rfl rfl ?_
      intro w5 H5
      clear H
      have H := H5
      clear H5
      simp only [Act.put, List.setIfInBounds_toArray, List.set_cons_zero, List.set_cons_succ]
      go_wp2_with (first
        | ((with_reducible apply g_mem); (focus (exact rfl)); first
      | ((with_reducible apply hpN_alloc tyshelf_Shelf_string__int_ 11 H); (focus (exact rfl)); (focus (exact rfl)); (focus (exact rfl)); intro w5 b11 H5; clear H; have H := H5; clear H5)
      | ((with_reducible apply hpA_store tyshelf_Shelf_string__int_ H); (focus (exact rfl)); (focus (exact rfl)); (focus (exact rfl)); (focus (exact rfl)); (focus (exact rfl)); (focus (repeat (first | apply Put.head | apply Put.tail))); (focus (first | (simp; done) | (simp [Value.oneCell']; done))); (focus (first | (simp; done) | (simp [Value.oneCell']; done))); (focus ((try simp only [spl]); exact rfl)); (focus (exact rfl)); intro w5 H5; clear H; have H := H5; clear H5)
      | ((with_reducible apply hpN_alloc tyhoistwaylaw06_part 12 H); (focus (exact rfl)); (focus (exact rfl)); (focus (exact rfl)); intro w5 b12 H5; clear H; have H := H5; clear H5)
      | ((with_reducible apply hpA_store tyhoistwaylaw06_part H); (focus (exact rfl)); (focus (exact rfl)); (focus (exact rfl)); (focus (exact rfl)); (focus (exact rfl)); (focus (repeat (first | apply Put.head | apply Put.tail))); (focus (first | (simp; done) | (simp [Value.oneCell']; done))); (focus (first | (simp; done) | (simp [Value.oneCell']; done))); (focus ((try simp only [spl]); exact rfl)); (focus (exact rfl)); intro w5 H5; clear H; have H := H5; clear H5)
      | ((with_reducible apply hpA_load tyshelf_Shelf_string__int_ H); (focus (exact rfl)); (focus (exact rfl)); (focus (first | (exact rfl) | (simp [Region.wanted]; done) | (simp only [Region.wanted]; go_simp; done))); (focus (repeat (first | exact List.Mem.head _ | apply List.Mem.tail))); (focus ((try simp only [List.drop_zero, List.drop_succ_cons, List.take_succ_cons, List.take_zero]); exact rfl)); (focus (exact rfl)))
      | ((with_reducible apply hpA_load tyhoistwaylaw06_part H); (focus (exact rfl)); (focus (exact rfl)); (focus (first | (exact rfl) | (simp [Region.wanted]; done) | (simp only [Region.wanted]; go_simp; done))); (focus (repeat (first | exact List.Mem.head _ | apply List.Mem.tail))); (focus ((try simp only [List.drop_zero, List.drop_succ_cons, List.take_succ_cons, List.take_zero]); exact rfl)); (focus (exact rfl)))
      | ((with_reducible apply hpN_alloc tyshelf_Shelf_string__int_ 13 H); (focus (exact rfl)); (focus (exact rfl)); (focus (exact rfl)); intro w5 b13 H5; clear H; have H := H5; clear H5)
      | ((with_reducible apply hpN_alloc tyshelf_Shelf_string__int_ 14 H); (focus (exact rfl)); (focus (exact rfl)); (focus (exact rfl)); intro w5 b14 H5; clear H; have H := H5; clear H5)
      | ((with_reducible apply hpA_load1 tystring H); (focus (exact rfl)); (focus (exact rfl)); (focus (first | (exact rfl) | (simp [Region.wanted]; done) | (simp only [Region.wanted]; go_simp; done))); (focus (repeat (first | exact List.Mem.head _ | apply List.Mem.tail))); (focus ((try simp only [List.getElem?_cons_zero, List.getElem?_cons_succ]); exact rfl)))
      | ((with_reducible apply hpA_load1 tyint H); (focus (exact rfl)); (focus (exact rfl)); (focus (first | (exact rfl) | (simp [Region.wanted]; done) | (simp only [Region.wanted]; go_simp; done))); (focus (repeat (first | exact List.Mem.head _ | apply List.Mem.tail))); (focus ((try simp only [List.getElem?_cons_zero, List.getElem?_cons_succ]); exact rfl)))
      | ((with_reducible apply hpN_alloc tyshelf_Shelf_string__int_ 21 H); (focus (exact rfl)); (focus (exact rfl)); (focus (exact rfl)); intro w5 b21 H5; clear H; have H := H5; clear H5))
        | (go_at_call 25; (with_reducible refine (awake6 _).mono ?_); rintro e w5 ⟨rfl, ho⟩; have H5 := Lib.hid (H.out.quiet ho); clear H ho; have H := H5; clear H5)
        | (go_at_call 33; (with_reducible refine (partIs _ p hby _).mono ?_); rintro e w5 ⟨rfl, ho⟩; have H5 := Lib.hid (H.out.quiet ho); clear H ho; have H := H5; clear H5))
      go_roundw
      case rel => exact ⟨ii + 1, by omega, by go_num, H⟩
      case measure => simp [intOf]; omega
    · subst hn
      obtain rfl : ii = ps.length := by omega
      clear HN hlt hi
      go_upto_region 21 with (first
        | ((with_reducible apply g_mem); (focus (exact rfl)); first
      | ((with_reducible apply hpN_alloc tyshelf_Shelf_string__int_ 11 H); (focus (exact rfl)); (focus (exact rfl)); (focus (exact rfl)); intro w5 b11 H5; clear H; have H := H5; clear H5)
      | ((with_reducible apply hpA_store tyshelf_Shelf_string__int_ H); (focus (exact rfl)); (focus (exact rfl)); (focus (exact rfl)); (focus (exact rfl)); (focus (exact rfl)); (focus (repeat (first | apply Put.head | apply Put.tail))); (focus (first | (simp; done) | (simp [Value.oneCell']; done))); (focus (first | (simp; done) | (simp [Value.oneCell']; done))); (focus ((try simp only [spl]); exact rfl)); (focus (exact rfl)); intro w5 H5; clear H; have H := H5; clear H5)
      | ((with_reducible apply hpN_alloc tyhoistwaylaw06_part 12 H); (focus (exact rfl)); (focus (exact rfl)); (focus (exact rfl)); intro w5 b12 H5; clear H; have H := H5; clear H5)
      | ((with_reducible apply hpA_store tyhoistwaylaw06_part H); (focus (exact rfl)); (focus (exact rfl)); (focus (exact rfl)); (focus (exact rfl)); (focus (exact rfl)); (focus (repeat (first | apply Put.head | apply Put.tail))); (focus (first | (simp; done) | (simp [Value.oneCell']; done))); (focus (first | (simp; done) | (simp [Value.oneCell']; done))); (focus ((try simp only [spl]); exact rfl)); (focus (exact rfl)); intro w5 H5; clear H; have H := H5; clear H5)
      | ((with_reducible apply hpA_load tyshelf_Shelf_string__int_ H); (focus (exact rfl)); (focus (exact rfl)); (focus (first | (exact rfl) | (simp [Region.wanted]; done) | (simp only [Region.wanted]; go_simp; done))); (focus (repeat (first | exact List.Mem.head _ | apply List.Mem.tail))); (focus ((try simp only [List.drop_zero, List.drop_succ_cons, List.take_succ_cons, List.take_zero]); exact rfl)); (focus (exact rfl)))
      | ((with_reducible apply hpA_load tyhoistwaylaw06_part H); (focus (exact rfl)); (focus (exact rfl)); (focus (first | (exact rfl) | (simp [Region.wanted]; done) | (simp only [Region.wanted]; go_simp; done))); (focus (repeat (first | exact List.Mem.head _ | apply List.Mem.tail))); (focus ((try simp only [List.drop_zero, List.drop_succ_cons, List.take_succ_cons, List.take_zero]); exact rfl)); (focus (exact rfl)))
      | ((with_reducible apply hpN_alloc tyshelf_Shelf_string__int_ 13 H); (focus (exact rfl)); (focus (exact rfl)); (focus (exact rfl)); intro w5 b13 H5; clear H; have H := H5; clear H5)
      | ((with_reducible apply hpN_alloc tyshelf_Shelf_string__int_ 14 H); (focus (exact rfl)); (focus (exact rfl)); (focus (exact rfl)); intro w5 b14 H5; clear H; have H := H5; clear H5)
      | ((with_reducible apply hpA_load1 tystring H); (focus (exact rfl)); (focus (exact rfl)); (focus (first | (exact rfl) | (simp [Region.wanted]; done) | (simp only [Region.wanted]; go_simp; done))); (focus (repeat (first | exact List.Mem.head _ | apply List.Mem.tail))); (focus ((try simp only [List.getElem?_cons_zero, List.getElem?_cons_succ]); exact rfl)))
      | ((with_reducible apply hpA_load1 tyint H); (focus (exact rfl)); (focus (exact rfl)); (focus (first | (exact rfl) | (simp [Region.wanted]; done) | (simp only [Region.wanted]; go_simp; done))); (focus (repeat (first | exact List.Mem.head _ | apply List.Mem.tail))); (focus ((try simp only [List.getElem?_cons_zero, List.getElem?_cons_succ]); exact rfl)))
      | ((with_reducible apply hpN_alloc tyshelf_Shelf_string__int_ 21 H); (focus (exact rfl)); (focus (exact rfl)); (focus (exact rfl)); intro w5 b21 H5; clear H; have H := H5; clear H5))
        | (go_at_call 25; (with_reducible refine (awake6 _).mono ?_); rintro e w5 ⟨rfl, ho⟩; have H5 := Lib.hid (H.out.quiet ho); clear H ho; have H := H5; clear H5)
        | (go_at_call 33; (with_reducible refine (partIs _ p hby _).mono ?_); rintro e w5 ⟨rfl, ho⟩; have H5 := Lib.hid (H.out.quiet ho); clear H ho; have H := H5; clear H5)
        | (go_at_call 27; (with_reducible refine (withPC k v key ps hsp hb q q2 _ _ _ (hp_held H (by simp))).mono ?_); rintro e w5 ⟨a21, c21, rfl, h5⟩; have hsz := H.out.off.size; have H5 := hp_got H h5.2.2 h5.1 (by decide) h5.2.1 (by simp); clear H; have H := H5; clear H5)
        | (go_at_call 29; (with_reducible refine (getP key ps false hsp hb q k _ _ _ (hp_held H (by simp))).mono ?_); rintro e w5 ⟨rfl, ho⟩; have H5 := Lib.hid (H.out.quiet ho); clear H ho; have H := H5; clear H5))
      refine parts21 k key (insAt ps (posV key ps) (key, v)) ps a21 a11 c21 c11 b21 b11 true false (sorted_ins hsp.out v q) (by have h9 := hbs.out; simp [insAt]; omega) hb (by rw [without_ins hsp.out key v q]; exact hb) (by simp [without_ins hsp.out key v q]) rfl H (by simp) (by simp) (by simp) (by simp) _ rfl rfl rfl rfl rfl rfl ?_
      intro w5 a7 c7 H5 _
      clear H
      have H := H5
      clear H5
      simp only [Act.put, List.setIfInBounds_toArray, List.set_cons_zero, List.set_cons_succ]
      go_wp2_with fail
      go_ret
      exact ⟨rfl, H.out.off⟩
end Go.Proofs.Ytfhhfmkfkoemjaa.Si6

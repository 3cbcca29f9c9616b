/- A walk by what is known of slots: an environment that computes, over Hp. -/
import Derived.Test.YtnanihffljpdbaaProg
import Derived.Below
import Derived.WalkKit
import Derived.KernelRfl
import Derived.RowKit3
import Derived.Deep.LoopGhost
import Derived.Deep.QuietTactic
import Derived.BigQuiet
import Derived.WideLaws
import Derived.Deep.DeepCutAuto
import Derived.Deep.CutBlock
import Derived.Lib.Hide
import Derived.Laws.BitsLemmas
import Derived.Laws.Bits64
import Derived.Laws.BitsAllLaws
import Derived.IntWalk
import Derived.Outline
import Derived.WalkSpells
import Derived.Test.YtnanihffljpdbaaGA
import Derived.Test.YtnanihffljpdbaaGR
import Derived.LoopN
namespace Go.Proofs.Ytnanihffljpdbaa.Wk
open Go.RowKit Go.Proofs.Ytnanihffljpdbaa.Inv Go.Proofs.Ytnanihffljpdbaa.Mem Go.Proofs.Ytnanihffljpdbaa.Reg
set_option linter.unusedVariables false
set_option linter.unusedSimpArgs false
/-- what is known of slots: the last word counts -/
abbrev Env := List (Nat × Value)
def look : Env → Nat → Option Value
  | [], _ => none
  | p :: K, t => bif Nat.beq p.1 t then some p.2 else look K t
def Sat (K : Env) (a : Act) : Prop := ∀ t v, look K t = some v → a.eval (.tmp t) = v
def ev (K : Env) : Operand → Option Value
  | .tmp t => look K t
  | .const v => some v
  | .func f => some (.func (.func f) #[] #[])
  | .global g => some (.pointer (some ⟨g, 0, none⟩))
section
variable {P : Program} {ops : Array Oper} {rest : List Oper} {o : Oper} {a : Act} {w w0 : World} {Q : Exit → Act → World → Prop} {S : List Nat} {R R' : List Res} {K K' : Env} {N d t id : Nat} {v : Value} {x y : Operand} {k : Act → World → Prop}
theorem sat_nil (a : Act) : Sat [] a := fun _ _ h => by cases h
theorem Sat.ev (hs : Sat K a) (h : ev K x = some v) : a.eval x = v := by
  cases x with
  | tmp t => exact hs t v h
  | const u => exact Option.some.inj h
  | func f => exact Option.some.inj h
  | global g => exact Option.some.inj h
theorem Sat.put (hs : Sat K a) (hd : d < a.tmps.size) : Sat ((d, v) :: K) (a.put (some d) v) := by
  intro t u h
  unfold look at h
  cases hb : Nat.beq d t with
  | true =>
    obtain rfl := Nat.eq_of_beq_eq_true hb
    simp only [Nat.beq_refl, cond_true] at h
    obtain rfl := Option.some.inj h
    show (a.put (some d) v).tmps.getD d undef = v
    simp [Act.put, Array.getD_eq_getD_getElem?, hd]
  | false =>
    simp only [hb, cond_false] at h
    have hne : (some d : Option Tmp) ≠ some t := fun e => by
      have : d = t := Option.some.inj e
      rw [this, Nat.beq_refl] at hb
      cases hb
    have := put_getD a (some d) v t hne
    exact this.trans (hs t u h)
theorem Sat.cons (hs : Sat K a) (h : a.eval (.tmp t) = v) : Sat ((t, v) :: K) a := by
  intro s u hu
  unfold look at hu
  cases hb : Nat.beq t s with
  | true =>
    obtain rfl := Nat.eq_of_beq_eq_true hb
    simp only [Nat.beq_refl, cond_true] at hu
    obtain rfl := Option.some.inj hu
    exact h
  | false =>
    simp only [hb, cond_false] at hu
    exact hs s u hu
/-- places of fields: (struct, field, offset) -/
abbrev Tab := List (Nat × Nat × Nat)
def offOf : Tab → Nat → Nat → Option Nat
  | [], _, _ => none
  | p :: T, s, f => bif Nat.beq p.1 s && Nat.beq p.2.1 f then some p.2.2 else offOf T s f
def fieldOk (P : Program) (s f o : Nat) : Bool := match P.underlying s with
  | some (.struct fs) => (match fs[f]? with
    | some g => g.offset == o && (match P.info? g.type with
      | some i => i.size != 0
      | none => false)
    | none => false)
  | _ => false
def tabOk (P : Program) (T : Tab) : Bool := T.all fun p => fieldOk P p.1 p.2.1 p.2.2
theorem offOf_ok {T : Tab} {s f n : Nat} (hT : tabOk P T = true) (h : offOf T s f = some n) : fieldOk P s f n = true := by
  induction T with
  | nil => cases h
  | cons p T ih =>
    unfold tabOk at hT
    simp only [List.all_cons, Bool.and_eq_true] at hT
    unfold offOf at h
    cases hb : Nat.beq p.1 s && Nat.beq p.2.1 f with
    | true =>
      rw [hb] at h
      simp only [Bool.and_eq_true] at hb
      have h1 := Nat.eq_of_beq_eq_true hb.1
      have h2 := Nat.eq_of_beq_eq_true hb.2
      have h3 : p.2.2 = n := Option.some.inj h
      rw [← h1, ← h2, ← h3]
      exact hT.1
    | false =>
      rw [hb] at h
      exact ih hT.2 h
theorem fieldAt_ok {s f n b m : Nat} (h : fieldOk P s f n = true) (w : World) : (Instr.fieldAt s (.pointer (some ⟨b, m, none⟩)) f).run P w = .ok (.pointer (some ⟨b, m + n, none⟩)) w := by
  unfold fieldOk at h
  split at h
  · rename_i fs hu
    split at h
    · rename_i g hg
      simp only [Bool.and_eq_true, beq_iff_eq] at h
      obtain ⟨h1, h2⟩ := h
      split at h2
      · rename_i i hi
        have hz : i.size ≠ 0 := by simpa using h2
        unfold Instr.fieldAt
        rw [Sem.run_bind, run_underlying hu w]
        simp only [Result.andThen_ok, hg]
        simp [Instr.sureAddr, fieldPlace, sizeOf, typeInfo, hi, hz, Addr.add, h1]
      · cases h2
    · cases h
  · cases h
def nthO : List Value → Nat → Option Value
  | [], _ => none
  | v :: _, 0 => some v
  | _ :: l, n + 1 => nthO l n
theorem nthO_is : ∀ (l : List Value) (n : Nat), nthO l n = l[n]?
  | [], _ => by simp [nthO]
  | _ :: _, 0 => by simp [nthO]
  | _ :: l, n + 1 => by simp [nthO, nthO_is l n]
def arith (op : BinOp) (kd : IntKind) (a b : Int) : Option Value := match op with
  | .eql => some (.bool (a == b))
  | .neq => some (.bool (a != b))
  | .lss => some (.bool (decide (a < b)))
  | .leq => some (.bool (decide (a ≤ b)))
  | .gtr => some (.bool (decide (b < a)))
  | .geq => some (.bool (decide (b ≤ a)))
  | .add => some (.int kd (kd.wrap (a + b)))
  | .sub => some (.int kd (kd.wrap (a - b)))
  | .mul => some (.int kd (kd.wrap (a * b)))
  | _ => none
theorem arith_ok {op : BinOp} {kd : IntKind} {m n : Int} {ty : TypeId} (h : arith op kd m n = some v) (w : World) : (binOp op ty (.int kd m) (.int kd n)).run P w = .ok v w := by
  unfold arith at h
  split at h <;> first
    | (cases h; done)
    | (obtain rfl := Option.some.inj h; simp [binOp, Op.intCmp, Op.intArith])
theorem eqGuard_int (op : BinOp) (ty : TypeId) (x y : Operand) {kd ke : IntKind} {m n : Int} (w : World) : (eqGuard op ty x y (.int kd m) (.int ke n)).run P w = .ok () w := by
  unfold eqGuard
  cases op <;> simp
/-- the value of an operation that only computes -/
def pvv (T : Tab) (K : Env) : Op → Option Value
  | .move x => ev K x
  | .assign x => ev K x
  | .pick c p q => match ev K c with
    | some (.bool true) => ev K p
    | some (.bool false) => ev K q
    | _ => none
  | .extract t ix => match ev K t with
    | some (.tuple vs) => nthO vs.toList ix
    | _ => none
  | .nilCheck x => match ev K x with
    | some (.pointer (some p)) => some (.pointer (some p))
    | _ => none
  | .unOp .not _ x => match ev K x with
    | some (.bool b) => some (.bool (!b))
    | _ => none
  | .fieldAddr s x f => match ev K x with
    | some (.pointer (some ⟨b, m, none⟩)) => (match offOf T s f with
      | some n => some (.pointer (some ⟨b, m + n, none⟩))
      | none => none)
    | _ => none
  | .binOp op _ x y _ => match ev K x, ev K y with
    | some (.int kd a), some (.int ke b) => (match decide (kd = ke) with
      | true => arith op kd a b
      | false => none)
    | _, _ => none
  | _ => none
theorem pvv_ok {T : Tab} (hT : tabOk P T = true) (hs : Sat K a) (h : pvv T K o.op = some v) (w : World) : (execOp a.eval o).run P w = .ok (.value v) w := by
  unfold execOp
  generalize o.op = op at *
  unfold pvv at h
  split at h
  · rw [← hs.ev h]; simp
  · rw [← hs.ev h]; simp
  · split at h
    · rename_i hc
      simp [hs.ev hc, asBool, hs.ev h]
    · rename_i hc
      simp [hs.ev hc, asBool, hs.ev h]
    · cases h
  · split at h
    · rename_i vs hc
      rw [nthO_is] at h
      simp [hs.ev hc, Instr.extract]
      rw [Array.getElem?_toList] at h
      rw [h]
      simp
    · cases h
  · split at h
    · rename_i p hc
      obtain rfl := Option.some.inj h
      simp [hs.ev hc]
    · cases h
  · split at h
    · rename_i b hc
      obtain rfl := Option.some.inj h
      simp [hs.ev hc, Op.unary]
    · cases h
  · split at h
    · rename_i b m hc
      split at h
      · rename_i n hn
        obtain rfl := Option.some.inj h
        have := fieldAt_ok (b := b) (m := m) (offOf_ok hT hn) w
        simp [hs.ev hc, this]
      · cases h
    · cases h
  · split at h
    · rename_i kd m ke n hx hy
      split at h
      · rename_i hk
        obtain rfl := of_decide_eq_true hk
        simp only [hs.ev hx, hs.ev hy]
        rw [Sem.run_bind, Sem.run_bind, eqGuard_int]
        simp only [Result.andThen_ok]
        rw [arith_ok h]
        simp
      · cases h
    · cases h
  · cases h
/-- is an operation wanted, by its guard? -/
def wnt (ops : Array Oper) (K : Env) : Option (Nat × Bool) → Option Bool
  | none => some true
  | some (j, b) => match dstAt ops j with
    | some d => (match look K d with
      | some (.bool c) => some (bif b then c else !c)
      | some (.tuple _) => some false
      | _ => none)
    | none => none
theorem wnt_ok (hs : Sat K a) {c : Bool} (h : wnt ops K o.guard = some c) : Region.wanted o (yielded ops a.tmps) = c := by
  unfold Region.wanted
  unfold wnt at h
  split at h
  · rename_i hg
    rw [hg]
    exact Option.some.inj h
  · rename_i j b hg
    rw [hg]
    simp only
    split at h
    · rename_i d hd
      have key : ∀ u, look K d = some u → u ≠ undef ∨ True → (match (a.tmps[d]?) with | some (.bool e) => some e | _ => none) = (match u with | .bool e => some e | _ => none) := by
        intro u hu _
        have h1 : a.tmps.getD d undef = u := hs d u hu
        rw [Array.getD_eq_getD_getElem?] at h1
        cases hx : a.tmps[d]? with
        | none =>
          rw [hx] at h1
          simp only [Option.getD_none] at h1
          rw [← h1]
          rfl
        | some z =>
          rw [hx] at h1
          simp only [Option.getD_some] at h1
          rw [h1]
          cases u <;> rfl
      have hy : ∀ u, look K d = some u → yielded ops a.tmps j = (match u with | .bool e => some e | _ => none) := by
        intro u hu
        unfold yielded
        unfold dstAt at hd
        rw [hd]
        exact key u hu (.inr trivial)
      split at h
      · rename_i c' hc
        rw [hy _ hc]
        obtain rfl := Option.some.inj h
        cases b <;> cases c' <;> rfl
      · rename_i vs hc
        rw [hy _ hc]
        obtain rfl := Option.some.inj h
        rfl
      · cases h
    · cases h
/-- a proof about all states in which the environment and the memory are known -/
def Wk (N : Nat) (S : List Nat) (w0 : World) (K : Env) (R : List Res) (k : Act → World → Prop) : Prop := ∀ a w, a.tmps.size = N → a.defers = [] → Sat K a → Hid (Hp S w0 w R) → k a w
def stp (T : Tab) (N : Nat) (ops : Array Oper) (K : Env) (o : Oper) : Option Env := match wnt ops K o.guard with
  | some true => (match pvv T K o.op with
    | some v => (match o.dst with
      | some d => bif Nat.blt d N then some ((d, v) :: K) else none
      | none => none)
    | none => none)
  | some false => (match o.dst with
    | some d => bif Nat.blt d N then some ((d, undef) :: K) else none
    | none => some K)
  | none => none
theorem blt_of {m n : Nat} (h : Nat.blt m n = true) : m < n := by rw [Nat.blt_eq] at h; exact h
theorem wP {T : Tab} (hT : tabOk P T = true) (h : stp T N ops K o = some K') (n : Wk N S w0 K' R (wpList P ops Q rest)) : Wk N S w0 K R (wpList P ops Q (o :: rest)) := by
  intro a w hz hd hs H
  unfold stp at h
  split at h
  · rename_i hw
    split at h
    · rename_i v hv
      split at h
      · rename_i d hdd
        cases hb : Nat.blt d N with
        | false => rw [hb] at h; cases h
        | true =>
          rw [hb] at h
          obtain rfl := Option.some.inj h
          refine wpList_step fun K2 hK => ?_
          rw [if_pos (wnt_ok hs hw)]
          refine wp_val v (pvv_ok hT hs hv w) (hK _ _ ?_)
          rw [hdd]
          exact n _ _ (by rw [put_size]; exact hz) (by rw [put_defers]; exact hd) (hs.put (by rw [hz]; exact blt_of hb)) H
      · cases h
    · cases h
  · rename_i hw
    refine wpList_step fun K2 hK => ?_
    rw [if_neg (by rw [wnt_ok hs hw]; decide)]
    split at h
    · rename_i d hdd
      cases hb : Nat.blt d N with
      | false => rw [hb] at h; cases h
      | true =>
        rw [hb] at h
        obtain rfl := Option.some.inj h
        refine hK _ _ ?_
        rw [hdd]
        exact n _ _ (by rw [put_size]; exact hz) (by rw [put_defers]; exact hd) (hs.put (by rw [hz]; exact blt_of hb)) H
    · rename_i hdd
      obtain rfl := Option.some.inj h
      refine hK _ _ ?_
      rw [hdd]
      exact n _ _ hz hd hs H
  · cases h
/-- a slot's value in other words -/
theorem wV {v v' : Value} (t : Nat) (h : look K t = some v) (e : v = v') (n : Wk N S w0 ((t, v') :: K) R k) : Wk N S w0 K R k := by
  intro a w hz hd hs H
  exact n a w hz hd (hs.cons ((hs t v h).trans e)) H
theorem wB {E c : Bool} (t : Nat) (h : look K t = some (.bool E)) (e : E = c) (n : Wk N S w0 ((t, .bool c) :: K) R k) : Wk N S w0 K R k := wV t h (by rw [e]) n
theorem wI {kd : IntKind} {m m' : Int} (t : Nat) (h : look K t = some (.int kd m)) (e : m = m') (n : Wk N S w0 ((t, .int kd m') :: K) R k) : Wk N S w0 K R k := wV t h (by rw [e]) n
/-- an operation that leaves the world alone, by a proof of its own -/
theorem wE (V : Value) (hw : wnt ops K o.guard = some true) (hd : o.dst = some d) (hN : Nat.blt d N = true) (he : ∀ a w, Sat K a → Hid (Hp S w0 w R) → (execOp a.eval o).run P w = .ok (.value V) w) (n : Wk N S w0 ((d, V) :: K) R (wpList P ops Q rest)) : Wk N S w0 K R (wpList P ops Q (o :: rest)) := by
  intro a w hz hdf hs H
  refine wpList_step fun K2 hK => ?_
  rw [if_pos (wnt_ok hs hw)]
  refine wp_val V (he a w hs H) (hK _ _ ?_)
  rw [hd]
  exact n _ _ (by rw [put_size]; exact hz) (by rw [put_defers]; exact hdf) (hs.put (by rw [hz]; exact blt_of hN)) H
theorem wIn (hz : a.tmps.size = N) (hd : a.defers = []) (hs : Sat K a) (H : Hid (Hp S w0 w R)) (n : Wk N S w0 K R k) : k a w := n a w hz hd hs H
/-- the memory in other words -/
theorem wH (f : ∀ w, Hid (Hp S w0 w R) → Hid (Hp S w0 w R')) (n : Wk N S w0 K R' k) : Wk N S w0 K R k := fun a w hz hd hs H => n a w hz hd hs (f w H)
/-- what the memory tells -/
theorem wT {p : Prop} (f : ∀ w, Hid (Hp S w0 w R) → p) (n : p → Wk N S w0 K R k) : Wk N S w0 K R k := fun a w hz hd hs H => n (f w H) a w hz hd hs H
def sub : Env → Env → Prop
  | [], _ => True
  | p :: L, K => look K p.1 = some p.2 ∧ sub L K
theorem sat_sub : ∀ {L K : Env}, sub L K → Sat K a → Sat L a
  | [], _, _, _ => sat_nil a
  | p :: L, K, h, hs => by
    have := sat_sub h.2 hs
    exact this.cons (hs _ _ h.1)
/-- fewer words -/
theorem wK {L : Env} (h : sub L K) (n : Wk N S w0 L R k) : Wk N S w0 K R k := fun a w hz hd hs H => n a w hz hd (sat_sub h hs) H
def ldP (N : Nat) (ops : Array Oper) (K : Env) (o : Oper) : Option (Nat × Nat × Nat × Nat) := match wnt ops K o.guard with
  | some true => (match o.op with
    | .load ty x => (match ev K x with
      | some (.pointer (some ⟨b, m, none⟩)) => (match o.dst with
        | some d => bif Nat.blt d N then some (ty, b, m, d) else none
        | none => none)
      | _ => none)
    | _ => none)
  | _ => none
theorem ldP_ok {ty b m d : Nat} (h : ldP N ops K o = some (ty, b, m, d)) (hs : Sat K a) : Region.wanted o (yielded ops a.tmps) = true ∧ (∃ x, o.op = .load ty x ∧ a.eval x = .pointer (some ⟨b, m, none⟩)) ∧ o.dst = some d ∧ d < N := by
  unfold ldP at h
  split at h
  · rename_i hw
    split at h
    · rename_i ty' x ho
      split at h
      · rename_i b' m' hx
        split at h
        · rename_i d' hd
          cases hb : Nat.blt d' N with
          | false => rw [hb] at h; cases h
          | true =>
            rw [hb] at h
            simp only [cond_true, Option.some.injEq, Prod.mk.injEq] at h
            obtain ⟨rfl, rfl, rfl, rfl⟩ := h
            exact ⟨wnt_ok hs hw, ⟨x, ho, hs.ev hx⟩, hd, blt_of hb⟩
        · cases h
      · cases h
    · cases h
  · cases h
theorem wLd {ty b m d : Nat} {z cs : List Value} {t : TypeId} (h : ldP N ops K o = some (ty, b, m, d)) (T : TyI P ty 1 false z) (i : Nat) (hi : R[i]? = some (rB b t cs)) (hv : cs[m]? = some v) (n : Wk N S w0 ((d, v) :: K) R (wpList P ops Q rest)) : Wk N S w0 K R (wpList P ops Q (o :: rest)) := by
  intro a w hz hdf hs H
  obtain ⟨hw, ⟨x, ho, hx⟩, hd, hN⟩ := ldP_ok h hs
  refine hpA_load1 T H ho hx hw (List.mem_of_getElem? hi) hv ?_
  rw [hd]
  exact n _ _ (by rw [put_size]; exact hz) (by rw [put_defers]; exact hdf) (hs.put (by omega)) H
theorem wLr {ty b m d sz : Nat} {z cs : List Value} {t : TypeId} (h : ldP N ops K o = some (ty, b, m, d)) (T : TyI P ty sz true z) (i : Nat) (hi : R[i]? = some (rB b t cs)) (vs : List Value) (hv : (cs.drop m).take sz = vs) (hn : vs.length = sz) (n : Wk N S w0 ((d, .agg vs.toArray) :: K) R (wpList P ops Q rest)) : Wk N S w0 K R (wpList P ops Q (o :: rest)) := by
  intro a w hz hdf hs H
  obtain ⟨hw, ⟨x, ho, hx⟩, hd, hN⟩ := ldP_ok h hs
  refine hpA_load T H ho hx hw (List.mem_of_getElem? hi) hv hn ?_
  rw [hd]
  exact n _ _ (by rw [put_size]; exact hz) (by rw [put_defers]; exact hdf) (hs.put (by omega)) H
theorem wKd {ty b m d : Nat} {z cs : List Value} {t : TypeId} (h : ldP N ops K o = some (ty, b, m, d)) (T : TyI P ty 1 false z) (i : Nat) (hi : R[i]? = some (rK b t cs)) (hv : cs[m]? = some v) (n : Wk N S w0 ((d, v) :: K) R (wpList P ops Q rest)) : Wk N S w0 K R (wpList P ops Q (o :: rest)) := by
  intro a w hz hdf hs H
  obtain ⟨hw, ⟨x, ho, hx⟩, hd, hN⟩ := ldP_ok h hs
  refine hpK_load1 T H ho hx hw (List.mem_of_getElem? hi) hv ?_
  rw [hd]
  exact n _ _ (by rw [put_size]; exact hz) (by rw [put_defers]; exact hdf) (hs.put (by omega)) H
theorem wKr {ty b m d sz : Nat} {z cs : List Value} {t : TypeId} (h : ldP N ops K o = some (ty, b, m, d)) (T : TyI P ty sz true z) (i : Nat) (hi : R[i]? = some (rK b t cs)) (vs : List Value) (hv : (cs.drop m).take sz = vs) (hn : vs.length = sz) (n : Wk N S w0 ((d, .agg vs.toArray) :: K) R (wpList P ops Q rest)) : Wk N S w0 K R (wpList P ops Q (o :: rest)) := by
  intro a w hz hdf hs H
  obtain ⟨hw, ⟨x, ho, hx⟩, hd, hN⟩ := ldP_ok h hs
  refine hpK_load T H ho hx hw (List.mem_of_getElem? hi) hv hn ?_
  rw [hd]
  exact n _ _ (by rw [put_size]; exact hz) (by rw [put_defers]; exact hdf) (hs.put (by omega)) H
/-- an operation whose law is told for every state: it puts v into slot d -/
theorem wX (d : Nat) (v : Value) (hN : Nat.blt d N = true) (f : ∀ (a : Act) (w : World) (KK : Prop), Sat K a → Hid (Hp S w0 w R) → (wpList P ops Q rest (a.put (some d) v) w → KK) → (wpList P ops Q rest (a.put (some d) v) w → wpList P ops Q (o :: rest) a w)) (n : Wk N S w0 ((d, v) :: K) R (wpList P ops Q rest)) : Wk N S w0 K R (wpList P ops Q (o :: rest)) := by
  intro a w hz hdf hs H
  exact f a w True hs H (fun _ => trivial) (n _ _ (by rw [put_size]; exact hz) (by rw [put_defers]; exact hdf) (hs.put (by rw [hz]; exact blt_of hN)) H)
theorem put_ix : ∀ {R : List Res} {i : Nat} {r : Res} (r' : Res), R[i]? = some r → Put r r' i R (R.set i r')
  | [], _, _, _, h => by simp at h
  | q :: R, 0, r, r', h => by
    simp at h
    subst h
    exact Put.head R
  | q :: R, i + 1, r, r', h => Put.tail q (put_ix r' (by simpa using h))
def stP (K : Env) (o : Oper) : Option (Nat × Nat × Nat × Value) := match o.guard with
  | none => (match o.dst with
    | none => (match o.op with
      | .store ty x y => (match ev K x with
        | some (.pointer (some ⟨b, m, none⟩)) => (match ev K y with
          | some v => some (ty, b, m, v)
          | none => none)
        | _ => none)
      | _ => none)
    | some _ => none)
  | some _ => none
theorem stP_ok {ty b m : Nat} (h : stP K o = some (ty, b, m, v)) (hs : Sat K a) : o.guard = none ∧ o.dst = none ∧ ∃ x y, o.op = .store ty x y ∧ a.eval x = .pointer (some ⟨b, m, none⟩) ∧ a.eval y = v := by
  unfold stP at h
  split at h
  · rename_i hg
    split at h
    · rename_i hd
      split at h
      · rename_i ty' x y ho
        split at h
        · rename_i b' m' hx
          split at h
          · rename_i u hy
            simp only [Option.some.injEq, Prod.mk.injEq] at h
            obtain ⟨rfl, rfl, rfl, rfl⟩ := h
            exact ⟨hg, hd, x, y, ho, hs.ev hx, hs.ev hy⟩
          · cases h
        · cases h
      · cases h
    · cases h
  · cases h
theorem wSt {ty b m : Nat} {z cs : List Value} {t : TypeId} (h : stP K o = some (ty, b, m, v)) (T : TyI P ty 1 false z) (i : Nat) (hi : R[i]? = some (rB b t cs)) (hk : Nat.blt m cs.length = true) (hV : v.cells = #[v]) (h1 : v.oneCell' = true) (n : Wk N S w0 K (R.set i (rB b t (cs.set m v))) (wpList P ops Q rest)) : Wk N S w0 K R (wpList P ops Q (o :: rest)) := by
  intro a w hz hdf hs H
  obtain ⟨hg, hd, x, y, ho, hx, hy⟩ := stP_ok h hs
  refine hpA_store1 T H ho hg hx hy hV (put_ix _ hi) (blt_of hk) h1 rfl rfl fun w' H' => ?_
  rw [hd]
  exact n _ _ hz hdf hs H'
theorem wSa {ty b m : Nat} {z cs cs' : List Value} {t : TypeId} (h : stP K o = some (ty, b, m, v)) (T : TyI P ty 1 false z) (i : Nat) (hi : R[i]? = some (rB b t cs)) (hk : m < cs.length) (hV : v.cells = #[v]) (h1 : v.oneCell' = true) (hc : cs.set m v = cs') (n : Wk N S w0 K (R.set i (rB b t cs')) (wpList P ops Q rest)) : Wk N S w0 K R (wpList P ops Q (o :: rest)) := by
  subst hc
  exact wSt h T i hi (Nat.ble_eq_true_of_le hk) hV h1 n
theorem wSr {ty b m sz : Nat} {row : Bool} {z cs vs : List Value} {t : TypeId} (h : stP K o = some (ty, b, m, .agg vs.toArray)) (T : TyI P ty sz row z) (i : Nat) (hi : R[i]? = some (rB b t cs)) (hn : vs.length = sz) (hk : Nat.ble (m + sz) cs.length = true) (h1 : vs.all (·.oneCell') = true) (cs' : List Value) (hc : spl cs m vs = cs') (n : Wk N S w0 K (R.set i (rB b t cs')) (wpList P ops Q rest)) : Wk N S w0 K R (wpList P ops Q (o :: rest)) := by
  intro a w hz hdf hs H
  obtain ⟨hg, hd, x, y, ho, hx, hy⟩ := stP_ok h hs
  refine hpA_store T H ho hg hx hy hn (put_ix _ hi) (Nat.le_of_ble_eq_true hk) h1 hc rfl fun w' H' => ?_
  rw [hd]
  exact n _ _ hz hdf hs H'
def bxP (N : Nat) (K : Env) (o : Oper) : Option (Nat × Value × Nat) := match o.guard with
  | none => (match o.dst with
    | some d => bif Nat.blt d N then (match o.op with
      | .box ty x => (match ev K x with
        | some v => some (ty, v, d)
        | none => none)
      | .alloc ty => some (ty, undef, d)
      | _ => none) else none
    | none => none)
  | some _ => none
theorem wBx {ty d : Nat} {cs : List Value} {x : Operand} (h : bxP N K o = some (ty, v, d)) (ho : o.op = .box ty x) (hV : v.cells = cs.toArray) (n : ∀ b, Wk N S w0 ((d, .pointer (some ⟨b, 0, none⟩)) :: K) (rB b ty cs :: R) (wpList P ops Q rest)) : Wk N S w0 K R (wpList P ops Q (o :: rest)) := by
  intro a w hz hdf hs H
  unfold bxP at h
  split at h
  · rename_i hg
    split at h
    · rename_i d' hd
      cases hb : Nat.blt d' N with
      | false => rw [hb] at h; cases h
      | true =>
        rw [hb] at h
        simp only [cond_true, ho] at h
        split at h
        · rename_i u hu
          simp only [Option.some.injEq, Prod.mk.injEq] at h
          obtain ⟨_, rfl, rfl⟩ := h
          refine hp_box hg ty x ho _ (hs.ev hu) cs hV H fun w' b H' => ?_
          rw [hd]
          exact n b _ _ (by rw [put_size]; exact hz) (by rw [put_defers]; exact hdf) (hs.put (by rw [hz]; exact blt_of hb)) H'
        · cases h
    · cases h
  · cases h
theorem wAl {ty d sz : Nat} {row : Bool} {z : List Value} (h : bxP N K o = some (ty, undef, d)) (ho : o.op = .alloc ty) (T : TyI P ty sz row z) (n : ∀ b, Wk N S w0 ((d, .pointer (some ⟨b, 0, none⟩)) :: K) (rB b ty z :: R) (wpList P ops Q rest)) : Wk N S w0 K R (wpList P ops Q (o :: rest)) := by
  intro a w hz hdf hs H
  unfold bxP at h
  split at h
  · rename_i hg
    split at h
    · rename_i d' hd
      cases hb : Nat.blt d' N with
      | false => rw [hb] at h; cases h
      | true =>
        rw [hb] at h
        simp only [cond_true, ho] at h
        simp only [Option.some.injEq, Prod.mk.injEq] at h
        obtain ⟨_, _, rfl⟩ := h
        refine hpA_alloc T H ho hg fun w' b H' => ?_
        rw [hd]
        exact n b _ _ (by rw [put_size]; exact hz) (by rw [put_defers]; exact hdf) (hs.put (by rw [hz]; exact blt_of hb)) H'
    · cases h
  · cases h
def parts (K : Env) : List (Nat × Operand) → Option (List (Nat × Value))
  | [] => some []
  | p :: l => match ev K p.2 with
    | some v => (match parts K l with
      | some m => some ((p.1, v) :: m)
      | none => none)
    | none => none
theorem parts_ok (hs : Sat K a) : ∀ {l : List (Nat × Operand)} {m : List (Nat × Value)}, parts K l = some m → l.map (fun p => (p.1, a.eval p.2)) = m
  | [], m, h => by cases h; rfl
  | p :: l, m, h => by
    unfold parts at h
    split at h
    · rename_i v hv
      split at h
      · rename_i m' hm
        cases h
        simp [hs.ev hv, parts_ok hs hm]
      · cases h
    · cases h
theorem wBs {ty e sz n d : Nat} {row : Bool} {z cs : List Value} {ps : Array (Nat × Operand)} {m : List (Nat × Value)} (hw : wnt ops K o.guard = some true) (hd : o.dst = some d) (hN : Nat.blt d N = true) (ho : o.op = .buildSlice ty n ps) (hu : P.underlying ty = some (.slice e)) (T : TyI P e sz row z) (hp : parts K ps.toList = some m) (hn : n * sz ≤ 2 ^ 24) (hn0 : n * sz ≠ 0)
    (hf : Instr.fill (fun i => some (i * sz, sz)) ((Array.range (n * sz)).map (z.toArray[· % z.toArray.size]!)) m = some cs.toArray) (nx : ∀ b, Wk N S w0 ((d, .slice (some ⟨b, 0, none⟩) n n) :: K) (rB b e cs :: R) (wpList P ops Q rest)) : Wk N S w0 K R (wpList P ops Q (o :: rest)) := by
  intro a w hz hdf hs H
  refine hpN_bslice hu T d H hd ho (wnt_ok hs hw) hn hn0 (cs := cs) ?_ fun w' b H' => ?_
  · rw [Array.toList_map, parts_ok hs hp]
    exact hf
  · rw [hd]
    exact nx b _ _ (by rw [put_size]; exact hz) (by rw [put_defers]; exact hdf) (hs.put (by rw [hz]; exact blt_of hN)) H'
def evs (K : Env) : List Operand → Option (List Value)
  | [] => some []
  | x :: l => match ev K x with
    | some v => (match evs K l with
      | some m => some (v :: m)
      | none => none)
    | none => none
theorem evs_ok (hs : Sat K a) : ∀ {l : List Operand} {m : List Value}, evs K l = some m → l.map a.eval = m
  | [], m, h => by cases h; rfl
  | p :: l, m, h => by
    unfold evs at h
    split at h
    · rename_i v hv
      split at h
      · rename_i m' hm
        cases h
        simp [hs.ev hv, evs_ok hs hm]
      · cases h
    · cases h
/-- which function is called, with what -/
def callOf (K : Env) : Op → Option (Nat × List Value)
  | .call c => (match c.callee with
    | .value f => (match ev K f with
      | some (.func (.func id) first cap) => (match evs K c.args.toList with
        | some l => some (id, first.toList ++ (l ++ cap.toList))
        | none => none)
      | _ => none)
    | _ => none)
  | _ => none
theorem callOf_ok {f : Nat} {l : List Value} (hs : Sat K a) (h : callOf K o.op = some (f, l)) (w : World) : (execOp a.eval o).run P w = (callFunc f l.toArray).run P w := by
  unfold callOf at h
  split at h
  · rename_i c ho
    split at h
    · rename_i g hc
      split at h
      · rename_i id first cap hg
        split at h
        · rename_i m hm
          simp only [Option.some.injEq, Prod.mk.injEq] at h
          obtain ⟨rfl, rfl⟩ := h
          unfold execOp
          rw [ho]
          simp only [resolve, hc, hs.ev hg, Deferred.ofValue]
          have e : c.args.map a.eval = m.toArray := by
            apply Array.toList_inj.1
            rw [Array.toList_map]
            exact evs_ok hs hm
          have e2 : first ++ (m.toArray ++ cap) = (first.toList ++ (m ++ cap.toList)).toArray := by
            apply Array.toList_inj.1
            simp
          rw [e]
          simp [invoke]
          rw [e2]
        · cases h
      · cases h
    · cases h
  · cases h
theorem callFunc_enter {f : FuncId} {fn : Func} {c : Code} (hf : P.funcs[f]? = some fn) (hb : fn.body = some c) (hn : (fn.name == "runtime.NumGoroutine") = false) (args : Array Value) (w : World) : (callFunc f args).run P w = .ok (.enter f args) w := by
  unfold callFunc
  simp [hf, hb]
  simpa using hn
/-- a walk at one world -/
def WkAt (N : Nat) (K : Env) (w : World) (k : Act → World → Prop) : Prop := ∀ a, a.tmps.size = N → a.defers = [] → Sat K a → k a w
theorem wkAt (H : Hid (Hp S w0 w R)) (n : Wk N S w0 K R k) : WkAt N K w k := fun a hz hd hs => n a w hz hd hs H
theorem wC {f : FuncId} {fn : Func} {c : Code} {l : List Value} {post : World → Ending → World → Prop} (hf : P.funcs[f]? = some fn) (hb : fn.body = some c) (hn : (fn.name == "runtime.NumGoroutine") = false) (hc : ∀ w, Hid (Hp S w0 w R) → Calls P f l.toArray w (post w)) (he : callOf K o.op = some (f, l)) (hw : wnt ops K o.guard = some true) (hd : o.dst = some d) (hN : Nat.blt d N = true)
    (n : ∀ w, Hid (Hp S w0 w R) → ∀ e w', post w e w' → ∃ v, e = .returned v ∧ WkAt N ((d, v) :: K) w' (wpList P ops Q rest)) : Wk N S w0 K R (wpList P ops Q (o :: rest)) := by
  intro a w hz hdf hs H
  refine wpList_step fun K2 hK => ?_
  rw [if_pos (wnt_ok hs hw)]
  refine wp_call f l.toArray ((callOf_ok hs he w).trans (callFunc_enter hf hb hn _ w)) (hc w H) fun e w' hp => ?_
  obtain ⟨v, rfl, h⟩ := n w H e w' hp
  refine ⟨v, rfl, hK _ _ ?_⟩
  rw [hd]
  exact h _ (by rw [put_size]; exact hz) (by rw [put_defers]; exact hdf) (hs.put (by rw [hz]; exact blt_of hN))
/-- a call that leaves the memory alone -/
theorem wQ {f : FuncId} {fn : Func} {c : Code} {l : List Value} (hf : P.funcs[f]? = some fn) (hb : fn.body = some c) (hn : (fn.name == "runtime.NumGoroutine") = false) (V : Value) (hc : ∀ w, Hid (Hp S w0 w R) → Calls P f l.toArray w fun e w' => e = .returned V ∧ Off [] w w') (he : callOf K o.op = some (f, l)) (hw : wnt ops K o.guard = some true) (hd : o.dst = some d) (hN : Nat.blt d N = true)
    (n : Wk N S w0 ((d, V) :: K) R (wpList P ops Q rest)) : Wk N S w0 K R (wpList P ops Q (o :: rest)) :=
  wC hf hb hn hc he hw hd hN fun w H e w' hp => ⟨V, hp.1, wkAt (Lib.hid (H.out.quiet hp.2)) n⟩
theorem off_of_eq {f : FuncId} {args : Array Value} {V : Value} (h : Calls P f args w fun e w' => e = .returned V ∧ w = w') : Calls P f args w fun e w' => e = .returned V ∧ Off [] w w' :=
  h.mono fun e w' hp => ⟨hp.1, by rw [← hp.2]; exact Off.refl _ _⟩
theorem wN (n : Wk N S w0 K R (Q .normal)) : Wk N S w0 K R (wpList P ops Q []) := n
theorem wReg {id : Nat} {ops : Array Oper} (n : Wk N S w0 K R (wpList P ops Q ops.toList)) : Wk N S w0 K R (fun a w => (Code.region id ops false).wp P Q a w) := fun a w hz hd hs H => wp_region_list (n a w hz hd hs H)
theorem wSeq {c e : Code} (n : Wk N S w0 K R (fun a w => c.wp P (Exit.then (e.wp P Q) Q) a w)) : Wk N S w0 K R (fun a w => (Code.seq c e).wp P Q a w) := fun a w hz hd hs H => wp_seq (n a w hz hd hs H)
theorem wCond {c e : Code} {E : Bool} (h : ev K x = some (.bool E)) (n1 : E = true → Wk N S w0 K R (fun a w => c.wp P Q a w)) (n2 : E = false → Wk N S w0 K R (fun a w => e.wp P Q a w)) : Wk N S w0 K R (fun a w => (Code.cond x c e).wp P Q a w) := fun a w hz hd hs H => by
  cases E with
  | true => exact wp_cond_true (hs.ev h) (n1 rfl a w hz hd hs H)
  | false => exact wp_cond_false (hs.ev h) (n2 rfl a w hz hd hs H)
theorem wCt {c e : Code} (h : ev K x = some (.bool true)) (n : Wk N S w0 K R (fun a w => c.wp P Q a w)) : Wk N S w0 K R (fun a w => (Code.cond x c e).wp P Q a w) := fun a w hz hd hs H => wp_cond_true (hs.ev h) (n a w hz hd hs H)
theorem wCf {c e : Code} (h : ev K x = some (.bool false)) (n : Wk N S w0 K R (fun a w => e.wp P Q a w)) : Wk N S w0 K R (fun a w => (Code.cond x c e).wp P Q a w) := fun a w hz hd hs H => wp_cond_false (hs.ev h) (n a w hz hd hs H)
theorem wBlk {c : Code} (n : Wk N S w0 K R (fun a w => c.wp P (Exit.inBlock id Q) a w)) : Wk N S w0 K R (fun a w => (Code.block id c).wp P Q a w) := fun a w hz hd hs H => wp_block (n a w hz hd hs H)
theorem wEx (n : Wk N S w0 K R (Q (.exit id))) : Wk N S w0 K R (fun a w => (Code.exit id).wp P Q a w) := fun a w hz hd hs H => wp_exit (n a w hz hd hs H)
theorem wRet (n : Wk N S w0 K R (Q .ret)) : Wk N S w0 K R (fun a w => Code.ret.wp P Q a w) := fun a w hz hd hs H => wp_ret (n a w hz hd hs H)
theorem wSk (n : Wk N S w0 K R (Q .normal)) : Wk N S w0 K R (fun a w => Code.skip.wp P Q a w) := fun a w hz hd hs H => wp_skip (n a w hz hd hs H)
theorem tN {F : Act → World → Prop} (n : Wk N S w0 K R F) : Wk N S w0 K R (Exit.then F Q .normal) := n
theorem tR {F : Act → World → Prop} (n : Wk N S w0 K R (Q .ret)) : Wk N S w0 K R (Exit.then F Q .ret) := n
theorem tX {F : Act → World → Prop} (n : Wk N S w0 K R (Q (.exit id))) : Wk N S w0 K R (Exit.then F Q (.exit id)) := n
theorem bN (n : Wk N S w0 K R (Q .normal)) : Wk N S w0 K R (Exit.inBlock id Q .normal) := n
theorem bR (n : Wk N S w0 K R (Q .ret)) : Wk N S w0 K R (Exit.inBlock id Q .ret) := n
theorem bX (n : Wk N S w0 K R (Q .normal)) : Wk N S w0 K R (Exit.inBlock id Q (.exit id)) := fun a w hz hd hs H => block_exit (n a w hz hd hs H)
theorem bO {id' : Nat} (h : Nat.beq id' id = false) (n : Wk N S w0 K R (Q (.exit id'))) : Wk N S w0 K R (Exit.inBlock id Q (.exit id')) := fun a w hz hd hs H => block_other (fun e => by rw [e, Nat.beq_refl] at h; cases h) (n a w hz hd hs H)
theorem wStart {f : FuncId} {fn : Func} {c : Code} {args : List Value} {E : Ending → World → Prop} (hf : P.funcs[f]? = some fn) (hb : fn.body = some c) (hn : fn.ntmps = N) (hle : Nat.ble args.length N = true) (H : Hid (Hp S w0 w R)) (n : Wk N S w0 (args.zipIdx.map fun p => (p.2, p.1)) R (fun a w => c.wp P (bodyPost P fn E) a w)) : Calls P f args.toArray w E := by
  refine calls_start hf hb N hn (by simpa using Nat.le_of_ble_eq_true hle) fun a hz hd hsl => n a w hz hd ?_ H
  intro t v hv
  have key : ∀ (l : List Value) (k : Nat), look ((l.zipIdx k).map fun p => (p.2, p.1)) t = some v → k ≤ t ∧ l[t - k]? = some v := by
    intro l
    induction l with
    | nil => intro k h; cases h
    | cons u l ih =>
      intro k h
      rw [List.zipIdx_cons, List.map_cons] at h
      unfold look at h
      cases hb : Nat.beq k t with
      | true =>
        obtain rfl := Nat.eq_of_beq_eq_true hb
        simp only [Nat.beq_refl, cond_true] at h
        exact ⟨Nat.le_refl _, by simpa using h⟩
      | false =>
        simp only [hb, cond_false] at h
        obtain ⟨h1, h2⟩ := ih (k + 1) h
        refine ⟨by omega, ?_⟩
        rw [show t - k = (t - (k + 1)) + 1 by omega]
        simpa using h2
  obtain ⟨_, h2⟩ := key args 0 hv
  simp only [Nat.sub_zero] at h2
  have hlt : t < args.length := (List.getElem?_eq_some_iff.1 h2).1
  rw [hsl t (by simpa using hlt)]
  simp [Array.getD_eq_getD_getElem?, h2]
theorem wR1 {fn : Func} {E : Ending → World → Prop} {t : Tmp} (h : fn.results = #[.tmp t]) (hv : look K t = some v) (n : ∀ w, Hid (Hp S w0 w R) → E (.returned v) w) : Wk N S w0 K R (bodyPost P fn E .ret) := fun a w hz hd hs H => ret1 h hd (hs t v hv) (n w H)
theorem wR2 {fn : Func} {E : Ending → World → Prop} {t u : Tmp} {z : Value} (h : fn.results = #[.tmp t, .tmp u]) (hv : look K t = some v) (hu : look K u = some z) (n : ∀ w, Hid (Hp S w0 w R) → E (.returned (.tuple #[v, z])) w) : Wk N S w0 K R (bodyPost P fn E .ret) := fun a w hz hd hs H => ret2 h hd (hs t v hv) (hs u z hu) (n w H)
theorem wRc {fn : Func} {E : Ending → World → Prop} {t : Tmp} {ty sz b : Nat} {z cs : List Value} {t2 : TypeId} (T : TyI P ty sz true z) (h : fn.results = #[.cell t ty]) (hv : look K t = some (.pointer (some ⟨b, 0, none⟩))) (i : Nat) (hi : R[i]? = some (rB b t2 cs)) (hn : cs.length = sz) (n : ∀ w, Hid (Hp S w0 w R) → E (.returned (.agg cs.toArray)) w) : Wk N S w0 K R (bodyPost P fn E .ret) := fun a w hz hd hs H => hp_ret_c T H h hd (hs t _ hv) (List.mem_of_getElem? hi) hn (n w H)
theorem wRct {fn : Func} {E : Ending → World → Prop} {t u : Tmp} {ty sz b : Nat} {z cs : List Value} {t2 : TypeId} {U : Value} (T : TyI P ty sz true z) (h : fn.results = #[.cell t ty, .tmp u]) (hv : look K t = some (.pointer (some ⟨b, 0, none⟩))) (hu : look K u = some U) (i : Nat) (hi : R[i]? = some (rB b t2 cs)) (hn : cs.length = sz) (n : ∀ w, Hid (Hp S w0 w R) → E (.returned (.tuple #[.agg cs.toArray, U])) w) : Wk N S w0 K R (bodyPost P fn E .ret) := fun a w hz hd hs H => hp_ret_ct T H h hd (hs t _ hv) (hs u _ hu) (List.mem_of_getElem? hi) hn (n w H)
theorem wRcct {fn : Func} {E : Ending → World → Prop} {t t' u : Tmp} {ty sz b ty' sz' b' : Nat} {z cs z' ds : List Value} {t2 t3 : TypeId} {U : Value} (T : TyI P ty sz true z) (T' : TyI P ty' sz' true z') (h : fn.results = #[.cell t ty, .cell t' ty', .tmp u]) (hv : look K t = some (.pointer (some ⟨b, 0, none⟩))) (hv' : look K t' = some (.pointer (some ⟨b', 0, none⟩))) (hu : look K u = some U) (i i' : Nat) (hi : R[i]? = some (rB b t2 cs)) (hi' : R[i']? = some (rB b' t3 ds)) (hn : cs.length = sz) (hn' : ds.length = sz') (n : ∀ w, Hid (Hp S w0 w R) → E (.returned (.tuple #[.agg cs.toArray, .agg ds.toArray, U])) w) : Wk N S w0 K R (bodyPost P fn E .ret) := fun a w hz hd hs H => hp_ret_cct T T' H h hd (hs t _ hv) (hs t' _ hv') (hs u _ hu) (List.mem_of_getElem? hi) (List.mem_of_getElem? hi') hn hn' (n w H)
theorem wLoop {c : Code} (I : Act → World → Prop) (μ : Act → World → Nat) (h0 : Wk N S w0 K R I) (rd : ∀ a w, I a w → c.wp P (Exit.then (fun a' w' => I a' w' ∧ μ a' w' < μ a w) Q) a w) : Wk N S w0 K R (fun a w => (Code.loop c).wp P Q a w) := fun a w hz hd hs H => wp_loop I μ (h0 a w hz hd hs H) rd
theorem wLoopN {c : Code} (n : Nat) (h : Wk N S w0 K R (Code.rounds P c Q n)) : Wk N S w0 K R (fun a w => (Code.loop c).wp P Q a w) := fun a w hz hd hs H => wp_loop_rounds n (h a w hz hd hs H)
theorem wRnd {c : Code} {n : Nat} (h : Wk N S w0 K R (fun a w => c.wp P (Exit.then (Code.rounds P c Q n) Q) a w)) : Wk N S w0 K R (Code.rounds P c Q (n + 1)) := h
theorem exec_seq {p q : Operand} {ty yt : TypeId} {s t : ByteArray} {c : Bool} (ho : o.op = .binOp .eql ty p q yt) (hp : a.eval p = .string s) (hq : a.eval q = .string t) (h : (s.toList == t.toList) = c) : (execOp a.eval o).run P w = .ok (.value (.bool c)) w := by
  subst h
  unfold execOp
  simp only [ho, hp, hq]
  simp [eqGuard, binOp, Op.stringOp]
theorem exec_sne {p q : Operand} {ty yt : TypeId} {s t : ByteArray} {c : Bool} (ho : o.op = .binOp .neq ty p q yt) (hp : a.eval p = .string s) (hq : a.eval q = .string t) (h : (s.toList == t.toList) = c) : (execOp a.eval o).run P w = .ok (.value (.bool (!c))) w := by
  subst h
  unfold execOp
  simp only [ho, hp, hq]
  simp [eqGuard, binOp, Op.stringOp]
/-- a byte of a string -/
def idxB (s : ByteArray) (i : Nat) : Int := (((s.data.toList.map UInt8.toNat).getD i 0 : Nat) : Int)
theorem exec_sidx {p q : Operand} {ty : TypeId} {s : ByteArray} {kd : IntKind} {i : Nat} (ho : o.op = .index ty p q) (hp : a.eval p = .string s) (hq : a.eval q = .int kd (i : Int)) (hu : P.underlying ty = some .string) (hi : i < s.size) : (execOp a.eval o).run P w = .ok (.value (.int .u8 (idxB s i))) w := by
  have h1 : s[i]? = some s[i] := by simp [hi]
  have h2 : idxB s i = ((s[i].toNat : Nat) : Int) := by
    unfold idxB
    rw [List.getD_eq_getElem?_getD, List.getElem?_map, List.getElem?_eq_getElem (show i < s.data.toList.length from hi)]
    rfl
  unfold execOp
  simp only [ho, hp, hq]
  simp [Instr.index, asIntOf, run_underlying hu, h1, h2]
theorem run_equalIn_bool (d : Nat) {ty : TypeId} (hu : P.underlying ty = some .bool) (s t : Bool) (w : World) : (Op.equalIn (d + 1) ty (.bool s) (.bool t)).run P w = .ok (s == t) w := by
  simp [Op.equalIn, run_underlying hu]
theorem exec_beq {p q : Operand} {ty yt : TypeId} {s t c : Bool} (ho : o.op = .binOp .eql ty p q yt) (hp : a.eval p = .bool s) (hq : a.eval q = .bool t) (hu : P.underlying ty = some .bool) (h : (s == t) = c) : (execOp a.eval o).run P w = .ok (.value (.bool c)) w := by
  subst h
  have e : (binOp .eql ty (.bool s) (.bool t)).run P w = .ok (.bool (s == t)) w := by
    simp only [binOp]
    simp [Op.equal, Op.maxDepth, run_equalIn_bool 9999 hu]
  unfold execOp
  simp only [ho, hp, hq]
  rw [Sem.run_bind, Sem.run_bind]
  simp [eqGuard, e]
theorem exec_bne {p q : Operand} {ty yt : TypeId} {s t c : Bool} (ho : o.op = .binOp .neq ty p q yt) (hp : a.eval p = .bool s) (hq : a.eval q = .bool t) (hu : P.underlying ty = some .bool) (h : (s == t) = c) : (execOp a.eval o).run P w = .ok (.value (.bool (!c))) w := by
  subst h
  have e : (binOp .neq ty (.bool s) (.bool t)).run P w = .ok (.bool (!(s == t))) w := by
    simp only [binOp]
    simp [Op.equal, Op.maxDepth, run_equalIn_bool 9999 hu]
  unfold execOp
  simp only [ho, hp, hq]
  rw [Sem.run_bind, Sem.run_bind]
  simp [eqGuard, e]
theorem upon_then (o : Oper) (a : Act) (F nx : Act → World → Prop) (r : Result Next) : o.upon P a nx (Exit.then F Q) r = o.upon P a nx Q r := by
  unfold Oper.upon
  split <;> rfl
theorem wpList_then (l1 l2 : List Oper) : wpList P ops (Exit.then (wpList P ops Q l2) Q) l1 = wpList P ops Q (l1 ++ l2) := by
  induction l1 with
  | nil => rfl
  | cons o l ih =>
    funext a w
    rw [List.cons_append]
    unfold wpList
    rw [ih]
    unfold Oper.wp
    rw [upon_then]
    rfl
/-- a part of a region that is walked in two ways, and goes on in one -/
theorem wCut {l : List Oper} (m : Nat) (K2 : Env) (n1 : ∀ KK : Act → World → Prop, Wk N S w0 K2 R KK → Wk N S w0 K R (wpList P ops (Exit.then KK Q) (l.take m))) (n2 : Wk N S w0 K2 R (wpList P ops Q (l.drop m))) : Wk N S w0 K R (wpList P ops Q l) := by
  have h := n1 _ n2
  rwa [wpList_then, List.take_append_drop] at h
theorem wGo {w' : World} (hz : a.tmps.size = N) (hdf : a.defers = []) (hs : Sat K a) (hN : Nat.blt d N = true) (H : Hid (Hp S w0 w' R')) (n : Wk N S w0 ((d, v) :: K) R' (wpList P ops Q rest)) : wpList P ops Q rest (a.put (some d) v) w' :=
  n _ _ (by rw [put_size]; exact hz) (by rw [put_defers]; exact hdf) (hs.put (by rw [hz]; exact blt_of hN)) H
theorem wGoN {w' : World} (hz : a.tmps.size = N) (hdf : a.defers = []) (hs : Sat K a) (H : Hid (Hp S w0 w' R')) (n : Wk N S w0 K R' (wpList P ops Q rest)) : wpList P ops Q rest (a.put none v) w' := n _ _ (by rw [put_size]; exact hz) (by rw [put_defers]; exact hdf) hs H
theorem wSeqK {c e : Code} (n : ∀ KK : Act → World → Prop, (∀ a w, e.wp P Q a w → KK a w) → Wk N S w0 K R (fun a w => c.wp P (Exit.then KK Q) a w)) : Wk N S w0 K R (fun a w => (Code.seq c e).wp P Q a w) := wSeq (n _ fun _ _ h => h)
theorem wKK {e : Code} {KK : Act → World → Prop} (hK : ∀ a w, e.wp P Q a w → KK a w) (n : Wk N S w0 K R (fun a w => e.wp P Q a w)) : Wk N S w0 K R KK := fun a w hz hd hs H => hK a w (n a w hz hd hs H)
end
end Go.Proofs.Ytnanihffljpdbaa.Wk

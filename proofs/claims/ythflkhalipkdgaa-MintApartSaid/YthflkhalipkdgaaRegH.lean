/- Regions by Reg, over Hp: helpers for the printed walks (sym.py). -/
import Derived.Test.YthflkhalipkdgaaProg
import Derived.Below
import Derived.WalkKit
import Derived.KernelRfl
import Derived.RowKit3
import Derived.Deep.LoopGhost
import Derived.Deep.QuietTactic
import Derived.BigQuiet
import Derived.WideLaws
import Derived.Deep.DeepCutAuto
import Derived.Deep.CutBlock
import Derived.Lib.Hide
import Derived.Laws.BitsLemmas
import Derived.Laws.Bits64
import Derived.Laws.BitsAllLaws
import Derived.IntWalk
import Derived.Outline
import Derived.WalkSpells
import Derived.Test.YthflkhalipkdgaaMem
import Derived.Test.YthflkhalipkdgaaReg
import Derived.Test.YthflkhalipkdgaaSl2
namespace Go.Proofs.Ythflkhalipkdgaa.Reg
set_option maxRecDepth 20000
set_option linter.unusedVariables false
set_option linter.unusedSimpArgs false
open Go.RowKit Go.Proofs.Ythflkhalipkdgaa.Inv Go.Proofs.Ythflkhalipkdgaa.Mem
def nth : List Value → Nat → Value
  | [], _ => undef
  | v :: _, 0 => v
  | _ :: l, n + 1 => nth l n
theorem ix_nil {n : Nat} {C : Nat → Prop} : ∀ i, n ≤ i → i < n → C i := fun i h1 h2 => absurd h1 (by omega)
theorem ix_cons {C : Nat → Prop} {k n : Nat} (h0 : C k) (h : ∀ i, k + 1 ≤ i → i < n → C i) : ∀ i, k ≤ i → i < n → C i := fun i h1 h2 => by
  rcases Nat.lt_or_ge k i with h3 | h3
  · exact h i h3 h2
  · obtain rfl : i = k := by omega
    exact h0
theorem strEq (x y : ByteArray) : (x = y) ↔ x.toList = y.toList := ⟨fun h => by rw [h], fun h => by rw [ByteArray.toList_eq, ByteArray.toList_eq] at h; exact ByteArray.ext (Array.toList_inj.1 h)⟩
theorem bl {a b : Bool} (h : (a && b) = true) : a = true := by revert h; cases a <;> simp
theorem br {a b : Bool} (h : (a && b) = true) : b = true := by revert h; cases a <;> simp
theorem bn {a : Bool} (h : (!a) = true) : a = false := by revert h; cases a <;> simp
theorem bt {a : Bool} (h : (!a) = false) : a = true := by revert h; cases a <;> simp
theorem ol {a b : Bool} (h : (a || b) = false) : a = false := by revert h; cases a <;> simp
theorem orr {a b : Bool} (h : (a || b) = false) : b = false := by revert h; cases a <;> simp
theorem af1 {a b : Bool} (h : (a && b) = false) (k : a = true) : b = false := by revert h k; cases a <;> simp
theorem af2 {a b : Bool} (h : (a && b) = false) (k : b = true) : a = false := by revert h k; cases a <;> cases b <;> simp
theorem ot1 {a b : Bool} (h : (a || b) = true) (k : a = false) : b = true := by revert h k; cases a <;> simp
theorem ot2 {a b : Bool} (h : (a || b) = true) (k : b = false) : a = true := by revert h k; cases a <;> cases b <;> simp
theorem eqq_t {α : Type} [BEq α] {a b : α} (h : (a == b) = true) : (a != b) = false := by simp [bne, h]
theorem eqq_f {α : Type} [BEq α] {a b : α} (h : (a == b) = false) : (a != b) = true := by simp [bne, h]
theorem neq_t {α : Type} [BEq α] {a b : α} (h : (a != b) = true) : (a == b) = false := by simpa [bne] using h
theorem neq_f {α : Type} [BEq α] {a b : α} (h : (a != b) = false) : (a == b) = true := by simpa [bne] using h
theorem if_chainR {α : Type} {c : Prop} [Decidable c] {A B : α} (h : c → A = B) : (if c then A else B) = B := by
  split
  · exact h ‹_›
  · rfl
theorem bj {a b : Bool} (h1 : a = true) (h2 : b = true) : (a && b) = true := by rw [h1, h2]; rfl
theorem bk {a : Bool} (h : a = false) : (!a) = true := by rw [h]; rfl
theorem cT {G : Bool} {v V : Value} (h : v = bif G then V else undef) (hG : G = true) : v = V := by rw [h, hG]; rfl
theorem cF {G : Bool} {V : Value} (hG : G = false) : (bif G then V else undef) = undef := by rw [hG]; rfl
theorem cI {G : Bool} {V : Value} (hG : G = true) : V = (bif G then V else undef) := by rw [hG]; rfl
/-- a region of a function's code -/
def findR : Code → Nat → Option Code
  | .region i o d, k => bif Nat.beq i k then some (.region i o d) else none
  | .seq a b, k => match findR a k with | some c => some c | none => findR b k
  | .cond _ a b, k => match findR a k with | some c => some c | none => findR b k
  | .block _ a, k => findR a k
  | .loop a, k => findR a k
  | .scope a, k => findR a k
  | _, _ => none
def regAt (f : Func) (k : Nat) : Code := match f.body with
  | some c => (match findR c k with | some r => r | none => .skip)
  | none => .skip
/-- one goal an operation -/
def Al (C : Nat → Oper → Prop) : Nat → List Oper → Prop
  | _, [] => True
  | k, o :: l => C k o ∧ Al C (k + 1) l
theorem al_nil {C : Nat → Oper → Prop} {k : Nat} : Al C k [] := trivial
theorem al_cons {C : Nat → Oper → Prop} {k : Nat} {o : Oper} {l : List Oper} (h : C k o) (t : Al C (k + 1) l) : Al C k (o :: l) := ⟨h, t⟩
theorem al_get {C : Nat → Oper → Prop} : ∀ (l : List Oper) (k i : Nat) (o : Oper), Al C k l → l[i]? = some o → C (k + i) o
  | [], _, _, _, _, h => by simp at h
  | _ :: l, k, 0, o, hA, h => by
    simp at h
    subst h
    exact hA.1
  | _ :: l, k, i + 1, o, hA, h => by
    have := al_get l (k + 1) i o hA.2 (by simpa using h)
    rwa [show k + 1 + i = k + (i + 1) by omega] at this
section
variable {P : Program} {ops : Array Oper} {Q Q' : Exit → Act → World → Prop} {X : Type} {An : Nat → Nat → Bool} {a0 a : Act} {val : X → Nat → Value} {L : Nat → Bool} {x : X} {i : Nat} {St : (Nat → Bool) → X → World → Prop} {o : Oper} {w w0 : World} {S : List Nat} {R : List Res}
theorem steps {n : Nat} (hn : ops.size = n) {C : Nat → Oper → Prop} (h : ∀ i, 0 ≤ i → i < n → ∀ o, ops[i]? = some o → C i o) : ∀ i o, ops[i]? = some o → C i o := fun i o ho =>
  h i (Nat.zero_le _) (by rw [← hn]; exact (Array.getElem?_eq_some_iff.1 ho).1) o ho
theorem steps_al {C : Nat → Oper → Prop} (h : Al C 0 ops.toList) : ∀ i o, ops[i]? = some o → C i o := fun i o ho => by
  have := al_get ops.toList 0 i o h (by simpa using ho)
  rwa [Nat.zero_add] at this
theorem gt_of {t : Tmp} {V : Value} (h : a.eval (.tmp t) = V) : (a.tmps[t]?).getD undef = V := by rw [← Array.getD_eq_getD_getElem?]; exact h
theorem Stg.free (hs : Stg ops An a0 val L x a i) (t : Tmp) (hc : (ops.all fun o => o.dst != some t) = true) : a.eval (.tmp t) = a0.eval (.tmp t) :=
  hs.old t fun j e => by
    unfold dstAt at e
    cases ho : ops[j]? with
    | none => simp [ho] at e
    | some o =>
      have := Array.all_eq_true_iff_forall_mem.1 hc o (Array.mem_of_getElem? ho)
      simp only [ho, Option.bind_some] at e
      rw [e] at this
      simp at this
theorem skips {C : Nat → Oper → Prop} (gl : List Nat) (hg : ((List.range ops.size).all fun i => gl.contains i || ((ops[i]?).map (·.guard.isNone)).getD true) = true) (h : ∀ i ∈ gl, ∀ o, ops[i]? = some o → C i o) : ∀ i o, ops[i]? = some o → o.guard.isSome = true → C i o := fun i o ho hs => by
  refine h i ?_ o ho
  have := List.all_eq_true.1 hg i (by simpa using (Array.getElem?_eq_some_iff.1 ho).1)
  rw [ho] at this
  simp only [Option.map_some, Option.getD_some, Bool.or_eq_true, Option.isNone_iff_eq_none] at this
  rcases this with h1 | h1
  · exact List.contains_iff_mem.1 h1
  · rw [h1] at hs; cases hs
theorem Stg.agree (hs : Stg ops An a0 val L x a i) {n : Nat} (hn : ops.size = n) {x' : X} (h : ∀ j, 0 ≤ j → j < n → L j = true → val x' j = val x j) : ∀ j, L j = true → val x' j = val x j := fun j hj => h j (Nat.zero_le _) (by rw [← hn]; exact hs.lt j hj) hj
theorem no {b : Bool} {C : Prop} (h : b = false) (h1 : b = true) : C := by rw [h] at h1; cases h1
/-- a slot that operation k is going to write -/
theorem Stg.yet (hs : Stg ops An a0 val L x a i) (t : Tmp) (k : Nat) (hk : L k = false) (hc : ((List.range ops.size).all fun j => j == k || dstAt ops j != some t) = true) : a.eval (.tmp t) = a0.eval (.tmp t) :=
  hs.old t fun j e => by
    have hj : j < ops.size := by
      unfold dstAt at e
      cases ho : ops[j]? with
      | none => simp [ho] at e
      | some o => exact (Array.getElem?_eq_some_iff.1 ho).1
    have := List.all_eq_true.1 hc j (by simpa using hj)
    rw [e] at this
    simp at this
    rw [this]
    exact hk
theorem fr_keep (hfr : Fr ops a0 a) (W : List Nat) (hW : (ops.all fun o => match o.dst with | some d => W.contains d | none => true) = true) : ∀ t, W.contains t = false → a.eval (.tmp t) = a0.eval (.tmp t) := fun t ht => by
  refine hfr.rest t fun j hj e => ?_
  unfold dstAt at e
  cases ho : ops[j]? with
  | none => simp [ho] at e
  | some o =>
    have := Array.all_eq_true_iff_forall_mem.1 hW o (Array.mem_of_getElem? ho)
    simp only [ho, Option.bind_some] at e
    rw [e] at this
    simp only at this
    rw [ht] at this
    cases this
theorem want_none (hg : o.guard = none) (y : Nat → Option Bool) : Region.wanted o y = true := by simp [Region.wanted, hg]
theorem yield_undef {tmps : Array Value} {j d : Nat} (hd : dstAt ops j = some d) (he : tmps.getD d undef = undef) : yielded ops tmps j = none := by
  unfold dstAt at hd
  rw [Array.getD_eq_getD_getElem?] at he
  unfold yielded
  rw [hd]
  simp only [Option.bind_some]
  cases hx : tmps[d]? with
  | none => rfl
  | some v =>
    rw [hx] at he
    simp only [Option.getD_some] at he
    rw [he]
    rfl
theorem want_g {tmps : Array Value} {j d : Nat} {G B b : Bool} (hg : o.guard = some (j, b)) (hd : dstAt ops j = some d) (he : tmps.getD d undef = bif G then .bool B else undef) : Region.wanted o (yielded ops tmps) = (G && (B == b)) := by
  cases G with
  | false =>
    rw [Region.wanted, hg]
    simp only [yield_undef hd he]
    rfl
  | true =>
    rw [Region.wanted, hg]
    simp only [yield_of hd he]
    cases B <;> cases b <;> rfl
theorem want_gt {tmps : Array Value} {j d : Nat} {G B : Bool} (hg : o.guard = some (j, true)) (hd : dstAt ops j = some d) (he : tmps.getD d undef = bif G then .bool B else undef) : Region.wanted o (yielded ops tmps) = (G && B) := by
  rw [want_g hg hd he]; cases B <;> rfl
theorem want_gf {tmps : Array Value} {j d : Nat} {G B : Bool} (hg : o.guard = some (j, false)) (hd : dstAt ops j = some d) (he : tmps.getD d undef = bif G then .bool B else undef) : Region.wanted o (yielded ops tmps) = (G && !B) := by
  rw [want_g hg hd he]; cases B <;> rfl
theorem want_t {tmps : Array Value} {j d : Nat} {B : Bool} (hg : o.guard = some (j, true)) (hd : dstAt ops j = some d) (he : tmps.getD d undef = .bool B) : Region.wanted o (yielded ops tmps) = B := by
  rw [want_gt (G := true) hg hd he]; rfl
theorem want_f {tmps : Array Value} {j d : Nat} {B : Bool} (hg : o.guard = some (j, false)) (hd : dstAt ops j = some d) (he : tmps.getD d undef = .bool B) : Region.wanted o (yielded ops tmps) = !B := by
  rw [want_gf (G := true) hg hd he]; rfl
/-- an operation that leaves the world alone -/
theorem op_val (hwant : Region.wanted o (yielded ops a.tmps) = true) (hN : Goes ops val St L x a i o (Q' .normal)) (hst : St (upd L i) x w) (V : Value) (he : (execOp a.eval o).run P w = .ok (.value V) w) (hv : (match o.dst with | some _ => V | none => undef) = val x i) : wpList P ops Q' [o] a w := by
  refine wpList_step fun K hK => ?_
  rw [if_pos hwant]
  exact wp_val V he (hK _ _ (hN V x w (fun _ _ => rfl) hv hst))
theorem op_call (hwant : Region.wanted o (yielded ops a.tmps) = true) (hN : Goes ops val St L x a i o (Q' .normal)) (f : FuncId) (args : Array Value) (he : (execOp a.eval o).run P w = .ok (.enter f args) w) {post : Ending → World → Prop} (hc : Calls P f args w post)
    (h : ∀ e w', post e w' → ∃ v x', e = .returned v ∧ (∀ j, L j = true → val x' j = val x j) ∧ (match o.dst with | some _ => v | none => undef) = val x' i ∧ St (upd L i) x' w') : wpList P ops Q' [o] a w := by
  refine wpList_step fun K hK => ?_
  rw [if_pos hwant]
  refine wp_call f args he hc fun e w' hp => ?_
  obtain ⟨v, x', rfl, h1, h2, h3⟩ := h e w' hp
  exact ⟨v, rfl, hK _ _ (hN v x' w' h1 h2 h3)⟩
theorem exec_pick {c p q : Operand} {B : Bool} {U V : Value} (ho : o.op = .pick c p q) (hc : a.eval c = .bool B) (hp : B = true → a.eval p = U) (hq : B = false → a.eval q = V) : (execOp a.eval o).run P w = .ok (.value (bif B then U else V)) w := by
  unfold execOp
  simp only [ho, hc]
  cases B with
  | true => simp [hp rfl, asBool]
  | false => simp [hq rfl, asBool]
theorem exec_or {c q : Operand} {B Y : Bool} (ho : o.op = .pick c (.const (.bool true)) q) (hc : a.eval c = .bool B) (hq : B = false → a.eval q = .bool Y) : (execOp a.eval o).run P w = .ok (.value (.bool (B || Y))) w := by
  rw [exec_pick ho hc (U := .bool true) (fun _ => rfl) hq]
  cases B <;> rfl
theorem exec_and {c p : Operand} {B Y : Bool} (ho : o.op = .pick c p (.const (.bool false))) (hc : a.eval c = .bool B) (hp : B = true → a.eval p = .bool Y) : (execOp a.eval o).run P w = .ok (.value (.bool (B && Y))) w := by
  rw [exec_pick ho hc (V := .bool false) hp (fun _ => rfl)]
  cases B <;> rfl
theorem exec_eql {p q : Operand} {t yt : TypeId} {U V : Array Value} {b : Bool} (ho : o.op = .binOp .eql t p q yt) (hp : a.eval p = .agg U) (hq : a.eval q = .agg V) (hk : P.eqGuardType P.depth t = false) (he : (Op.equalIn 10000 t (.agg U) (.agg V)).run P w = .ok b w) : (execOp a.eval o).run P w = .ok (.value (.bool b)) w := by
  unfold execOp
  simp only [ho, hp, hq, Sem.run_bind, Sem.run_pure, Result.andThen_ok, run_eqGuard_agg _ _ _ _ _ _ _ hk, run_eql_struct, he]
theorem exec_neq {p q : Operand} {t yt : TypeId} {U V : Array Value} {b : Bool} (ho : o.op = .binOp .neq t p q yt) (hp : a.eval p = .agg U) (hq : a.eval q = .agg V) (hk : P.eqGuardType P.depth t = false) (he : (Op.equalIn 10000 t (.agg U) (.agg V)).run P w = .ok b w) : (execOp a.eval o).run P w = .ok (.value (.bool (!b))) w := by
  unfold execOp
  simp only [ho, hp, hq, Sem.run_bind, Sem.run_pure, Result.andThen_ok, run_eqGuard_agg _ _ _ _ _ _ _ hk, run_neq_struct, he]
theorem exec_move {p : Operand} {V : Value} (ho : o.op = .move p) (hp : a.eval p = V) : (execOp a.eval o).run P w = .ok (.value V) w := by
  unfold execOp
  simp only [ho, hp]
  simp
theorem exec_assign {p : Operand} {V : Value} (ho : o.op = .assign p) (hp : a.eval p = V) : (execOp a.eval o).run P w = .ok (.value V) w := by
  unfold execOp
  simp only [ho, hp]
  simp
theorem Hp.perm {R' : List Res} (h : Hp S w0 w R) (hp : R.Perm R') : Hp S w0 w R' :=
  ⟨h.off, fun r hr => h.holds r (hp.mem_iff.2 hr), fun r hr => h.lt r (hp.mem_iff.2 hr), fun r hr => h.newf r (hp.mem_iff.2 hr), (hp.pairwise_iff (fun {r q} hrq hq k hk hk' => hrq (by rw [Bool.and_comm]; exact hq) k hk' hk)).1 h.sep⟩
theorem then_normal {K : Act → World → Prop} (h : K a w) : Exit.then K Q .normal a w := h
theorem then_ret {K : Act → World → Prop} (h : Q .ret a w) : Exit.then K Q .ret a w := h
theorem then_exit {K : Act → World → Prop} {id : Nat} (h : Q (.exit id) a w) : Exit.then K Q (.exit id) a w := h
theorem block_normal {id : Nat} (h : Q .normal a w) : Exit.inBlock id Q .normal a w := h
theorem block_ret {id : Nat} (h : Q .ret a w) : Exit.inBlock id Q .ret a w := h
theorem block_exit {id : Nat} (h : Q .normal a w) : Exit.inBlock id Q (.exit id) a w := by simp only [Exit.inBlock, if_true]; exact h
theorem block_other {id id' : Nat} (hne : id' ≠ id) (h : Q (.exit id') a w) : Exit.inBlock id Q (.exit id') a w := by simp only [Exit.inBlock, if_neg hne]; exact h
theorem calls_start {f : FuncId} {fn : Func} {c : Code} {args : Array Value} {R : Ending → World → Prop} (hf : P.funcs[f]? = some fn) (hb : fn.body = some c) (N : Nat) (hn : fn.ntmps = N) (hle : args.size ≤ N)
    (h : ∀ a : Act, a.tmps.size = N → a.defers = [] → (∀ i, i < args.size → a.eval (.tmp i) = args.getD i undef) → c.wp P (bodyPost P fn R) a w) : Calls P f args w R := by
  refine calls_of_wp hf hb (h _ ?_ rfl ?_)
  · simp [hn]; omega
  · intro i hi
    show (args ++ Array.replicate (fn.ntmps - args.size) undef).getD i undef = args.getD i undef
    simp [Array.getD_eq_getD_getElem?, Array.getElem?_append, hi]
theorem ret1 {fn : Func} {R : Ending → World → Prop} {t : Tmp} {v : Value} (h : fn.results = #[.tmp t]) (hd : a.defers = []) (hv : a.eval (.tmp t) = v) (hR : R (.returned v) w) : bodyPost P fn R .ret a w :=
  ⟨hd, v, by rw [results_tmp h]; exact congrArg (fun u => Result.ok u w) hv, hR⟩
theorem ret2 {fn : Func} {R : Ending → World → Prop} {t u : Tmp} {v z : Value} (h : fn.results = #[.tmp t, .tmp u]) (hd : a.defers = []) (hv : a.eval (.tmp t) = v) (hz : a.eval (.tmp u) = z) (hR : R (.returned (.tuple #[v, z])) w) : bodyPost P fn R .ret a w :=
  ⟨hd, .tuple #[v, z], by
    have h1 : a.tmps.getD t undef = v := hv
    have h2 : a.tmps.getD u undef = z := hz
    rw [results_tmp2 h, h1, h2], hR⟩
end
theorem mixedP : Try.prog.follows .mixedOrders = true := by kernel_rfl
end Go.Proofs.Ythflkhalipkdgaa.Reg

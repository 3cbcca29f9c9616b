/- Layer 14: requests; its small functions. -/
import Derived.Test.YthflkhalipkdgaaProg
import Derived.Below
import Derived.WalkKit
import Derived.KernelRfl
import Derived.RowKit3
import Derived.Deep.LoopGhost
import Derived.Deep.QuietTactic
import Derived.BigQuiet
import Derived.WideLaws
import Derived.Deep.DeepCutAuto
import Derived.Deep.CutBlock
import Derived.Lib.Hide
import Derived.Laws.BitsLemmas
import Derived.Laws.Bits64
import Derived.Laws.BitsAllLaws
import Derived.IntWalk
import Derived.Outline
import Derived.WalkSpells
import Derived.Test.YthflkhalipkdgaaGA
import Derived.Test.YthflkhalipkdgaaCall1
import Derived.Laws.EntriesVeiled
namespace Go.Proofs.Ythflkhalipkdgaa.Ms
set_option maxRecDepth 20000
set_option linter.unusedVariables false
set_option linter.unusedSimpArgs false
open Go.RowKit Go.Proofs.Ythflkhalipkdgaa.Mem Go.Proofs.Ythflkhalipkdgaa.Pk Go.Proofs.Ythflkhalipkdgaa.Ca

structure FilterV where
  kind : Int
  n : Int
structure ReqV where
  kind : Int
  seq : Int
  who : Int
  role : Int
  token : Int
  key : Int
  call : CallV
  id : Int
  car : Int
  mode : Int
  filter : FilterV
def ReqV.cells (q : ReqV) : List Value := [.int .i64 q.kind, .int .i64 q.seq, .int .i64 q.who, .int .i64 q.role, .int .u32 q.token, .int .u64 q.key, .int .i64 q.call.id, .int .i64 q.call.kind, .int .i64 q.call.src, .int .i64 q.call.dst, .int .i64 q.call.car, .int .i64 q.call.state, .int .i64 q.call.owner, .int .i64 q.call.born, .int .i64 q.id, .int .i64 q.car, .int .i64 q.mode, .int .i64 q.filter.kind, .int .i64 q.filter.n]
def noReq : ReqV := ⟨0, 0, 0, 0, 0, 0, ⟨0, 0, 0, 0, 0, 0, 0, 0⟩, 0, 0, 0, ⟨0, 0⟩⟩
def isCountV (n : Int) : Bool := decide (0 ≤ n) && decide (n ≤ 1073741824)
def someV (n : Int) : Bool := decide (0 < n) && isCountV n
def isFilterV (f : FilterV) : Bool := if (f.kind == 0) = true then f.n == 0 else decide (0 < f.kind) && decide (f.kind ≤ 3) && isCountV f.n && decide (0 < f.n)
def writesV (q : ReqV) : Bool := q.kind == 4 || q.kind == 5 || q.kind == 10
theorem tymsg_Request : TyI Try.prog 42 19 true [.int .i64 0, .int .i64 0, .int .i64 0, .int .i64 0, .int .u32 0, .int .u64 0, .int .i64 0, .int .i64 0, .int .i64 0, .int .i64 0, .int .i64 0, .int .i64 0, .int .i64 0, .int .i64 0, .int .i64 0, .int .i64 0, .int .i64 0, .int .i64 0, .int .i64 0] := ⟨by kernel_rfl, by kernel_rfl, by kernel_rfl⟩
theorem tyint : TyI Try.prog 3 1 false [.int .i64 0] := ⟨by kernel_rfl, by kernel_rfl, by kernel_rfl⟩
theorem tyfunc_P_msg_Request__P_int : TyI Try.prog 111 1 false [.nilFunc] := ⟨by kernel_rfl, by kernel_rfl, by kernel_rfl⟩
theorem tyfunc_int__bool : TyI Try.prog 96 1 false [.nilFunc] := ⟨by kernel_rfl, by kernel_rfl, by kernel_rfl⟩
theorem tymsg_part : TyI Try.prog 101 2 true [.nilFunc, .nilFunc] := ⟨by kernel_rfl, by kernel_rfl, by kernel_rfl⟩
theorem typack_Out : TyI Try.prog 92 1 true [.slice none 0 0] := ⟨by kernel_rfl, by kernel_rfl, by kernel_rfl⟩
theorem tymsg_Filter : TyI Try.prog 40 2 true [.int .i64 0, .int .i64 0] := ⟨by kernel_rfl, by kernel_rfl, by kernel_rfl⟩
theorem tyfunc_P_pack_Out__P_msg_Request__bool : TyI Try.prog 98 1 false [.nilFunc] := ⟨by kernel_rfl, by kernel_rfl, by kernel_rfl⟩
theorem tyfunc_P_pack_In__P_msg_Request_ : TyI Try.prog 99 1 false [.nilFunc] := ⟨by kernel_rfl, by kernel_rfl, by kernel_rfl⟩
theorem tyuint64 : TyI Try.prog 22 1 false [.int .u64 0] := ⟨by kernel_rfl, by kernel_rfl, by kernel_rfl⟩
theorem tyuint32 : TyI Try.prog 29 1 false [.int .u32 0] := ⟨by kernel_rfl, by kernel_rfl, by kernel_rfl⟩
theorem isCount (n : Int) (w : World) : Calls Try.prog 38 #[.int .i64 n] w fun e w' => e = .returned (.bool (isCountV n)) ∧ w = w' := by
  rcases Bool.eq_false_or_eq_true (decide (0 ≤ n)) with q0 | q0
  · go_enter Try.func38, Try.ntmps38
    go_wp2_with fail
    go_ret
    exact ⟨by simp [isCountV, q0], rfl⟩
  · go_enter Try.func38, Try.ntmps38
    go_wp2_with fail
    go_ret
    exact ⟨by simp [isCountV, q0], rfl⟩
theorem isSome (n : Int) (w : World) : Calls Try.prog 70 #[.int .i64 n] w fun e w' => e = .returned (.bool (someV n)) ∧ w = w' := by
  rcases Bool.eq_false_or_eq_true (decide (0 < n)) with q0 | q0
  · go_enter Try.func70, Try.ntmps70
    go_wp2_with (first
      | (go_at_call 38; (with_reducible refine (isCount _ _).mono ?_); rintro e w5 ⟨rfl, rfl⟩))
    go_ret
    exact ⟨by simp [someV, q0], rfl⟩
  · go_enter Try.func70, Try.ntmps70
    go_wp2_with (first
      | (go_at_call 38; (with_reducible refine (isCount _ _).mono ?_); rintro e w5 ⟨rfl, rfl⟩))
    go_ret
    exact ⟨by simp [someV, q0], rfl⟩
theorem isWhole (n : Int) (w : World) : Calls Try.prog 73 #[.int .i64 n] w fun e w' => e = .returned (.bool true) ∧ w = w' := by
  go_enter Try.func73, Try.ntmps73
  go_wp2_with fail
  go_ret
  exact ⟨by simp [], rfl⟩
set_option maxHeartbeats 16000000 in
theorem filterIs (f : FilterV) (w : World) : Calls Try.prog 39 #[.agg #[.int .i64 f.kind, .int .i64 f.n]] w fun e w' => e = .returned (.bool (isFilterV f)) ∧ Off [] w w' := by
  have H := Lib.hid (Hp.start [] w)
  rcases Bool.eq_false_or_eq_true (f.kind == 0) with q0 | q0
  · go_enter Try.func39, Try.ntmps39
    go_wp2_with (first
      | ((with_reducible apply g_mem); (focus (exact rfl)); first
      | ((with_reducible apply hpN_box 40 1 H); (focus (exact rfl)); (focus (exact rfl)); (focus (exact rfl)); (focus (exact rfl)); (focus (exact rfl)); intro w5 b1 H5; clear H; have H := H5; clear H5)
      | ((with_reducible apply hpA_load1 tyint H); (focus (exact rfl)); (focus (exact rfl)); (focus (first | (exact rfl) | (simp [Region.wanted]; done) | (simp only [Region.wanted]; go_simp; done))); (focus (repeat (first | exact List.Mem.head _ | apply List.Mem.tail))); (focus ((try simp only [List.getElem?_cons_zero, List.getElem?_cons_succ]); exact rfl))))
      | (go_at_call 38; (with_reducible refine (isCount _ _).mono ?_); rintro e w5 ⟨rfl, rfl⟩))
    go_ret
    exact ⟨by simp [isFilterV, q0], H.out.off⟩
  · rcases Bool.eq_false_or_eq_true (decide (0 < f.kind)) with q1 | q1
    · rcases Bool.eq_false_or_eq_true (decide (f.kind ≤ 3)) with q2 | q2
      · rcases Bool.eq_false_or_eq_true (isCountV f.n) with q3 | q3
        · go_enter Try.func39, Try.ntmps39
          go_wp2_with (first
            | ((with_reducible apply g_mem); (focus (exact rfl)); first
      | ((with_reducible apply hpN_box 40 1 H); (focus (exact rfl)); (focus (exact rfl)); (focus (exact rfl)); (focus (exact rfl)); (focus (exact rfl)); intro w5 b1 H5; clear H; have H := H5; clear H5)
      | ((with_reducible apply hpA_load1 tyint H); (focus (exact rfl)); (focus (exact rfl)); (focus (first | (exact rfl) | (simp [Region.wanted]; done) | (simp only [Region.wanted]; go_simp; done))); (focus (repeat (first | exact List.Mem.head _ | apply List.Mem.tail))); (focus ((try simp only [List.getElem?_cons_zero, List.getElem?_cons_succ]); exact rfl))))
            | (go_at_call 38; (with_reducible refine (isCount _ _).mono ?_); rintro e w5 ⟨rfl, rfl⟩))
          go_ret
          exact ⟨by simp [isFilterV, q0, q1, q2, q3], H.out.off⟩
        · go_enter Try.func39, Try.ntmps39
          go_wp2_with (first
            | ((with_reducible apply g_mem); (focus (exact rfl)); first
      | ((with_reducible apply hpN_box 40 1 H); (focus (exact rfl)); (focus (exact rfl)); (focus (exact rfl)); (focus (exact rfl)); (focus (exact rfl)); intro w5 b1 H5; clear H; have H := H5; clear H5)
      | ((with_reducible apply hpA_load1 tyint H); (focus (exact rfl)); (focus (exact rfl)); (focus (first | (exact rfl) | (simp [Region.wanted]; done) | (simp only [Region.wanted]; go_simp; done))); (focus (repeat (first | exact List.Mem.head _ | apply List.Mem.tail))); (focus ((try simp only [List.getElem?_cons_zero, List.getElem?_cons_succ]); exact rfl))))
            | (go_at_call 38; (with_reducible refine (isCount _ _).mono ?_); rintro e w5 ⟨rfl, rfl⟩))
          go_ret
          exact ⟨by simp [isFilterV, q0, q1, q2, q3], H.out.off⟩
      · go_enter Try.func39, Try.ntmps39
        go_wp2_with (first
          | ((with_reducible apply g_mem); (focus (exact rfl)); first
      | ((with_reducible apply hpN_box 40 1 H); (focus (exact rfl)); (focus (exact rfl)); (focus (exact rfl)); (focus (exact rfl)); (focus (exact rfl)); intro w5 b1 H5; clear H; have H := H5; clear H5)
      | ((with_reducible apply hpA_load1 tyint H); (focus (exact rfl)); (focus (exact rfl)); (focus (first | (exact rfl) | (simp [Region.wanted]; done) | (simp only [Region.wanted]; go_simp; done))); (focus (repeat (first | exact List.Mem.head _ | apply List.Mem.tail))); (focus ((try simp only [List.getElem?_cons_zero, List.getElem?_cons_succ]); exact rfl))))
          | (go_at_call 38; (with_reducible refine (isCount _ _).mono ?_); rintro e w5 ⟨rfl, rfl⟩))
        go_ret
        exact ⟨by simp [isFilterV, q0, q1, q2], H.out.off⟩
    · go_enter Try.func39, Try.ntmps39
      go_wp2_with (first
        | ((with_reducible apply g_mem); (focus (exact rfl)); first
      | ((with_reducible apply hpN_box 40 1 H); (focus (exact rfl)); (focus (exact rfl)); (focus (exact rfl)); (focus (exact rfl)); (focus (exact rfl)); intro w5 b1 H5; clear H; have H := H5; clear H5)
      | ((with_reducible apply hpA_load1 tyint H); (focus (exact rfl)); (focus (exact rfl)); (focus (first | (exact rfl) | (simp [Region.wanted]; done) | (simp only [Region.wanted]; go_simp; done))); (focus (repeat (first | exact List.Mem.head _ | apply List.Mem.tail))); (focus ((try simp only [List.getElem?_cons_zero, List.getElem?_cons_succ]); exact rfl))))
        | (go_at_call 38; (with_reducible refine (isCount _ _).mono ?_); rintro e w5 ⟨rfl, rfl⟩))
      go_ret
      exact ⟨by simp [isFilterV, q0, q1], H.out.off⟩
theorem filterIsX (f_kind : Int) (f_n : Int) (w : World) : Calls Try.prog 39 #[.agg #[.int .i64 f_kind, .int .i64 f_n]] w fun e w' => e = .returned (.bool (isFilterV (⟨f_kind, f_n⟩ : FilterV))) ∧ Off [] w w' := filterIs (⟨f_kind, f_n⟩ : FilterV) w
/-- the functions that tell a part of a request, by the place of the part -/
def offFn : Nat → Nat
  | 2 => 69
  | 14 => 71
  | 3 => 72
  | 17 => 77
  | 18 => 78
  | 15 => 79
  | 16 => 80
  | 7 => 94
  | 8 => 95
  | 9 => 96
  | 10 => 97
  | _ => 0
def isOff (k : Nat) : Bool := k == 2 || k == 14 || k == 3 || k == 17 || k == 18 || k == 15 || k == 16 || k == 7 || k == 8 || k == 9 || k == 10
theorem fld2 (b : Nat) (w : World) : Calls Try.prog 69 #[.pointer (some ⟨b, 0, none⟩)] w fun e w' => e = .returned (.pointer (some ⟨b, 2, none⟩)) ∧ w = w' := by
  go_enter Try.func69, Try.ntmps69
  go_wp2_with fail
  go_ret
  exact ⟨rfl, rfl⟩
theorem fld14 (b : Nat) (w : World) : Calls Try.prog 71 #[.pointer (some ⟨b, 0, none⟩)] w fun e w' => e = .returned (.pointer (some ⟨b, 14, none⟩)) ∧ w = w' := by
  go_enter Try.func71, Try.ntmps71
  go_wp2_with fail
  go_ret
  exact ⟨rfl, rfl⟩
theorem fld3 (b : Nat) (w : World) : Calls Try.prog 72 #[.pointer (some ⟨b, 0, none⟩)] w fun e w' => e = .returned (.pointer (some ⟨b, 3, none⟩)) ∧ w = w' := by
  go_enter Try.func72, Try.ntmps72
  go_wp2_with fail
  go_ret
  exact ⟨rfl, rfl⟩
theorem fld17 (b : Nat) (w : World) : Calls Try.prog 77 #[.pointer (some ⟨b, 0, none⟩)] w fun e w' => e = .returned (.pointer (some ⟨b, 17, none⟩)) ∧ w = w' := by
  go_enter Try.func77, Try.ntmps77
  go_wp2_with fail
  go_ret
  exact ⟨rfl, rfl⟩
theorem fld18 (b : Nat) (w : World) : Calls Try.prog 78 #[.pointer (some ⟨b, 0, none⟩)] w fun e w' => e = .returned (.pointer (some ⟨b, 18, none⟩)) ∧ w = w' := by
  go_enter Try.func78, Try.ntmps78
  go_wp2_with fail
  go_ret
  exact ⟨rfl, rfl⟩
theorem fld15 (b : Nat) (w : World) : Calls Try.prog 79 #[.pointer (some ⟨b, 0, none⟩)] w fun e w' => e = .returned (.pointer (some ⟨b, 15, none⟩)) ∧ w = w' := by
  go_enter Try.func79, Try.ntmps79
  go_wp2_with fail
  go_ret
  exact ⟨rfl, rfl⟩
theorem fld16 (b : Nat) (w : World) : Calls Try.prog 80 #[.pointer (some ⟨b, 0, none⟩)] w fun e w' => e = .returned (.pointer (some ⟨b, 16, none⟩)) ∧ w = w' := by
  go_enter Try.func80, Try.ntmps80
  go_wp2_with fail
  go_ret
  exact ⟨rfl, rfl⟩
theorem fld7 (b : Nat) (w : World) : Calls Try.prog 94 #[.pointer (some ⟨b, 0, none⟩)] w fun e w' => e = .returned (.pointer (some ⟨b, 7, none⟩)) ∧ w = w' := by
  go_enter Try.func94, Try.ntmps94
  go_wp2_with fail
  go_ret
  exact ⟨rfl, rfl⟩
theorem fld8 (b : Nat) (w : World) : Calls Try.prog 95 #[.pointer (some ⟨b, 0, none⟩)] w fun e w' => e = .returned (.pointer (some ⟨b, 8, none⟩)) ∧ w = w' := by
  go_enter Try.func95, Try.ntmps95
  go_wp2_with fail
  go_ret
  exact ⟨rfl, rfl⟩
theorem fld9 (b : Nat) (w : World) : Calls Try.prog 96 #[.pointer (some ⟨b, 0, none⟩)] w fun e w' => e = .returned (.pointer (some ⟨b, 9, none⟩)) ∧ w = w' := by
  go_enter Try.func96, Try.ntmps96
  go_wp2_with fail
  go_ret
  exact ⟨rfl, rfl⟩
theorem fld10 (b : Nat) (w : World) : Calls Try.prog 97 #[.pointer (some ⟨b, 0, none⟩)] w fun e w' => e = .returned (.pointer (some ⟨b, 10, none⟩)) ∧ w = w' := by
  go_enter Try.func97, Try.ntmps97
  go_wp2_with fail
  go_ret
  exact ⟨rfl, rfl⟩
theorem fldAny (k : Nat) (hk : isOff k = true) (b : Nat) (w : World) : Calls Try.prog (offFn k) #[.pointer (some ⟨b, 0, none⟩)] w fun e w' => e = .returned (.pointer (some ⟨b, k, none⟩)) ∧ w = w' := by
  simp only [isOff, Bool.or_eq_true, beq_iff_eq] at hk
  rcases hk with ((((((((((rfl | rfl) | rfl) | rfl) | rfl) | rfl) | rfl) | rfl) | rfl) | rfl) | rfl)
  · exact fld2 b w
  · exact fld14 b w
  · exact fld3 b w
  · exact fld17 b w
  · exact fld18 b w
  · exact fld15 b w
  · exact fld16 b w
  · exact fld7 b w
  · exact fld8 b w
  · exact fld9 b w
  · exact fld10 b w
/-- what a part's number must be -/
inductive Chk | whole | some | count
def Chk.fn : Chk → Nat
  | .whole => 73
  | .some => 70
  | .count => 38
def Chk.is : Chk → Int → Bool
  | .whole, _ => true
  | .some, n => someV n
  | .count, n => isCountV n
theorem chkAny (k : Chk) (n : Int) (w : World) : Calls Try.prog k.fn #[.int .i64 n] w fun e w' => e = .returned (.bool (k.is n)) ∧ w = w' := by
  cases k
  · exact isWhole n w
  · exact isSome n w
  · exact isCount n w
end Go.Proofs.Ythflkhalipkdgaa.Ms

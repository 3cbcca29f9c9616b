/- Layer 14: requests; its small functions. -/
import Derived.Test.YthflkhalipkdgaaGreatProg
import Derived.Below
import Derived.WalkKit
import Derived.KernelRfl
import Derived.RowKit3
import Derived.Deep.LoopGhost
import Derived.Deep.QuietTactic
import Derived.BigQuiet
import Derived.WideLaws
import Derived.Deep.DeepCutAuto
import Derived.Deep.CutBlock
import Derived.Lib.Hide
import Derived.Laws.BitsLemmas
import Derived.Laws.Bits64
import Derived.Laws.BitsAllLaws
import Derived.IntWalk
import Derived.Outline
import Derived.WalkSpells
import Derived.Test.YthflkhalipkdgaaGreatGA
import Derived.Test.YthflkhalipkdgaaGreatCall1
import Derived.Laws.EntriesVeiled
namespace Go.Proofs.YthflkhalipkdgaaGreat.Ms
set_option maxRecDepth 20000
set_option linter.unusedVariables false
set_option linter.unusedSimpArgs false
open Go.RowKit Go.Proofs.YthflkhalipkdgaaGreat.Mem Go.Proofs.YthflkhalipkdgaaGreat.Pk Go.Proofs.YthflkhalipkdgaaGreat.Ca

structure FilterV where
  kind : Int
  n : Int
structure ReqV where
  kind : Int
  seq : Int
  who : Int
  role : Int
  token : Int
  key : Int
  call : CallV
  id : Int
  car : Int
  mode : Int
  filter : FilterV
def ReqV.cells (q : ReqV) : List Value := [.int .i64 q.kind, .int .i64 q.seq, .int .i64 q.who, .int .i64 q.role, .int .u32 q.token, .int .u64 q.key, .int .i64 q.call.id, .int .i64 q.call.kind, .int .i64 q.call.src, .int .i64 q.call.dst, .int .i64 q.call.car, .int .i64 q.call.state, .int .i64 q.call.owner, .int .i64 q.call.born, .int .i64 q.id, .int .i64 q.car, .int .i64 q.mode, .int .i64 q.filter.kind, .int .i64 q.filter.n]
def noReq : ReqV := ⟨0, 0, 0, 0, 0, 0, ⟨0, 0, 0, 0, 0, 0, 0, 0⟩, 0, 0, 0, ⟨0, 0⟩⟩
def isCountV (n : Int) : Bool := decide (0 ≤ n) && decide (n ≤ 1073741824)
def someV (n : Int) : Bool := decide (0 < n) && isCountV n
def isFilterV (f : FilterV) : Bool := if (f.kind == 0) = true then f.n == 0 else decide (0 < f.kind) && decide (f.kind ≤ 3) && isCountV f.n && decide (0 < f.n)
def writesV (q : ReqV) : Bool := q.kind == 4 || q.kind == 5 || q.kind == 10
theorem tymsg_Request : TyI Tryz.prog 43 19 true [.int .i64 0, .int .i64 0, .int .i64 0, .int .i64 0, .int .u32 0, .int .u64 0, .int .i64 0, .int .i64 0, .int .i64 0, .int .i64 0, .int .i64 0, .int .i64 0, .int .i64 0, .int .i64 0, .int .i64 0, .int .i64 0, .int .i64 0, .int .i64 0, .int .i64 0] := ⟨by kernel_rfl, by kernel_rfl, by kernel_rfl⟩
theorem tyint : TyI Tryz.prog 3 1 false [.int .i64 0] := ⟨by kernel_rfl, by kernel_rfl, by kernel_rfl⟩
theorem tyfunc_P_msg_Request__P_int : TyI Tryz.prog 138 1 false [.nilFunc] := ⟨by kernel_rfl, by kernel_rfl, by kernel_rfl⟩
theorem tyfunc_int__bool : TyI Tryz.prog 110 1 false [.nilFunc] := ⟨by kernel_rfl, by kernel_rfl, by kernel_rfl⟩
theorem tymsg_part : TyI Tryz.prog 129 2 true [.nilFunc, .nilFunc] := ⟨by kernel_rfl, by kernel_rfl, by kernel_rfl⟩
theorem typack_Out : TyI Tryz.prog 113 1 true [.slice none 0 0] := ⟨by kernel_rfl, by kernel_rfl, by kernel_rfl⟩
theorem tymsg_Filter : TyI Tryz.prog 41 2 true [.int .i64 0, .int .i64 0] := ⟨by kernel_rfl, by kernel_rfl, by kernel_rfl⟩
theorem tyfunc_P_pack_Out__P_msg_Request__bool : TyI Tryz.prog 126 1 false [.nilFunc] := ⟨by kernel_rfl, by kernel_rfl, by kernel_rfl⟩
theorem tyfunc_P_pack_In__P_msg_Request_ : TyI Tryz.prog 127 1 false [.nilFunc] := ⟨by kernel_rfl, by kernel_rfl, by kernel_rfl⟩
theorem tyuint64 : TyI Tryz.prog 22 1 false [.int .u64 0] := ⟨by kernel_rfl, by kernel_rfl, by kernel_rfl⟩
theorem tyuint32 : TyI Tryz.prog 23 1 false [.int .u32 0] := ⟨by kernel_rfl, by kernel_rfl, by kernel_rfl⟩
theorem isCount (n : Int) (w : World) : Calls Tryz.prog 73 #[.int .i64 n] w fun e w' => e = .returned (.bool (isCountV n)) ∧ w = w' := by
  rcases Bool.eq_false_or_eq_true (decide (0 ≤ n)) with q0 | q0
  · go_enter Tryz.func73, Tryz.ntmps73
    go_wp2_with fail
    go_ret
    exact ⟨by simp [isCountV, q0], rfl⟩
  · go_enter Tryz.func73, Tryz.ntmps73
    go_wp2_with fail
    go_ret
    exact ⟨by simp [isCountV, q0], rfl⟩
theorem isSome (n : Int) (w : World) : Calls Tryz.prog 83 #[.int .i64 n] w fun e w' => e = .returned (.bool (someV n)) ∧ w = w' := by
  rcases Bool.eq_false_or_eq_true (decide (0 < n)) with q0 | q0
  · go_enter Tryz.func83, Tryz.ntmps83
    go_wp2_with (first
      | (go_at_call 73; (with_reducible refine (isCount _ _).mono ?_); rintro e w5 ⟨rfl, rfl⟩))
    go_ret
    exact ⟨by simp [someV, q0], rfl⟩
  · go_enter Tryz.func83, Tryz.ntmps83
    go_wp2_with (first
      | (go_at_call 73; (with_reducible refine (isCount _ _).mono ?_); rintro e w5 ⟨rfl, rfl⟩))
    go_ret
    exact ⟨by simp [someV, q0], rfl⟩
theorem isWhole (n : Int) (w : World) : Calls Tryz.prog 86 #[.int .i64 n] w fun e w' => e = .returned (.bool true) ∧ w = w' := by
  go_enter Tryz.func86, Tryz.ntmps86
  go_wp2_with fail
  go_ret
  exact ⟨by simp [], rfl⟩
set_option maxHeartbeats 16000000 in
theorem filterIs (f : FilterV) (w : World) : Calls Tryz.prog 74 #[.agg #[.int .i64 f.kind, .int .i64 f.n]] w fun e w' => e = .returned (.bool (isFilterV f)) ∧ Off [] w w' := by
  have H := Lib.hid (Hp.start [] w)
  rcases Bool.eq_false_or_eq_true (f.kind == 0) with q0 | q0
  · go_enter Tryz.func74, Tryz.ntmps74
    go_wp2_with (first
      | ((with_reducible apply g_mem); (focus (exact rfl)); first
      | ((with_reducible apply hpN_box 41 1 H); (focus (exact rfl)); (focus (exact rfl)); (focus (exact rfl)); (focus (exact rfl)); (focus (exact rfl)); intro w5 b1 H5; clear H; have H := H5; clear H5)
      | ((with_reducible apply hpA_load1 tyint H); (focus (exact rfl)); (focus (exact rfl)); (focus (first | (exact rfl) | (simp [Region.wanted]; done) | (simp only [Region.wanted]; go_simp; done))); (focus (repeat (first | exact List.Mem.head _ | apply List.Mem.tail))); (focus ((try simp only [List.getElem?_cons_zero, List.getElem?_cons_succ]); exact rfl))))
      | (go_at_call 73; (with_reducible refine (isCount _ _).mono ?_); rintro e w5 ⟨rfl, rfl⟩))
    go_ret
    exact ⟨by simp [isFilterV, q0], H.out.off⟩
  · rcases Bool.eq_false_or_eq_true (decide (0 < f.kind)) with q1 | q1
    · rcases Bool.eq_false_or_eq_true (decide (f.kind ≤ 3)) with q2 | q2
      · rcases Bool.eq_false_or_eq_true (isCountV f.n) with q3 | q3
        · go_enter Tryz.func74, Tryz.ntmps74
          go_wp2_with (first
            | ((with_reducible apply g_mem); (focus (exact rfl)); first
      | ((with_reducible apply hpN_box 41 1 H); (focus (exact rfl)); (focus (exact rfl)); (focus (exact rfl)); (focus (exact rfl)); (focus (exact rfl)); intro w5 b1 H5; clear H; have H := H5; clear H5)
      | ((with_reducible apply hpA_load1 tyint H); (focus (exact rfl)); (focus (exact rfl)); (focus (first | (exact rfl) | (simp [Region.wanted]; done) | (simp only [Region.wanted]; go_simp; done))); (focus (repeat (first | exact List.Mem.head _ | apply List.Mem.tail))); (focus ((try simp only [List.getElem?_cons_zero, List.getElem?_cons_succ]); exact rfl))))
            | (go_at_call 73; (with_reducible refine (isCount _ _).mono ?_); rintro e w5 ⟨rfl, rfl⟩))
          go_ret
          exact ⟨by simp [isFilterV, q0, q1, q2, q3], H.out.off⟩
        · go_enter Tryz.func74, Tryz.ntmps74
          go_wp2_with (first
            | ((with_reducible apply g_mem); (focus (exact rfl)); first
      | ((with_reducible apply hpN_box 41 1 H); (focus (exact rfl)); (focus (exact rfl)); (focus (exact rfl)); (focus (exact rfl)); (focus (exact rfl)); intro w5 b1 H5; clear H; have H := H5; clear H5)
      | ((with_reducible apply hpA_load1 tyint H); (focus (exact rfl)); (focus (exact rfl)); (focus (first | (exact rfl) | (simp [Region.wanted]; done) | (simp only [Region.wanted]; go_simp; done))); (focus (repeat (first | exact List.Mem.head _ | apply List.Mem.tail))); (focus ((try simp only [List.getElem?_cons_zero, List.getElem?_cons_succ]); exact rfl))))
            | (go_at_call 73; (with_reducible refine (isCount _ _).mono ?_); rintro e w5 ⟨rfl, rfl⟩))
          go_ret
          exact ⟨by simp [isFilterV, q0, q1, q2, q3], H.out.off⟩
      · go_enter Tryz.func74, Tryz.ntmps74
        go_wp2_with (first
          | ((with_reducible apply g_mem); (focus (exact rfl)); first
      | ((with_reducible apply hpN_box 41 1 H); (focus (exact rfl)); (focus (exact rfl)); (focus (exact rfl)); (focus (exact rfl)); (focus (exact rfl)); intro w5 b1 H5; clear H; have H := H5; clear H5)
      | ((with_reducible apply hpA_load1 tyint H); (focus (exact rfl)); (focus (exact rfl)); (focus (first | (exact rfl) | (simp [Region.wanted]; done) | (simp only [Region.wanted]; go_simp; done))); (focus (repeat (first | exact List.Mem.head _ | apply List.Mem.tail))); (focus ((try simp only [List.getElem?_cons_zero, List.getElem?_cons_succ]); exact rfl))))
          | (go_at_call 73; (with_reducible refine (isCount _ _).mono ?_); rintro e w5 ⟨rfl, rfl⟩))
        go_ret
        exact ⟨by simp [isFilterV, q0, q1, q2], H.out.off⟩
    · go_enter Tryz.func74, Tryz.ntmps74
      go_wp2_with (first
        | ((with_reducible apply g_mem); (focus (exact rfl)); first
      | ((with_reducible apply hpN_box 41 1 H); (focus (exact rfl)); (focus (exact rfl)); (focus (exact rfl)); (focus (exact rfl)); (focus (exact rfl)); intro w5 b1 H5; clear H; have H := H5; clear H5)
      | ((with_reducible apply hpA_load1 tyint H); (focus (exact rfl)); (focus (exact rfl)); (focus (first | (exact rfl) | (simp [Region.wanted]; done) | (simp only [Region.wanted]; go_simp; done))); (focus (repeat (first | exact List.Mem.head _ | apply List.Mem.tail))); (focus ((try simp only [List.getElem?_cons_zero, List.getElem?_cons_succ]); exact rfl))))
        | (go_at_call 73; (with_reducible refine (isCount _ _).mono ?_); rintro e w5 ⟨rfl, rfl⟩))
      go_ret
      exact ⟨by simp [isFilterV, q0, q1], H.out.off⟩
theorem filterIsX (f_kind : Int) (f_n : Int) (w : World) : Calls Tryz.prog 74 #[.agg #[.int .i64 f_kind, .int .i64 f_n]] w fun e w' => e = .returned (.bool (isFilterV (⟨f_kind, f_n⟩ : FilterV))) ∧ Off [] w w' := filterIs (⟨f_kind, f_n⟩ : FilterV) w
/-- the functions that tell a part of a request, by the place of the part -/
def offFn : Nat → Nat
  | 2 => 82
  | 14 => 84
  | 3 => 85
  | 17 => 90
  | 18 => 91
  | 15 => 92
  | 16 => 93
  | 7 => 106
  | 8 => 107
  | 9 => 108
  | 10 => 109
  | _ => 0
def isOff (k : Nat) : Bool := k == 2 || k == 14 || k == 3 || k == 17 || k == 18 || k == 15 || k == 16 || k == 7 || k == 8 || k == 9 || k == 10
theorem fld2 (b : Nat) (w : World) : Calls Tryz.prog 82 #[.pointer (some ⟨b, 0, none⟩)] w fun e w' => e = .returned (.pointer (some ⟨b, 2, none⟩)) ∧ w = w' := by
  go_enter Tryz.func82, Tryz.ntmps82
  go_wp2_with fail
  go_ret
  exact ⟨rfl, rfl⟩
theorem fld14 (b : Nat) (w : World) : Calls Tryz.prog 84 #[.pointer (some ⟨b, 0, none⟩)] w fun e w' => e = .returned (.pointer (some ⟨b, 14, none⟩)) ∧ w = w' := by
  go_enter Tryz.func84, Tryz.ntmps84
  go_wp2_with fail
  go_ret
  exact ⟨rfl, rfl⟩
theorem fld3 (b : Nat) (w : World) : Calls Tryz.prog 85 #[.pointer (some ⟨b, 0, none⟩)] w fun e w' => e = .returned (.pointer (some ⟨b, 3, none⟩)) ∧ w = w' := by
  go_enter Tryz.func85, Tryz.ntmps85
  go_wp2_with fail
  go_ret
  exact ⟨rfl, rfl⟩
theorem fld17 (b : Nat) (w : World) : Calls Tryz.prog 90 #[.pointer (some ⟨b, 0, none⟩)] w fun e w' => e = .returned (.pointer (some ⟨b, 17, none⟩)) ∧ w = w' := by
  go_enter Tryz.func90, Tryz.ntmps90
  go_wp2_with fail
  go_ret
  exact ⟨rfl, rfl⟩
theorem fld18 (b : Nat) (w : World) : Calls Tryz.prog 91 #[.pointer (some ⟨b, 0, none⟩)] w fun e w' => e = .returned (.pointer (some ⟨b, 18, none⟩)) ∧ w = w' := by
  go_enter Tryz.func91, Tryz.ntmps91
  go_wp2_with fail
  go_ret
  exact ⟨rfl, rfl⟩
theorem fld15 (b : Nat) (w : World) : Calls Tryz.prog 92 #[.pointer (some ⟨b, 0, none⟩)] w fun e w' => e = .returned (.pointer (some ⟨b, 15, none⟩)) ∧ w = w' := by
  go_enter Tryz.func92, Tryz.ntmps92
  go_wp2_with fail
  go_ret
  exact ⟨rfl, rfl⟩
theorem fld16 (b : Nat) (w : World) : Calls Tryz.prog 93 #[.pointer (some ⟨b, 0, none⟩)] w fun e w' => e = .returned (.pointer (some ⟨b, 16, none⟩)) ∧ w = w' := by
  go_enter Tryz.func93, Tryz.ntmps93
  go_wp2_with fail
  go_ret
  exact ⟨rfl, rfl⟩
theorem fld7 (b : Nat) (w : World) : Calls Tryz.prog 106 #[.pointer (some ⟨b, 0, none⟩)] w fun e w' => e = .returned (.pointer (some ⟨b, 7, none⟩)) ∧ w = w' := by
  go_enter Tryz.func106, Tryz.ntmps106
  go_wp2_with fail
  go_ret
  exact ⟨rfl, rfl⟩
theorem fld8 (b : Nat) (w : World) : Calls Tryz.prog 107 #[.pointer (some ⟨b, 0, none⟩)] w fun e w' => e = .returned (.pointer (some ⟨b, 8, none⟩)) ∧ w = w' := by
  go_enter Tryz.func107, Tryz.ntmps107
  go_wp2_with fail
  go_ret
  exact ⟨rfl, rfl⟩
theorem fld9 (b : Nat) (w : World) : Calls Tryz.prog 108 #[.pointer (some ⟨b, 0, none⟩)] w fun e w' => e = .returned (.pointer (some ⟨b, 9, none⟩)) ∧ w = w' := by
  go_enter Tryz.func108, Tryz.ntmps108
  go_wp2_with fail
  go_ret
  exact ⟨rfl, rfl⟩
theorem fld10 (b : Nat) (w : World) : Calls Tryz.prog 109 #[.pointer (some ⟨b, 0, none⟩)] w fun e w' => e = .returned (.pointer (some ⟨b, 10, none⟩)) ∧ w = w' := by
  go_enter Tryz.func109, Tryz.ntmps109
  go_wp2_with fail
  go_ret
  exact ⟨rfl, rfl⟩
theorem fldAny (k : Nat) (hk : isOff k = true) (b : Nat) (w : World) : Calls Tryz.prog (offFn k) #[.pointer (some ⟨b, 0, none⟩)] w fun e w' => e = .returned (.pointer (some ⟨b, k, none⟩)) ∧ w = w' := by
  simp only [isOff, Bool.or_eq_true, beq_iff_eq] at hk
  rcases hk with ((((((((((rfl | rfl) | rfl) | rfl) | rfl) | rfl) | rfl) | rfl) | rfl) | rfl) | rfl)
  · exact fld2 b w
  · exact fld14 b w
  · exact fld3 b w
  · exact fld17 b w
  · exact fld18 b w
  · exact fld15 b w
  · exact fld16 b w
  · exact fld7 b w
  · exact fld8 b w
  · exact fld9 b w
  · exact fld10 b w
/-- what a part's number must be -/
inductive Chk | whole | some | count
def Chk.fn : Chk → Nat
  | .whole => 86
  | .some => 83
  | .count => 73
def Chk.is : Chk → Int → Bool
  | .whole, _ => true
  | .some, n => someV n
  | .count, n => isCountV n
theorem chkAny (k : Chk) (n : Int) (w : World) : Calls Tryz.prog k.fn #[.int .i64 n] w fun e w' => e = .returned (.bool (k.is n)) ∧ w = w' := by
  cases k
  · exact isWhole n w
  · exact isSome n w
  · exact isCount n w
end Go.Proofs.YthflkhalipkdgaaGreat.Ms

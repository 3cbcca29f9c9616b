/- Layer 14: a part that is written. -/
import Derived.Test.YthflkhalipkdgaaGreatProg
import Derived.Below
import Derived.WalkKit
import Derived.KernelRfl
import Derived.RowKit3
import Derived.Deep.LoopGhost
import Derived.Deep.QuietTactic
import Derived.BigQuiet
import Derived.WideLaws
import Derived.Deep.DeepCutAuto
import Derived.Deep.CutBlock
import Derived.Lib.Hide
import Derived.Laws.BitsLemmas
import Derived.Laws.Bits64
import Derived.Laws.BitsAllLaws
import Derived.IntWalk
import Derived.Outline
import Derived.WalkSpells
import Derived.Test.YthflkhalipkdgaaGreatGA
import Derived.Test.YthflkhalipkdgaaGreatPt
namespace Go.Proofs.YthflkhalipkdgaaGreat.Ms
set_option maxRecDepth 20000
set_option linter.unusedVariables false
set_option linter.unusedSimpArgs false
open Go.RowKit Go.Proofs.YthflkhalipkdgaaGreat.Mem Go.Proofs.YthflkhalipkdgaaGreat.Pk Go.Proofs.YthflkhalipkdgaaGreat.Ca

def fieldOf (q : ReqV) : Nat → Int
  | 2 => q.who
  | 3 => q.role
  | 7 => q.call.kind
  | 8 => q.call.src
  | 9 => q.call.dst
  | 10 => q.call.car
  | 14 => q.id
  | 15 => q.car
  | 16 => q.mode
  | 17 => q.filter.kind
  | 18 => q.filter.n
  | _ => 0
theorem off_cases {k : Nat} (h : isOff k = true) : k = 2 ∨ k = 3 ∨ k = 7 ∨ k = 8 ∨ k = 9 ∨ k = 10 ∨ k = 14 ∨ k = 15 ∨ k = 16 ∨ k = 17 ∨ k = 18 := by
  simp only [isOff, Bool.or_eq_true, beq_iff_eq] at h
  omega
theorem field_cell (q : ReqV) {k : Nat} (h : isOff k = true) : q.cells[k]? = some (.int .i64 (fieldOf q k)) := by
  rcases off_cases h with rfl | rfl | rfl | rfl | rfl | rfl | rfl | rfl | rfl | rfl | rfl <;> rfl
/-- a part's bytes, and whether it can be -/
def encPart (q : ReqV) : Part → List Nat × Bool
  | .num wd off chk => if chk.is (fieldOf q off) = true then encs wd [fieldOf q off] else ([], false)
  | .token => encs 4 [q.token]
  | .key => encs 4 [q.key / 4294967296, q.key % 4294967296]
theorem callOff (k : Nat) (hk : isOff k = true) (v : Value) (w : World) : (callFunc (offFn k) #[v]).run Tryz.prog w = .ok (.enter (offFn k) #[v]) w := by
  rcases off_cases hk with rfl | rfl | rfl | rfl | rfl | rfl | rfl | rfl | rfl | rfl | rfl <;> (show (callFunc _ _).run _ _ = _) <;> go_simp <;> rfl
theorem callChk (k : Chk) (v : Value) (w : World) : (callFunc k.fn #[v]).run Tryz.prog w = .ok (.enter k.fn #[v]) w := by
  cases k <;> (show (callFunc _ _).run _ _ = _) <;> go_simp <;> rfl
section
variable {S : List Nat} {w0 w : World} {R : List Res}
theorem Hp.weak (H : Hp S w0 w R) {i : Nat} {r : Res} (hi : R[i]? = some r) (r' : Res) (hf : r'.foot = r.foot) (hr : r'.holds w) (hro : r.ro = false := by rfl) : Hp S w0 w (R.set i r') :=
  H.step i hi r' (Off.refl [] w) (by simp) hr (fun k hk => by rw [hf] at hk; exact ⟨.inl hk, H.lt r (List.mem_of_getElem? hi) k hk⟩)
theorem out_weak (H : Hid (Hp S w0 w R)) {o : Nat} {F : List Nat} {m m' : Nat} {l : List Nat} {i : Nat} (hi : R[i]? = some (rOut o F m l)) (hm : m ≤ m') : Hid (Hp S w0 w (R.set i (rOut o F m' l))) := by
  obtain ⟨h1, h2⟩ := H.out.at i hi
  exact Lib.hid (Hp.weak H.out hi _ rfl ⟨by omega, h2⟩)
theorem set_set_self {R : List Res} {i : Nat} (a b : Res) : (R.set i a).set i b = R.set i b := by simp
theorem get_set_self {R : List Res} {i : Nat} {r : Res} (hi : R[i]? = some r) (a : Res) : (R.set i a)[i]? = some a := by
  have := (List.getElem?_eq_some_iff.1 hi).1
  simp [this]
theorem puts_done {w5 : World} {x r : Res} {i o m5 m' : Nat} {F5 l5 : List Nat} (H : Hid (Hp S w0 w5 ((x :: R).set (i + 1) (rOut o F5 m5 l5)))) (hi : R[i]? = some r) (hm : m5 ≤ m') : ∃ F', Hid (Hp S w0 w5 (R.set i (rOut o F' m' l5))) := by
  have h1 : Hid (Hp S w0 w5 (R.set i (rOut o F5 m5 l5))) := Lib.hid (H.out.sub (by simp))
  have h2 := out_weak h1 (get_set_self hi _) hm
  rw [set_set_self] at h2
  exact ⟨_, h2⟩
/-- what putting a part does -/
def Puts (S : List Nat) (w0 : World) (R : List Res) (i o m : Nat) (l : List Nat) (x : List Nat × Bool) (e : Ending) (w' : World) : Prop := e = .returned (.bool x.2) ∧ ∃ F', Hid (Hp S w0 w' (R.set i (rOut o F' (m + 16) (l ++ x.1))))
set_option maxHeartbeats 3200000 in
theorem put_num (H : Hid (Hp S w0 w R)) {o r : Nat} {F : List Nat} {m : Nat} {l : List Nat} {i j : Nat} {q : ReqV} (hi : R[i]? = some (rOut o F m l)) (hj : R[j]? = some (rB r 43 q.cells)) (hm : m ≤ 1099511627776) {wd off : Nat} {chk : Chk} {bo bc bw : Nat} (hoff : isOff off = true) (kO : Blk w bo #[.func (.func (offFn off)) #[] #[]] 138) (kC : Blk w bc #[.func (.func chk.fn) #[] #[]] 110) (kW : Blk w bw #[.int .i64 wd] 3) :
    Calls Tryz.prog 100 #[.pointer (some ⟨o, 0, none⟩), .pointer (some ⟨r, 0, none⟩), .pointer (some ⟨bo, 0, none⟩), .pointer (some ⟨bc, 0, none⟩), .pointer (some ⟨bw, 0, none⟩)] w (Puts S w0 R i o m l (encPart q (.num wd off chk))) := by
  have c0 := kO.cell 0 _ rfl
  have c1 := kC.cell 0 _ rfl
  have c2 := kW.cell 0 _ rfl
  have c3 := H.out.cell j hj off _ (field_cell q hoff)
  have hE : encPart q (.num wd off chk) = if chk.is (fieldOf q off) = true then encs wd [fieldOf q off] else ([], false) := rfl
  have HE := Lib.hid hE
  clear hE
  generalize fieldOf q off = n at *
  have e1 := callOff off hoff
  have e2 := callChk chk
  clear kO kC kW
  rcases Bool.eq_false_or_eq_true (chk.is n) with q0 | q0
  · go_enter Tryz.func100, Tryz.ntmps100
    go_wp2_with (first
      | ((with_reducible refine (fldAny _ hoff _ _).mono ?_); rintro e w5 ⟨rfl, rfl⟩)
      | ((with_reducible refine (chkAny _ _ _).mono ?_); rintro e w5 ⟨rfl, rfl⟩)
      | (go_at_call 75; go_loud (refine (outNumsH H (i := i + 1) (j := 0) (ns := [n]) hi rfl rfl rfl (by simp) hm).mono ?_); rintro e w5 ⟨rfl, F5, H5⟩; clear H; have H := H5; clear H5)
      | ((with_reducible apply g_mem); (focus (exact rfl)); first
      | ((with_reducible apply hpA_load1 tyfunc_P_msg_Request__P_int H); (focus (exact rfl)); (focus (exact rfl)); (focus (first | (exact rfl) | (simp [Region.wanted]; done) | (simp only [Region.wanted]; go_simp; done))); (focus (repeat (first | exact List.Mem.head _ | apply List.Mem.tail))); (focus ((try simp only [List.getElem?_cons_zero, List.getElem?_cons_succ]); exact rfl)))
      | ((with_reducible apply hpA_load1 tyint H); (focus (exact rfl)); (focus (exact rfl)); (focus (first | (exact rfl) | (simp [Region.wanted]; done) | (simp only [Region.wanted]; go_simp; done))); (focus (repeat (first | exact List.Mem.head _ | apply List.Mem.tail))); (focus ((try simp only [List.getElem?_cons_zero, List.getElem?_cons_succ]); exact rfl)))
      | ((with_reducible apply hpA_load1 tyfunc_int__bool H); (focus (exact rfl)); (focus (exact rfl)); (focus (first | (exact rfl) | (simp [Region.wanted]; done) | (simp only [Region.wanted]; go_simp; done))); (focus (repeat (first | exact List.Mem.head _ | apply List.Mem.tail))); (focus ((try simp only [List.getElem?_cons_zero, List.getElem?_cons_succ]); exact rfl)))
      | ((with_reducible apply hpN_bslice Tryz.underlying67 tyint 21 H); (focus (exact rfl)); (focus (exact rfl)); (focus (first | (exact rfl) | (simp [Region.wanted]; done) | (simp only [Region.wanted]; go_simp; done))); (focus (first | decide | (simp; done))); (focus (first | decide | (simp; done))); (focus (first | (go_simp; exact rfl) | exact rfl)); intro w5 b21 H5; clear H; have H := H5; clear H5)))
    go_ret
    rw [HE.out, if_pos q0]
    exact ⟨rfl, puts_done H hi (by simp)⟩
  · go_enter Tryz.func100, Tryz.ntmps100
    go_wp2_with (first
      | ((with_reducible refine (fldAny _ hoff _ _).mono ?_); rintro e w5 ⟨rfl, rfl⟩)
      | ((with_reducible refine (chkAny _ _ _).mono ?_); rintro e w5 ⟨rfl, rfl⟩)
      | ((with_reducible apply g_mem); (focus (exact rfl)); first
      | ((with_reducible apply hpA_load1 tyfunc_P_msg_Request__P_int H); (focus (exact rfl)); (focus (exact rfl)); (focus (first | (exact rfl) | (simp [Region.wanted]; done) | (simp only [Region.wanted]; go_simp; done))); (focus (repeat (first | exact List.Mem.head _ | apply List.Mem.tail))); (focus ((try simp only [List.getElem?_cons_zero, List.getElem?_cons_succ]); exact rfl)))
      | ((with_reducible apply hpA_load1 tyint H); (focus (exact rfl)); (focus (exact rfl)); (focus (first | (exact rfl) | (simp [Region.wanted]; done) | (simp only [Region.wanted]; go_simp; done))); (focus (repeat (first | exact List.Mem.head _ | apply List.Mem.tail))); (focus ((try simp only [List.getElem?_cons_zero, List.getElem?_cons_succ]); exact rfl)))
      | ((with_reducible apply hpA_load1 tyfunc_int__bool H); (focus (exact rfl)); (focus (exact rfl)); (focus (first | (exact rfl) | (simp [Region.wanted]; done) | (simp only [Region.wanted]; go_simp; done))); (focus (repeat (first | exact List.Mem.head _ | apply List.Mem.tail))); (focus ((try simp only [List.getElem?_cons_zero, List.getElem?_cons_succ]); exact rfl)))
      | ((with_reducible apply hpN_bslice Tryz.underlying67 tyint 21 H); (focus (exact rfl)); (focus (exact rfl)); (focus (first | (exact rfl) | (simp [Region.wanted]; done) | (simp only [Region.wanted]; go_simp; done))); (focus (first | decide | (simp; done))); (focus (first | decide | (simp; done))); (focus (first | (go_simp; exact rfl) | exact rfl)); intro w5 b21 H5; clear H; have H := H5; clear H5)))
    go_ret
    rw [HE.out, if_neg (by simp [q0])]
    exact ⟨rfl, _, by rw [List.append_nil]; exact out_weak H hi (by omega)⟩
set_option maxHeartbeats 3200000 in
theorem put_token (H : Hid (Hp S w0 w R)) {o r : Nat} {F : List Nat} {m : Nat} {l : List Nat} {i j : Nat} {q : ReqV} (hi : R[i]? = some (rOut o F m l)) (hj : R[j]? = some (rB r 43 q.cells)) (hm : m ≤ 1099511627776) (ht : 0 ≤ q.token ∧ q.token ≤ 4294967295) : Calls Tryz.prog 102 #[.pointer (some ⟨o, 0, none⟩), .pointer (some ⟨r, 0, none⟩)] w (Puts S w0 R i o m l (encPart q .token)) := by
  obtain ⟨ht0, ht1⟩ := ht
  have c3 := H.out.cell j hj 4 _ rfl
  have HE := Lib.hid (show encPart q .token = encs 4 [q.token] from rfl)
  generalize q.token = n at *
  go_enter Tryz.func102, Tryz.ntmps102
  go_wp2_with (first
    | (go_at_call 75; go_loud (refine (outNumsH H (i := i + 1) (j := 0) (ns := [n]) hi rfl rfl rfl (by simp) hm).mono ?_); rintro e w5 ⟨rfl, F5, H5⟩; clear H; have H := H5; clear H5)
    | ((with_reducible apply g_mem); (focus (exact rfl)); first
      | ((with_reducible apply hpA_load1 tyuint32 H); (focus (exact rfl)); (focus (exact rfl)); (focus (first | (exact rfl) | (simp [Region.wanted]; done) | (simp only [Region.wanted]; go_simp; done))); (focus (repeat (first | exact List.Mem.head _ | apply List.Mem.tail))); (focus ((try simp only [List.getElem?_cons_zero, List.getElem?_cons_succ]); exact rfl)))
      | ((with_reducible apply hpN_bslice Tryz.underlying67 tyint 11 H); (focus (exact rfl)); (focus (exact rfl)); (focus (first | (exact rfl) | (simp [Region.wanted]; done) | (simp only [Region.wanted]; go_simp; done))); (focus (first | decide | (simp; done))); (focus (first | decide | (simp; done))); (focus (first | (go_simp; exact rfl) | exact rfl)); intro w5 b11 H5; clear H; have H := H5; clear H5)))
  go_ret
  rw [HE.out]
  exact ⟨rfl, puts_done H hi (by simp)⟩
theorem low_bits (k : Int) (h0 : 0 ≤ k) (h1 : k ≤ 18446744073709551615) : bits BinOp.and IntKind.u64 k 4294967295 = k % 4294967296 := by
  obtain ⟨n, rfl⟩ := Int.eq_ofNat_of_zero_le h0
  have := u64_and_nat n 4294967295 (by omega) (by omega)
  have e : n &&& 4294967295 = n % 4294967296 := Nat.and_two_pow_sub_one_eq_mod n 32
  rw [e] at this
  have h2 : ((n % 4294967296 : Nat) : Int) = (n : Int) % 4294967296 := by omega
  exact this.trans h2
set_option maxHeartbeats 3200000 in
theorem put_key (H : Hid (Hp S w0 w R)) {o r : Nat} {F : List Nat} {m : Nat} {l : List Nat} {i j : Nat} {q : ReqV} (hi : R[i]? = some (rOut o F m l)) (hj : R[j]? = some (rB r 43 q.cells)) (hm : m ≤ 1099511627776) (hij : i ≠ j) (ht : 0 ≤ q.key ∧ q.key ≤ 18446744073709551615) : Calls Tryz.prog 104 #[.pointer (some ⟨o, 0, none⟩), .pointer (some ⟨r, 0, none⟩)] w (Puts S w0 R i o m l (encPart q .key)) := by
  obtain ⟨ht0, ht1⟩ := ht
  have c3 := H.out.cell j hj 5 (.int .u64 q.key) rfl
  have hjs : ∀ x, (R.set i x)[j]? = some (rB r 43 q.cells) := fun x => by rw [List.getElem?_set_ne hij]; exact hj
  have ha := H.out.alloc [.int .i64 (q.key / 4294967296), .int .i64 (q.key % 4294967296)] 3
  have c4 := ha.cell (j + 1) hj 5 (.int .u64 q.key) rfl
  clear ha
  have b1 := low_bits q.key ht0 ht1
  have b2 : IntKind.i64.wrap (q.key / 4294967296) = q.key / 4294967296 := IntWalk.i64_in _ (by omega)
  have b3 : IntKind.i64.wrap (q.key % 4294967296) = q.key % 4294967296 := IntWalk.i64_in _ (by omega)
  go_enter Tryz.func104, Tryz.ntmps104
  go_wp2_with fail
  go_region_held3 (fun w' => w'.cell? ⟨r, 5, none⟩ = some (.int .u64 q.key)) (first | exact c3 | exact c4 | exact H5.out.cell (j + 1) (hjs _) 5 _ rfl | with_reducible assumption) (first | (go_at_call 75; go_loud (refine (outNumsH (Lib.hid (H.out.alloc [.int .i64 (q.key / 4294967296), .int .i64 (q.key % 4294967296)] 3).drew) (i := i + 1) (j := 0) (ns := [q.key / 4294967296, q.key % 4294967296]) hi rfl rfl rfl (by simp) hm).mono ?_); rintro e w5 ⟨rfl, F5, H5⟩))
  go_wp2_with fail
  go_ret
  exact ⟨rfl, puts_done H5 hi (by simp)⟩
end
end Go.Proofs.YthflkhalipkdgaaGreat.Ms

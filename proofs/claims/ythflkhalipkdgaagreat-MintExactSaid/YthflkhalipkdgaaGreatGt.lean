/- Layer 14: a part that is read. -/
import Derived.Test.YthflkhalipkdgaaGreatProg
import Derived.Below
import Derived.WalkKit
import Derived.KernelRfl
import Derived.RowKit3
import Derived.Deep.LoopGhost
import Derived.Deep.QuietTactic
import Derived.BigQuiet
import Derived.WideLaws
import Derived.Deep.DeepCutAuto
import Derived.Deep.CutBlock
import Derived.Lib.Hide
import Derived.Laws.BitsLemmas
import Derived.Laws.Bits64
import Derived.Laws.BitsAllLaws
import Derived.IntWalk
import Derived.Outline
import Derived.WalkSpells
import Derived.Test.YthflkhalipkdgaaGreatGA
import Derived.Test.YthflkhalipkdgaaGreatPu
namespace Go.Proofs.YthflkhalipkdgaaGreat.Ms
set_option maxRecDepth 20000
set_option linter.unusedVariables false
set_option linter.unusedSimpArgs false
open Go.RowKit Go.Proofs.YthflkhalipkdgaaGreat.Mem Go.Proofs.YthflkhalipkdgaaGreat.Pk Go.Proofs.YthflkhalipkdgaaGreat.Ca

def setField (q : ReqV) (n : Int) : Nat → ReqV
  | 2 => { q with who := n }
  | 3 => { q with role := n }
  | 7 => { q with call := { q.call with kind := n } }
  | 8 => { q with call := { q.call with src := n } }
  | 9 => { q with call := { q.call with dst := n } }
  | 10 => { q with call := { q.call with car := n } }
  | 14 => { q with id := n }
  | 15 => { q with car := n }
  | 16 => { q with mode := n }
  | 17 => { q with filter := { q.filter with kind := n } }
  | 18 => { q with filter := { q.filter with n := n } }
  | _ => q
theorem set_cells (q : ReqV) (n : Int) {k : Nat} (h : isOff k = true) : q.cells.set k (.int .i64 n) = (setField q n k).cells := by
  rcases off_cases h with rfl | rfl | rfl | rfl | rfl | rfl | rfl | rfl | rfl | rfl | rfl <;> rfl
/-- a request, and what is left, behind a part that is read -/
def getPart (q : ReqV) (s : ByteArray) (bad : Bool) : Part → ReqV × ByteArray × Bool
  | .num wd off _ => (setField q (inNumV s bad wd).1 off, (inNumV s bad wd).2)
  | .token => ({ q with token := (inNumV s bad 4).1 }, (inNumV s bad 4).2)
  | .key => ({ q with key := ((inNumV s bad 4).1 : Int) * 4294967296 + ((inNumV (inNumV s bad 4).2.1 (inNumV s bad 4).2.2 4).1 : Int) }, (inNumV (inNumV s bad 4).2.1 (inNumV s bad 4).2.2 4).2)
theorem inNum4 (s : ByteArray) (bad : Bool) : (inNumV s bad 4).1 < 4294967296 := by
  unfold inNumV
  split
  · rename_i h
    have h3 : 4 ≤ s.size := by have := h.2.2.1; omega
    exact be_lt s 4 h3
  · show 0 < _; omega
theorem key_join (a b : Nat) (ha : a < 4294967296) (hb : b < 4294967296) : bits BinOp.or IntKind.u64 ((a : Int) * 4294967296) (b : Int) = (a : Int) * 4294967296 + (b : Int) :=
  bits_join .u64 64 (by decide) (by intro n h0 h1; rw [IntKind.wrap_u64]; omega) 32 _ _ (by omega) (by omega) (by omega) (by omega) (by omega) (by omega)
section
variable {S : List Nat} {w0 w : World} {R : List Res}
theorem set_done (H : Hid (Hp S w0 w R)) {j r k : Nat} {t : TypeId} {cs : List Value} (hj : R[j]? = some (rB r t cs)) (v : Value) : Hid (Hp S w0 (w.setCell ⟨r, k, none⟩ v) (R.set j (rB r t (cs.set k v)))) := by
  have hb := H.out.blk j hj
  refine Lib.hid (H.out.step j hj _ ((Off.refl [r] w).setCell ⟨r, k, none⟩ v (.inl (by simp))) (by simp [rB]) ?_ ?_)
  · have := hb.set k v
    simpa [rB] using this
  · simp only [rB, List.mem_singleton]
    rintro x rfl
    refine ⟨.inl rfl, ?_⟩
    show _ < (w.heap.modify _ _).size
    rw [Array.size_modify]
    exact hb.lt
/-- what reading a part does -/
def Gets (S : List Nat) (w0 : World) (R : List Res) (i b j r : Nat) (x : ReqV × ByteArray × Bool) (e : Ending) (w' : World) : Prop := e = .returned (.tuple #[]) ∧ Hid (Hp S w0 w' ((R.set i (rB b 143 [.string x.2.1, .bool x.2.2])).set j (rB r 43 x.1.cells)))
set_option maxHeartbeats 3200000 in
theorem get_num (H : Hid (Hp S w0 w R)) {b r : Nat} {s : ByteArray} {bad : Bool} {i j : Nat} {q : ReqV} (hi : R[i]? = some (rB b 143 [.string s, .bool bad])) (hj : R[j]? = some (rB r 43 q.cells)) (hij : i ≠ j) {wd off : Nat} {chk : Chk} {bo bw : Nat} (hoff : isOff off = true) (kO : Blk w bo #[.func (.func (offFn off)) #[] #[]] 138) (kW : Blk w bw #[.int .i64 wd] 3) (n1 : bo ≠ b) (n2 : bo ≠ r) (n3 : bw ≠ b) (n4 : bw ≠ r) (n5 : r ≠ b) :
    Calls Tryz.prog 101 #[.pointer (some ⟨b, 0, none⟩), .pointer (some ⟨r, 0, none⟩), .pointer (some ⟨bw, 0, none⟩), .pointer (some ⟨bo, 0, none⟩)] w (Gets S w0 R i b j r (getPart q s bad (.num wd off chk))) := by
  have hC0 : ∀ w', Off [b, r] w w' → w'.cell? ⟨bo, 0, none⟩ = some (.func (.func (offFn off)) #[] #[]) := fun w' h => by rw [h.cell kO.lt (by simp [n1, n2])]; exact kO.cell 0 _ rfl
  have hC1 : ∀ w', Off [b, r] w w' → w'.cell? ⟨bw, 0, none⟩ = some (.int .i64 wd) := fun w' h => by rw [h.cell kW.lt (by simp [n3, n4])]; exact kW.cell 0 _ rfl
  have hin : InAt w b s bad := H.out.blk i hi
  have hr : Blk w r q.cells.toArray 43 := H.out.blk j hj
  have e1 := callOff off hoff
  clear kO kW
  have HI := Lib.hid hin
  have HR := Lib.hid hr
  clear hin hr
  go_enter Tryz.func101, Tryz.ntmps101
  go_wp2_with fail
  go_region_held3 (fun w' => Off [b, r] w w') (first | exact (Off.refl _ _).drew | with_reducible assumption | exact Off.trans (by assumption) ho (by intro _ _ h; simp at h; simp [h]) | exact Off.setCell (by assumption) _ _ (by simp)) (first | ((with_reducible refine (fldAny _ hoff _ _).mono ?_); rintro e w5 ⟨rfl, rfl⟩) | (go_at_call 77; go_loud (refine (inNum b s bad _ wd (Blk.drew HI.out)).mono ?_); rintro e w5 ⟨rfl, hin5, ho⟩; have hr5 := ho.blk (Blk.drew HR.out) (by simp [n5]); have c5 := hr5.cell off _ (by rw [List.getElem?_toArray]; exact field_cell q hoff); have f5 := hr5.free off))
  go_wp2_with fail
  go_end0
  refine ⟨rfl, ?_⟩
  have h1 : Hid (Hp S w0 w5 (R.set i (rB b 143 [.string (inNumV s bad wd).2.1, .bool (inNumV s bad wd).2.2]))) := Lib.hid (H.out.drew.step i hi _ ho (by simp [rB]) hin5 (by simp only [rB, List.mem_singleton]; rintro k rfl; exact ⟨.inl rfl, Blk.lt hin5⟩))
  have h2 := set_done h1 (j := j) (k := off) (by rw [List.getElem?_set_ne hij]; exact hj) (.int .i64 ((inNumV s bad wd).1 : Nat))
  rw [set_cells q _ hoff] at h2
  exact h2
set_option maxHeartbeats 3200000 in
theorem get_token (H : Hid (Hp S w0 w R)) {b r : Nat} {s : ByteArray} {bad : Bool} {i j : Nat} {q : ReqV} (hi : R[i]? = some (rB b 143 [.string s, .bool bad])) (hj : R[j]? = some (rB r 43 q.cells)) (hij : i ≠ j) : Calls Tryz.prog 103 #[.pointer (some ⟨b, 0, none⟩), .pointer (some ⟨r, 0, none⟩)] w (Gets S w0 R i b j r (getPart q s bad .token)) := by
  have hl := inNum4 s bad
  have e32 : IntKind.u32.wrap (((inNumV s bad 4).1 : Nat) : Int) = (((inNumV s bad 4).1 : Nat) : Int) := by rw [IntKind.wrap_u32]; omega
  have hjs : ∀ x, (R.set i x)[j]? = some (rB r 43 q.cells) := fun x => by rw [List.getElem?_set_ne hij]; exact hj
  clear hl
  go_enter Tryz.func103, Tryz.ntmps103
  go_wp2_with (go_at_call 77; go_loud (refine (inNumH H (i := i) hi).mono ?_); rintro e w5 ⟨rfl, H5⟩; clear H; have H := H5; clear H5; have c5 := H.out.cell j (hjs _) 4 _ rfl; have f5 := H.out.frz j (hjs _) 4)
  go_end0
  exact ⟨rfl, set_done H (hjs _) _⟩
set_option maxHeartbeats 3200000 in
theorem get_key (H : Hid (Hp S w0 w R)) {b r : Nat} {s : ByteArray} {bad : Bool} {i j : Nat} {q : ReqV} (hi : R[i]? = some (rB b 143 [.string s, .bool bad])) (hj : R[j]? = some (rB r 43 q.cells)) (hij : i ≠ j) : Calls Tryz.prog 105 #[.pointer (some ⟨b, 0, none⟩), .pointer (some ⟨r, 0, none⟩)] w (Gets S w0 R i b j r (getPart q s bad .key)) := by
  have hl := inNum4 s bad
  have hl2 := inNum4 (inNumV s bad 4).2.1 (inNumV s bad 4).2.2
  have hjs : ∀ x, (R.set i x)[j]? = some (rB r 43 q.cells) := fun x => by rw [List.getElem?_set_ne hij]; exact hj
  have hjs2 : ∀ x y, ((R.set i x).set i y)[j]? = some (rB r 43 q.cells) := fun x y => by rw [List.getElem?_set_ne hij]; exact hjs x
  have e1 : IntKind.u64.wrap (((inNumV s bad 4).1 : Nat) : Int) = (((inNumV s bad 4).1 : Nat) : Int) := by rw [IntKind.wrap_u64]; omega
  have e2 : IntKind.u64.wrap ((((inNumV s bad 4).1 : Nat) : Int) * 4294967296) = (((inNumV s bad 4).1 : Nat) : Int) * 4294967296 := by rw [IntKind.wrap_u64]; omega
  have e3 : IntKind.u64.wrap (((inNumV (inNumV s bad 4).2.1 (inNumV s bad 4).2.2 4).1 : Nat) : Int) = (((inNumV (inNumV s bad 4).2.1 (inNumV s bad 4).2.2 4).1 : Nat) : Int) := by rw [IntKind.wrap_u64]; omega
  have e4 := key_join _ _ hl hl2
  clear hl hl2
  go_enter Tryz.func105, Tryz.ntmps105
  go_wp2_with (first
    | (go_at_call 77; (refine (inNumH H (i := i) hi).mono ?_); rintro e w5 ⟨rfl, H5⟩; clear H; have H := H5; clear H5; have tok1 := get_set_self hi (rB b 143 [.string (inNumV s bad 4).2.1, .bool (inNumV s bad 4).2.2]))
    | (go_at_call 77; go_loud (refine (inNumH H (i := i) tok1).mono ?_); rintro e w5 ⟨rfl, H5⟩; clear H; have H := H5; clear H5; have c5 := H.out.cell j (hjs2 _ _) 5 _ rfl; have f5 := H.out.frz j (hjs2 _ _) 5))
  go_end0
  refine ⟨rfl, ?_⟩
  have h1 := set_done H (hjs2 _ _) (k := 5) (.int .u64 ((((inNumV s bad 4).1 : Nat) : Int) * 4294967296 + (((inNumV (inNumV s bad 4).2.1 (inNumV s bad 4).2.2 4).1 : Nat) : Int)))
  rw [set_set_self] at h1
  exact h1
end
end Go.Proofs.YthflkhalipkdgaaGreat.Ms

/- Layer 14: a byte as a text; bytes are few. -/
import Derived.Test.YtloemjhhedkhiaaProg
import Derived.Below
import Derived.WalkKit
import Derived.KernelRfl
import Derived.RowKit3
import Derived.Deep.LoopGhost
import Derived.Deep.QuietTactic
import Derived.BigQuiet
import Derived.WideLaws
import Derived.Deep.DeepCutAuto
import Derived.Deep.CutBlock
import Derived.Lib.Hide
import Derived.Laws.BitsLemmas
import Derived.Laws.Bits64
import Derived.Laws.BitsAllLaws
import Derived.IntWalk
import Derived.Outline
import Derived.WalkSpells
import Derived.Test.YtloemjhhedkhiaaMem
import Derived.Test.YtloemjhhedkhiaaEq
import Derived.Test.YtloemjhhedkhiaaMr
namespace Go.Proofs.Ytloemjhhedkhiaa.Ms
open Go.RowKit Go.Proofs.Ytloemjhhedkhiaa.Mem Go.Proofs.Ytloemjhhedkhiaa.Pk Go.Proofs.Ytloemjhhedkhiaa.Ca

section
variable {ops : Array Oper} {rest : List Oper} {o : Oper} {a : Act} {w w0 : World} {Q : Exit → Act → World → Prop} {S : List Nat} {R : List Res}
/-- a slice of one byte, as a text -/
theorem convR (H : Hid (Hp S w0 w R)) {x : Operand} (ho : o.op = .convert 44 9 x) (hw : Region.wanted o (yielded ops a.tmps) = true) {b m : Nat} (hx : a.eval x = .slice (some ⟨b, 0, none⟩) 1 1) (hm : rB b 5 [.int .u8 (m : Int)] ∈ R) (h : wpList Try.prog ops Q rest (a.put o.dst (.string (str [m]))) w) : wpList Try.prog ops Q (o :: rest) a w := by
  obtain ⟨i, hi⟩ := idx_of_mem hm
  have hb := H.out.blk i hi
  have e1 := conv_owns (l := [m]) (v := .slice (some ⟨b, 0, none⟩) 1 1) (w := w) ⟨rfl, .inr ⟨b, 1, #[.int .u8 (m : Int)], rfl, Nat.zero_le _, hb, by simp, by unfold maxLen; omega, rfl, rfl⟩⟩
  refine wpList_step fun K hK => ?_
  rw [if_pos hw]
  unfold Oper.wp execOp
  simp only [ho, hx, Sem.run_bind, Sem.run_pure, e1, Result.andThen_ok]
  exact hK _ _ h
end
theorem tyuint8 : TyI Try.prog 5 1 false [.int .u8 0] := ⟨by kernel_rfl, by kernel_rfl, by kernel_rfl⟩
theorem enc_few (q : ReqV) (p : Part) : (encPart q p).1.length ≤ 16 := by
  cases p with
  | num wd off chk =>
    unfold encPart
    simp only []
    split
    · have := encs_len wd [fieldOf q off]
      simp at this
      omega
    · simp
  | token =>
    have := encs_len 4 [q.token]
    simp at this
    show (encs 4 [q.token]).1.length ≤ 16
    omega
  | key =>
    have := encs_len 4 [q.key / 4294967296, q.key % 4294967296]
    simp at this
    show (encs 4 [q.key / 4294967296, q.key % 4294967296]).1.length ≤ 16
    omega
theorem bytes_few (q : ReqV) : ∀ ps : List Part, (bytesOf q ps).length ≤ 16 * ps.length
  | [] => by simp [bytesOf]
  | p :: ps => by
    rw [bytes_cons, List.length_append, List.length_cons]
    have := enc_few q p
    have := bytes_few q ps
    omega
theorem encode_few {q : ReqV} (hq : okReq q) (h : (encodeV q).2 = 0) : (encodeV q).1.size ≤ 1024 := by
  obtain ⟨ps, hw, hf⟩ := encode_is hq h
  rw [encode_whole hw hf]
  show (str _).size ≤ 1024
  rw [str_size, List.length_append]
  have h1 := bytes_few q ps
  have h2 := parts_few _ _ hw.parts
  have h3 := encs_len 1 [q.kind]
  have h4 := encs_len 4 [q.seq]
  simp at h3 h4
  unfold headOf
  rw [List.length_append]
  omega
end Go.Proofs.Ytloemjhhedkhiaa.Ms

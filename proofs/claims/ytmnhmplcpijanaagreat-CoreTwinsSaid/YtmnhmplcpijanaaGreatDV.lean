/-
  A law by its contract, over two handed slices. No condition.
-/
import Derived.Test.YtmnhmplcpijanaaGreatCR
namespace Go.Proofs.YtmnhmplcpijanaaGreat.VX
open Go Go.RowKit Go.WideShapes Go.ChangeShapes Go.WideElems
set_option linter.unusedSimpArgs false
set_option linter.unusedVariables false

def muH2 (P : Program) (b c : Nat) : Mu := ⟨fun i => if i < P.globals.size then some i else if i = 1000 then some b else if i = 1001 then some c else none, fun _ => 0, fun _ => none⟩
theorem muH2_1000 {P : Program} (hG : P.globals.size ≤ 1000) (b c : Nat) : muH2 P b c 1000 = some b := by
  show (if 1000 < P.globals.size then some 1000 else if 1000 = 1000 then some b else if 1000 = 1001 then some c else none) = some b
  rw [if_neg (by omega), if_pos rfl]
theorem muH2_1001 {P : Program} (hG : P.globals.size ≤ 1000) (b c : Nat) : muH2 P b c 1001 = some c := by
  show (if 1001 < P.globals.size then some 1001 else if 1001 = 1000 then some b else if 1001 = 1001 then some c else none) = some c
  rw [if_neg (by omega), if_neg (by omega), if_pos rfl]

theorem calls_of_spec_hand2 {P : Program} {f : FuncId} {A : List Value} {Hl H' : Heap} (hG : P.globals.size ≤ 1000) (sp : FnSpec P f 1002 A Hl (.bool true) H') {W : World} {args : Array Value} (hg : P.globals.size ≤ W.heap.size) {b c : Nat} (hb0 : b < W.heap.size) (hc0 : c < W.heap.size)
    (hb : ∀ i B, lk Hl i = some B → B.ro = true ∧ ∃ b', muH2 P b c i = some b' ∧ BlkRel (muH2 P b c) B W.heap[b']?) (ha : VRels (muH2 P b c) A args.toList) :
    Calls P f args W fun e W' => e = .returned (.bool true) ∧ Below W.heap.size W W' := by
  have hr : Rep (muH2 P b c) (lk Hl) W := by
    refine ⟨fun i B e _ => (hb i B e).2, fun i j A B b e1 e2 _ _ _ => ⟨(hb i A e1).1, (hb j B e2).1⟩, fun i b' e => ?_, fun i B b e hr => (by rw [(hb i B e).1] at hr; cases hr), (fun b cs e => nomatch e), fun i B b e hr => (by rw [(hb i B e).1] at hr; cases hr)⟩
    simp only [muH2] at e
    split at e
    · simp at e; omega
    · split at e
      · simp at e; omega
      · split at e
        · simp at e; omega
        · cases e
  have := sp.runs (muH2 P b c) W args.toList (fun g h => by simp [muH2, h]) (fun i hi => by simp only [muH2]; rw [if_neg (by omega), if_neg (by omega), if_neg (by omega)]) ha hr
  refine this.mono fun e W' ⟨μ', rv, _, _, hv, he, k⟩ => ?_
  cases hv
  exact ⟨he, ⟨k.os, k.tape, k.output, k.size, fun b hb' => k.same b hb' (by rintro ⟨i, B, e, hr, _⟩; rw [(hb i B e).1] at hr; cases hr)⟩⟩
end Go.Proofs.YtmnhmplcpijanaaGreat.VX
namespace Go.Proofs.YtmnhmplcpijanaaGreat
open Go VX
theorem hand_two {W : World} {b c : Nat} {B C : Blk} (hro : B.ro = true) (hro2 : C.ro = true) (hB : BlkRel (muH2 Tryz.prog b c) B W.heap[b]?) (hC : BlkRel (muH2 Tryz.prog b c) C W.heap[c]?) :
    ∀ i B', lk [(1000, B), (1001, C)] i = some B' → B'.ro = true ∧ ∃ b', muH2 Tryz.prog b c i = some b' ∧ BlkRel (muH2 Tryz.prog b c) B' W.heap[b']? := by
  intro i B' h
  simp only [lk] at h
  cases e : Nat.beq i 1000 <;> rw [e] at h
  · cases e2 : Nat.beq i 1001 <;> rw [e2] at h
    · simp at h
    · simp at h; subst h
      rw [beq_tt e2]
      exact ⟨hro2, c, muH2_1001 hG b c, hC⟩
  · simp at h; subst h
    rw [beq_tt e]
    exact ⟨hro, b, muH2_1000 hG b c, hB⟩
end Go.Proofs.YtmnhmplcpijanaaGreat

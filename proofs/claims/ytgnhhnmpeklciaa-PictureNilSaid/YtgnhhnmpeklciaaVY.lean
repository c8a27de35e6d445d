/-
  A contract holds, too, where more blocks are there than it asks for. No condition.
-/
import Derived.Test.YtgnhhnmpeklciaaVK
namespace Go.Proofs.Ytgnhhnmpeklciaa.VX
open Go
set_option linter.unusedVariables false

theorem Own.wid {μ : Mu} {h h1 : HF} (hs : ∀ i B, h i = some B → h1 i = some B) {b : Nat} (o : Own μ h b) : Own μ h1 b := by
  obtain ⟨i, B, e, hro, hb⟩ := o
  exact ⟨i, B, hs i B e, hro, hb⟩

theorem Keeps.wid {μ μ' : Mu} {h h1 h' : HF} {w w' : World} (k : Keeps μ h w μ' h' w') (hs : ∀ i B, h i = some B → h1 i = some B) : Keeps μ h1 w μ' h' w' :=
  { k with
    same := fun b hb ho => k.same b hb fun o => ho (o.wid hs)
    old := fun i B b e m hb => let ⟨i0, B0, e0, m0, r0⟩ := k.old i B b e m hb; ⟨i0, B0, hs i0 B0 e0, m0, r0⟩
    nfz := fun b cs h => (k.nfz b cs h).imp id (Or.imp (Own.wid hs) id) }

theorem FnSpec.wid {P : Program} {g : FuncId} {A : List Value} {H : Heap} {n0 : Nat} {v : Value} {H' : Heap} (f : FnSpec P g n0 A H v H') (H1 : Heap) (hs : subP (lk H1) H) : FnSpec P g n0 A H1 v H' :=
  ⟨f.enters, fun μ w rargs hg hn ha hr => (f.runs μ w rargs hg hn ha (hr.sub (subP_spec hs))).mono fun _ _ ⟨μ', rv, a, b, c, d, k⟩ => ⟨μ', rv, a, b, c, d, k.wid (subP_spec hs)⟩⟩

end Go.Proofs.Ytgnhhnmpeklciaa.VX

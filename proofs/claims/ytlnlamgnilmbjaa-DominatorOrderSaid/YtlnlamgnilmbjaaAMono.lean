/- More rounds give the same tree; the example of the chapter, computed. -/
import Derived.Test.YtlnlamgnilmbjaaAFront
import Derived.KernelRfl
namespace Go.Proofs.Ytlnlamgnilmbjaa.Q
open Go.RowKit Go.Proofs.YtlnlamgnilmbjaaW.PrintWords Go.Proofs.YtlnlamgnilmbjaaW.PrintLast Go.Proofs.YtlnlamgnilmbjaaW.PrintMore
theorem meet.mono (rank idom : List Int) : ∀ (k : Nat) (a b : Int), LeO (meet rank idom k a b) (meet rank idom (k + 1) a b)
  | 0, a, b => LeO.none _
  | k + 1, a, b => by
    unfold meet
    exact LeO.ite (LeO.refl _) (LeO.ite (LeO.ite (meet.mono rank idom k _ _) (meet.mono rank idom k _ _)) (LeO.refl _))
theorem bestOf.mono (rank idom : List Int) (K : Nat) : ∀ (ps : List Int) (b : Int), LeO (bestOf rank idom K ps b) (bestOf rank idom (K + 1) ps b)
  | [], b => LeO.refl _
  | p :: ps, b => by
    unfold bestOf
    exact LeO.ite (LeO.ite (bestOf.mono rank idom K ps _) (LeO.ite (bestOf.mono rank idom K ps _) (LeO.bind (meet.mono rank idom K _ _) (fun _ => bestOf.mono rank idom K ps _)))) (LeO.refl _)
theorem pass.mono (rank : List Int) (pv : List (List Int)) (K : Nat) : ∀ (bs idom : List Int) (ch : Bool), LeO (pass rank pv K bs idom ch) (pass rank pv (K + 1) bs idom ch)
  | [], _, _ => LeO.refl _
  | b :: bs, idom, ch => by
    unfold pass
    exact LeO.ite (LeO.bind (bestOf.mono rank idom K _ _) (fun _ => LeO.ite (pass.mono rank pv K bs _ _) (pass.mono rank pv K bs _ _))) (LeO.refl _)
theorem iter.mono (rank : List Int) (pv : List (List Int)) (ord : List Int) (K : Nat) : ∀ (k : Nat) (idom : List Int), LeO (iter rank pv ord K k idom) (iter rank pv ord (K + 1) (k + 1) idom)
  | 0, _ => LeO.none _
  | k + 1, idom => by
    unfold iter
    exact LeO.bind (pass.mono rank pv K ord idom false) (fun p => LeO.ite (iter.mono rank pv ord K k p.1) (LeO.refl _))
theorem treeK.mono (bl : List S46) (pv : List (List Int)) (ord : List Int) (k : Nat) : LeO (treeK k bl pv ord) (treeK (k + 1) bl pv ord) := by
  unfold treeK
  exact LeO.bind (LeO.refl _) (fun rank => LeO.map _ (iter.mono rank pv _ k k _))
/-! The example. -/
def nx0 : List (List Int) := [[1, 2], [3], [3], []]
def bl0 : List S46 := [⟨0, 1, [1, 2]⟩, ⟨1, 2, [3]⟩, ⟨2, 3, [3]⟩, ⟨3, 4, []⟩]
def pv0 : List (List Int) := [[], [0], [0], [1, 2]]
theorem valid0 : cfg_Valid.f 40 bl0 pv0 = some true := by kernel_rfl
theorem runv0 : Run (fun k => cfg_Valid.f k bl0 pv0) = some true := Run.of (cfg_Valid.mono _ _) valid0
theorem dfs0 : (dfs bl0 5 [false, false, false, false] [] 0).map (fun p => p.2.reverse) = some [0, 2, 1, 3] := by kernel_rfl
theorem order0 : dominator_Order.f bl0 pv0 = some [0, 2, 1, 3] := by
  unfold dominator_Order.f
  rw [runv0]
  exact dfs0
theorem treeK0 : treeK 20 bl0 pv0 [0, 2, 1, 3] = some [-1, 0, 0, 0] := by kernel_rfl
theorem tree0 : dominator_Tree.f bl0 pv0 = some [-1, 0, 0, 0] := by
  unfold dominator_Tree.f
  rw [order0]
  exact Run.of (treeK.mono bl0 pv0 _) treeK0
theorem front0 : dominator_Frontier.f bl0 pv0 = some [[], [3], [3], []] := by
  unfold dominator_Frontier.f
  rw [tree0, order0]
  kernel_rfl
end Go.Proofs.Ytlnlamgnilmbjaa.Q

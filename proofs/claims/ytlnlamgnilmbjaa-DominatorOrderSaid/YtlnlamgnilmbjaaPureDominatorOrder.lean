import Derived.Test.YtlnlamgnilmbjaaQqontimelaw25DominatorOrder
import Derived.Test.YtlnlamgnilmbjaaARead
import Derived.Test.YtlnlamgnilmbjaaBOrder
import Derived.Test.YtlnlamgnilmbjaaAAwake
namespace Go.Proofs.Ytlnlamgnilmbjaa.Pure
open Go.RowKit Go.Proofs.Ytlnlamgnilmbjaa.Q Go.Proofs.YtlnlamgnilmbjaaW.PrintWords Go.Proofs.YtlnlamgnilmbjaaW.PrintLast
theorem ints_loop (l : List Int) (hl : l.length ≤ 1000) (d : Nat) : ∀ i : Nat, i + d = l.length → Ev (fun k => ontimeref25_Ints.l0 k l l (i : Int)) true := by
  induction d with
  | zero =>
    intro i hi
    refine ⟨1, fun k hk => ?_⟩
    obtain ⟨k, rfl⟩ : ∃ m, k = m + 1 := ⟨k - 1, by omega⟩
    simp only [ontimeref25_Ints.l0]
    rw [if_neg (by omega)]
  | succ d ih =>
    intro i hi
    refine Ev.step (f := fun k => ontimeref25_Ints.l0 k l l ((i + 1 : Nat) : Int)) (fun k => ?_) (ih (i + 1) (by omega))
    simp only [ontimeref25_Ints.l0]
    have e : wrap64 ((i : Int) + 1) = ((i + 1 : Nat) : Int) := by unfold wrap64; omega
    rw [if_pos (by omega), if_pos (by omega), if_pos (by omega), if_pos trivial, e]
theorem ints_selfP (l : List Int) (hl : l.length ≤ 1000) : Ev (fun k => ontimeref25_Ints.f k l l) true := by
  refine Ev.congr (fun k => ?_) (ints_loop l hl l.length 0 (by omega))
  unfold ontimeref25_Ints.f
  rw [if_pos rfl]; rfl
theorem DominatorOrder (bl : List S46) (pv : List (List Int)) (hg : goodG ⟨bl, pv⟩) : ∃ k, ontimelaw25_DominatorOrder.f k bl pv = some true := by
  by_cases hv : bl.length ≤ 14 ∧ validB bl pv = true
  · obtain ⟨out, ho, hl, hr⟩ := refOrder bl pv hv.1 hv.2
    have hn := next_ev bl pv
    unfold nextB at hn
    rw [if_pos hv] at hn
    have hi := ints_selfP out (by omega)
    obtain ⟨K1, h1⟩ := hn
    obtain ⟨K2, h2⟩ := hr
    obtain ⟨K3, h3⟩ := hi
    refine ⟨K1 + K2 + K3, ?_⟩
    unfold ontimelaw25_DominatorOrder.f
    have a1 := h1 (K1 + K2 + K3) (by omega)
    have a2 := h2 (K1 + K2 + K3) (by omega)
    have a3 := h3 (K1 + K2 + K3) (by omega)
    dsimp only at a1 a2 a3
    simp only [ontimelaw25_awake.f, a1, a2, a3, ho, Option.bind_some, if_true]
    try rfl
  · have hn := next_ev bl pv
    unfold nextB at hn
    rw [if_neg hv] at hn
    obtain ⟨K1, h1⟩ := hn
    refine ⟨K1, ?_⟩
    have a1 := h1 K1 (by omega)
    dsimp only at a1
    unfold ontimelaw25_DominatorOrder.f
    simp only [ontimelaw25_awake.f, a1, Option.bind_some, if_true]
    try rfl
end Go.Proofs.Ytlnlamgnilmbjaa.Pure

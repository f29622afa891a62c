/- The answer of a function with rounds, once it has one; small words for the walks. -/
import Derived.Test.YtlnlamgnilmbjaaQ0
namespace Go.Proofs.Ytlnlamgnilmbjaa.Q
open Go.RowKit Go.Proofs.YtlnlamgnilmbjaaW.PrintWords Go.Proofs.YtlnlamgnilmbjaaW.PrintLast Go.Proofs.YtlnlamgnilmbjaaW.PrintMore
noncomputable def Run {α : Type} (g : Nat → Option α) : Option α :=
  open Classical in if h : ∃ r, ∃ k, g k = some r then some h.choose else none
theorem Run.got {α : Type} {g : Nat → Option α} {r : α} (h : Run g = some r) : ∃ k, g k = some r := by
  unfold Run at h
  split at h
  · rename_i hx
    injection h with h
    subst h
    exact hx.choose_spec
  · cases h
theorem Run.of {α : Type} {g : Nat → Option α} {r : α} (hm : ∀ k, LeO (g k) (g (k + 1))) {k : Nat} (h : g k = some r) : Run g = some r := by
  unfold Run
  have hx : ∃ r, ∃ k, g k = some r := ⟨r, k, h⟩
  rw [dif_pos hx]
  obtain ⟨k', hk'⟩ := hx.choose_spec
  have h1 := at_rounds hm (Nat.le_max_left k k') h
  have h2 := at_rounds hm (Nat.le_max_right k k') hk'
  rw [h1] at h2
  injection h2 with h2
  rw [h2]
theorem ret_b {a b : Bool} (h : a = b) : Ending.returned (.bool a) = .returned (.bool b) := by rw [h]
theorem ret_i {k : IntKind} {a b : Int} (h : a = b) : Ending.returned (.int k a) = .returned (.int k b) := by rw [h]
theorem box1 (w : World) (v : Value) (t : TypeId) : (w.alloc (Obj.cells #[v] t)).cell? ⟨w.heap.size, 0, none⟩ = some v := (cell_one_new _ _ _ 0 v rfl)
theorem wrap_s {i : Int} (h0 : 0 ≤ i) (h1 : i < 9223372036854775807) : wrap64 (i + 1) = i + 1 := by
  unfold wrap64; omega
/-- The cells and marks of a block that stands in the heap. -/
theorem blk_read {w : World} {g : Nat} {t : TypeId} {v : Value} (h : w.heap[g]? = some (.cells #[v] t (0, 0))) : w.cell? ⟨g, 0, none⟩ = some v ∧ w.frozen? ⟨g, 0, none⟩ = false := ⟨by rw [blk_cell h]; rfl, blk_frozen h 0⟩
theorem blk_read2 {w : World} {g : Nat} {t : TypeId} {v u : Value} (h : w.heap[g]? = some (.cells #[v, u] t (0, 0))) : w.cell? ⟨g, 0, none⟩ = some v ∧ w.cell? ⟨g, 1, none⟩ = some u := ⟨by rw [blk_cell h]; rfl, by rw [blk_cell h]; rfl⟩
theorem blk_put {w : World} {g : Nat} {t : TypeId} {v : Value} (h : w.heap[g]? = some (.cells #[v] t (0, 0))) (u : Value) : (w.setCell ⟨g, 0, none⟩ u).heap[g]? = some (.cells #[u] t (0, 0)) := by
  rw [blk_set h]; rfl
end Go.Proofs.Ytlnlamgnilmbjaa.Q

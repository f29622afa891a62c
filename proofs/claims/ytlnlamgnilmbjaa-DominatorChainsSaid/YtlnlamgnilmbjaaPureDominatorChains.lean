/- Dominates follows any list, also one with cycles and indices out of range, as the reference says. -/
import Derived.Test.YtlnlamgnilmbjaaQqontimelaw25DominatorChains
namespace Go.Proofs.Ytlnlamgnilmbjaa.Pure
open Go.RowKit Go.Proofs.Ytlnlamgnilmbjaa.Q Go.Proofs.YtlnlamgnilmbjaaW.PrintWords Go.Proofs.YtlnlamgnilmbjaaW.PrintLast

theorem ins_iff (n : Nat) (x : Int) : insB n x = true ↔ 0 ≤ x ∧ x < n := by simp [insB]
/-- From a number inside on: d more steps. -/
theorem chain_loop (l : List Int) (a : Int) (hl : l.length ≤ 30) (d : Nat) : ∀ (k : Nat) (b s : Int), 0 ≤ s → s + d = l.length → 2 * d + 3 < k → 0 ≤ b → b < l.length →
    ontimeref25_Chain.l0 k l a b s = some (domL d l a b) := by
  induction d with
  | zero =>
    intro k b s hs0 hs hk hb0 hb1
    obtain ⟨k, rfl⟩ : ∃ m, k = m + 2 := ⟨k - 2, by omega⟩
    simp only [ontimeref25_Chain.l0]
    rw [if_pos (by omega), if_pos (by omega)]
    have hd : decide (b < (l.length : Int)) = true := decide_eq_true hb1
    rw [hd]
    simp only [ontimeref25_Chain.j2, domL, if_true]
    by_cases h : a = b
    · rw [if_pos h]; simp [h]
    · rw [if_neg h, if_pos hb0, if_pos hb1]
      have hbeq : (a == b) = false := by simpa using h
      rw [hbeq]
      obtain ⟨k, rfl⟩ : ∃ m, k = m + 1 := ⟨k - 1, by omega⟩
      simp only [ontimeref25_Chain.l0]
      have hw : wrap64 (s + 1) = s + 1 := by unfold wrap64; omega
      rw [hw, if_neg (by omega)]
      obtain ⟨k, rfl⟩ : ∃ m, k = m + 1 := ⟨k - 1, by omega⟩
      simp [ontimeref25_Chain.j2]
  | succ d ih =>
    intro k b s hs0 hs hk hb0 hb1
    obtain ⟨k, rfl⟩ : ∃ m, k = m + 2 := ⟨k - 2, by omega⟩
    simp only [ontimeref25_Chain.l0]
    rw [if_pos (by omega), if_pos (by omega)]
    have hd : decide (b < (l.length : Int)) = true := decide_eq_true hb1
    rw [hd]
    simp only [ontimeref25_Chain.j2, domL, if_true]
    by_cases h : a = b
    · rw [if_pos h, if_pos h]
    · rw [if_neg h, if_neg h, if_pos hb0, if_pos hb1]
      have hw : wrap64 (s + 1) = s + 1 := by unfold wrap64; omega
      rw [hw]
      by_cases hi : insB l.length (rd l b) = true
      · rw [if_pos hi]
        obtain ⟨h0, h1⟩ := (ins_iff _ _).1 hi
        exact ih k (rd l b) (s + 1) (by omega) (by omega) (by omega) h0 h1
      · rw [if_neg hi]
        have hn : ¬ (0 ≤ rd l b ∧ rd l b < l.length) := fun h => hi ((ins_iff _ _).2 h)
        obtain ⟨k, rfl⟩ : ∃ m, k = m + 2 := ⟨k - 2, by omega⟩
        simp only [ontimeref25_Chain.l0]
        rw [if_pos (by omega)]
        by_cases h0 : rd l b ≥ 0
        · rw [if_pos h0]
          have hd2 : decide (rd l b < (l.length : Int)) = false := decide_eq_false (by omega)
          rw [hd2]
          simp [ontimeref25_Chain.j2]
        · rw [if_neg h0]
          simp [ontimeref25_Chain.j2]
theorem chain_tells (l : List Int) (a b : Int) (hl : l.length ≤ 30) : ontimeref25_Chain.f 100 l a b = some (domF l a b) := by
  unfold ontimeref25_Chain.f domF
  by_cases ha0 : a < 0
  · rw [if_pos ha0, if_neg (fun h => by have := (ins_iff _ _).1 h.1; omega)]; simp [ontimeref25_Chain.j0]
  · rw [if_neg ha0]
    by_cases ha1 : a ≥ (l.length : Int)
    · rw [if_pos ha1, if_neg (fun h => by have := (ins_iff _ _).1 h.1; omega)]; simp [ontimeref25_Chain.j0]
    · rw [if_neg ha1]
      by_cases hb0 : b < 0
      · rw [if_pos hb0, if_neg (fun h => by have := (ins_iff _ _).1 h.2; omega)]; simp [ontimeref25_Chain.j0]
      · rw [if_neg hb0]
        by_cases hb1 : b ≥ (l.length : Int)
        · rw [show decide (b ≥ (l.length : Int)) = true from decide_eq_true hb1, if_neg (fun h => by have := (ins_iff _ _).1 h.2; omega)]; simp [ontimeref25_Chain.j0]
        · rw [show decide (b ≥ (l.length : Int)) = false from decide_eq_false hb1, if_pos ⟨(ins_iff _ _).2 (by omega), (ins_iff _ _).2 (by omega)⟩]
          have := chain_loop l a hl l.length 99 b 0 (by omega) (by omega) (by omega) (by omega) (by omega)
          simp only [ontimeref25_Chain.j0]
          rw [if_neg (by decide)]
          exact this
theorem DominatorChains : ontimelaw25_DominatorChains.Pure := by
  intro l a b _ _ _ _ _
  refine ⟨100, ?_⟩
  unfold ontimelaw25_DominatorChains.f
  rw [show ontimelaw25_awake.f = some true from rfl]
  simp only [Option.bind_some, if_true]
  by_cases h : (l.length : Int) > 30
  · rw [if_pos h]
  · rw [if_neg h, dom_f, chain_tells l a b (by omega)]
    simp
end Go.Proofs.Ytlnlamgnilmbjaa.Pure

/- The walk of slices.EqualFunc over rows of numbers with slices.Equal as the test. -/
import Derived.Test.YtlnlamgnilmbjaaQqslicesEqualintint
import Derived.Outline
namespace Go.Proofs.Ytlnlamgnilmbjaa.Q
open Go.RowKit Go.Proofs.YtlnlamgnilmbjaaW.PrintWords Go.Proofs.YtlnlamgnilmbjaaW.PrintLast Go.Proofs.YtlnlamgnilmbjaaW.PrintMore
set_option linter.unusedVariables false
set_option linter.unusedSimpArgs false

theorem wrap_succ {i : Int} (h0 : 0 ≤ i) (h1 : i < 9223372036854775807) : wrap64 (i + 1) = i + 1 := by
  unfold wrap64; omega
theorem rd_nat (xs : List Int) (i : Nat) (h : i < xs.length) : rd xs (i : Int) = xs[i] := by
  simp [rd, List.getD_eq_getElem?_getD, h]
theorem equal_loop (l0 l1 : List Int) (hl : l0.length = l1.length) (hm : l0.length ≤ 9223372036854775807) (d : Nat) : ∀ (k i : Nat), i + d = l0.length → d < k →
    slices_Equal_int_int.l0 k l0 l1 (l0.length : Int) (i : Int) = some (decide (l0.drop i = l1.drop i)) := by
  induction d with
  | zero =>
    intro k i hi hk
    obtain ⟨k, rfl⟩ : ∃ m, k = m + 1 := ⟨k - 1, by omega⟩
    simp only [slices_Equal_int_int.l0]
    rw [if_neg (by omega), List.drop_eq_nil_of_le (by omega), List.drop_eq_nil_of_le (by omega)]
    simp
  | succ d ih =>
    intro k i hi hk
    obtain ⟨k, rfl⟩ : ∃ m, k = m + 1 := ⟨k - 1, by omega⟩
    simp only [slices_Equal_int_int.l0]
    rw [if_pos (by omega), if_pos (by omega), if_pos (by omega), if_pos (by omega), rd_nat l0 i (by omega), rd_nat l1 i (by omega)]
    have e0 : l0.drop i = l0[i] :: l0.drop (i + 1) := List.drop_eq_getElem_cons (by omega)
    have e1 : l1.drop i = l1[i] :: l1.drop (i + 1) := List.drop_eq_getElem_cons (by omega)
    rw [e0, e1]
    by_cases he : l0[i] = l1[i]
    · rw [if_pos he, wrap_succ (by omega) (by omega)]
      have := ih k (i + 1) (by omega) (by omega)
      rw [Int.natCast_add] at this
      rw [show ((i : Int) + 1) = (i : Int) + ((1 : Nat) : Int) from rfl, this]
      simp only [List.cons.injEq, he, true_and]
    · rw [if_neg he]; simp only [List.cons.injEq, he, false_and, decide_false]
theorem equal_tells (l0 l1 : List Int) (hm : l0.length ≤ 9223372036854775807) : ∃ k, slices_Equal_int_int.f k l0 l1 = some (decide (l0 = l1)) := by
  refine ⟨l0.length + 1, ?_⟩
  unfold slices_Equal_int_int.f
  by_cases hl : l0.length = l1.length
  · rw [if_pos (by omega)]
    have := equal_loop l0 l1 hl hm l0.length (l0.length + 1) 0 (by omega) (by omega)
    simpa using this
  · rw [if_neg (by omega)]
    have : l0 ≠ l1 := fun h => hl (by rw [h])
    simp [this]
theorem ret_bool' {a b : Bool} (h : a = b) : Ending.returned (.bool a) = .returned (.bool b) := by rw [h]
/-- The function that is handed over: slices.Equal. -/
theorem eqf_calls (A0 : Option Addr) (c0 : Nat) (l0 : List Int) (A1 : Option Addr) (c1 : Nat) (l1 : List Int) (b : Bool) (w : World) (hr0 : Kd.C (Kd.int .i64) w A0 l0.length l0) (hc0 : l0.length ≤ c0) (hr1 : Kd.C (Kd.int .i64) w A1 l1.length l1) (hc1 : l1.length ≤ c1) (hb : decide (l0 = l1) = b) :
    Calls Try.prog 37 #[.slice A0 l0.length c0, .slice A1 l1.length c1] w fun e w' => e = .returned (.bool b) ∧ Drawn0 w w' := by
  obtain ⟨k, hk⟩ := equal_tells l0 l1 hr0.2.1
  rw [hb] at hk
  have HK := Aside0.mk hk
  have H0 := Aside0.mk hr0
  have H1 := Aside0.mk hr1
  have C0 := Aside0.mk hc0
  have C1 := Aside0.mk hc1
  clear hk hr0 hr1 hb hc0 hc1
  go_enter Try.func37, Try.ntmps37
  go_wp2_with (go_at_call 38; (with_reducible refine (slices_Equal_int_int.calls k _ _ l0 _ _ l1 b _ H0.out C0.out H1.out C1.out HK.out).mono ?_); rintro e w' ⟨rfl, hd⟩)
  go_ret
  exact ⟨rfl, hd⟩
def slices_EqualFunc_int_int_int_int.f (l0 l1 : List (List Int)) : Option Bool := some (decide (l0 = l1))
set_option maxHeartbeats 1000000 in
theorem slices_EqualFunc_int_int_int_int.calls (A0 : Option Addr) (c0 : Nat) (l0 : List (List Int)) (A1 : Option Addr) (c1 : Nat) (l1 : List (List Int)) (r : Bool) (w : World) (hr0 : Kd.C (Kd.slice 3 (Kd.int .i64)) w A0 l0.length l0) (hc0 : l0.length ≤ c0) (hr1 : Kd.C (Kd.slice 3 (Kd.int .i64)) w A1 l1.length l1) (hc1 : l1.length ≤ c1) (h : slices_EqualFunc_int_int_int_int.f l0 l1 = some r) :
    Calls Try.prog 36 #[.slice A0 l0.length c0, .slice A1 l1.length c1, .func (.func 37) #[] #[]] w fun e w' => e = .returned (.bool r) ∧ Below w.heap.size w w' := by
  have hm0 : l0.length ≤ 9223372036854775807 := hr0.2.1
  have hm1 : l1.length ≤ 9223372036854775807 := hr1.2.1
  have H0 := Aside0.mk hr0
  have H1 := Aside0.mk hr1
  have C0 := Aside0.mk hc0
  have C1 := Aside0.mk hc1
  obtain rfl : decide (l0 = l1) = r := by simpa [f] using h
  clear hr0 hr1 h hc0 hc1
  by_cases hl : l0.length = l1.length
  · have HL := Aside0.mk hl
    have hl1 : ((l0.length : Int) != l1.length) = false := by simp [hl]
    have hl2 : (l0.length != l1.length) = false := by simp [hl]
    have hl3 : (l0.length == l1.length) = true := by simp [hl]
    clear hl
    go_enter Try.func36, Try.ntmps36
    go_wp2
    go_loopw [17] (fun i wr => ∃ k : Nat, i = .int .i64 k ∧ k ≤ l0.length ∧ Aside0 (l0.take k = l1.take k) ∧ Aside0 (Drawn0 w wr)) (fun i _ => l0.length - (intOf i).toNat)
    case atStart => exact ⟨0, rfl, Nat.zero_le _, ⟨by simp⟩, ⟨Drawn0.refl _⟩⟩
    case round =>
      obtain ⟨k, rfl, hk, HT, HD⟩ := hrel
      by_cases hlt : k < l0.length
      · have hlt1 : k < l1.length := by have := HL.out; omega
        obtain ⟨ad0, A00, c00, e0, hx0, hl0, hi0⟩ := at_L1 (Kd.C_below H0.out HD.out.below) (k : Int) (by omega) (by omega)
        obtain ⟨ad1, A10, c10, e1, hx1, hl1', hi1⟩ := at_L1 (Kd.C_below H1.out HD.out.below) (k : Int) (by omega) (by omega)
        cases e0
        cases e1
        rw [Int.toNat_natCast] at hx0 hx1
        have HI0 := Aside0.mk hi0
        have HI1 := Aside0.mk hi1
        have HC0 := Aside0.mk hl0
        have HC1 := Aside0.mk hl1'
        have E0 := Aside0.mk (show rd_L1 l0 (k : Int) = l0[k] by simp [rd_L1, List.getD_eq_getElem?_getD, hlt])
        have E1 := Aside0.mk (show rd_L1 l1 (k : Int) = l1[k] by simp [rd_L1, List.getD_eq_getElem?_getD, hlt1])
        clear hi0 hi1 hl0 hl1'
        cases hb : decide (rd_L1 l0 (k : Int) = rd_L1 l1 (k : Int)) with
        | true =>
          have HBt := Aside0.mk hb
          clear hb
          go_wp2_with (go_at_call 37; (with_reducible refine (eqf_calls _ _ (rd_L1 l0 (k : Int)) _ _ (rd_L1 l1 (k : Int)) true _ HI0.out HC0.out HI1.out HC1.out HBt.out).mono ?_); rintro e w' ⟨rfl, hd⟩)
          go_roundw
          case rel => exact ⟨k + 1, by go_num, hlt, ⟨by have h1 := E0.out; have h2 := E1.out; have h3 := HBt.out; simp at h3; rw [List.take_succ_eq_append_getElem hlt, List.take_succ_eq_append_getElem hlt1, HT.out, ← h1, ← h2, h3]⟩, ⟨by obtain ⟨a, rfl⟩ := HD.out; obtain ⟨b, rfl⟩ := hd; exact ⟨⟨_, World.drewN_drewN ..⟩⟩⟩⟩
          case measure => simp [intOf]; omega
        | false =>
          have HBt := Aside0.mk hb
          clear hb
          go_wp2_with (go_at_call 37; (with_reducible refine (eqf_calls _ _ (rd_L1 l0 (k : Int)) _ _ (rd_L1 l1 (k : Int)) false _ HI0.out HC0.out HI1.out HC1.out HBt.out).mono ?_); rintro e w' ⟨rfl, hd⟩)
          go_ret
          exact ⟨ret_bool' (by have h1 := E0.out; have h2 := E1.out; have h3 := HBt.out; simp at h3; simp; intro he; subst he; exact h3 rfl), by obtain ⟨a, rfl⟩ := HD.out; exact Below.trans (Drawn0.below ⟨⟨a, rfl⟩⟩) hd.below⟩
      · have HE := Aside0.mk (show l0 = l1 by have h1 := HL.out; have h2 := HT.out; rwa [List.take_of_length_le (by omega), List.take_of_length_le (by omega)] at h2)
        go_wp2
        go_ret
        exact ⟨ret_bool' (by simp [HE.out]), HD.out.below⟩
  · have HL := Aside0.mk hl
    have hl1 : ((l0.length : Int) != l1.length) = true := by simp; omega
    have hl2 : (l0.length != l1.length) = true := by simp [hl]
    have hl3 : (l0.length == l1.length) = false := by simp [hl]
    clear hl
    go_enter Try.func36, Try.ntmps36
    go_wp2
    go_ret
    exact ⟨ret_bool' (by have := HL.out; simp; intro he; exact this (by rw [he])), Below.refl _ _⟩
end Go.Proofs.Ytlnlamgnilmbjaa.Q

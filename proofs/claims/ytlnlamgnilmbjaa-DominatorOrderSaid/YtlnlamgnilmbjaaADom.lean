/- The walk of dominator.Dominates: follows the list at most its length many steps. -/
import Derived.Test.YtlnlamgnilmbjaaQ0
import Derived.Outline
namespace Go.Proofs.Ytlnlamgnilmbjaa.Q
open Go.RowKit Go.Proofs.YtlnlamgnilmbjaaW.PrintWords Go.Proofs.YtlnlamgnilmbjaaW.PrintLast Go.Proofs.YtlnlamgnilmbjaaW.PrintMore
set_option linter.unusedVariables false
set_option linter.unusedSimpArgs false

theorem ret_bool {a b : Bool} (h : a = b) : Ending.returned (.bool a) = .returned (.bool b) := by rw [h]
/-- The closure: is a number an index of the captured list. -/
def insB (n : Nat) (x : Int) : Bool := decide (0 ≤ x ∧ x < n)
theorem inside_calls (x : Int) (g : Nat) (A : Option Addr) (n c : Nat) (w : World) (hc : w.cell? ⟨g, 0, none⟩ = some (.slice A n c)) (b : Bool) (hb : insB n x = b) :
    Calls Try.prog 34 #[.int .i64 x, .pointer (some ⟨g, 0, none⟩)] w fun e w' => e = .returned (.bool b) ∧ w = w' := by
  subst hb
  by_cases h : 0 ≤ x
  · have hd : decide (0 ≤ x) = true := by simpa using h
    go_enter Try.func34, Try.ntmps34
    go_wp2
    go_ret
    exact ⟨ret_bool (by simp [insB, h]), rfl⟩
  · have hd : decide (0 ≤ x) = false := by simpa using h
    go_enter Try.func34, Try.ntmps34
    go_wp2
    go_ret
    exact ⟨ret_bool (by simp [insB, h]; try omega), rfl⟩
/-- The loop: at most k steps upwards. -/
def domL : Nat → List Int → Int → Int → Bool
  | 0, _, a, b => a == b
  | k + 1, l, a, b => if a = b then true else if insB l.length (rd l b) = true then domL k l a (rd l b) else false
def dominator_Dominates.f (l : List Int) (a b : Int) : Option Bool :=
  if insB l.length a = true ∧ insB l.length b = true then some (domL l.length l a b) else some false
theorem dom_cell (w : World) (v : Value) (t : TypeId) : (w.alloc (Obj.cells #[v] t)).cell? ⟨w.heap.size, 0, none⟩ = some v := (cell_one_new _ _ _ 0 v rfl)
set_option maxHeartbeats 1000000 in
theorem dominator_Dominates.calls (A0 : Option Addr) (c0 : Nat) (l0 : List Int) (a1 : Int) (a2 : Int) (r : Bool) (w : World) (hr0 : Kd.C (Kd.int .i64) w A0 l0.length l0) (hc0 : l0.length ≤ c0) (h : dominator_Dominates.f l0 a1 a2 = some r) :
    Calls Try.prog 19 #[.slice A0 l0.length c0, .int .i64 a1, .int .i64 a2] w fun e w' => e = .returned (.bool r) ∧ Below w.heap.size w w' := by
  have hmf : ∀ (fn : Fn) (first cap : Array Value) (w : World), (Instr.makeFunc fn first cap).run Try.prog w = .ok (.func fn first cap) w := fun _ _ _ _ => rfl
  have hcell := dom_cell w (.slice A0 l0.length c0) 29
  have HR := Aside0.mk hr0
  have hM : l0.length ≤ 9223372036854775807 := hr0.2.1
  clear hr0
  have HC := Aside0.mk hc0
  clear hc0
  cases ha : insB l0.length a1 with
  | false =>
    obtain rfl : false = r := by simpa [dominator_Dominates.f, ha] using h
    clear h
    have HA := Aside0.mk ha
    clear ha
    go_enter Try.func19, Try.ntmps19
    go_wp2_with (go_at_call 34; refine (inside_calls _ _ A0 l0.length c0 _ hcell false HA.out).mono ?_; rintro e w' ⟨rfl, rfl⟩)
    go_ret
    exact ⟨rfl, (Below.refl _ _).alloc (Nat.le_refl _) _⟩
  | true =>
    have HA := Aside0.mk ha
    cases hb : insB l0.length a2 with
    | false =>
      obtain rfl : false = r := by simpa [dominator_Dominates.f, hb] using h
      clear h ha
      have HB := Aside0.mk hb
      clear hb
      go_enter Try.func19, Try.ntmps19
      go_wp2_with (go_at_call 34; first | ((with_reducible refine (inside_calls a1 _ A0 l0.length c0 _ hcell true HA.out).mono ?_); rintro e w' ⟨rfl, rfl⟩) | ((with_reducible refine (inside_calls a2 _ A0 l0.length c0 _ hcell false HB.out).mono ?_); rintro e w' ⟨rfl, rfl⟩))
      go_ret
      exact ⟨rfl, (Below.refl _ _).alloc (Nat.le_refl _) _⟩
    | true =>
      have HF := Aside0.mk (show domL l0.length l0 a1 a2 = r by simpa [dominator_Dominates.f, ha, hb] using h)
      clear h ha
      have hb' := Aside0.mk hb
      have HB := hb'
      clear hb
      go_enter Try.func19, Try.ntmps19
      go_wp2_with (go_at_call 34; first | ((with_reducible refine (inside_calls a1 _ A0 l0.length c0 _ hcell true HA.out).mono ?_); rintro e w' ⟨rfl, rfl⟩) | ((with_reducible refine (inside_calls a2 _ A0 l0.length c0 _ hcell true HB.out).mono ?_); rintro e w' ⟨rfl, rfl⟩))
      go_loop [2, 21] (fun b i => ∃ (k : Nat) (x : Int), b = .int .i64 x ∧ i = .int .i64 k ∧ k ≤ l0.length ∧ Aside0 (insB l0.length x = true) ∧ Aside0 (domL (l0.length - k) l0 a1 x = r)) (fun _ i => l0.length - (intOf i).toNat)
      case atStart => exact ⟨0, a2, rfl, rfl, Nat.zero_le _, HB, HF⟩
      case round =>
        obtain ⟨k, x, rfl, rfl, hk, HX, HD⟩ := hrel
        have hx0 : 0 ≤ x := by have := HX.out; simp [insB] at this; omega
        have hx1 : x < l0.length := by have := HX.out; simp [insB] at this; omega
        obtain ⟨ad, eA, hx⟩ := Kd.at_int (Kd.C_alloc HR.out (Obj.cells #[Value.slice A0 l0.length c0] 29)) x hx0 hx1
        cases eA
        clear HR
        by_cases hlt : k < l0.length
        · by_cases hax : a1 = x
          · have hr : true = r := by have := HD.out; rw [show l0.length - k = (l0.length - k - 1) + 1 by omega, domL, if_pos hax] at this; exact this
            subst hax
            subst hr
            go_wp2
            go_ret
            exact ⟨rfl, (Below.refl _ _).alloc (Nat.le_refl _) _⟩
          · have hax' : (a1 == x) = false := by simpa using hax
            cases hi : insB l0.length (rd l0 x) with
            | false =>
              have hr : false = r := by have := HD.out; rw [show l0.length - k = (l0.length - k - 1) + 1 by omega, domL, if_neg hax, hi] at this; simpa using this
              subst hr
              have HI := Aside0.mk hi
              clear hi hax HD HX
              go_wp2_with (go_at_call 34; (with_reducible refine (inside_calls (rd l0 x) _ (some ad) l0.length c0 _ hcell false HI.out).mono ?_); rintro e w' ⟨rfl, rfl⟩)
              go_ret
              exact ⟨rfl, (Below.refl _ _).alloc (Nat.le_refl _) _⟩
            | true =>
              have HN := Aside0.mk (show domL (l0.length - (k + 1)) l0 a1 (rd l0 x) = r by have := HD.out; rw [show l0.length - k = (l0.length - k - 1) + 1 by omega, domL, if_neg hax, if_pos hi] at this; exact this)
              have HI := Aside0.mk hi
              clear hi hax HD HX
              go_wp2_with (go_at_call 34; (with_reducible refine (inside_calls (rd l0 x) _ (some ad) l0.length c0 _ hcell true HI.out).mono ?_); rintro e w' ⟨rfl, rfl⟩)
              go_round
              case rel => exact ⟨k + 1, rd l0 x, rfl, by go_num, hlt, HI, HN⟩
              case measure => simp [intOf]; omega
        · have hr : (a1 == x) = r := by have := HD.out; rw [show l0.length - k = 0 by omega, domL] at this; exact this
          clear HD HX
          have HE := Aside0.mk hr
          clear hr
          go_wp2
          go_ret
          exact ⟨ret_bool HE.out, (Below.refl _ _).alloc (Nat.le_refl _) _⟩
end Go.Proofs.Ytlnlamgnilmbjaa.Q

-- Printed by wip/print/printx.py out of the translation
import Derived.Test.YtlnlamgnilmbjaaQ0
import Derived.Test.YtlnlamgnilmbjaaAEqf
namespace Go.Proofs.Ytlnlamgnilmbjaa.Q
open Go.RowKit Go.Proofs.YtlnlamgnilmbjaaW.PrintWords Go.Proofs.YtlnlamgnilmbjaaW.PrintLast Go.Proofs.YtlnlamgnilmbjaaW.PrintMore
attribute [local go_sem] max2_int min2_int max_two min_two max_three min_three max_four min_four   -- for this text's walks alone
set_option linter.unusedVariables false
set_option linter.unusedSimpArgs false

/-! ### cfg_Valid: function 28 -/
mutual
def cfg_Valid.j0 : Nat → Int → Bool → List (S46) → List (List Int) → Option (Bool)
  | 0, _, _, _, _ => none
  | k + 1, x3, x21, x102000, x102001 => if x21 = true then (some false) else (if 0 ≤ x3 then (if (x3 : Int).toNat ≤ 11728124029610 then (cfg_Valid.l0 k x3 (List.replicate (x3 : Int).toNat []) 0 x102000 (x102000.length : Int) 0 x102000 x102001) else (none)) else (none))
def cfg_Valid.l0 : Nat → Int → List (List Int) → Int → List (S46) → Int → Int → List (S46) → List (List Int) → Option (Bool)
  | 0, _, _, _, _, _, _, _, _ => none
  | k + 1, x3, x4, x5, x25, x26, x27, x102000, x102001 => if x27 < x26 then (if 0 ≤ x27 then (if x27 < (x25.length : Int) then (if ((rd_T46 x25 x27).f0) < x5 then (cfg_Valid.j2 k x3 x4 x27 x25 x26 x27 true x102000 x102001 ((rd_T46 x25 x27).f0) ((rd_T46 x25 x27).f1) ((rd_T46 x25 x27).f2)) else (if ((rd_T46 x25 x27).f1) ≤ ((rd_T46 x25 x27).f0) then (cfg_Valid.j2 k x3 x4 x27 x25 x26 x27 true x102000 x102001 ((rd_T46 x25 x27).f0) ((rd_T46 x25 x27).f1) ((rd_T46 x25 x27).f2)) else (if (((rd_T46 x25 x27).f2).length : Int) > 2 then (cfg_Valid.j2 k x3 x4 x27 x25 x26 x27 true x102000 x102001 ((rd_T46 x25 x27).f0) ((rd_T46 x25 x27).f1) ((rd_T46 x25 x27).f2)) else (if (((rd_T46 x25 x27).f2).length : Int) = 2 then (if 0 < (((rd_T46 x25 x27).f2).length : Int) then (if 1 < (((rd_T46 x25 x27).f2).length : Int) then (cfg_Valid.j2 k x3 x4 x27 x25 x26 x27 ((rd ((rd_T46 x25 x27).f2) 0) == (rd ((rd_T46 x25 x27).f2) 1)) x102000 x102001 ((rd_T46 x25 x27).f0) ((rd_T46 x25 x27).f1) ((rd_T46 x25 x27).f2)) else (none)) else (none)) else (cfg_Valid.j2 k x3 x4 x27 x25 x26 x27 false x102000 x102001 ((rd_T46 x25 x27).f0) ((rd_T46 x25 x27).f1) ((rd_T46 x25 x27).f2)))))) else (none)) else (none)) else ((slices_EqualFunc_int_int_int_int.f x4 x102001).bind fun t105 => (some t105))
def cfg_Valid.j2 : Nat → Int → List (List Int) → Int → List (S46) → Int → Int → Bool → List (S46) → List (List Int) → Int → Int → List Int → Option (Bool)
  | 0, _, _, _, _, _, _, _, _, _, _, _, _ => none
  | k + 1, x3, x4, x6, x25, x26, x27, x65, x102000, x102001, x108000, x108001, x108002 => if x65 = true then (some false) else (cfg_Valid.l1 k x3 x4 x108001 x6 x25 x26 x27 x108002 (x108002.length : Int) 0 x102000 x102001)
def cfg_Valid.l1 : Nat → Int → List (List Int) → Int → Int → List (S46) → Int → Int → List Int → Int → Int → List (S46) → List (List Int) → Option (Bool)
  | 0, _, _, _, _, _, _, _, _, _, _, _, _ => none
  | k + 1, x3, x4, x5, x6, x25, x26, x27, x69, x70, x71, x102000, x102001 => if x71 < x70 then (if 0 ≤ x71 then (if x71 < (x69.length : Int) then (if (rd x69 x71) < 0 then (some false) else (if (rd x69 x71) ≥ x3 then (some false) else (if 0 ≤ (rd x69 x71) then (if (rd x69 x71) < (x4.length : Int) then (if (rd_L1 x4 (rd x69 x71)).length < 17592186044416 then (cfg_Valid.l1 k x3 (x4.set ((rd x69 x71) : Int).toNat ((rd_L1 x4 (rd x69 x71)) ++ [x6])) x5 x6 x25 x26 x27 x69 x70 (wrap64 (x71 + 1)) x102000 x102001) else (none)) else (none)) else (none)))) else (none)) else (none)) else (cfg_Valid.l0 k x3 x4 x5 x25 x26 (wrap64 (x27 + 1)) x102000 x102001)
end
def cfg_Valid.f (k : Nat) (l0_0 : List (S46)) (l0_1 : List (List Int)) : Option (Bool) := if (l0_0.length : Int) = 0 then (cfg_Valid.j0 k (l0_0.length : Int) true l0_0 l0_1) else (cfg_Valid.j0 k (l0_0.length : Int) ((l0_1.length : Int) != (l0_0.length : Int)) l0_0 l0_1)
theorem cfg_Valid.mono_l : ∀ k, (∀ y0 y1 y2 y3, LeO (cfg_Valid.j0 k y0 y1 y2 y3) (cfg_Valid.j0 (k + 1) y0 y1 y2 y3)) ∧ (∀ y0 y1 y2 y3 y4 y5 y6 y7, LeO (cfg_Valid.l0 k y0 y1 y2 y3 y4 y5 y6 y7) (cfg_Valid.l0 (k + 1) y0 y1 y2 y3 y4 y5 y6 y7)) ∧ (∀ y0 y1 y2 y3 y4 y5 y6 y7 y8 y9 y10 y11, LeO (cfg_Valid.j2 k y0 y1 y2 y3 y4 y5 y6 y7 y8 y9 y10 y11) (cfg_Valid.j2 (k + 1) y0 y1 y2 y3 y4 y5 y6 y7 y8 y9 y10 y11)) ∧ (∀ y0 y1 y2 y3 y4 y5 y6 y7 y8 y9 y10 y11, LeO (cfg_Valid.l1 k y0 y1 y2 y3 y4 y5 y6 y7 y8 y9 y10 y11) (cfg_Valid.l1 (k + 1) y0 y1 y2 y3 y4 y5 y6 y7 y8 y9 y10 y11))
  | 0 => ⟨fun _ _ _ _ r h => by simp [cfg_Valid.j0] at h, fun _ _ _ _ _ _ _ _ r h => by simp [cfg_Valid.l0] at h, fun _ _ _ _ _ _ _ _ _ _ _ _ r h => by simp [cfg_Valid.j2] at h, fun _ _ _ _ _ _ _ _ _ _ _ _ r h => by simp [cfg_Valid.l1] at h⟩
  | k + 1 => by
    obtain ⟨ih0, ih1, ih2, ih3⟩ := cfg_Valid.mono_l k
    refine ⟨?_, ?_, ?_, ?_⟩
    · intro y0 y1 y2 y3
      unfold cfg_Valid.j0
      repeat' first
      | (with_reducible exact ih0 _ _ _ _)
      | (with_reducible exact ih1 _ _ _ _ _ _ _ _)
      | (with_reducible exact ih2 _ _ _ _ _ _ _ _ _ _ _ _)
      | (with_reducible exact ih3 _ _ _ _ _ _ _ _ _ _ _ _)
      | (with_reducible exact LeO.refl _)
      | (with_reducible exact LeO.none _)
      | (with_reducible refine LeO.ite ?_ ?_)
      | (with_reducible refine LeO.bind ?_ (fun _ => ?_))
      | exact ih0 _ _ _ _
      | exact ih1 _ _ _ _ _ _ _ _
      | exact ih2 _ _ _ _ _ _ _ _ _ _ _ _
      | exact ih3 _ _ _ _ _ _ _ _ _ _ _ _
      | exact LeO.none _
      | refine LeO.ite ?_ ?_
      | refine LeO.bind ?_ (fun _ => ?_)
    · intro y0 y1 y2 y3 y4 y5 y6 y7
      unfold cfg_Valid.l0
      repeat' first
      | (with_reducible exact ih0 _ _ _ _)
      | (with_reducible exact ih1 _ _ _ _ _ _ _ _)
      | (with_reducible exact ih2 _ _ _ _ _ _ _ _ _ _ _ _)
      | (with_reducible exact ih3 _ _ _ _ _ _ _ _ _ _ _ _)
      | (with_reducible exact LeO.refl _)
      | (with_reducible exact LeO.none _)
      | (with_reducible refine LeO.ite ?_ ?_)
      | (with_reducible refine LeO.bind ?_ (fun _ => ?_))
      | exact ih0 _ _ _ _
      | exact ih1 _ _ _ _ _ _ _ _
      | exact ih2 _ _ _ _ _ _ _ _ _ _ _ _
      | exact ih3 _ _ _ _ _ _ _ _ _ _ _ _
      | exact LeO.none _
      | refine LeO.ite ?_ ?_
      | refine LeO.bind ?_ (fun _ => ?_)
    · intro y0 y1 y2 y3 y4 y5 y6 y7 y8 y9 y10 y11
      unfold cfg_Valid.j2
      repeat' first
      | (with_reducible exact ih0 _ _ _ _)
      | (with_reducible exact ih1 _ _ _ _ _ _ _ _)
      | (with_reducible exact ih2 _ _ _ _ _ _ _ _ _ _ _ _)
      | (with_reducible exact ih3 _ _ _ _ _ _ _ _ _ _ _ _)
      | (with_reducible exact LeO.refl _)
      | (with_reducible exact LeO.none _)
      | (with_reducible refine LeO.ite ?_ ?_)
      | (with_reducible refine LeO.bind ?_ (fun _ => ?_))
      | exact ih0 _ _ _ _
      | exact ih1 _ _ _ _ _ _ _ _
      | exact ih2 _ _ _ _ _ _ _ _ _ _ _ _
      | exact ih3 _ _ _ _ _ _ _ _ _ _ _ _
      | exact LeO.none _
      | refine LeO.ite ?_ ?_
      | refine LeO.bind ?_ (fun _ => ?_)
    · intro y0 y1 y2 y3 y4 y5 y6 y7 y8 y9 y10 y11
      unfold cfg_Valid.l1
      repeat' first
      | (with_reducible exact ih0 _ _ _ _)
      | (with_reducible exact ih1 _ _ _ _ _ _ _ _)
      | (with_reducible exact ih2 _ _ _ _ _ _ _ _ _ _ _ _)
      | (with_reducible exact ih3 _ _ _ _ _ _ _ _ _ _ _ _)
      | (with_reducible exact LeO.refl _)
      | (with_reducible exact LeO.none _)
      | (with_reducible refine LeO.ite ?_ ?_)
      | (with_reducible refine LeO.bind ?_ (fun _ => ?_))
      | exact ih0 _ _ _ _
      | exact ih1 _ _ _ _ _ _ _ _
      | exact ih2 _ _ _ _ _ _ _ _ _ _ _ _
      | exact ih3 _ _ _ _ _ _ _ _ _ _ _ _
      | exact LeO.none _
      | refine LeO.ite ?_ ?_
      | refine LeO.bind ?_ (fun _ => ?_)
theorem cfg_Valid.mono : ∀ a0 a1 k, LeO (cfg_Valid.f k a0 a1) (cfg_Valid.f (k + 1) a0 a1) := by
  intro a0 a1 k
  obtain ⟨ih0, ih1, ih2, ih3⟩ := cfg_Valid.mono_l k
  unfold cfg_Valid.f
  repeat' first
      | (with_reducible exact ih0 _ _ _ _)
      | (with_reducible exact ih1 _ _ _ _ _ _ _ _)
      | (with_reducible exact ih2 _ _ _ _ _ _ _ _ _ _ _ _)
      | (with_reducible exact ih3 _ _ _ _ _ _ _ _ _ _ _ _)
      | (with_reducible exact LeO.refl _)
      | (with_reducible exact LeO.none _)
      | (with_reducible refine LeO.ite ?_ ?_)
      | (with_reducible refine LeO.bind ?_ (fun _ => ?_))
      | exact ih0 _ _ _ _
      | exact ih1 _ _ _ _ _ _ _ _
      | exact ih2 _ _ _ _ _ _ _ _ _ _ _ _
      | exact ih3 _ _ _ _ _ _ _ _ _ _ _ _
      | exact LeO.none _
      | refine LeO.ite ?_ ?_
      | refine LeO.bind ?_ (fun _ => ?_)
set_option maxHeartbeats 8000000 in
set_option maxRecDepth 100000 in
theorem cfg_Valid.calls (k : Nat) (A0_0 : Option Addr) (c0_0 : Nat) (l0_0 : List (S46)) (A0_1 : Option Addr) (c0_1 : Nat) (l0_1 : List (List Int)) (r : Bool) (w : World) (hr0_0 : Kd.C k46 w A0_0 l0_0.length l0_0) (hc0_0 : l0_0.length ≤ c0_0) (hr0_1 : Kd.C (Kd.slice 3 (Kd.int .i64)) w A0_1 l0_1.length l0_1) (hc0_1 : l0_1.length ≤ c0_1) (h : cfg_Valid.f k l0_0 l0_1 = some r) :
    Calls Try.prog 28 #[.agg #[.slice A0_0 l0_0.length c0_0, .slice A0_1 l0_1.length c0_1]] w fun e w' => e = .returned (.bool r) ∧ Below w.heap.size w w' := by
  have hu25 := Try.underlying25
  have hu46 := Try.underlying46
  have HR0_0 := Aside0.mk hr0_0
  have HC0_0 := Aside0.mk hc0_0
  clear hr0_0 hc0_0
  have HR0_1 := Aside0.mk hr0_1
  have HC0_1 := Aside0.mk hc0_1
  clear hr0_1 hc0_1
  have HB := Aside0.mk (Below.refl w.heap.size w)
  have H : (if (l0_0.length : Int) = 0 then (cfg_Valid.j0 k (l0_0.length : Int) true l0_0 l0_1) else (cfg_Valid.j0 k (l0_0.length : Int) ((l0_1.length : Int) != (l0_0.length : Int)) l0_0 l0_1)) = some r := h
  clear h
  have HC2 := Aside0.mk H
  clear H
  go_enter Try.func28, Try.ntmps28
  go_upto_region 2 with (first | ((with_reducible refine gate_dst (N := 1) rfl ?_); (try (refine gate_guard (by rfl) ?_; dsimp only)); refine box_event ?hg (N := 1) ?hd (cs := #[.slice A0_0 l0_0.length c0_0, .slice A0_1 l0_1.length c0_1]) (t := 25) ?hr ?_; (case hd => rfl); (case hg => rfl); (case hr => first | (go_simp; done) | (go_simp; rfl)); intro gb101 hg w3 hbox hb; have n0_ := Aside0.mk (below_step (by repeat (first | (with_reducible first | exact HB.out | apply below_alloc | apply pw_below_drewN | apply below_drew1) | exact HB.out)) hb); have n1_ := Aside0.mk (hbox); have n2_ := Aside0.mk ((by rw [hg]; exact (below_size (by repeat (first | (with_reducible first | exact HB.out | apply below_alloc | apply pw_below_drewN | apply below_drew1) | exact HB.out))) : w.heap.size ≤ gb101)); have n3_ := Aside0.mk ((by rw [hg]; exact (below_size (by repeat (first | (with_reducible first | exact HB.out | apply below_alloc | apply pw_below_drewN | apply below_drew1) | exact HB.out))) : w.heap.size ≤ gb101)); clear HB; have HB := n0_; have BK101 := n1_; have GW101 := n2_; have GE101 := n3_; clear n0_ n1_ n2_ n3_; clear hb hbox hg; have hcz4_0 : w3.cell? ⟨gb101, 0, none⟩ = some (.slice A0_0 l0_0.length c0_0) := (blk_cell BK101.out 0).trans rfl; have hcz4_1 : w3.cell? ⟨gb101, 1, none⟩ = some (.slice A0_1 l0_1.length c0_1) := (blk_cell BK101.out 1).trans rfl; have hfz4_0 := blk_frozen BK101.out 0; have hfz4_1 := blk_frozen BK101.out 1))
  repeat (go_quiet (first | ((with_reducible refine gate_dst (N := 1) rfl ?_); (try (refine gate_guard (by rfl) ?_; dsimp only)); refine box_event ?hg (N := 1) ?hd (cs := #[.slice A0_0 l0_0.length c0_0, .slice A0_1 l0_1.length c0_1]) (t := 25) ?hr ?_; (case hd => rfl); (case hg => rfl); (case hr => first | (go_simp; done) | (go_simp; rfl)); intro gb101 hg w3 hbox hb; have n0_ := Aside0.mk (below_step (by repeat (first | (with_reducible first | exact HB.out | apply below_alloc | apply pw_below_drewN | apply below_drew1) | exact HB.out)) hb); have n1_ := Aside0.mk (hbox); have n2_ := Aside0.mk ((by rw [hg]; exact (below_size (by repeat (first | (with_reducible first | exact HB.out | apply below_alloc | apply pw_below_drewN | apply below_drew1) | exact HB.out))) : w.heap.size ≤ gb101)); have n3_ := Aside0.mk ((by rw [hg]; exact (below_size (by repeat (first | (with_reducible first | exact HB.out | apply below_alloc | apply pw_below_drewN | apply below_drew1) | exact HB.out))) : w.heap.size ≤ gb101)); clear HB; have HB := n0_; have BK101 := n1_; have GW101 := n2_; have GE101 := n3_; clear n0_ n1_ n2_ n3_; clear hb hbox hg; have hcz4_0 : w3.cell? ⟨gb101, 0, none⟩ = some (.slice A0_0 l0_0.length c0_0) := (blk_cell BK101.out 0).trans rfl; have hcz4_1 : w3.cell? ⟨gb101, 1, none⟩ = some (.slice A0_1 l0_1.length c0_1) := (blk_cell BK101.out 1).trans rfl; have hfz4_0 := blk_frozen BK101.out 0; have hfz4_1 := blk_frozen BK101.out 1)); go_upto_region 2 with (first | ((with_reducible refine gate_dst (N := 1) rfl ?_); (try (refine gate_guard (by rfl) ?_; dsimp only)); refine box_event ?hg (N := 1) ?hd (cs := #[.slice A0_0 l0_0.length c0_0, .slice A0_1 l0_1.length c0_1]) (t := 25) ?hr ?_; (case hd => rfl); (case hg => rfl); (case hr => first | (go_simp; done) | (go_simp; rfl)); intro gb101 hg w3 hbox hb; have n0_ := Aside0.mk (below_step (by repeat (first | (with_reducible first | exact HB.out | apply below_alloc | apply pw_below_drewN | apply below_drew1) | exact HB.out)) hb); have n1_ := Aside0.mk (hbox); have n2_ := Aside0.mk ((by rw [hg]; exact (below_size (by repeat (first | (with_reducible first | exact HB.out | apply below_alloc | apply pw_below_drewN | apply below_drew1) | exact HB.out))) : w.heap.size ≤ gb101)); have n3_ := Aside0.mk ((by rw [hg]; exact (below_size (by repeat (first | (with_reducible first | exact HB.out | apply below_alloc | apply pw_below_drewN | apply below_drew1) | exact HB.out))) : w.heap.size ≤ gb101)); clear HB; have HB := n0_; have BK101 := n1_; have GW101 := n2_; have GE101 := n3_; clear n0_ n1_ n2_ n3_; clear hb hbox hg; have hcz4_0 : w3.cell? ⟨gb101, 0, none⟩ = some (.slice A0_0 l0_0.length c0_0) := (blk_cell BK101.out 0).trans rfl; have hcz4_1 : w3.cell? ⟨gb101, 1, none⟩ = some (.slice A0_1 l0_1.length c0_1) := (blk_cell BK101.out 1).trans rfl; have hfz4_0 := blk_frozen BK101.out 0; have hfz4_1 := blk_frozen BK101.out 1)))
  (try simp only [Act.put, List.setIfInBounds_toArray, List.set_cons_zero, List.set_cons_succ])
  go_cut [21] (fun v21 wc => ∃ (kq : Nat) (x21_1 : Bool), v21 = .bool x21_1 ∧ Aside0 (cfg_Valid.j0 kq (l0_0.length : Int) x21_1 l0_0 l0_1 = some r) ∧ Aside0 (kq ≤ k) ∧ Aside0 (wc.heap[gb101]? = some (.cells #[(.slice A0_0 l0_0.length c0_0), (.slice A0_1 l0_1.length c0_1)] 25 (0, 0))) ∧ Aside0 (Below w.heap.size w wc))
  case first =>
    have H := HC2.out
    clear HC2
    by_cases c5 : (l0_0.length : Int) = 0
    · rw [if_pos c5] at H
      have c5b0 : ((l0_0.length : Int) == 0) = true := beq_iff_eq.mpr c5
      have c5b1 : ((l0_0.length : Int) != 0) = false := bne_eq_false_iff_eq.mpr c5
      clear c5
      (first | rw [c5b0] | (simp only [i64_w, i32_w]; rw [c5b0]) | skip)
      have H' := Aside0.mk H
      clear H
      go_wp2
      repeat (go_quiet (fail); try go_wp2)
      go_meet
      case rel => exact ⟨_, (true), (by first | rfl | (simp; done) | (simp [*]; done)), H', ⟨by first | omega | exact Nat.le_refl _⟩, ⟨by (with_reducible repeat (first | refine blk_drewN ?_ _ | refine blk_drew ?_ | refine blk_alloc ?_ _)); exact BK101.out⟩, ⟨by repeat (first | (with_reducible first | exact HB.out | apply below_alloc | apply pw_below_drewN | apply below_drew1 | refine below_set ?_ GE101.out) | exact HB.out)⟩⟩
    · rw [if_neg c5] at H
      have c5b0 : ((l0_0.length : Int) == 0) = false := beq_eq_false_iff_ne.mpr c5
      have c5b1 : ((l0_0.length : Int) != 0) = true := bne_iff_ne.mpr c5
      have c5b2 : ¬ (l0_0 = []) := fun h_ => c5 (by rw [h_]; rfl)
      (first | rw [c5b0] | (simp only [i64_w, i32_w]; rw [c5b0]) | skip)
      have H' := Aside0.mk H
      clear H
      have hcz6_0 : w3.cell? ⟨gb101, 0, none⟩ = some (.slice A0_0 l0_0.length c0_0) := (blk_cell BK101.out 0).trans rfl
      have hcz6_1 : w3.cell? ⟨gb101, 1, none⟩ = some (.slice A0_1 l0_1.length c0_1) := (blk_cell BK101.out 1).trans rfl
      have hfz6_0 := blk_frozen BK101.out 0
      have hfz6_1 := blk_frozen BK101.out 1
      go_wp2
      repeat (go_quiet (fail); try go_wp2)
      go_meet
      case rel => exact ⟨_, (((l0_1.length : Int) != (l0_0.length : Int))), (by first | rfl | (simp; done) | (simp [*]; done)), H', ⟨by first | omega | exact Nat.le_refl _⟩, ⟨by (with_reducible repeat (first | refine blk_drewN ?_ _ | refine blk_drew ?_ | refine blk_alloc ?_ _)); exact BK101.out⟩, ⟨by repeat (first | (with_reducible first | exact HB.out | apply below_alloc | apply pw_below_drewN | apply below_drew1 | refine below_set ?_ GE101.out) | exact HB.out)⟩⟩
  case rest =>
    clear HC2
    try clear c2
    try clear p2
    try clear c5
    try clear c5b0
    try clear c5b1
    try clear c5b2
    try clear hcz4_0
    try clear hcz4_1
    try clear hcz6_0
    try clear hcz6_1
    try clear hfz4_0
    try clear hfz4_1
    try clear hfz6_0
    try clear hfz6_1
    obtain ⟨kq, x21_1, rfl, HA, HJ1, BK101, HB⟩ := hcut
    cases kq with
    | zero => exact absurd HA.out (by simp [cfg_Valid.j0])
    | succ kj1 =>
      have H := HA.out
      clear HA
      simp only [cfg_Valid.j0] at H
      by_cases c7 : x21_1 = true
      · subst c7
        have H1 : (some false) = some r := by rw [if_pos rfl] at H; exact H
        clear H
        have H := H1
        clear H1
        obtain rfl := Option.some.inj H
        go_wp2
        repeat (go_quiet (fail); try go_wp2)
        go_ret
        exact ⟨by first | rfl | (simp [errW_none, errW_some] <;> rfl) | (simp [*, errW_none, errW_some] <;> rfl), by repeat (first | (with_reducible first | exact HB.out | apply below_alloc | apply pw_below_drewN | apply below_drew1 | refine below_set ?_ GE101.out) | exact HB.out)⟩
      · replace c7 := Bool.eq_false_iff.mpr c7
        subst c7
        have H1 : (if 0 ≤ (l0_0.length : Int) then (if ((l0_0.length : Int) : Int).toNat ≤ 11728124029610 then (cfg_Valid.l0 kj1 (l0_0.length : Int) (List.replicate ((l0_0.length : Int) : Int).toNat []) 0 l0_0 (l0_0.length : Int) 0 l0_0 l0_1) else (none)) else (none)) = some r := by rw [if_neg (show ¬ (false = true) by decide)] at H; exact H
        clear H
        have H := H1
        clear H1
        by_cases c8 : 0 ≤ (l0_0.length : Int)
        · rw [if_pos c8] at H
          have c8b0 := eq_true c8
          have c8b1 : decide (0 ≤ (l0_0.length : Int)) = true := decide_eq_true c8
          clear c8
          by_cases c9 : ((l0_0.length : Int) : Int).toNat ≤ 11728124029610
          · rw [if_pos c9] at H
            have c9b0 := eq_true c9
            have c9b1 : decide (((l0_0.length : Int) : Int).toNat ≤ 11728124029610) = true := decide_eq_true c9
            clear c9
            obtain ⟨y102, hy102⟩ : ∃ y_ : List (List Int), y_ = (List.replicate ((l0_0.length : Int) : Int).toNat []) := ⟨_, rfl⟩
            replace H : (cfg_Valid.l0 kj1 (l0_0.length : Int) y102 0 l0_0 (l0_0.length : Int) 0 l0_0 l0_1) = some r := by first | (rw [hy102]; with_reducible exact H) | (have H2_ := (Option.bind_some _ _).symm.trans H; rw [hy102]; with_reducible exact H2_) | (have H2_ := (Option.bind_some _ _).symm.trans H; with_reducible exact H2_) | with_reducible exact H | (rw [hy102]; exact H) | exact H
            have Ny102 := Aside0.mk hy102
            clear hy102
            have H' := Aside0.mk H
            clear H
            go_wp2_with (first | ((with_reducible refine gate_dst (N := 23) rfl ?_); (try (refine gate_guard (by rfl) ?_; dsimp only)); refine Kd.S_make (Kd.slice 3 (Kd.int .i64)) _ 29 rfl (N := 23) rfl 23 _ _ rfl (l0_0.length : Int) rfl rfl Try.underlying23 (.slice none 0 0) 24 info29 rfl (by decide) (by omega) [] (ok := fun _ => True) (okp := fun _ => True) ⟨_, rfl, Kd.R_nil _ _ _ _ _⟩ (fun _ hk => hk) trivial (of_decide_eq_true (by first | (with_reducible assumption) | assumption)) (Nat.le_trans (Nat.mul_le_mul_right _ (of_decide_eq_true (by first | (with_reducible assumption) | assumption) : (l0_0.length : Int).toNat ≤ 11728124029610)) (by omega)) (Below.refl _ _) (Nat.le_refl _) ?_; intro v103 w10 ho11 hb hg_ hnew_; clear hg_ hnew_; (first | rw [← Ny102.out] at ho11 | (simp only [Int.reduceToNat] at ho11; rw [← Ny102.out] at ho11)); have n0_ := Aside0.mk (Kd.S_lower ho11 (below_size (by repeat (first | (with_reducible first | exact HB.out | apply below_alloc | apply pw_below_drewN | apply below_drew1 | refine below_set ?_ GE101.out) | exact HB.out)))); have n1_ := Aside0.mk (blk_below (g := gb101) (o := .cells #[.slice A0_0 l0_0.length c0_0, .slice A0_1 l0_1.length c0_1] 25 (0, 0)) (by (with_reducible repeat (first | refine blk_drewN ?_ _ | refine blk_drew ?_ | refine blk_alloc ?_ _)); exact BK101.out) hb); have n2_ := Aside0.mk (below_step (by repeat (first | (with_reducible first | exact HB.out | apply below_alloc | apply pw_below_drewN | apply below_drew1 | refine below_set ?_ GE101.out) | exact HB.out)) hb); clear BK101; clear HB; have HO104 := n0_; have BK101 := n1_; have HB := n2_; clear n0_ n1_ n2_; clear hb ho11; have hcz12_0 : w10.cell? ⟨gb101, 0, none⟩ = some (.slice A0_0 l0_0.length c0_0) := (blk_cell BK101.out 0).trans rfl; have hcz12_1 : w10.cell? ⟨gb101, 1, none⟩ = some (.slice A0_1 l0_1.length c0_1) := (blk_cell BK101.out 1).trans rfl; have hfz12_0 := blk_frozen BK101.out 0; have hfz12_1 := blk_frozen BK101.out 1))
            repeat (go_quiet (first | ((with_reducible refine gate_dst (N := 23) rfl ?_); (try (refine gate_guard (by rfl) ?_; dsimp only)); refine Kd.S_make (Kd.slice 3 (Kd.int .i64)) _ 29 rfl (N := 23) rfl 23 _ _ rfl (l0_0.length : Int) rfl rfl Try.underlying23 (.slice none 0 0) 24 info29 rfl (by decide) (by omega) [] (ok := fun _ => True) (okp := fun _ => True) ⟨_, rfl, Kd.R_nil _ _ _ _ _⟩ (fun _ hk => hk) trivial (of_decide_eq_true (by first | (with_reducible assumption) | assumption)) (Nat.le_trans (Nat.mul_le_mul_right _ (of_decide_eq_true (by first | (with_reducible assumption) | assumption) : (l0_0.length : Int).toNat ≤ 11728124029610)) (by omega)) (Below.refl _ _) (Nat.le_refl _) ?_; intro v103 w10 ho11 hb hg_ hnew_; clear hg_ hnew_; (first | rw [← Ny102.out] at ho11 | (simp only [Int.reduceToNat] at ho11; rw [← Ny102.out] at ho11)); have n0_ := Aside0.mk (Kd.S_lower ho11 (below_size (by repeat (first | (with_reducible first | exact HB.out | apply below_alloc | apply pw_below_drewN | apply below_drew1 | refine below_set ?_ GE101.out) | exact HB.out)))); have n1_ := Aside0.mk (blk_below (g := gb101) (o := .cells #[.slice A0_0 l0_0.length c0_0, .slice A0_1 l0_1.length c0_1] 25 (0, 0)) (by (with_reducible repeat (first | refine blk_drewN ?_ _ | refine blk_drew ?_ | refine blk_alloc ?_ _)); exact BK101.out) hb); have n2_ := Aside0.mk (below_step (by repeat (first | (with_reducible first | exact HB.out | apply below_alloc | apply pw_below_drewN | apply below_drew1 | refine below_set ?_ GE101.out) | exact HB.out)) hb); clear BK101; clear HB; have HO104 := n0_; have BK101 := n1_; have HB := n2_; clear n0_ n1_ n2_; clear hb ho11; have hcz12_0 : w10.cell? ⟨gb101, 0, none⟩ = some (.slice A0_0 l0_0.length c0_0) := (blk_cell BK101.out 0).trans rfl; have hcz12_1 : w10.cell? ⟨gb101, 1, none⟩ = some (.slice A0_1 l0_1.length c0_1) := (blk_cell BK101.out 1).trans rfl; have hfz12_0 := blk_frozen BK101.out 0; have hfz12_1 := blk_frozen BK101.out 1)); try go_wp2_with (first | ((with_reducible refine gate_dst (N := 23) rfl ?_); (try (refine gate_guard (by rfl) ?_; dsimp only)); refine Kd.S_make (Kd.slice 3 (Kd.int .i64)) _ 29 rfl (N := 23) rfl 23 _ _ rfl (l0_0.length : Int) rfl rfl Try.underlying23 (.slice none 0 0) 24 info29 rfl (by decide) (by omega) [] (ok := fun _ => True) (okp := fun _ => True) ⟨_, rfl, Kd.R_nil _ _ _ _ _⟩ (fun _ hk => hk) trivial (of_decide_eq_true (by first | (with_reducible assumption) | assumption)) (Nat.le_trans (Nat.mul_le_mul_right _ (of_decide_eq_true (by first | (with_reducible assumption) | assumption) : (l0_0.length : Int).toNat ≤ 11728124029610)) (by omega)) (Below.refl _ _) (Nat.le_refl _) ?_; intro v103 w10 ho11 hb hg_ hnew_; clear hg_ hnew_; (first | rw [← Ny102.out] at ho11 | (simp only [Int.reduceToNat] at ho11; rw [← Ny102.out] at ho11)); have n0_ := Aside0.mk (Kd.S_lower ho11 (below_size (by repeat (first | (with_reducible first | exact HB.out | apply below_alloc | apply pw_below_drewN | apply below_drew1 | refine below_set ?_ GE101.out) | exact HB.out)))); have n1_ := Aside0.mk (blk_below (g := gb101) (o := .cells #[.slice A0_0 l0_0.length c0_0, .slice A0_1 l0_1.length c0_1] 25 (0, 0)) (by (with_reducible repeat (first | refine blk_drewN ?_ _ | refine blk_drew ?_ | refine blk_alloc ?_ _)); exact BK101.out) hb); have n2_ := Aside0.mk (below_step (by repeat (first | (with_reducible first | exact HB.out | apply below_alloc | apply pw_below_drewN | apply below_drew1 | refine below_set ?_ GE101.out) | exact HB.out)) hb); clear BK101; clear HB; have HO104 := n0_; have BK101 := n1_; have HB := n2_; clear n0_ n1_ n2_; clear hb ho11; have hcz12_0 : w10.cell? ⟨gb101, 0, none⟩ = some (.slice A0_0 l0_0.length c0_0) := (blk_cell BK101.out 0).trans rfl; have hcz12_1 : w10.cell? ⟨gb101, 1, none⟩ = some (.slice A0_1 l0_1.length c0_1) := (blk_cell BK101.out 1).trans rfl; have hfz12_0 := blk_frozen BK101.out 0; have hfz12_1 := blk_frozen BK101.out 1)))
            go_loopg [5, 27] kj1 (fun kq v5 v27 w' => ∃ (x4_2 : List (List Int)) (x5_2 : Int) (x27_2 : Int), v5 = .int .i64 x5_2 ∧ v27 = .int .i64 x27_2 ∧ Aside0 (cfg_Valid.l0 kq (l0_0.length : Int) x4_2 x5_2 l0_0 (l0_0.length : Int) x27_2 l0_0 l0_1 = some r) ∧ Aside0 (kq ≤ kj1) ∧ Aside0 (Kd.S (Kd.slice 3 (Kd.int .i64)) 29 w' w.heap.size (fun _ => True) v103 x4_2) ∧ Aside0 (w'.heap[gb101]? = some (.cells #[(.slice A0_0 l0_0.length c0_0), (.slice A0_1 l0_1.length c0_1)] 25 (0, 0))) ∧ Aside0 (Below w.heap.size w w'))
            case atStart => exact ⟨(y102), (0), (0), (by first | rfl | (simp; done) | (simp [*]; done)), (by first | rfl | (simp; done) | (simp [*]; done)), H', ⟨Nat.le_refl _⟩, ⟨by (with_reducible repeat (first | apply Kd.S_alloc | apply Kd.S_drewN | apply Kd.S_drew)); exact HO104.out⟩, ⟨by (with_reducible repeat (first | refine blk_drewN ?_ _ | refine blk_drew ?_ | refine blk_alloc ?_ _)); exact BK101.out⟩, ⟨by repeat (first | (with_reducible first | exact HB.out | apply below_alloc | apply pw_below_drewN | apply below_drew1 | refine below_set ?_ GE101.out) | exact HB.out)⟩⟩
            case round =>
              clear H'
              try clear c2
              try clear p2
              try clear c5
              try clear c5b0
              try clear c5b1
              try clear c5b2
              try clear c7
              try clear c8
              try clear c8b0
              try clear c8b1
              try clear c9
              try clear c9b0
              try clear c9b1
              try clear hcz12_0
              try clear hcz12_1
              try clear hcz4_0
              try clear hcz4_1
              try clear hcz6_0
              try clear hcz6_1
              try clear hfz12_0
              try clear hfz12_1
              try clear hfz4_0
              try clear hfz4_1
              try clear hfz6_0
              try clear hfz6_1
              try clear p2
              obtain ⟨x4_2, x5_2, x27_2, rfl, rfl, HA, HK2, HO_4, BK101, HB⟩ := hrel
              cases gk with
              | zero => exact absurd HA.out (by simp [cfg_Valid.l0])
              | succ k2 =>
                have H := HA.out
                clear HA
                simp only [cfg_Valid.l0] at H
                by_cases c13 : x27_2 < (l0_0.length : Int)
                · rw [if_pos c13] at H
                  have c13b0 : decide (x27_2 < (l0_0.length : Int)) = true := decide_eq_true c13
                  clear c13
                  by_cases c14 : 0 ≤ x27_2
                  · rw [if_pos c14] at H
                    have c14b0 : decide (0 ≤ x27_2) = true := decide_eq_true c14
                    clear c14
                    by_cases c15 : x27_2 < (l0_0.length : Int)
                    · rw [if_pos c15] at H
                      have c15b0 : decide (x27_2 < (l0_0.length : Int)) = true := decide_eq_true c15
                      clear c15
                      have HC16 := Aside0.mk H
                      clear H
                      have p106 : 0 ≤ (x27_2 : Int) := of_decide_eq_true (by first | (with_reducible assumption) | assumption)
                      have q106 : x27_2 < (l0_0.length : Int) := of_decide_eq_true (by first | (with_reducible assumption) | assumption)
                      obtain ⟨ad106, A106_2, c106_2, e106, hx106_0, hx106_1, hx106_2, hl106_2, hi106_2⟩ := at_T46 HR0_0.out x27_2 p106 q106
                      cases e106
                      replace hx106_0 := (HB.out.cell (World.block_lt_of_cell? w _ hx106_0)).trans hx106_0
                      replace hx106_1 := (HB.out.cell (World.block_lt_of_cell? w _ hx106_1)).trans hx106_1
                      replace hx106_2 := (HB.out.cell (World.block_lt_of_cell? w _ hx106_2)).trans hx106_2
                      have HR106_2 := Aside0.mk hi106_2
                      have HC106_2 := Aside0.mk hl106_2
                      clear hi106_2 hl106_2
                      replace p106 := eq_true p106
                      replace q106 := eq_true q106
                      go_upto_region 9 with (first | ((with_reducible refine gate_dst (N := 7) rfl ?_); (try (refine gate_guard (by rfl) ?_; dsimp only)); refine box_event ?hg (N := 7) ?hd (cs := #[.int .i64 0, .int .i64 0, .slice none 0 0]) (t := 46) ?hr ?_; (case hd => rfl); (case hg => rfl); (case hr => first | (go_simp; done) | (go_simp; rfl)); intro gb107 hg w17 hbox hb; have n0_ := Aside0.mk (Kd.S_below (by (with_reducible repeat (first | apply Kd.S_alloc | apply Kd.S_drewN | apply Kd.S_drew)); exact HO_4.out) hb); have n1_ := Aside0.mk (blk_below (g := gb101) (o := .cells #[.slice (some ad106) l0_0.length c0_0, .slice A0_1 l0_1.length c0_1] 25 (0, 0)) (by (with_reducible repeat (first | refine blk_drewN ?_ _ | refine blk_drew ?_ | refine blk_alloc ?_ _)); exact BK101.out) hb); have n2_ := Aside0.mk (below_step (by repeat (first | (with_reducible first | exact HB.out | apply below_alloc | apply pw_below_drewN | apply below_drew1 | refine below_set ?_ GE101.out) | exact HB.out)) hb); have n3_ := Aside0.mk (hbox); have n4_ := Aside0.mk ((by rw [hg]; exact (below_size (by repeat (first | (with_reducible first | exact HB.out | apply below_alloc | apply pw_below_drewN | apply below_drew1 | refine below_set ?_ GE101.out) | exact HB.out))) : w.heap.size ≤ gb107)); have n5_ := Aside0.mk ((by rw [hg]; exact (below_size (by repeat (first | (with_reducible first | exact HB.out | apply below_alloc | apply pw_below_drewN | apply below_drew1 | refine below_set ?_ GE101.out) | exact HB.out))) : w.heap.size ≤ gb107)); have n6_ := Aside0.mk ((by rw [hg]; exact Nat.ne_of_lt (blk_lt (g := gb101) (o := .cells #[.slice (some ad106) l0_0.length c0_0, .slice A0_1 l0_1.length c0_1] 25 (0, 0)) (by (with_reducible repeat (first | refine blk_drewN ?_ _ | refine blk_drew ?_ | refine blk_alloc ?_ _)); exact BK101.out)) : gb101 ≠ gb107)); have n7_ := Aside0.mk ((by rw [hg]; exact Nat.ne_of_gt (blk_lt (g := gb101) (o := .cells #[.slice (some ad106) l0_0.length c0_0, .slice A0_1 l0_1.length c0_1] 25 (0, 0)) (by (with_reducible repeat (first | refine blk_drewN ?_ _ | refine blk_drew ?_ | refine blk_alloc ?_ _)); exact BK101.out)) : gb107 ≠ gb101)); clear HO_4; clear BK101; clear HB; have HO_4 := n0_; have BK101 := n1_; have HB := n2_; have BK107 := n3_; have GW107 := n4_; have GE107 := n5_; have NB101_107 := n6_; have NB107_101 := n7_; clear n0_ n1_ n2_ n3_ n4_ n5_ n6_ n7_; clear hb hbox hg; have hnb18 := NB107_101.out; have hnc18 := NB101_107.out; have hcz19_0 : w17.cell? ⟨gb107, 0, none⟩ = some (.int .i64 0) := (blk_cell BK107.out 0).trans rfl; have hcz19_1 : w17.cell? ⟨gb107, 1, none⟩ = some (.int .i64 0) := (blk_cell BK107.out 1).trans rfl; have hcz19_2 : w17.cell? ⟨gb107, 2, none⟩ = some (.slice none 0 0) := (blk_cell BK107.out 2).trans rfl; have hfz19_0 := blk_frozen BK107.out 0; have hfz19_1 := blk_frozen BK107.out 1; have hfz19_2 := blk_frozen BK107.out 2))
                      repeat (go_quiet (first | ((with_reducible refine gate_dst (N := 7) rfl ?_); (try (refine gate_guard (by rfl) ?_; dsimp only)); refine box_event ?hg (N := 7) ?hd (cs := #[.int .i64 0, .int .i64 0, .slice none 0 0]) (t := 46) ?hr ?_; (case hd => rfl); (case hg => rfl); (case hr => first | (go_simp; done) | (go_simp; rfl)); intro gb107 hg w17 hbox hb; have n0_ := Aside0.mk (Kd.S_below (by (with_reducible repeat (first | apply Kd.S_alloc | apply Kd.S_drewN | apply Kd.S_drew)); exact HO_4.out) hb); have n1_ := Aside0.mk (blk_below (g := gb101) (o := .cells #[.slice (some ad106) l0_0.length c0_0, .slice A0_1 l0_1.length c0_1] 25 (0, 0)) (by (with_reducible repeat (first | refine blk_drewN ?_ _ | refine blk_drew ?_ | refine blk_alloc ?_ _)); exact BK101.out) hb); have n2_ := Aside0.mk (below_step (by repeat (first | (with_reducible first | exact HB.out | apply below_alloc | apply pw_below_drewN | apply below_drew1 | refine below_set ?_ GE101.out) | exact HB.out)) hb); have n3_ := Aside0.mk (hbox); have n4_ := Aside0.mk ((by rw [hg]; exact (below_size (by repeat (first | (with_reducible first | exact HB.out | apply below_alloc | apply pw_below_drewN | apply below_drew1 | refine below_set ?_ GE101.out) | exact HB.out))) : w.heap.size ≤ gb107)); have n5_ := Aside0.mk ((by rw [hg]; exact (below_size (by repeat (first | (with_reducible first | exact HB.out | apply below_alloc | apply pw_below_drewN | apply below_drew1 | refine below_set ?_ GE101.out) | exact HB.out))) : w.heap.size ≤ gb107)); have n6_ := Aside0.mk ((by rw [hg]; exact Nat.ne_of_lt (blk_lt (g := gb101) (o := .cells #[.slice (some ad106) l0_0.length c0_0, .slice A0_1 l0_1.length c0_1] 25 (0, 0)) (by (with_reducible repeat (first | refine blk_drewN ?_ _ | refine blk_drew ?_ | refine blk_alloc ?_ _)); exact BK101.out)) : gb101 ≠ gb107)); have n7_ := Aside0.mk ((by rw [hg]; exact Nat.ne_of_gt (blk_lt (g := gb101) (o := .cells #[.slice (some ad106) l0_0.length c0_0, .slice A0_1 l0_1.length c0_1] 25 (0, 0)) (by (with_reducible repeat (first | refine blk_drewN ?_ _ | refine blk_drew ?_ | refine blk_alloc ?_ _)); exact BK101.out)) : gb107 ≠ gb101)); clear HO_4; clear BK101; clear HB; have HO_4 := n0_; have BK101 := n1_; have HB := n2_; have BK107 := n3_; have GW107 := n4_; have GE107 := n5_; have NB101_107 := n6_; have NB107_101 := n7_; clear n0_ n1_ n2_ n3_ n4_ n5_ n6_ n7_; clear hb hbox hg; have hnb18 := NB107_101.out; have hnc18 := NB101_107.out; have hcz19_0 : w17.cell? ⟨gb107, 0, none⟩ = some (.int .i64 0) := (blk_cell BK107.out 0).trans rfl; have hcz19_1 : w17.cell? ⟨gb107, 1, none⟩ = some (.int .i64 0) := (blk_cell BK107.out 1).trans rfl; have hcz19_2 : w17.cell? ⟨gb107, 2, none⟩ = some (.slice none 0 0) := (blk_cell BK107.out 2).trans rfl; have hfz19_0 := blk_frozen BK107.out 0; have hfz19_1 := blk_frozen BK107.out 1; have hfz19_2 := blk_frozen BK107.out 2)); go_upto_region 9 with (first | ((with_reducible refine gate_dst (N := 7) rfl ?_); (try (refine gate_guard (by rfl) ?_; dsimp only)); refine box_event ?hg (N := 7) ?hd (cs := #[.int .i64 0, .int .i64 0, .slice none 0 0]) (t := 46) ?hr ?_; (case hd => rfl); (case hg => rfl); (case hr => first | (go_simp; done) | (go_simp; rfl)); intro gb107 hg w17 hbox hb; have n0_ := Aside0.mk (Kd.S_below (by (with_reducible repeat (first | apply Kd.S_alloc | apply Kd.S_drewN | apply Kd.S_drew)); exact HO_4.out) hb); have n1_ := Aside0.mk (blk_below (g := gb101) (o := .cells #[.slice (some ad106) l0_0.length c0_0, .slice A0_1 l0_1.length c0_1] 25 (0, 0)) (by (with_reducible repeat (first | refine blk_drewN ?_ _ | refine blk_drew ?_ | refine blk_alloc ?_ _)); exact BK101.out) hb); have n2_ := Aside0.mk (below_step (by repeat (first | (with_reducible first | exact HB.out | apply below_alloc | apply pw_below_drewN | apply below_drew1 | refine below_set ?_ GE101.out) | exact HB.out)) hb); have n3_ := Aside0.mk (hbox); have n4_ := Aside0.mk ((by rw [hg]; exact (below_size (by repeat (first | (with_reducible first | exact HB.out | apply below_alloc | apply pw_below_drewN | apply below_drew1 | refine below_set ?_ GE101.out) | exact HB.out))) : w.heap.size ≤ gb107)); have n5_ := Aside0.mk ((by rw [hg]; exact (below_size (by repeat (first | (with_reducible first | exact HB.out | apply below_alloc | apply pw_below_drewN | apply below_drew1 | refine below_set ?_ GE101.out) | exact HB.out))) : w.heap.size ≤ gb107)); have n6_ := Aside0.mk ((by rw [hg]; exact Nat.ne_of_lt (blk_lt (g := gb101) (o := .cells #[.slice (some ad106) l0_0.length c0_0, .slice A0_1 l0_1.length c0_1] 25 (0, 0)) (by (with_reducible repeat (first | refine blk_drewN ?_ _ | refine blk_drew ?_ | refine blk_alloc ?_ _)); exact BK101.out)) : gb101 ≠ gb107)); have n7_ := Aside0.mk ((by rw [hg]; exact Nat.ne_of_gt (blk_lt (g := gb101) (o := .cells #[.slice (some ad106) l0_0.length c0_0, .slice A0_1 l0_1.length c0_1] 25 (0, 0)) (by (with_reducible repeat (first | refine blk_drewN ?_ _ | refine blk_drew ?_ | refine blk_alloc ?_ _)); exact BK101.out)) : gb107 ≠ gb101)); clear HO_4; clear BK101; clear HB; have HO_4 := n0_; have BK101 := n1_; have HB := n2_; have BK107 := n3_; have GW107 := n4_; have GE107 := n5_; have NB101_107 := n6_; have NB107_101 := n7_; clear n0_ n1_ n2_ n3_ n4_ n5_ n6_ n7_; clear hb hbox hg; have hnb18 := NB107_101.out; have hnc18 := NB101_107.out; have hcz19_0 : w17.cell? ⟨gb107, 0, none⟩ = some (.int .i64 0) := (blk_cell BK107.out 0).trans rfl; have hcz19_1 : w17.cell? ⟨gb107, 1, none⟩ = some (.int .i64 0) := (blk_cell BK107.out 1).trans rfl; have hcz19_2 : w17.cell? ⟨gb107, 2, none⟩ = some (.slice none 0 0) := (blk_cell BK107.out 2).trans rfl; have hfz19_0 := blk_frozen BK107.out 0; have hfz19_1 := blk_frozen BK107.out 1; have hfz19_2 := blk_frozen BK107.out 2)))
                      (try simp only [Act.put, List.setIfInBounds_toArray, List.set_cons_zero, List.set_cons_succ])
                      go_cut [65] (fun v65 wc => ∃ (kq : Nat) (x65_15 : Bool), v65 = .bool x65_15 ∧ Aside0 (cfg_Valid.j2 kq (l0_0.length : Int) x4_2 x27_2 l0_0 (l0_0.length : Int) x27_2 x65_15 l0_0 l0_1 ((rd_T46 l0_0 x27_2).f0) ((rd_T46 l0_0 x27_2).f1) ((rd_T46 l0_0 x27_2).f2) = some r) ∧ Aside0 (kq ≤ k2) ∧ Aside0 (Kd.S (Kd.slice 3 (Kd.int .i64)) 29 wc w.heap.size (fun _ => True) v103 x4_2) ∧ Aside0 (wc.heap[gb101]? = some (.cells #[(.slice (some ad106) l0_0.length c0_0), (.slice A0_1 l0_1.length c0_1)] 25 (0, 0))) ∧ Aside0 (wc.heap[gb107]? = some (.cells #[.int .i64 ((rd_T46 l0_0 x27_2).f0), .int .i64 ((rd_T46 l0_0 x27_2).f1), (.slice A106_2 ((rd_T46 l0_0 x27_2).f2).length c106_2)] 46 (0, 0))) ∧ Aside0 (Below w.heap.size w wc))
                      case first =>
                        have H := HC16.out
                        clear HC16
                        by_cases c20 : ((rd_T46 l0_0 x27_2).f0) < x5_2
                        · rw [if_pos c20] at H
                          have c20b0 : decide (((rd_T46 l0_0 x27_2).f0) < x5_2) = true := decide_eq_true c20
                          clear c20
                          (first | rw [c20b0] | (simp only [i64_w, i32_w]; rw [c20b0]) | skip)
                          have H' := Aside0.mk H
                          clear H
                          have hnb21 := NB107_101.out
                          have hnc21 := NB101_107.out
                          have hcz22_0 : w17.cell? ⟨gb107, 0, none⟩ = some (.int .i64 0) := (blk_cell BK107.out 0).trans rfl
                          have hcz22_1 : w17.cell? ⟨gb107, 1, none⟩ = some (.int .i64 0) := (blk_cell BK107.out 1).trans rfl
                          have hcz22_2 : w17.cell? ⟨gb107, 2, none⟩ = some (.slice none 0 0) := (blk_cell BK107.out 2).trans rfl
                          have hfz22_0 := blk_frozen BK107.out 0
                          have hfz22_1 := blk_frozen BK107.out 1
                          have hfz22_2 := blk_frozen BK107.out 2
                          go_wp2
                          repeat (go_quiet (fail); try go_wp2)
                          go_meet
                          case rel => exact ⟨_, (true), (by first | rfl | (simp; done) | (simp [*]; done)), H', ⟨by have := HJ1.out; have := HK2.out; first | omega | exact Nat.le_refl _⟩, ⟨by (with_reducible repeat (first | apply Kd.S_alloc | apply Kd.S_drewN | apply Kd.S_drew)); exact Kd.S_mono (Kd.S_far (p := ⟨gb107, 2, none⟩) (Kd.S_far (p := ⟨gb107, 1, none⟩) (Kd.S_far (p := ⟨gb107, 0, none⟩) (Kd.S_types HO_4.out BK107.out (by decide)) (fun _ hk => hk.2) (.int .i64 ((rd_T46 l0_0 x27_2).f0))) (fun _ hk => hk.2) (.int .i64 ((rd_T46 l0_0 x27_2).f1))) (fun _ hk => hk.2) (.slice A106_2 ((rd_T46 l0_0 x27_2).f2).length c106_2)) (fun _ hk => trivial)⟩, ⟨by (with_reducible repeat (first | refine blk_drewN ?_ _ | refine blk_drew ?_ | refine blk_alloc ?_ _)); refine blk_far ?_ NB101_107.out _; (with_reducible repeat (first | refine blk_drewN ?_ _ | refine blk_drew ?_ | refine blk_alloc ?_ _)); refine blk_far ?_ NB101_107.out _; (with_reducible repeat (first | refine blk_drewN ?_ _ | refine blk_drew ?_ | refine blk_alloc ?_ _)); refine blk_far ?_ NB101_107.out _; (with_reducible repeat (first | refine blk_drewN ?_ _ | refine blk_drew ?_ | refine blk_alloc ?_ _)); exact BK101.out⟩, ⟨by (with_reducible repeat (first | refine blk_drewN ?_ _ | refine blk_drew ?_ | refine blk_alloc ?_ _)); refine blk_put (cs := #[.int .i64 ((rd_T46 l0_0 x27_2).f0), .int .i64 ((rd_T46 l0_0 x27_2).f1), .slice none 0 0]) ?_ 2 _ rfl; (with_reducible repeat (first | refine blk_drewN ?_ _ | refine blk_drew ?_ | refine blk_alloc ?_ _)); refine blk_put (cs := #[.int .i64 ((rd_T46 l0_0 x27_2).f0), .int .i64 0, .slice none 0 0]) ?_ 1 _ rfl; (with_reducible repeat (first | refine blk_drewN ?_ _ | refine blk_drew ?_ | refine blk_alloc ?_ _)); refine blk_put (cs := #[.int .i64 0, .int .i64 0, .slice none 0 0]) ?_ 0 _ rfl; (with_reducible repeat (first | refine blk_drewN ?_ _ | refine blk_drew ?_ | refine blk_alloc ?_ _)); exact BK107.out⟩, ⟨by repeat (first | (with_reducible first | exact HB.out | apply below_alloc | apply pw_below_drewN | apply below_drew1 | refine below_set ?_ GE101.out | refine below_set ?_ GE107.out) | exact HB.out)⟩⟩
                        · rw [if_neg c20] at H
                          have c20b0 : decide (((rd_T46 l0_0 x27_2).f0) < x5_2) = false := decide_eq_false c20
                          clear c20
                          (first | rw [c20b0] | (simp only [i64_w, i32_w]; rw [c20b0]) | skip)
                          by_cases c23 : ((rd_T46 l0_0 x27_2).f1) ≤ ((rd_T46 l0_0 x27_2).f0)
                          · rw [if_pos c23] at H
                            have c23b0 : decide (((rd_T46 l0_0 x27_2).f1) ≤ ((rd_T46 l0_0 x27_2).f0)) = true := decide_eq_true c23
                            clear c23
                            have H' := Aside0.mk H
                            clear H
                            have hnb24 := NB107_101.out
                            have hnc24 := NB101_107.out
                            have hcz25_0 : w17.cell? ⟨gb107, 0, none⟩ = some (.int .i64 0) := (blk_cell BK107.out 0).trans rfl
                            have hcz25_1 : w17.cell? ⟨gb107, 1, none⟩ = some (.int .i64 0) := (blk_cell BK107.out 1).trans rfl
                            have hcz25_2 : w17.cell? ⟨gb107, 2, none⟩ = some (.slice none 0 0) := (blk_cell BK107.out 2).trans rfl
                            have hfz25_0 := blk_frozen BK107.out 0
                            have hfz25_1 := blk_frozen BK107.out 1
                            have hfz25_2 := blk_frozen BK107.out 2
                            go_wp2
                            repeat (go_quiet (fail); try go_wp2)
                            go_meet
                            case rel => exact ⟨_, (true), (by first | rfl | (simp; done) | (simp [*]; done)), H', ⟨by have := HJ1.out; have := HK2.out; first | omega | exact Nat.le_refl _⟩, ⟨by (with_reducible repeat (first | apply Kd.S_alloc | apply Kd.S_drewN | apply Kd.S_drew)); exact Kd.S_mono (Kd.S_far (p := ⟨gb107, 2, none⟩) (Kd.S_far (p := ⟨gb107, 1, none⟩) (Kd.S_far (p := ⟨gb107, 0, none⟩) (Kd.S_types HO_4.out BK107.out (by decide)) (fun _ hk => hk.2) (.int .i64 ((rd_T46 l0_0 x27_2).f0))) (fun _ hk => hk.2) (.int .i64 ((rd_T46 l0_0 x27_2).f1))) (fun _ hk => hk.2) (.slice A106_2 ((rd_T46 l0_0 x27_2).f2).length c106_2)) (fun _ hk => trivial)⟩, ⟨by (with_reducible repeat (first | refine blk_drewN ?_ _ | refine blk_drew ?_ | refine blk_alloc ?_ _)); refine blk_far ?_ NB101_107.out _; (with_reducible repeat (first | refine blk_drewN ?_ _ | refine blk_drew ?_ | refine blk_alloc ?_ _)); refine blk_far ?_ NB101_107.out _; (with_reducible repeat (first | refine blk_drewN ?_ _ | refine blk_drew ?_ | refine blk_alloc ?_ _)); refine blk_far ?_ NB101_107.out _; (with_reducible repeat (first | refine blk_drewN ?_ _ | refine blk_drew ?_ | refine blk_alloc ?_ _)); exact BK101.out⟩, ⟨by (with_reducible repeat (first | refine blk_drewN ?_ _ | refine blk_drew ?_ | refine blk_alloc ?_ _)); refine blk_put (cs := #[.int .i64 ((rd_T46 l0_0 x27_2).f0), .int .i64 ((rd_T46 l0_0 x27_2).f1), .slice none 0 0]) ?_ 2 _ rfl; (with_reducible repeat (first | refine blk_drewN ?_ _ | refine blk_drew ?_ | refine blk_alloc ?_ _)); refine blk_put (cs := #[.int .i64 ((rd_T46 l0_0 x27_2).f0), .int .i64 0, .slice none 0 0]) ?_ 1 _ rfl; (with_reducible repeat (first | refine blk_drewN ?_ _ | refine blk_drew ?_ | refine blk_alloc ?_ _)); refine blk_put (cs := #[.int .i64 0, .int .i64 0, .slice none 0 0]) ?_ 0 _ rfl; (with_reducible repeat (first | refine blk_drewN ?_ _ | refine blk_drew ?_ | refine blk_alloc ?_ _)); exact BK107.out⟩, ⟨by repeat (first | (with_reducible first | exact HB.out | apply below_alloc | apply pw_below_drewN | apply below_drew1 | refine below_set ?_ GE101.out | refine below_set ?_ GE107.out) | exact HB.out)⟩⟩
                          · rw [if_neg c23] at H
                            have c23b0 : decide (((rd_T46 l0_0 x27_2).f1) ≤ ((rd_T46 l0_0 x27_2).f0)) = false := decide_eq_false c23
                            clear c23
                            by_cases c26 : (((rd_T46 l0_0 x27_2).f2).length : Int) > 2
                            · rw [if_pos c26] at H
                              have c26b0 : decide (2 < (((rd_T46 l0_0 x27_2).f2).length : Int)) = true := decide_eq_true c26
                              have c26b1 : decide (2 < ((rd_T46 l0_0 x27_2).f2).length) = true := decide_eq_true (by omega)
                              clear c26
                              have H' := Aside0.mk H
                              clear H
                              have hnb27 := NB107_101.out
                              have hnc27 := NB101_107.out
                              have hcz28_0 : w17.cell? ⟨gb107, 0, none⟩ = some (.int .i64 0) := (blk_cell BK107.out 0).trans rfl
                              have hcz28_1 : w17.cell? ⟨gb107, 1, none⟩ = some (.int .i64 0) := (blk_cell BK107.out 1).trans rfl
                              have hcz28_2 : w17.cell? ⟨gb107, 2, none⟩ = some (.slice none 0 0) := (blk_cell BK107.out 2).trans rfl
                              have hfz28_0 := blk_frozen BK107.out 0
                              have hfz28_1 := blk_frozen BK107.out 1
                              have hfz28_2 := blk_frozen BK107.out 2
                              go_wp2
                              repeat (go_quiet (fail); try go_wp2)
                              go_meet
                              case rel => exact ⟨_, (true), (by first | rfl | (simp; done) | (simp [*]; done)), H', ⟨by have := HJ1.out; have := HK2.out; first | omega | exact Nat.le_refl _⟩, ⟨by (with_reducible repeat (first | apply Kd.S_alloc | apply Kd.S_drewN | apply Kd.S_drew)); exact Kd.S_mono (Kd.S_far (p := ⟨gb107, 2, none⟩) (Kd.S_far (p := ⟨gb107, 1, none⟩) (Kd.S_far (p := ⟨gb107, 0, none⟩) (Kd.S_types HO_4.out BK107.out (by decide)) (fun _ hk => hk.2) (.int .i64 ((rd_T46 l0_0 x27_2).f0))) (fun _ hk => hk.2) (.int .i64 ((rd_T46 l0_0 x27_2).f1))) (fun _ hk => hk.2) (.slice A106_2 ((rd_T46 l0_0 x27_2).f2).length c106_2)) (fun _ hk => trivial)⟩, ⟨by (with_reducible repeat (first | refine blk_drewN ?_ _ | refine blk_drew ?_ | refine blk_alloc ?_ _)); refine blk_far ?_ NB101_107.out _; (with_reducible repeat (first | refine blk_drewN ?_ _ | refine blk_drew ?_ | refine blk_alloc ?_ _)); refine blk_far ?_ NB101_107.out _; (with_reducible repeat (first | refine blk_drewN ?_ _ | refine blk_drew ?_ | refine blk_alloc ?_ _)); refine blk_far ?_ NB101_107.out _; (with_reducible repeat (first | refine blk_drewN ?_ _ | refine blk_drew ?_ | refine blk_alloc ?_ _)); exact BK101.out⟩, ⟨by (with_reducible repeat (first | refine blk_drewN ?_ _ | refine blk_drew ?_ | refine blk_alloc ?_ _)); refine blk_put (cs := #[.int .i64 ((rd_T46 l0_0 x27_2).f0), .int .i64 ((rd_T46 l0_0 x27_2).f1), .slice none 0 0]) ?_ 2 _ rfl; (with_reducible repeat (first | refine blk_drewN ?_ _ | refine blk_drew ?_ | refine blk_alloc ?_ _)); refine blk_put (cs := #[.int .i64 ((rd_T46 l0_0 x27_2).f0), .int .i64 0, .slice none 0 0]) ?_ 1 _ rfl; (with_reducible repeat (first | refine blk_drewN ?_ _ | refine blk_drew ?_ | refine blk_alloc ?_ _)); refine blk_put (cs := #[.int .i64 0, .int .i64 0, .slice none 0 0]) ?_ 0 _ rfl; (with_reducible repeat (first | refine blk_drewN ?_ _ | refine blk_drew ?_ | refine blk_alloc ?_ _)); exact BK107.out⟩, ⟨by repeat (first | (with_reducible first | exact HB.out | apply below_alloc | apply pw_below_drewN | apply below_drew1 | refine below_set ?_ GE101.out | refine below_set ?_ GE107.out) | exact HB.out)⟩⟩
                            · rw [if_neg c26] at H
                              have c26b0 : decide (2 < (((rd_T46 l0_0 x27_2).f2).length : Int)) = false := decide_eq_false c26
                              have c26b1 : decide (2 < ((rd_T46 l0_0 x27_2).f2).length) = false := decide_eq_false (by omega)
                              clear c26
                              by_cases c29 : (((rd_T46 l0_0 x27_2).f2).length : Int) = 2
                              · rw [if_pos c29] at H
                                have c29b0 : ((((rd_T46 l0_0 x27_2).f2).length : Int) == 2) = true := beq_iff_eq.mpr c29
                                have c29b1 : ((((rd_T46 l0_0 x27_2).f2).length : Int) != 2) = false := bne_eq_false_iff_eq.mpr c29
                                clear c29
                                by_cases c30 : 0 < (((rd_T46 l0_0 x27_2).f2).length : Int)
                                · rw [if_pos c30] at H
                                  have c30b0 : decide (0 < (((rd_T46 l0_0 x27_2).f2).length : Int)) = true := decide_eq_true c30
                                  have c30b1 : decide (0 < ((rd_T46 l0_0 x27_2).f2).length) = true := decide_eq_true (by omega)
                                  clear c30
                                  by_cases c31 : 1 < (((rd_T46 l0_0 x27_2).f2).length : Int)
                                  · rw [if_pos c31] at H
                                    have c31b0 : decide (1 < (((rd_T46 l0_0 x27_2).f2).length : Int)) = true := decide_eq_true c31
                                    have c31b1 : decide (1 < ((rd_T46 l0_0 x27_2).f2).length) = true := decide_eq_true (by omega)
                                    clear c31
                                    have H' := Aside0.mk H
                                    clear H
                                    have hnb32 := NB107_101.out
                                    have hnc32 := NB101_107.out
                                    have hcz33_0 : w17.cell? ⟨gb107, 0, none⟩ = some (.int .i64 0) := (blk_cell BK107.out 0).trans rfl
                                    have hcz33_1 : w17.cell? ⟨gb107, 1, none⟩ = some (.int .i64 0) := (blk_cell BK107.out 1).trans rfl
                                    have hcz33_2 : w17.cell? ⟨gb107, 2, none⟩ = some (.slice none 0 0) := (blk_cell BK107.out 2).trans rfl
                                    have hfz33_0 := blk_frozen BK107.out 0
                                    have hfz33_1 := blk_frozen BK107.out 1
                                    have hfz33_2 := blk_frozen BK107.out 2
                                    have p108 : 0 ≤ (0 : Int) := (by omega)
                                    have q108 : 0 < (((rd_T46 l0_0 x27_2).f2).length : Int) := of_decide_eq_true (by first | (with_reducible assumption) | assumption)
                                    obtain ⟨ad108, e108, hx108_0⟩ := Kd.at_int HR106_2.out 0 p108 q108
                                    cases e108
                                    have qi108 : (0 < ((rd_T46 l0_0 x27_2).f2).length) = True := eq_true (by omega)
                                    (try rw [show ((0 : Int)).toNat = 0 from rfl] at hx108_0)
                                    (try rw [Addr.add_zero'] at hx108_0)
                                    have hn108_0 : ad108.block ≠ gb107 := Nat.ne_of_lt (Nat.lt_of_lt_of_le (by have := World.block_lt_of_cell? _ _ hx108_0; first | rwa [add_block] at this | exact this) GW107.out)
                                    have hn108_1 : ad108.block ≠ gb107 := Nat.ne_of_lt (Nat.lt_of_lt_of_le (by have := World.block_lt_of_cell? _ _ hx108_0; first | rwa [add_block] at this | exact this) GW107.out)
                                    have hn108_2 : ad108.block ≠ gb107 := Nat.ne_of_lt (Nat.lt_of_lt_of_le (by have := World.block_lt_of_cell? _ _ hx108_0; first | rwa [add_block] at this | exact this) GW107.out)
                                    replace hx108_0 := (HB.out.cell (World.block_lt_of_cell? w _ hx108_0)).trans hx108_0
                                    replace hx108_0 := (cell_far (p := ⟨gb107, 0, none⟩) (by first | (rw [add_block]; exact hn108_0) | (show (Addr.add _ _).block ≠ _; rw [add_block]; exact hn108_0) | exact hn108_0) (.int .i64 ((rd_T46 l0_0 x27_2).f0))).trans hx108_0
                                    replace hx108_0 := (cell_far (p := ⟨gb107, 1, none⟩) (by first | (rw [add_block]; exact hn108_1) | (show (Addr.add _ _).block ≠ _; rw [add_block]; exact hn108_1) | exact hn108_1) (.int .i64 ((rd_T46 l0_0 x27_2).f1))).trans hx108_0
                                    replace hx108_0 := (cell_far (p := ⟨gb107, 2, none⟩) (by first | (rw [add_block]; exact hn108_2) | (show (Addr.add _ _).block ≠ _; rw [add_block]; exact hn108_2) | exact hn108_2) (.slice (some ad108) ((rd_T46 l0_0 x27_2).f2).length c106_2)).trans hx108_0
                                    (try have hy108_0 := fun (n_ : Nat) => (show (((((w17.drewN n_).setCell ⟨gb107, 0, none⟩ (.int .i64 ((rd_T46 l0_0 x27_2).f0))).setCell ⟨gb107, 1, none⟩ (.int .i64 ((rd_T46 l0_0 x27_2).f1))).setCell ⟨gb107, 2, none⟩ (.slice (some ad108) ((rd_T46 l0_0 x27_2).f2).length c106_2))).cell? _ = some _ from hx108_0))
                                    clear hn108_0
                                    clear hn108_1
                                    clear hn108_2
                                    replace p108 := eq_true p108
                                    replace q108 := eq_true q108
                                    have p109 : 0 ≤ (1 : Int) := (by omega)
                                    have q109 : 1 < (((rd_T46 l0_0 x27_2).f2).length : Int) := of_decide_eq_true (by first | (with_reducible assumption) | assumption)
                                    obtain ⟨ad109, e109, hx109_0⟩ := Kd.at_int HR106_2.out 1 p109 q109
                                    obtain rfl : ad108 = ad109 := (by injection e109)
                                    (try simp only [show (1 : Int).toNat = 1 from rfl, Nat.reduceMul, Nat.reduceEqDiff, Go.Addr.add, ↓reduceIte] at hx109_0)
                                    have qi109 : (1 < ((rd_T46 l0_0 x27_2).f2).length) = True := eq_true (by omega)
                                    (try rw [show ((1 : Int)).toNat = 1 from rfl] at hx109_0)
                                    have hn109_0 : ad108.block ≠ gb107 := Nat.ne_of_lt (Nat.lt_of_lt_of_le (by have := World.block_lt_of_cell? _ _ hx109_0; first | rwa [add_block] at this | exact this) GW107.out)
                                    have hn109_1 : ad108.block ≠ gb107 := Nat.ne_of_lt (Nat.lt_of_lt_of_le (by have := World.block_lt_of_cell? _ _ hx109_0; first | rwa [add_block] at this | exact this) GW107.out)
                                    have hn109_2 : ad108.block ≠ gb107 := Nat.ne_of_lt (Nat.lt_of_lt_of_le (by have := World.block_lt_of_cell? _ _ hx109_0; first | rwa [add_block] at this | exact this) GW107.out)
                                    replace hx109_0 := (HB.out.cell (World.block_lt_of_cell? w _ hx109_0)).trans hx109_0
                                    replace hx109_0 := (cell_far (p := ⟨gb107, 0, none⟩) (by first | (rw [add_block]; exact hn109_0) | (show (Addr.add _ _).block ≠ _; rw [add_block]; exact hn109_0) | exact hn109_0) (.int .i64 ((rd_T46 l0_0 x27_2).f0))).trans hx109_0
                                    replace hx109_0 := (cell_far (p := ⟨gb107, 1, none⟩) (by first | (rw [add_block]; exact hn109_1) | (show (Addr.add _ _).block ≠ _; rw [add_block]; exact hn109_1) | exact hn109_1) (.int .i64 ((rd_T46 l0_0 x27_2).f1))).trans hx109_0
                                    replace hx109_0 := (cell_far (p := ⟨gb107, 2, none⟩) (by first | (rw [add_block]; exact hn109_2) | (show (Addr.add _ _).block ≠ _; rw [add_block]; exact hn109_2) | exact hn109_2) (.slice (some ad108) ((rd_T46 l0_0 x27_2).f2).length c106_2)).trans hx109_0
                                    (try have hy109_0 := fun (n_ : Nat) => (show (((((w17.drewN n_).setCell ⟨gb107, 0, none⟩ (.int .i64 ((rd_T46 l0_0 x27_2).f0))).setCell ⟨gb107, 1, none⟩ (.int .i64 ((rd_T46 l0_0 x27_2).f1))).setCell ⟨gb107, 2, none⟩ (.slice (some ad108) ((rd_T46 l0_0 x27_2).f2).length c106_2))).cell? _ = some _ from hx109_0))
                                    clear hn109_0
                                    clear hn109_1
                                    clear hn109_2
                                    replace p109 := eq_true p109
                                    replace q109 := eq_true q109
                                    go_wp2
                                    repeat (go_quiet (fail); try go_wp2)
                                    go_meet
                                    case rel => exact ⟨_, (((rd ((rd_T46 l0_0 x27_2).f2) 0) == (rd ((rd_T46 l0_0 x27_2).f2) 1))), (by first | rfl | (simp; done) | (simp [*]; done)), H', ⟨by have := HJ1.out; have := HK2.out; first | omega | exact Nat.le_refl _⟩, ⟨by (with_reducible repeat (first | apply Kd.S_alloc | apply Kd.S_drewN | apply Kd.S_drew)); exact Kd.S_mono (Kd.S_far (p := ⟨gb107, 2, none⟩) (Kd.S_far (p := ⟨gb107, 1, none⟩) (Kd.S_far (p := ⟨gb107, 0, none⟩) (Kd.S_types HO_4.out BK107.out (by decide)) (fun _ hk => hk.2) (.int .i64 ((rd_T46 l0_0 x27_2).f0))) (fun _ hk => hk.2) (.int .i64 ((rd_T46 l0_0 x27_2).f1))) (fun _ hk => hk.2) (.slice (some ad108) ((rd_T46 l0_0 x27_2).f2).length c106_2)) (fun _ hk => trivial)⟩, ⟨by (with_reducible repeat (first | refine blk_drewN ?_ _ | refine blk_drew ?_ | refine blk_alloc ?_ _)); refine blk_far ?_ NB101_107.out _; (with_reducible repeat (first | refine blk_drewN ?_ _ | refine blk_drew ?_ | refine blk_alloc ?_ _)); refine blk_far ?_ NB101_107.out _; (with_reducible repeat (first | refine blk_drewN ?_ _ | refine blk_drew ?_ | refine blk_alloc ?_ _)); refine blk_far ?_ NB101_107.out _; (with_reducible repeat (first | refine blk_drewN ?_ _ | refine blk_drew ?_ | refine blk_alloc ?_ _)); exact BK101.out⟩, ⟨by (with_reducible repeat (first | refine blk_drewN ?_ _ | refine blk_drew ?_ | refine blk_alloc ?_ _)); refine blk_put (cs := #[.int .i64 ((rd_T46 l0_0 x27_2).f0), .int .i64 ((rd_T46 l0_0 x27_2).f1), .slice none 0 0]) ?_ 2 _ rfl; (with_reducible repeat (first | refine blk_drewN ?_ _ | refine blk_drew ?_ | refine blk_alloc ?_ _)); refine blk_put (cs := #[.int .i64 ((rd_T46 l0_0 x27_2).f0), .int .i64 0, .slice none 0 0]) ?_ 1 _ rfl; (with_reducible repeat (first | refine blk_drewN ?_ _ | refine blk_drew ?_ | refine blk_alloc ?_ _)); refine blk_put (cs := #[.int .i64 0, .int .i64 0, .slice none 0 0]) ?_ 0 _ rfl; (with_reducible repeat (first | refine blk_drewN ?_ _ | refine blk_drew ?_ | refine blk_alloc ?_ _)); exact BK107.out⟩, ⟨by repeat (first | (with_reducible first | exact HB.out | apply below_alloc | apply pw_below_drewN | apply below_drew1 | refine below_set ?_ GE101.out | refine below_set ?_ GE107.out) | exact HB.out)⟩⟩
                                  · rw [if_neg c31] at H
                                    exact absurd H (by simp)
                                · rw [if_neg c30] at H
                                  exact absurd H (by simp)
                              · rw [if_neg c29] at H
                                have c29b0 : ((((rd_T46 l0_0 x27_2).f2).length : Int) == 2) = false := beq_eq_false_iff_ne.mpr c29
                                have c29b1 : ((((rd_T46 l0_0 x27_2).f2).length : Int) != 2) = true := bne_iff_ne.mpr c29
                                have H' := Aside0.mk H
                                clear H
                                have hnb34 := NB107_101.out
                                have hnc34 := NB101_107.out
                                have hcz35_0 : w17.cell? ⟨gb107, 0, none⟩ = some (.int .i64 0) := (blk_cell BK107.out 0).trans rfl
                                have hcz35_1 : w17.cell? ⟨gb107, 1, none⟩ = some (.int .i64 0) := (blk_cell BK107.out 1).trans rfl
                                have hcz35_2 : w17.cell? ⟨gb107, 2, none⟩ = some (.slice none 0 0) := (blk_cell BK107.out 2).trans rfl
                                have hfz35_0 := blk_frozen BK107.out 0
                                have hfz35_1 := blk_frozen BK107.out 1
                                have hfz35_2 := blk_frozen BK107.out 2
                                go_wp2
                                repeat (go_quiet (fail); try go_wp2)
                                go_meet
                                case rel => exact ⟨_, (false), (by first | rfl | (simp; done) | (simp [*]; done)), H', ⟨by have := HJ1.out; have := HK2.out; first | omega | exact Nat.le_refl _⟩, ⟨by (with_reducible repeat (first | apply Kd.S_alloc | apply Kd.S_drewN | apply Kd.S_drew)); exact Kd.S_mono (Kd.S_far (p := ⟨gb107, 2, none⟩) (Kd.S_far (p := ⟨gb107, 1, none⟩) (Kd.S_far (p := ⟨gb107, 0, none⟩) (Kd.S_types HO_4.out BK107.out (by decide)) (fun _ hk => hk.2) (.int .i64 ((rd_T46 l0_0 x27_2).f0))) (fun _ hk => hk.2) (.int .i64 ((rd_T46 l0_0 x27_2).f1))) (fun _ hk => hk.2) (.slice A106_2 ((rd_T46 l0_0 x27_2).f2).length c106_2)) (fun _ hk => trivial)⟩, ⟨by (with_reducible repeat (first | refine blk_drewN ?_ _ | refine blk_drew ?_ | refine blk_alloc ?_ _)); refine blk_far ?_ NB101_107.out _; (with_reducible repeat (first | refine blk_drewN ?_ _ | refine blk_drew ?_ | refine blk_alloc ?_ _)); refine blk_far ?_ NB101_107.out _; (with_reducible repeat (first | refine blk_drewN ?_ _ | refine blk_drew ?_ | refine blk_alloc ?_ _)); refine blk_far ?_ NB101_107.out _; (with_reducible repeat (first | refine blk_drewN ?_ _ | refine blk_drew ?_ | refine blk_alloc ?_ _)); exact BK101.out⟩, ⟨by (with_reducible repeat (first | refine blk_drewN ?_ _ | refine blk_drew ?_ | refine blk_alloc ?_ _)); refine blk_put (cs := #[.int .i64 ((rd_T46 l0_0 x27_2).f0), .int .i64 ((rd_T46 l0_0 x27_2).f1), .slice none 0 0]) ?_ 2 _ rfl; (with_reducible repeat (first | refine blk_drewN ?_ _ | refine blk_drew ?_ | refine blk_alloc ?_ _)); refine blk_put (cs := #[.int .i64 ((rd_T46 l0_0 x27_2).f0), .int .i64 0, .slice none 0 0]) ?_ 1 _ rfl; (with_reducible repeat (first | refine blk_drewN ?_ _ | refine blk_drew ?_ | refine blk_alloc ?_ _)); refine blk_put (cs := #[.int .i64 0, .int .i64 0, .slice none 0 0]) ?_ 0 _ rfl; (with_reducible repeat (first | refine blk_drewN ?_ _ | refine blk_drew ?_ | refine blk_alloc ?_ _)); exact BK107.out⟩, ⟨by repeat (first | (with_reducible first | exact HB.out | apply below_alloc | apply pw_below_drewN | apply below_drew1 | refine below_set ?_ GE101.out | refine below_set ?_ GE107.out) | exact HB.out)⟩⟩
                      case rest =>
                        clear HC16
                        try clear c1
                        try clear p1
                        try clear q1
                        try clear hx1
                        try clear qi1
                        try clear c2
                        try clear p2
                        try clear c3
                        try clear c5
                        try clear c5b0
                        try clear c5b1
                        try clear c5b2
                        try clear c7
                        try clear c8
                        try clear c8b0
                        try clear c8b1
                        try clear c9
                        try clear c9b0
                        try clear c9b1
                        try clear c10
                        try clear p10
                        try clear q10
                        try clear hx10
                        try clear qi10
                        try clear c13
                        try clear c13b0
                        try clear c14
                        try clear c14b0
                        try clear c15
                        try clear c15b0
                        try clear c18
                        try clear c20
                        try clear c20b0
                        try clear c21
                        try clear c23
                        try clear c23b0
                        try clear c24
                        try clear c26
                        try clear c26b0
                        try clear c26b1
                        try clear c27
                        try clear c28
                        try clear c29
                        try clear c29b0
                        try clear c29b1
                        try clear c30
                        try clear c30b0
                        try clear c30b1
                        try clear c31
                        try clear c31b0
                        try clear c31b1
                        try clear c32
                        try clear c34
                        try clear hcz12_0
                        try clear hcz12_1
                        try clear hcz19_0
                        try clear hcz19_1
                        try clear hcz19_2
                        try clear hcz22_0
                        try clear hcz22_1
                        try clear hcz22_2
                        try clear hcz25_0
                        try clear hcz25_1
                        try clear hcz25_2
                        try clear hcz28_0
                        try clear hcz28_1
                        try clear hcz28_2
                        try clear hcz33_0
                        try clear hcz33_1
                        try clear hcz33_2
                        try clear hcz35_0
                        try clear hcz35_1
                        try clear hcz35_2
                        try clear hcz4_0
                        try clear hcz4_1
                        try clear hcz6_0
                        try clear hcz6_1
                        try clear hfz12_0
                        try clear hfz12_1
                        try clear hfz19_0
                        try clear hfz19_1
                        try clear hfz19_2
                        try clear hfz22_0
                        try clear hfz22_1
                        try clear hfz22_2
                        try clear hfz25_0
                        try clear hfz25_1
                        try clear hfz25_2
                        try clear hfz28_0
                        try clear hfz28_1
                        try clear hfz28_2
                        try clear hfz33_0
                        try clear hfz33_1
                        try clear hfz33_2
                        try clear hfz35_0
                        try clear hfz35_1
                        try clear hfz35_2
                        try clear hfz4_0
                        try clear hfz4_1
                        try clear hfz6_0
                        try clear hfz6_1
                        try clear hx106_0
                        try clear hx106_1
                        try clear hx106_2
                        try clear hx108_0
                        try clear hx109_0
                        try clear p106
                        try clear p108
                        try clear p109
                        try clear p2
                        try clear q106
                        try clear q108
                        try clear q109
                        obtain ⟨kq, x65_15, rfl, HA, HJ15, HO_4, BK101, BK107, HB⟩ := hcut
                        cases kq with
                        | zero => exact absurd HA.out (by simp [cfg_Valid.j2])
                        | succ kj15 =>
                          have H := HA.out
                          clear HA
                          simp only [cfg_Valid.j2] at H
                          by_cases c36 : x65_15 = true
                          · subst c36
                            have H1 : (some false) = some r := by rw [if_pos rfl] at H; exact H
                            clear H
                            have H := H1
                            clear H1
                            obtain rfl := Option.some.inj H
                            go_wp2
                            repeat (go_quiet (fail); try go_wp2)
                            go_ret
                            exact ⟨by first | rfl | (simp [errW_none, errW_some] <;> rfl) | (simp [*, errW_none, errW_some] <;> rfl), by repeat (first | (with_reducible first | exact HB.out | apply below_alloc | apply pw_below_drewN | apply below_drew1 | refine below_set ?_ GE101.out | refine below_set ?_ GE107.out) | exact HB.out)⟩
                          · replace c36 := Bool.eq_false_iff.mpr c36
                            subst c36
                            have H1 : (cfg_Valid.l1 kj15 (l0_0.length : Int) x4_2 ((rd_T46 l0_0 x27_2).f1) x27_2 l0_0 (l0_0.length : Int) x27_2 ((rd_T46 l0_0 x27_2).f2) (((rd_T46 l0_0 x27_2).f2).length : Int) 0 l0_0 l0_1) = some r := by rw [if_neg (show ¬ (false = true) by decide)] at H; exact H
                            clear H
                            have H := H1
                            clear H1
                            have H' := Aside0.mk H
                            clear H
                            have hnb37 := NB107_101.out
                            have hnc37 := NB101_107.out
                            have hcz38_0 : wc.cell? ⟨gb107, 0, none⟩ = some (.int .i64 ((rd_T46 l0_0 x27_2).f0)) := (blk_cell BK107.out 0).trans rfl
                            have hcz38_1 : wc.cell? ⟨gb107, 1, none⟩ = some (.int .i64 ((rd_T46 l0_0 x27_2).f1)) := (blk_cell BK107.out 1).trans rfl
                            have hcz38_2 : wc.cell? ⟨gb107, 2, none⟩ = some (.slice A106_2 ((rd_T46 l0_0 x27_2).f2).length c106_2) := (blk_cell BK107.out 2).trans rfl
                            have hfz38_0 := blk_frozen BK107.out 0
                            have hfz38_1 := blk_frozen BK107.out 1
                            have hfz38_2 := blk_frozen BK107.out 2
                            go_wp2
                            repeat (go_quiet (fail); try go_wp2)
                            go_loopg [71] kj15 (fun kq v71 w' => ∃ (x4_4 : List (List Int)) (x71_4 : Int), v71 = .int .i64 x71_4 ∧ Aside0 (cfg_Valid.l1 kq (l0_0.length : Int) x4_4 ((rd_T46 l0_0 x27_2).f1) x27_2 l0_0 (l0_0.length : Int) x27_2 ((rd_T46 l0_0 x27_2).f2) (((rd_T46 l0_0 x27_2).f2).length : Int) x71_4 l0_0 l0_1 = some r) ∧ Aside0 (kq ≤ kj15) ∧ Aside0 (Kd.S (Kd.slice 3 (Kd.int .i64)) 29 w' w.heap.size (fun _ => True) v103 x4_4) ∧ Aside0 (w'.heap[gb101]? = some (.cells #[(.slice (some ad106) l0_0.length c0_0), (.slice A0_1 l0_1.length c0_1)] 25 (0, 0))) ∧ Aside0 (w'.heap[gb107]? = some (.cells #[.int .i64 ((rd_T46 l0_0 x27_2).f0), .int .i64 ((rd_T46 l0_0 x27_2).f1), (.slice A106_2 ((rd_T46 l0_0 x27_2).f2).length c106_2)] 46 (0, 0))) ∧ Aside0 (Below w.heap.size w w'))
                            case atStart => exact ⟨(x4_2), (0), (by first | rfl | (simp; done) | (simp [*]; done)), H', ⟨Nat.le_refl _⟩, ⟨by (with_reducible repeat (first | apply Kd.S_alloc | apply Kd.S_drewN | apply Kd.S_drew)); exact HO_4.out⟩, ⟨by (with_reducible repeat (first | refine blk_drewN ?_ _ | refine blk_drew ?_ | refine blk_alloc ?_ _)); exact BK101.out⟩, ⟨by (with_reducible repeat (first | refine blk_drewN ?_ _ | refine blk_drew ?_ | refine blk_alloc ?_ _)); exact BK107.out⟩, ⟨by repeat (first | (with_reducible first | exact HB.out | apply below_alloc | apply pw_below_drewN | apply below_drew1 | refine below_set ?_ GE101.out | refine below_set ?_ GE107.out) | exact HB.out)⟩⟩
                            case round =>
                              clear H'
                              try clear c1
                              try clear p1
                              try clear q1
                              try clear hx1
                              try clear qi1
                              try clear c2
                              try clear p2
                              try clear c3
                              try clear c5
                              try clear c5b0
                              try clear c5b1
                              try clear c5b2
                              try clear c7
                              try clear c8
                              try clear c8b0
                              try clear c8b1
                              try clear c9
                              try clear c9b0
                              try clear c9b1
                              try clear c10
                              try clear p10
                              try clear q10
                              try clear hx10
                              try clear qi10
                              try clear c13
                              try clear c13b0
                              try clear c14
                              try clear c14b0
                              try clear c15
                              try clear c15b0
                              try clear c18
                              try clear c20
                              try clear c20b0
                              try clear c21
                              try clear c23
                              try clear c23b0
                              try clear c24
                              try clear c26
                              try clear c26b0
                              try clear c26b1
                              try clear c27
                              try clear c28
                              try clear c29
                              try clear c29b0
                              try clear c29b1
                              try clear c30
                              try clear c30b0
                              try clear c30b1
                              try clear c31
                              try clear c31b0
                              try clear c31b1
                              try clear c32
                              try clear c34
                              try clear c36
                              try clear c37
                              try clear hcz12_0
                              try clear hcz12_1
                              try clear hcz19_0
                              try clear hcz19_1
                              try clear hcz19_2
                              try clear hcz22_0
                              try clear hcz22_1
                              try clear hcz22_2
                              try clear hcz25_0
                              try clear hcz25_1
                              try clear hcz25_2
                              try clear hcz28_0
                              try clear hcz28_1
                              try clear hcz28_2
                              try clear hcz33_0
                              try clear hcz33_1
                              try clear hcz33_2
                              try clear hcz35_0
                              try clear hcz35_1
                              try clear hcz35_2
                              try clear hcz38_0
                              try clear hcz38_1
                              try clear hcz38_2
                              try clear hcz4_0
                              try clear hcz4_1
                              try clear hcz6_0
                              try clear hcz6_1
                              try clear hfz12_0
                              try clear hfz12_1
                              try clear hfz19_0
                              try clear hfz19_1
                              try clear hfz19_2
                              try clear hfz22_0
                              try clear hfz22_1
                              try clear hfz22_2
                              try clear hfz25_0
                              try clear hfz25_1
                              try clear hfz25_2
                              try clear hfz28_0
                              try clear hfz28_1
                              try clear hfz28_2
                              try clear hfz33_0
                              try clear hfz33_1
                              try clear hfz33_2
                              try clear hfz35_0
                              try clear hfz35_1
                              try clear hfz35_2
                              try clear hfz38_0
                              try clear hfz38_1
                              try clear hfz38_2
                              try clear hfz4_0
                              try clear hfz4_1
                              try clear hfz6_0
                              try clear hfz6_1
                              try clear hx106_0
                              try clear hx106_1
                              try clear hx106_2
                              try clear hx108_0
                              try clear hx109_0
                              try clear p1
                              try clear p10
                              try clear p106
                              try clear p108
                              try clear p109
                              try clear p2
                              try clear q1
                              try clear q10
                              try clear q106
                              try clear q108
                              try clear q109
                              obtain ⟨x4_4, x71_4, rfl, HA, HK4, HO_4, BK101, BK107, HB⟩ := hrel
                              cases gk with
                              | zero => exact absurd HA.out (by simp [cfg_Valid.l1])
                              | succ k4 =>
                                have H := HA.out
                                clear HA
                                simp only [cfg_Valid.l1] at H
                                by_cases c39 : x71_4 < (((rd_T46 l0_0 x27_2).f2).length : Int)
                                · rw [if_pos c39] at H
                                  have c39b0 : decide (x71_4 < (((rd_T46 l0_0 x27_2).f2).length : Int)) = true := decide_eq_true c39
                                  clear c39
                                  by_cases c40 : 0 ≤ x71_4
                                  · rw [if_pos c40] at H
                                    have c40b0 : decide (0 ≤ x71_4) = true := decide_eq_true c40
                                    clear c40
                                    by_cases c41 : x71_4 < (((rd_T46 l0_0 x27_2).f2).length : Int)
                                    · rw [if_pos c41] at H
                                      have c41b0 : decide (x71_4 < (((rd_T46 l0_0 x27_2).f2).length : Int)) = true := decide_eq_true c41
                                      clear c41
                                      by_cases c42 : (rd ((rd_T46 l0_0 x27_2).f2) x71_4) < 0
                                      · rw [if_pos c42] at H
                                        have c42b0 : decide ((rd ((rd_T46 l0_0 x27_2).f2) x71_4) < 0) = true := decide_eq_true c42
                                        clear c42
                                        obtain rfl := Option.some.inj H
                                        have p110 : 0 ≤ (x71_4 : Int) := of_decide_eq_true (by first | (with_reducible assumption) | assumption)
                                        have q110 : x71_4 < (((rd_T46 l0_0 x27_2).f2).length : Int) := of_decide_eq_true (by first | (with_reducible assumption) | assumption)
                                        obtain ⟨ad110, e110, hx110_0⟩ := Kd.at_int HR106_2.out x71_4 p110 q110
                                        cases e110
                                        replace hx110_0 := (HB.out.cell (World.block_lt_of_cell? w _ hx110_0)).trans hx110_0
                                        replace p110 := eq_true p110
                                        replace q110 := eq_true q110
                                        go_wp2
                                        repeat (go_quiet (fail); try go_wp2)
                                        go_ret
                                        exact ⟨by first | rfl | (simp [errW_none, errW_some] <;> rfl) | (simp [*, errW_none, errW_some] <;> rfl), by repeat (first | (with_reducible first | exact HB.out | apply below_alloc | apply pw_below_drewN | apply below_drew1 | refine below_set ?_ GE101.out | refine below_set ?_ GE107.out) | exact HB.out)⟩
                                      · rw [if_neg c42] at H
                                        have c42b0 : decide ((rd ((rd_T46 l0_0 x27_2).f2) x71_4) < 0) = false := decide_eq_false c42
                                        clear c42
                                        by_cases c43 : (rd ((rd_T46 l0_0 x27_2).f2) x71_4) ≥ (l0_0.length : Int)
                                        · rw [if_pos c43] at H
                                          have c43b0 : decide ((l0_0.length : Int) ≤ (rd ((rd_T46 l0_0 x27_2).f2) x71_4)) = true := decide_eq_true c43
                                          clear c43
                                          obtain rfl := Option.some.inj H
                                          have p110 : 0 ≤ (x71_4 : Int) := of_decide_eq_true (by first | (with_reducible assumption) | assumption)
                                          have q110 : x71_4 < (((rd_T46 l0_0 x27_2).f2).length : Int) := of_decide_eq_true (by first | (with_reducible assumption) | assumption)
                                          obtain ⟨ad110, e110, hx110_0⟩ := Kd.at_int HR106_2.out x71_4 p110 q110
                                          cases e110
                                          replace hx110_0 := (HB.out.cell (World.block_lt_of_cell? w _ hx110_0)).trans hx110_0
                                          replace p110 := eq_true p110
                                          replace q110 := eq_true q110
                                          go_wp2
                                          repeat (go_quiet (fail); try go_wp2)
                                          go_ret
                                          exact ⟨by first | rfl | (simp [errW_none, errW_some] <;> rfl) | (simp [*, errW_none, errW_some] <;> rfl), by repeat (first | (with_reducible first | exact HB.out | apply below_alloc | apply pw_below_drewN | apply below_drew1 | refine below_set ?_ GE101.out | refine below_set ?_ GE107.out) | exact HB.out)⟩
                                        · rw [if_neg c43] at H
                                          have c43b0 : decide ((l0_0.length : Int) ≤ (rd ((rd_T46 l0_0 x27_2).f2) x71_4)) = false := decide_eq_false c43
                                          clear c43
                                          by_cases c44 : 0 ≤ (rd ((rd_T46 l0_0 x27_2).f2) x71_4)
                                          · rw [if_pos c44] at H
                                            have c44b0 : decide (0 ≤ (rd ((rd_T46 l0_0 x27_2).f2) x71_4)) = true := decide_eq_true c44
                                            clear c44
                                            by_cases c45 : (rd ((rd_T46 l0_0 x27_2).f2) x71_4) < (x4_4.length : Int)
                                            · rw [if_pos c45] at H
                                              have c45b0 : decide ((rd ((rd_T46 l0_0 x27_2).f2) x71_4) < (x4_4.length : Int)) = true := decide_eq_true c45
                                              clear c45
                                              by_cases c46 : (rd_L1 x4_4 (rd ((rd_T46 l0_0 x27_2).f2) x71_4)).length < 17592186044416
                                              · rw [if_pos c46] at H
                                                have LMc46 := Aside0.mk c46
                                                clear c46
                                                obtain ⟨y112, hy112⟩ : ∃ y_ : List Int, y_ = ((rd_L1 x4_4 (rd ((rd_T46 l0_0 x27_2).f2) x71_4)) ++ [x27_2]) := ⟨_, rfl⟩
                                                replace H : (cfg_Valid.l1 k4 (l0_0.length : Int) (x4_4.set ((rd ((rd_T46 l0_0 x27_2).f2) x71_4) : Int).toNat y112) ((rd_T46 l0_0 x27_2).f1) x27_2 l0_0 (l0_0.length : Int) x27_2 ((rd_T46 l0_0 x27_2).f2) (((rd_T46 l0_0 x27_2).f2).length : Int) (wrap64 (x71_4 + 1)) l0_0 l0_1) = some r := by first | (rw [hy112]; with_reducible exact H) | (have H2_ := (Option.bind_some _ _).symm.trans H; rw [hy112]; with_reducible exact H2_) | (have H2_ := (Option.bind_some _ _).symm.trans H; with_reducible exact H2_) | with_reducible exact H | (rw [hy112]; exact H) | exact H
                                                have Ny112 := Aside0.mk hy112
                                                clear hy112
                                                obtain ⟨y115, hy115⟩ : ∃ y_ : List (List Int), y_ = (x4_4.set ((rd ((rd_T46 l0_0 x27_2).f2) x71_4) : Int).toNat y112) := ⟨_, rfl⟩
                                                replace H : (cfg_Valid.l1 k4 (l0_0.length : Int) y115 ((rd_T46 l0_0 x27_2).f1) x27_2 l0_0 (l0_0.length : Int) x27_2 ((rd_T46 l0_0 x27_2).f2) (((rd_T46 l0_0 x27_2).f2).length : Int) (wrap64 (x71_4 + 1)) l0_0 l0_1) = some r := by first | (rw [hy115]; with_reducible exact H) | (have H2_ := (Option.bind_some _ _).symm.trans H; rw [hy115]; with_reducible exact H2_) | (have H2_ := (Option.bind_some _ _).symm.trans H; with_reducible exact H2_) | with_reducible exact H | (rw [hy115]; exact H) | exact H
                                                have Ny115 := Aside0.mk hy115
                                                clear hy115
                                                have H' := Aside0.mk H
                                                clear H
                                                have p110 : 0 ≤ (x71_4 : Int) := of_decide_eq_true (by first | (with_reducible assumption) | assumption)
                                                have q110 : x71_4 < (((rd_T46 l0_0 x27_2).f2).length : Int) := of_decide_eq_true (by first | (with_reducible assumption) | assumption)
                                                obtain ⟨ad110, e110, hx110_0⟩ := Kd.at_int HR106_2.out x71_4 p110 q110
                                                cases e110
                                                replace hx110_0 := (HB.out.cell (World.block_lt_of_cell? w _ hx110_0)).trans hx110_0
                                                replace p110 := eq_true p110
                                                replace q110 := eq_true q110
                                                obtain ⟨Ao48, co48, eo48⟩ := Kd.S_slice HO_4.out
                                                subst eo48
                                                have p111 : 0 ≤ ((rd ((rd_T46 l0_0 x27_2).f2) x71_4) : Int) := of_decide_eq_true (by first | (with_reducible assumption) | assumption)
                                                have q111 : (rd ((rd_T46 l0_0 x27_2).f2) x71_4) < (x4_4.length : Int) := of_decide_eq_true (by first | (with_reducible assumption) | assumption)
                                                obtain ⟨ad111, A111_0, c111_0, e111, hx111_0, hl111_0, hi111_0⟩ := at_L1 (Kd.S_reads' HO_4.out).2.2 (rd ((rd_T46 l0_0 x27_2).f2) x71_4) p111 q111
                                                cases e111
                                                obtain ⟨ce111, hce111, hMe111, hcc111⟩ := Kd.S_get HO_4.out [] (rd ((rd_T46 l0_0 x27_2).f2) x71_4) p111 (by first | exact q111 | exact of_decide_eq_true (by first | (with_reducible assumption) | assumption) | (have e_ := (Kd.S_reads' HO_4.out).1; omega))
                                                obtain ⟨ve111_0, rfl, ge111_0⟩ := hMe111
                                                have hv111_0 := hcc111 0 _ rfl
                                                rw [Nat.add_zero, show ((Kd.slice 3 (Kd.int .i64))).sz = 1 from rfl, Nat.mul_one] at hv111_0
                                                replace hv111_0 := Option.some.inj (hv111_0.symm.trans hx111_0)
                                                rw [hv111_0] at ge111_0
                                                have HL111_0 := Aside0.mk (show Kd.R (Kd.int .i64) 3 _ _ _ _ (rd_L1 x4_4 (rd ((rd_T46 l0_0 x27_2).f2) x71_4)) from ge111_0)
                                                clear hv111_0 ge111_0
                                                have HX111_0 := Aside0.mk hx111_0
                                                clear hcc111 hce111
                                                have HR111_0 := Aside0.mk hi111_0
                                                have HC111_0 := Aside0.mk hl111_0
                                                clear hi111_0 hl111_0
                                                replace p111 := eq_true p111
                                                replace q111 := eq_true q111
                                                obtain ⟨go49, co49, eo49, gb49, gl49, cl49, HG49⟩ := Kd.S_form HO_4.out (by have h_ : ((rd ((rd_T46 l0_0 x27_2).f2) x71_4) : Int) < ((x4_4.length : Int) : Int) := of_decide_eq_true (by first | (with_reducible assumption) | assumption); have h2_ : 0 ≤ ((rd ((rd_T46 l0_0 x27_2).f2) x71_4) : Int) := (of_decide_eq_true (by first | (with_reducible assumption) | assumption)); omega)
                                                (first | cases eo49 | (injection eo49 with ea_ en_ ec_; (first | subst ea_ | (injection ea_ with ea_; subst ea_)); subst ec_; clear en_))
                                                have GB49 := Aside0.mk gb49
                                                have GG49 := Aside0.mk HG49
                                                clear gb49 gl49 HG49
                                                (first | simp only [add_plain] at hx111_0 | skip)
                                                obtain ⟨oki49, ce49, hcl49, hM49, hcc49, _, _, hH49⟩ := Kd.S_elem HO_4.out [] ((rd ((rd_T46 l0_0 x27_2).f2) x71_4) : Int) (of_decide_eq_true (by first | (with_reducible assumption) | assumption)) (by have h_ : ((rd ((rd_T46 l0_0 x27_2).f2) x71_4) : Int) < ((x4_4.length : Int) : Int) := of_decide_eq_true (by first | (with_reducible assumption) | assumption); first | exact h_ | (have e_ := (Kd.S_reads' HO_4.out).1; omega) | simpa using h_)
                                                obtain ⟨ve49_0, rfl, ge49_0⟩ := hM49
                                                have hv49 := hcc49 0 _ rfl
                                                have hX49 := HX111_0.out
                                                (try simp only [add_plain] at hX49)
                                                (try simp only [Nat.add_zero] at hv49)
                                                (try rw [show ((Kd.slice 3 (Kd.int .i64))).sz = 1 from rfl, Nat.mul_one] at hv49)
                                                replace hv49 := Option.some.inj (hv49.symm.trans hX49)
                                                subst hv49
                                                clear hX49 hcc49 hcl49
                                                have UU49 := Aside0.mk (show Kd.R (Kd.int .i64) 3 _ w.heap.size oki49 (.slice A111_0 (rd_L1 x4_4 (rd ((rd_T46 l0_0 x27_2).f2) x71_4)).length c111_0) (rd_L1 x4_4 (rd ((rd_T46 l0_0 x27_2).f2) x71_4)) from ge49_0)
                                                have HH49 := Aside0.mk hH49
                                                have HN49 := Aside0.mk (Kd.S_reads' HO_4.out).1
                                                clear hH49 ge49_0
                                                go_wp2_with (first | ((with_reducible refine gate_builtin (b := .append) (xs := #[.tmp 87, .tmp 89]) rfl ?_); (try (refine gate_guard (by rfl) ?_; dsimp only)); at_builtin; refine Kd.R_append (Kd.int .i64) (w0 := w) w.heap.size rfl (.tmp 87) (.tmp 89) 29 3 (.int .i64 0) 8 rfl Try.underlying29 info3 rfl (by decide) (by omega) (.slice A111_0 (rd_L1 x4_4 (rd ((rd_T46 l0_0 x27_2).f2) x71_4)).length c111_0) (rd_L1 x4_4 (rd ((rd_T46 l0_0 x27_2).f2) x71_4)) x27_2 [.int .i64 x27_2] (fun k_ => oki49 k_ ∨ ((fun _ => True)) k_ ∧ wr.heap.size ≤ k_) (fun _ => False) rfl rfl ?aP (fun _ hk => hk.elim) ?aF ?aO ?aB ?aS ?aL ?_; (case aP => exact rfl); (case aB => exact (by repeat (first | (with_reducible first | exact HB.out | apply below_alloc | apply pw_below_drewN | apply below_drew1 | refine below_set ?_ GE101.out | refine below_set ?_ GE107.out) | exact HB.out))); (case aF => exact (fun k_ hk => .inr ⟨trivial, hk⟩)); (case aO => exact (by (with_reducible repeat (first | apply Kd.R_alloc | apply Kd.R_drewN | apply Kd.R_drew)); exact Kd.R_mono UU49.out (fun _ hk => .inl hk))); (case aS => exact (below_size (by repeat (first | (with_reducible first | exact HB.out | apply below_alloc | apply pw_below_drewN | apply below_drew1 | refine below_set ?_ GE101.out | refine below_set ?_ GE107.out) | exact HB.out)))); (case aL => have := LMc46.out; omega); intro v113 w50 ho hb hg hat; rw [← Ny112.out] at ho; have n0_ := Aside0.mk (blk_grown (g := gb101) (o := .cells #[.slice (some ad106) l0_0.length c0_0, .slice A0_1 l0_1.length c0_1] 25 (0, 0)) (by (with_reducible repeat (first | refine blk_drewN ?_ _ | refine blk_drew ?_ | refine blk_alloc ?_ _)); exact BK101.out) hg (Kd.R_ne HL111_0.out BK101.out (by decide))); have n1_ := Aside0.mk (blk_grown (g := gb107) (o := .cells #[.int .i64 ((rd_T46 l0_0 x27_2).f0), .int .i64 ((rd_T46 l0_0 x27_2).f1), .slice (some ad110) ((rd_T46 l0_0 x27_2).f2).length c106_2] 46 (0, 0)) (by (with_reducible repeat (first | refine blk_drewN ?_ _ | refine blk_drew ?_ | refine blk_alloc ?_ _)); exact BK107.out) hg (Kd.R_ne HL111_0.out BK107.out (by decide))); have n2_ := Aside0.mk (hb); have n3_ := Aside0.mk (Kd.H_grown (Kd.H_widen (by repeat (first | exact HH49.out | refine Kd.H_alloc ?_ _ | refine Kd.H_drewN ?_ _ | refine Kd.H_drew ?_))) hg (fun k_ e_ => .inl (UU49.out.1 k_ e_))); have n4_ := Aside0.mk (ho); clear BK101; clear BK107; clear HB; clear HH49; clear HO_4; clear UU49; clear HL111_0; have BK101 := n0_; have BK107 := n1_; have HB := n2_; have HH49 := n3_; have HO114 := n4_; clear n0_ n1_ n2_ n3_ n4_; clear ho hb hg hat; have p47 : 0 ≤ ((rd ((rd_T46 l0_0 x27_2).f2) x71_4) : Int) := of_decide_eq_true (by first | (with_reducible assumption) | assumption); have q47 : ((rd ((rd_T46 l0_0 x27_2).f2) x71_4) : Int) < ((x4_4.length : Int) : Int) := of_decide_eq_true (by first | (with_reducible assumption) | assumption); replace p47 := eq_true p47; replace q47 := eq_true q47; obtain ⟨Ao53, co53, eo53⟩ := Kd.R_slice HO114.out; subst eo53; obtain ⟨_, _, hraw51, _, _, hcc51, _⟩ := Kd.H_raw HH49.out (of_decide_eq_true (by first | (with_reducible assumption) | assumption)) (by have h_ : ((rd ((rd_T46 l0_0 x27_2).f2) x71_4) : Int) < ((x4_4.length : Int) : Int) := of_decide_eq_true (by first | (with_reducible assumption) | assumption); first | exact h_ | (have e_ := (HN49.out); omega) | simpa using h_); obtain ⟨_, hfr51⟩ := Kd.H_at HH49.out (of_decide_eq_true (by first | (with_reducible assumption) | assumption)) (by have h_ : ((rd ((rd_T46 l0_0 x27_2).f2) x71_4) : Int) < ((x4_4.length : Int) : Int) := of_decide_eq_true (by first | (with_reducible assumption) | assumption); first | exact h_ | (have e_ := (HN49.out); omega) | simpa using h_); have hx51_0 := hcc51 0 _ rfl; have hf51_0 := hfr51 0; (try simp only [Nat.add_zero] at hx51_0 hf51_0); (try rw [show ((Kd.slice 3 (Kd.int .i64))).sz = 1 from rfl, Nat.mul_one] at hx51_0); (try rw [show ((Kd.slice 3 (Kd.int .i64))).sz = 1 from rfl, Nat.mul_one] at hf51_0); have HP51 := Kd.S_seg0 HH49.out (of_decide_eq_true (by first | (with_reducible assumption) | assumption)) (by have h_ : ((rd ((rd_T46 l0_0 x27_2).f2) x71_4) : Int) < ((x4_4.length : Int) : Int) := of_decide_eq_true (by first | (with_reducible assumption) | assumption); first | exact h_ | (have e_ := (HN49.out); omega) | simpa using h_) (seg := [.slice Ao53 y112.length co53]) (j := 0) (show 1 ≤ 1 from by decide) (x' := y112) (Kd.M_row HO114.out) (fun _ hk => hk); (try simp only [show ((Kd.slice 3 (Kd.int .i64))).sz = 1 from rfl, Nat.mul_one, Nat.add_zero] at HP51); clear hcc51 hfr51) | ((with_reducible refine gate_store (t := 29) (p := 91) rfl ?_); (try (rw [drewN_self w50]; generalize hq_ : World.drewN w50 _ = w50; have n0_ := Aside0.mk (Kd.S_at hq_ HO_4.out); have n1_ := Aside0.mk (blk_at hq_ BK101.out); have n2_ := Aside0.mk (blk_at hq_ BK107.out); have n3_ := Aside0.mk (below_at hq_ HB.out); clear hq_ HO_4 BK101 BK107 HB; have HO_4 := n0_; have BK101 := n1_; have BK107 := n2_; have HB := n3_; clear n0_ n1_ n2_ n3_; (try (obtain ⟨Ao53, co53, eo53⟩ := Kd.R_slice HO114.out)); (try (subst eo53)); (try (obtain ⟨_, _, hraw51, _, _, hcc51, _⟩ := Kd.H_raw HH49.out (of_decide_eq_true (by first | (with_reducible assumption) | assumption)) (by have h_ : ((rd ((rd_T46 l0_0 x27_2).f2) x71_4) : Int) < ((x4_4.length : Int) : Int) := of_decide_eq_true (by first | (with_reducible assumption) | assumption); first | exact h_ | (have e_ := (HN49.out); omega) | simpa using h_))); (try (obtain ⟨_, hfr51⟩ := Kd.H_at HH49.out (of_decide_eq_true (by first | (with_reducible assumption) | assumption)) (by have h_ : ((rd ((rd_T46 l0_0 x27_2).f2) x71_4) : Int) < ((x4_4.length : Int) : Int) := of_decide_eq_true (by first | (with_reducible assumption) | assumption); first | exact h_ | (have e_ := (HN49.out); omega) | simpa using h_))); (try (have hx51_0 := hcc51 0 _ rfl)); (try (have hf51_0 := hfr51 0)); (try (try simp only [Nat.add_zero] at hx51_0 hf51_0)); (try (try rw [show ((Kd.slice 3 (Kd.int .i64))).sz = 1 from rfl, Nat.mul_one] at hx51_0)); (try (try rw [show ((Kd.slice 3 (Kd.int .i64))).sz = 1 from rfl, Nat.mul_one] at hf51_0)); (try (have HP51 := Kd.S_seg0 HH49.out (of_decide_eq_true (by first | (with_reducible assumption) | assumption)) (by have h_ : ((rd ((rd_T46 l0_0 x27_2).f2) x71_4) : Int) < ((x4_4.length : Int) : Int) := of_decide_eq_true (by first | (with_reducible assumption) | assumption); first | exact h_ | (have e_ := (HN49.out); omega) | simpa using h_) (seg := [.slice Ao53 y112.length co53]) (j := 0) (show 1 ≤ 1 from by decide) (x' := y112) (Kd.M_row HO114.out) (fun _ hk => hk))); (try (try simp only [show ((Kd.slice 3 (Kd.int .i64))).sz = 1 from rfl, Nat.mul_one, Nat.add_zero] at HP51)); (try (clear hcc51 hfr51)))); refine store_event (t := 29) (p := 91) (v := ?vo_w52) (w1 := (w50.setCell ⟨go49, ((rd ((rd_T46 l0_0 x27_2).f2) x71_4) : Int).toNat, none⟩ (.slice Ao53 y112.length co53))) ?hg ?ho ?hn ?hr ?_; (case ho => rfl); (case hg => rfl); (case hn => rfl); (case hr => first | (go_simp; done) | (go_simp; rfl)); intro w52 hw; have hg : w50.grownBy w52 (some go49) := (by rw [hw]; exact HP51.2); have hp_ : Kd.S (Kd.slice 3 (Kd.int .i64)) 29 w52 w.heap.size (fun _ => True) (.slice (some ⟨go49, 0, none⟩) x4_4.length co48) y115 := (by rw [hw, Ny115.out]; exact HP51.1); clear HP51; have n0_ := Aside0.mk (blk_grown (g := gb101) (o := .cells #[.slice (some ad106) l0_0.length c0_0, .slice A0_1 l0_1.length c0_1] 25 (0, 0)) (by (with_reducible repeat (first | refine blk_drewN ?_ _ | refine blk_drew ?_ | refine blk_alloc ?_ _)); exact BK101.out) hg (Kd.R_ne hraw51 BK101.out (by decide))); have n1_ := Aside0.mk (blk_grown (g := gb107) (o := .cells #[.int .i64 ((rd_T46 l0_0 x27_2).f0), .int .i64 ((rd_T46 l0_0 x27_2).f1), .slice (some ad110) ((rd_T46 l0_0 x27_2).f2).length c106_2] 46 (0, 0)) (by (with_reducible repeat (first | refine blk_drewN ?_ _ | refine blk_drew ?_ | refine blk_alloc ?_ _)); exact BK107.out) hg (Kd.R_ne hraw51 BK107.out (by decide))); have n2_ := Aside0.mk ((by rw [hw]; exact below_set HB.out GB49.out : Below w.heap.size w w52)); have n3_ := Aside0.mk (hp_); clear BK101; clear BK107; clear HB; clear HO114; clear HH49; have BK101 := n0_; have BK107 := n1_; have HB := n2_; have HO_4 := n3_; clear n0_ n1_ n2_ n3_; clear hg hw hp_ hraw51))
                                                repeat (go_quiet (first | ((with_reducible refine gate_builtin (b := .append) (xs := #[.tmp 87, .tmp 89]) rfl ?_); (try (refine gate_guard (by rfl) ?_; dsimp only)); at_builtin; refine Kd.R_append (Kd.int .i64) (w0 := w) w.heap.size rfl (.tmp 87) (.tmp 89) 29 3 (.int .i64 0) 8 rfl Try.underlying29 info3 rfl (by decide) (by omega) (.slice A111_0 (rd_L1 x4_4 (rd ((rd_T46 l0_0 x27_2).f2) x71_4)).length c111_0) (rd_L1 x4_4 (rd ((rd_T46 l0_0 x27_2).f2) x71_4)) x27_2 [.int .i64 x27_2] (fun k_ => oki49 k_ ∨ ((fun _ => True)) k_ ∧ wr.heap.size ≤ k_) (fun _ => False) rfl rfl ?aP (fun _ hk => hk.elim) ?aF ?aO ?aB ?aS ?aL ?_; (case aP => exact rfl); (case aB => exact (by repeat (first | (with_reducible first | exact HB.out | apply below_alloc | apply pw_below_drewN | apply below_drew1 | refine below_set ?_ GE101.out | refine below_set ?_ GE107.out) | exact HB.out))); (case aF => exact (fun k_ hk => .inr ⟨trivial, hk⟩)); (case aO => exact (by (with_reducible repeat (first | apply Kd.R_alloc | apply Kd.R_drewN | apply Kd.R_drew)); exact Kd.R_mono UU49.out (fun _ hk => .inl hk))); (case aS => exact (below_size (by repeat (first | (with_reducible first | exact HB.out | apply below_alloc | apply pw_below_drewN | apply below_drew1 | refine below_set ?_ GE101.out | refine below_set ?_ GE107.out) | exact HB.out)))); (case aL => have := LMc46.out; omega); intro v113 w50 ho hb hg hat; rw [← Ny112.out] at ho; have n0_ := Aside0.mk (blk_grown (g := gb101) (o := .cells #[.slice (some ad106) l0_0.length c0_0, .slice A0_1 l0_1.length c0_1] 25 (0, 0)) (by (with_reducible repeat (first | refine blk_drewN ?_ _ | refine blk_drew ?_ | refine blk_alloc ?_ _)); exact BK101.out) hg (Kd.R_ne HL111_0.out BK101.out (by decide))); have n1_ := Aside0.mk (blk_grown (g := gb107) (o := .cells #[.int .i64 ((rd_T46 l0_0 x27_2).f0), .int .i64 ((rd_T46 l0_0 x27_2).f1), .slice (some ad110) ((rd_T46 l0_0 x27_2).f2).length c106_2] 46 (0, 0)) (by (with_reducible repeat (first | refine blk_drewN ?_ _ | refine blk_drew ?_ | refine blk_alloc ?_ _)); exact BK107.out) hg (Kd.R_ne HL111_0.out BK107.out (by decide))); have n2_ := Aside0.mk (hb); have n3_ := Aside0.mk (Kd.H_grown (Kd.H_widen (by repeat (first | exact HH49.out | refine Kd.H_alloc ?_ _ | refine Kd.H_drewN ?_ _ | refine Kd.H_drew ?_))) hg (fun k_ e_ => .inl (UU49.out.1 k_ e_))); have n4_ := Aside0.mk (ho); clear BK101; clear BK107; clear HB; clear HH49; clear HO_4; clear UU49; clear HL111_0; have BK101 := n0_; have BK107 := n1_; have HB := n2_; have HH49 := n3_; have HO114 := n4_; clear n0_ n1_ n2_ n3_ n4_; clear ho hb hg hat; have p47 : 0 ≤ ((rd ((rd_T46 l0_0 x27_2).f2) x71_4) : Int) := of_decide_eq_true (by first | (with_reducible assumption) | assumption); have q47 : ((rd ((rd_T46 l0_0 x27_2).f2) x71_4) : Int) < ((x4_4.length : Int) : Int) := of_decide_eq_true (by first | (with_reducible assumption) | assumption); replace p47 := eq_true p47; replace q47 := eq_true q47; obtain ⟨Ao53, co53, eo53⟩ := Kd.R_slice HO114.out; subst eo53; obtain ⟨_, _, hraw51, _, _, hcc51, _⟩ := Kd.H_raw HH49.out (of_decide_eq_true (by first | (with_reducible assumption) | assumption)) (by have h_ : ((rd ((rd_T46 l0_0 x27_2).f2) x71_4) : Int) < ((x4_4.length : Int) : Int) := of_decide_eq_true (by first | (with_reducible assumption) | assumption); first | exact h_ | (have e_ := (HN49.out); omega) | simpa using h_); obtain ⟨_, hfr51⟩ := Kd.H_at HH49.out (of_decide_eq_true (by first | (with_reducible assumption) | assumption)) (by have h_ : ((rd ((rd_T46 l0_0 x27_2).f2) x71_4) : Int) < ((x4_4.length : Int) : Int) := of_decide_eq_true (by first | (with_reducible assumption) | assumption); first | exact h_ | (have e_ := (HN49.out); omega) | simpa using h_); have hx51_0 := hcc51 0 _ rfl; have hf51_0 := hfr51 0; (try simp only [Nat.add_zero] at hx51_0 hf51_0); (try rw [show ((Kd.slice 3 (Kd.int .i64))).sz = 1 from rfl, Nat.mul_one] at hx51_0); (try rw [show ((Kd.slice 3 (Kd.int .i64))).sz = 1 from rfl, Nat.mul_one] at hf51_0); have HP51 := Kd.S_seg0 HH49.out (of_decide_eq_true (by first | (with_reducible assumption) | assumption)) (by have h_ : ((rd ((rd_T46 l0_0 x27_2).f2) x71_4) : Int) < ((x4_4.length : Int) : Int) := of_decide_eq_true (by first | (with_reducible assumption) | assumption); first | exact h_ | (have e_ := (HN49.out); omega) | simpa using h_) (seg := [.slice Ao53 y112.length co53]) (j := 0) (show 1 ≤ 1 from by decide) (x' := y112) (Kd.M_row HO114.out) (fun _ hk => hk); (try simp only [show ((Kd.slice 3 (Kd.int .i64))).sz = 1 from rfl, Nat.mul_one, Nat.add_zero] at HP51); clear hcc51 hfr51) | ((with_reducible refine gate_store (t := 29) (p := 91) rfl ?_); (try (rw [drewN_self w50]; generalize hq_ : World.drewN w50 _ = w50; have n0_ := Aside0.mk (Kd.S_at hq_ HO_4.out); have n1_ := Aside0.mk (blk_at hq_ BK101.out); have n2_ := Aside0.mk (blk_at hq_ BK107.out); have n3_ := Aside0.mk (below_at hq_ HB.out); clear hq_ HO_4 BK101 BK107 HB; have HO_4 := n0_; have BK101 := n1_; have BK107 := n2_; have HB := n3_; clear n0_ n1_ n2_ n3_; (try (obtain ⟨Ao53, co53, eo53⟩ := Kd.R_slice HO114.out)); (try (subst eo53)); (try (obtain ⟨_, _, hraw51, _, _, hcc51, _⟩ := Kd.H_raw HH49.out (of_decide_eq_true (by first | (with_reducible assumption) | assumption)) (by have h_ : ((rd ((rd_T46 l0_0 x27_2).f2) x71_4) : Int) < ((x4_4.length : Int) : Int) := of_decide_eq_true (by first | (with_reducible assumption) | assumption); first | exact h_ | (have e_ := (HN49.out); omega) | simpa using h_))); (try (obtain ⟨_, hfr51⟩ := Kd.H_at HH49.out (of_decide_eq_true (by first | (with_reducible assumption) | assumption)) (by have h_ : ((rd ((rd_T46 l0_0 x27_2).f2) x71_4) : Int) < ((x4_4.length : Int) : Int) := of_decide_eq_true (by first | (with_reducible assumption) | assumption); first | exact h_ | (have e_ := (HN49.out); omega) | simpa using h_))); (try (have hx51_0 := hcc51 0 _ rfl)); (try (have hf51_0 := hfr51 0)); (try (try simp only [Nat.add_zero] at hx51_0 hf51_0)); (try (try rw [show ((Kd.slice 3 (Kd.int .i64))).sz = 1 from rfl, Nat.mul_one] at hx51_0)); (try (try rw [show ((Kd.slice 3 (Kd.int .i64))).sz = 1 from rfl, Nat.mul_one] at hf51_0)); (try (have HP51 := Kd.S_seg0 HH49.out (of_decide_eq_true (by first | (with_reducible assumption) | assumption)) (by have h_ : ((rd ((rd_T46 l0_0 x27_2).f2) x71_4) : Int) < ((x4_4.length : Int) : Int) := of_decide_eq_true (by first | (with_reducible assumption) | assumption); first | exact h_ | (have e_ := (HN49.out); omega) | simpa using h_) (seg := [.slice Ao53 y112.length co53]) (j := 0) (show 1 ≤ 1 from by decide) (x' := y112) (Kd.M_row HO114.out) (fun _ hk => hk))); (try (try simp only [show ((Kd.slice 3 (Kd.int .i64))).sz = 1 from rfl, Nat.mul_one, Nat.add_zero] at HP51)); (try (clear hcc51 hfr51)))); refine store_event (t := 29) (p := 91) (v := ?vo_w52) (w1 := (w50.setCell ⟨go49, ((rd ((rd_T46 l0_0 x27_2).f2) x71_4) : Int).toNat, none⟩ (.slice Ao53 y112.length co53))) ?hg ?ho ?hn ?hr ?_; (case ho => rfl); (case hg => rfl); (case hn => rfl); (case hr => first | (go_simp; done) | (go_simp; rfl)); intro w52 hw; have hg : w50.grownBy w52 (some go49) := (by rw [hw]; exact HP51.2); have hp_ : Kd.S (Kd.slice 3 (Kd.int .i64)) 29 w52 w.heap.size (fun _ => True) (.slice (some ⟨go49, 0, none⟩) x4_4.length co48) y115 := (by rw [hw, Ny115.out]; exact HP51.1); clear HP51; have n0_ := Aside0.mk (blk_grown (g := gb101) (o := .cells #[.slice (some ad106) l0_0.length c0_0, .slice A0_1 l0_1.length c0_1] 25 (0, 0)) (by (with_reducible repeat (first | refine blk_drewN ?_ _ | refine blk_drew ?_ | refine blk_alloc ?_ _)); exact BK101.out) hg (Kd.R_ne hraw51 BK101.out (by decide))); have n1_ := Aside0.mk (blk_grown (g := gb107) (o := .cells #[.int .i64 ((rd_T46 l0_0 x27_2).f0), .int .i64 ((rd_T46 l0_0 x27_2).f1), .slice (some ad110) ((rd_T46 l0_0 x27_2).f2).length c106_2] 46 (0, 0)) (by (with_reducible repeat (first | refine blk_drewN ?_ _ | refine blk_drew ?_ | refine blk_alloc ?_ _)); exact BK107.out) hg (Kd.R_ne hraw51 BK107.out (by decide))); have n2_ := Aside0.mk ((by rw [hw]; exact below_set HB.out GB49.out : Below w.heap.size w w52)); have n3_ := Aside0.mk (hp_); clear BK101; clear BK107; clear HB; clear HO114; clear HH49; have BK101 := n0_; have BK107 := n1_; have HB := n2_; have HO_4 := n3_; clear n0_ n1_ n2_ n3_; clear hg hw hp_ hraw51)); try go_wp2_with (first | ((with_reducible refine gate_builtin (b := .append) (xs := #[.tmp 87, .tmp 89]) rfl ?_); (try (refine gate_guard (by rfl) ?_; dsimp only)); at_builtin; refine Kd.R_append (Kd.int .i64) (w0 := w) w.heap.size rfl (.tmp 87) (.tmp 89) 29 3 (.int .i64 0) 8 rfl Try.underlying29 info3 rfl (by decide) (by omega) (.slice A111_0 (rd_L1 x4_4 (rd ((rd_T46 l0_0 x27_2).f2) x71_4)).length c111_0) (rd_L1 x4_4 (rd ((rd_T46 l0_0 x27_2).f2) x71_4)) x27_2 [.int .i64 x27_2] (fun k_ => oki49 k_ ∨ ((fun _ => True)) k_ ∧ wr.heap.size ≤ k_) (fun _ => False) rfl rfl ?aP (fun _ hk => hk.elim) ?aF ?aO ?aB ?aS ?aL ?_; (case aP => exact rfl); (case aB => exact (by repeat (first | (with_reducible first | exact HB.out | apply below_alloc | apply pw_below_drewN | apply below_drew1 | refine below_set ?_ GE101.out | refine below_set ?_ GE107.out) | exact HB.out))); (case aF => exact (fun k_ hk => .inr ⟨trivial, hk⟩)); (case aO => exact (by (with_reducible repeat (first | apply Kd.R_alloc | apply Kd.R_drewN | apply Kd.R_drew)); exact Kd.R_mono UU49.out (fun _ hk => .inl hk))); (case aS => exact (below_size (by repeat (first | (with_reducible first | exact HB.out | apply below_alloc | apply pw_below_drewN | apply below_drew1 | refine below_set ?_ GE101.out | refine below_set ?_ GE107.out) | exact HB.out)))); (case aL => have := LMc46.out; omega); intro v113 w50 ho hb hg hat; rw [← Ny112.out] at ho; have n0_ := Aside0.mk (blk_grown (g := gb101) (o := .cells #[.slice (some ad106) l0_0.length c0_0, .slice A0_1 l0_1.length c0_1] 25 (0, 0)) (by (with_reducible repeat (first | refine blk_drewN ?_ _ | refine blk_drew ?_ | refine blk_alloc ?_ _)); exact BK101.out) hg (Kd.R_ne HL111_0.out BK101.out (by decide))); have n1_ := Aside0.mk (blk_grown (g := gb107) (o := .cells #[.int .i64 ((rd_T46 l0_0 x27_2).f0), .int .i64 ((rd_T46 l0_0 x27_2).f1), .slice (some ad110) ((rd_T46 l0_0 x27_2).f2).length c106_2] 46 (0, 0)) (by (with_reducible repeat (first | refine blk_drewN ?_ _ | refine blk_drew ?_ | refine blk_alloc ?_ _)); exact BK107.out) hg (Kd.R_ne HL111_0.out BK107.out (by decide))); have n2_ := Aside0.mk (hb); have n3_ := Aside0.mk (Kd.H_grown (Kd.H_widen (by repeat (first | exact HH49.out | refine Kd.H_alloc ?_ _ | refine Kd.H_drewN ?_ _ | refine Kd.H_drew ?_))) hg (fun k_ e_ => .inl (UU49.out.1 k_ e_))); have n4_ := Aside0.mk (ho); clear BK101; clear BK107; clear HB; clear HH49; clear HO_4; clear UU49; clear HL111_0; have BK101 := n0_; have BK107 := n1_; have HB := n2_; have HH49 := n3_; have HO114 := n4_; clear n0_ n1_ n2_ n3_ n4_; clear ho hb hg hat; have p47 : 0 ≤ ((rd ((rd_T46 l0_0 x27_2).f2) x71_4) : Int) := of_decide_eq_true (by first | (with_reducible assumption) | assumption); have q47 : ((rd ((rd_T46 l0_0 x27_2).f2) x71_4) : Int) < ((x4_4.length : Int) : Int) := of_decide_eq_true (by first | (with_reducible assumption) | assumption); replace p47 := eq_true p47; replace q47 := eq_true q47; obtain ⟨Ao53, co53, eo53⟩ := Kd.R_slice HO114.out; subst eo53; obtain ⟨_, _, hraw51, _, _, hcc51, _⟩ := Kd.H_raw HH49.out (of_decide_eq_true (by first | (with_reducible assumption) | assumption)) (by have h_ : ((rd ((rd_T46 l0_0 x27_2).f2) x71_4) : Int) < ((x4_4.length : Int) : Int) := of_decide_eq_true (by first | (with_reducible assumption) | assumption); first | exact h_ | (have e_ := (HN49.out); omega) | simpa using h_); obtain ⟨_, hfr51⟩ := Kd.H_at HH49.out (of_decide_eq_true (by first | (with_reducible assumption) | assumption)) (by have h_ : ((rd ((rd_T46 l0_0 x27_2).f2) x71_4) : Int) < ((x4_4.length : Int) : Int) := of_decide_eq_true (by first | (with_reducible assumption) | assumption); first | exact h_ | (have e_ := (HN49.out); omega) | simpa using h_); have hx51_0 := hcc51 0 _ rfl; have hf51_0 := hfr51 0; (try simp only [Nat.add_zero] at hx51_0 hf51_0); (try rw [show ((Kd.slice 3 (Kd.int .i64))).sz = 1 from rfl, Nat.mul_one] at hx51_0); (try rw [show ((Kd.slice 3 (Kd.int .i64))).sz = 1 from rfl, Nat.mul_one] at hf51_0); have HP51 := Kd.S_seg0 HH49.out (of_decide_eq_true (by first | (with_reducible assumption) | assumption)) (by have h_ : ((rd ((rd_T46 l0_0 x27_2).f2) x71_4) : Int) < ((x4_4.length : Int) : Int) := of_decide_eq_true (by first | (with_reducible assumption) | assumption); first | exact h_ | (have e_ := (HN49.out); omega) | simpa using h_) (seg := [.slice Ao53 y112.length co53]) (j := 0) (show 1 ≤ 1 from by decide) (x' := y112) (Kd.M_row HO114.out) (fun _ hk => hk); (try simp only [show ((Kd.slice 3 (Kd.int .i64))).sz = 1 from rfl, Nat.mul_one, Nat.add_zero] at HP51); clear hcc51 hfr51) | ((with_reducible refine gate_store (t := 29) (p := 91) rfl ?_); (try (rw [drewN_self w50]; generalize hq_ : World.drewN w50 _ = w50; have n0_ := Aside0.mk (Kd.S_at hq_ HO_4.out); have n1_ := Aside0.mk (blk_at hq_ BK101.out); have n2_ := Aside0.mk (blk_at hq_ BK107.out); have n3_ := Aside0.mk (below_at hq_ HB.out); clear hq_ HO_4 BK101 BK107 HB; have HO_4 := n0_; have BK101 := n1_; have BK107 := n2_; have HB := n3_; clear n0_ n1_ n2_ n3_; (try (obtain ⟨Ao53, co53, eo53⟩ := Kd.R_slice HO114.out)); (try (subst eo53)); (try (obtain ⟨_, _, hraw51, _, _, hcc51, _⟩ := Kd.H_raw HH49.out (of_decide_eq_true (by first | (with_reducible assumption) | assumption)) (by have h_ : ((rd ((rd_T46 l0_0 x27_2).f2) x71_4) : Int) < ((x4_4.length : Int) : Int) := of_decide_eq_true (by first | (with_reducible assumption) | assumption); first | exact h_ | (have e_ := (HN49.out); omega) | simpa using h_))); (try (obtain ⟨_, hfr51⟩ := Kd.H_at HH49.out (of_decide_eq_true (by first | (with_reducible assumption) | assumption)) (by have h_ : ((rd ((rd_T46 l0_0 x27_2).f2) x71_4) : Int) < ((x4_4.length : Int) : Int) := of_decide_eq_true (by first | (with_reducible assumption) | assumption); first | exact h_ | (have e_ := (HN49.out); omega) | simpa using h_))); (try (have hx51_0 := hcc51 0 _ rfl)); (try (have hf51_0 := hfr51 0)); (try (try simp only [Nat.add_zero] at hx51_0 hf51_0)); (try (try rw [show ((Kd.slice 3 (Kd.int .i64))).sz = 1 from rfl, Nat.mul_one] at hx51_0)); (try (try rw [show ((Kd.slice 3 (Kd.int .i64))).sz = 1 from rfl, Nat.mul_one] at hf51_0)); (try (have HP51 := Kd.S_seg0 HH49.out (of_decide_eq_true (by first | (with_reducible assumption) | assumption)) (by have h_ : ((rd ((rd_T46 l0_0 x27_2).f2) x71_4) : Int) < ((x4_4.length : Int) : Int) := of_decide_eq_true (by first | (with_reducible assumption) | assumption); first | exact h_ | (have e_ := (HN49.out); omega) | simpa using h_) (seg := [.slice Ao53 y112.length co53]) (j := 0) (show 1 ≤ 1 from by decide) (x' := y112) (Kd.M_row HO114.out) (fun _ hk => hk))); (try (try simp only [show ((Kd.slice 3 (Kd.int .i64))).sz = 1 from rfl, Nat.mul_one, Nat.add_zero] at HP51)); (try (clear hcc51 hfr51)))); refine store_event (t := 29) (p := 91) (v := ?vo_w52) (w1 := (w50.setCell ⟨go49, ((rd ((rd_T46 l0_0 x27_2).f2) x71_4) : Int).toNat, none⟩ (.slice Ao53 y112.length co53))) ?hg ?ho ?hn ?hr ?_; (case ho => rfl); (case hg => rfl); (case hn => rfl); (case hr => first | (go_simp; done) | (go_simp; rfl)); intro w52 hw; have hg : w50.grownBy w52 (some go49) := (by rw [hw]; exact HP51.2); have hp_ : Kd.S (Kd.slice 3 (Kd.int .i64)) 29 w52 w.heap.size (fun _ => True) (.slice (some ⟨go49, 0, none⟩) x4_4.length co48) y115 := (by rw [hw, Ny115.out]; exact HP51.1); clear HP51; have n0_ := Aside0.mk (blk_grown (g := gb101) (o := .cells #[.slice (some ad106) l0_0.length c0_0, .slice A0_1 l0_1.length c0_1] 25 (0, 0)) (by (with_reducible repeat (first | refine blk_drewN ?_ _ | refine blk_drew ?_ | refine blk_alloc ?_ _)); exact BK101.out) hg (Kd.R_ne hraw51 BK101.out (by decide))); have n1_ := Aside0.mk (blk_grown (g := gb107) (o := .cells #[.int .i64 ((rd_T46 l0_0 x27_2).f0), .int .i64 ((rd_T46 l0_0 x27_2).f1), .slice (some ad110) ((rd_T46 l0_0 x27_2).f2).length c106_2] 46 (0, 0)) (by (with_reducible repeat (first | refine blk_drewN ?_ _ | refine blk_drew ?_ | refine blk_alloc ?_ _)); exact BK107.out) hg (Kd.R_ne hraw51 BK107.out (by decide))); have n2_ := Aside0.mk ((by rw [hw]; exact below_set HB.out GB49.out : Below w.heap.size w w52)); have n3_ := Aside0.mk (hp_); clear BK101; clear BK107; clear HB; clear HO114; clear HH49; have BK101 := n0_; have BK107 := n1_; have HB := n2_; have HO_4 := n3_; clear n0_ n1_ n2_ n3_; clear hg hw hp_ hraw51)))
                                                go_roundg k4
                                                case measure => have := HJ1.out; have := HK2.out; have := HJ15.out; have := HK4.out; omega
                                                case rel => exact ⟨(y115), (wrap64 (x71_4 + 1)), (by first | rfl | (simp; done) | (simp [*]; done)), H', ⟨by have := HJ1.out; have := HK2.out; have := HJ15.out; have := HK4.out; omega⟩, ⟨by (with_reducible repeat (first | apply Kd.S_alloc | apply Kd.S_drewN | apply Kd.S_drew)); exact HO_4.out⟩, ⟨by (with_reducible repeat (first | refine blk_drewN ?_ _ | refine blk_drew ?_ | refine blk_alloc ?_ _)); exact BK101.out⟩, ⟨by (with_reducible repeat (first | refine blk_drewN ?_ _ | refine blk_drew ?_ | refine blk_alloc ?_ _)); exact BK107.out⟩, ⟨by repeat (first | (with_reducible first | exact HB.out | apply below_alloc | apply pw_below_drewN | apply below_drew1 | refine below_set ?_ GE101.out | refine below_set ?_ GE107.out) | exact HB.out)⟩⟩
                                              · rw [if_neg c46] at H
                                                exact absurd H (by simp)
                                            · rw [if_neg c45] at H
                                              exact absurd H (by simp)
                                          · rw [if_neg c44] at H
                                            exact absurd H (by simp)
                                    · rw [if_neg c41] at H
                                      exact absurd H (by simp)
                                  · rw [if_neg c40] at H
                                    exact absurd H (by simp)
                                · rw [if_neg c39] at H
                                  have c39b0 : decide (x71_4 < (((rd_T46 l0_0 x27_2).f2).length : Int)) = false := decide_eq_false c39
                                  clear c39
                                  have H' := Aside0.mk H
                                  clear H
                                  go_wp2
                                  repeat (go_quiet (fail); try go_wp2)
                                  go_roundg k4
                                  case measure => have := HJ1.out; have := HK2.out; have := HJ15.out; have := HK4.out; omega
                                  case rel => exact ⟨(x4_4), (((rd_T46 l0_0 x27_2).f1)), (wrap64 (x27_2 + 1)), (by first | rfl | (simp; done) | (simp [*]; done)), (by first | rfl | (simp; done) | (simp [*]; done)), H', ⟨by have := HJ1.out; have := HK2.out; have := HJ15.out; have := HK4.out; omega⟩, ⟨by (with_reducible repeat (first | apply Kd.S_alloc | apply Kd.S_drewN | apply Kd.S_drew)); exact HO_4.out⟩, ⟨by (with_reducible repeat (first | refine blk_drewN ?_ _ | refine blk_drew ?_ | refine blk_alloc ?_ _)); exact BK101.out⟩, ⟨by repeat (first | (with_reducible first | exact HB.out | apply below_alloc | apply pw_below_drewN | apply below_drew1 | refine below_set ?_ GE101.out | refine below_set ?_ GE107.out) | exact HB.out)⟩⟩
                    · rw [if_neg c15] at H
                      exact absurd H (by simp)
                  · rw [if_neg c14] at H
                    exact absurd H (by simp)
                · rw [if_neg c13] at H
                  have c13b0 : decide (x27_2 < (l0_0.length : Int)) = false := decide_eq_false c13
                  clear c13
                  replace H := Option.bind_eq_some_iff.mp H
                  obtain ⟨t105, A540, H⟩ := H
                  replace H : (some t105) = some r := H
                  have A54 := Aside0.mk A540
                  clear A540
                  obtain rfl := Option.some.inj H
                  have hcz55_0 : wr.cell? ⟨gb101, 0, none⟩ = some (.slice A0_0 l0_0.length c0_0) := (blk_cell BK101.out 0).trans rfl
                  have hcz55_1 : wr.cell? ⟨gb101, 1, none⟩ = some (.slice A0_1 l0_1.length c0_1) := (blk_cell BK101.out 1).trans rfl
                  have hfz55_0 := blk_frozen BK101.out 0
                  have hfz55_1 := blk_frozen BK101.out 1
                  obtain ⟨Ao56, co56, eo56⟩ := Kd.S_slice HO_4.out
                  subst eo56
                  go_wp2_with (first | (go_at_call 36; (with_reducible refine (slices_EqualFunc_int_int_int_int.calls _ _ x4_2 _ _ l0_1 t105 _ ?side1 ?side2 ?side3 ?side4 A54.out).mono ?_); (case side1 => repeat (first | exact (Kd.S_reads' HO_4.out).2.2 | (with_reducible refine Kd.C_alloc ?_ _) | (with_reducible refine Kd.C_drewN ?_ _) | (with_reducible refine Kd.C_drew ?_))); (case side2 => exact (Kd.S_reads' HO_4.out).2.1); (case side3 => repeat (first | exact (Kd.C_below HR0_1.out HB.out) | (with_reducible refine Kd.C_alloc ?_ _) | (with_reducible refine Kd.C_drewN ?_ _) | (with_reducible refine Kd.C_drew ?_))); (case side4 => exact HC0_1.out); rintro e w57 ⟨rfl, hb⟩; have n0_ := Aside0.mk (Kd.S_below (by (with_reducible repeat (first | apply Kd.S_alloc | apply Kd.S_drewN | apply Kd.S_drew)); exact HO_4.out) hb); have n1_ := Aside0.mk (blk_below (g := gb101) (o := .cells #[.slice A0_0 l0_0.length c0_0, .slice A0_1 l0_1.length c0_1] 25 (0, 0)) (by (with_reducible repeat (first | refine blk_drewN ?_ _ | refine blk_drew ?_ | refine blk_alloc ?_ _)); exact BK101.out) hb); have n2_ := Aside0.mk (below_step (by repeat (first | (with_reducible first | exact HB.out | apply below_alloc | apply pw_below_drewN | apply below_drew1 | refine below_set ?_ GE101.out) | exact HB.out)) hb); clear HO_4; clear BK101; clear HB; have HO_4 := n0_; have BK101 := n1_; have HB := n2_; clear n0_ n1_ n2_; (try clear hb); (try clear hb2); (try clear hk); (try clear hi)))
                  repeat (go_quiet (first | (go_at_call 36; (with_reducible refine (slices_EqualFunc_int_int_int_int.calls _ _ x4_2 _ _ l0_1 t105 _ ?side1 ?side2 ?side3 ?side4 A54.out).mono ?_); (case side1 => repeat (first | exact (Kd.S_reads' HO_4.out).2.2 | (with_reducible refine Kd.C_alloc ?_ _) | (with_reducible refine Kd.C_drewN ?_ _) | (with_reducible refine Kd.C_drew ?_))); (case side2 => exact (Kd.S_reads' HO_4.out).2.1); (case side3 => repeat (first | exact (Kd.C_below HR0_1.out HB.out) | (with_reducible refine Kd.C_alloc ?_ _) | (with_reducible refine Kd.C_drewN ?_ _) | (with_reducible refine Kd.C_drew ?_))); (case side4 => exact HC0_1.out); rintro e w57 ⟨rfl, hb⟩; have n0_ := Aside0.mk (Kd.S_below (by (with_reducible repeat (first | apply Kd.S_alloc | apply Kd.S_drewN | apply Kd.S_drew)); exact HO_4.out) hb); have n1_ := Aside0.mk (blk_below (g := gb101) (o := .cells #[.slice A0_0 l0_0.length c0_0, .slice A0_1 l0_1.length c0_1] 25 (0, 0)) (by (with_reducible repeat (first | refine blk_drewN ?_ _ | refine blk_drew ?_ | refine blk_alloc ?_ _)); exact BK101.out) hb); have n2_ := Aside0.mk (below_step (by repeat (first | (with_reducible first | exact HB.out | apply below_alloc | apply pw_below_drewN | apply below_drew1 | refine below_set ?_ GE101.out) | exact HB.out)) hb); clear HO_4; clear BK101; clear HB; have HO_4 := n0_; have BK101 := n1_; have HB := n2_; clear n0_ n1_ n2_; (try clear hb); (try clear hb2); (try clear hk); (try clear hi))); try go_wp2_with (first | (go_at_call 36; (with_reducible refine (slices_EqualFunc_int_int_int_int.calls _ _ x4_2 _ _ l0_1 t105 _ ?side1 ?side2 ?side3 ?side4 A54.out).mono ?_); (case side1 => repeat (first | exact (Kd.S_reads' HO_4.out).2.2 | (with_reducible refine Kd.C_alloc ?_ _) | (with_reducible refine Kd.C_drewN ?_ _) | (with_reducible refine Kd.C_drew ?_))); (case side2 => exact (Kd.S_reads' HO_4.out).2.1); (case side3 => repeat (first | exact (Kd.C_below HR0_1.out HB.out) | (with_reducible refine Kd.C_alloc ?_ _) | (with_reducible refine Kd.C_drewN ?_ _) | (with_reducible refine Kd.C_drew ?_))); (case side4 => exact HC0_1.out); rintro e w57 ⟨rfl, hb⟩; have n0_ := Aside0.mk (Kd.S_below (by (with_reducible repeat (first | apply Kd.S_alloc | apply Kd.S_drewN | apply Kd.S_drew)); exact HO_4.out) hb); have n1_ := Aside0.mk (blk_below (g := gb101) (o := .cells #[.slice A0_0 l0_0.length c0_0, .slice A0_1 l0_1.length c0_1] 25 (0, 0)) (by (with_reducible repeat (first | refine blk_drewN ?_ _ | refine blk_drew ?_ | refine blk_alloc ?_ _)); exact BK101.out) hb); have n2_ := Aside0.mk (below_step (by repeat (first | (with_reducible first | exact HB.out | apply below_alloc | apply pw_below_drewN | apply below_drew1 | refine below_set ?_ GE101.out) | exact HB.out)) hb); clear HO_4; clear BK101; clear HB; have HO_4 := n0_; have BK101 := n1_; have HB := n2_; clear n0_ n1_ n2_; (try clear hb); (try clear hb2); (try clear hk); (try clear hi))))
                  go_ret
                  exact ⟨by first | rfl | (simp [errW_none, errW_some] <;> rfl) | (simp [*, errW_none, errW_some] <;> rfl), by repeat (first | (with_reducible first | exact HB.out | apply below_alloc | apply pw_below_drewN | apply below_drew1 | refine below_set ?_ GE101.out) | exact HB.out)⟩
          · rw [if_neg c9] at H
            exact absurd H (by simp)
        · rw [if_neg c8] at H
          exact absurd H (by simp)

end Go.Proofs.Ytlnlamgnilmbjaa.Q

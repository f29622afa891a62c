/- The walk of ontimelaw25.Graph. -/
import Derived.Test.YtlnlamgnilmbjaaATree
import Derived.Test.YtlnlamgnilmbjaaAPush
import Derived.Outline
import Derived.Deep.DeepCutAuto
import Derived.Deep.CutBlock
import Derived.IntWalk
import Derived.RegionTactic
import Derived.BigRegion
import Derived.Deep.RegionLaw
import Derived.Deep.DeepMust
namespace Go.Proofs.Ytlnlamgnilmbjaa.Q
open Go.RowKit Go.Proofs.YtlnlamgnilmbjaaW.PrintWords Go.Proofs.YtlnlamgnilmbjaaW.PrintLast Go.Proofs.YtlnlamgnilmbjaaW.PrintMore
set_option linter.unusedVariables false
set_option linter.unusedSimpArgs false
theorem ginfo46 : (Try.prog.info? 46).map (fun i => (i.zero, i.size, i.bytes)) = some (some (.agg #[.int .i64 0, .int .i64 0, .slice none 0 0]), 3, 40) := by kernel_rfl

def grB (i : Nat) : List Int → List (List Int) → Option (List (List Int))
  | [], p => some p
  | b :: bs, p =>
    if ix p.length b then (if (p.getD b.toNat []).length < 17592186044415 then grB i bs (p.set b.toNat (p.getD b.toNat [] ++ [(i : Int)])) else none)
    else grB i bs p
def grA : Nat → List (List Int) → List (List Int) → Option (List (List Int))
  | _, [], p => some p
  | i, l :: ls, p => (grB i l p).bind fun p2 => grA (i + 1) ls p2
def blocksOf (next : List (List Int)) : List S46 := next.zipIdx.map fun x => ⟨(x.2 : Int), (x.2 : Int) + 1, x.1⟩
def grF (next : List (List Int)) : Option (List S46 × List (List Int)) :=
  if 0 < next.length ∧ next.length ≤ 3518437208882 then (grA 0 next (List.replicate next.length [])).map fun p => (blocksOf next, p) else none
/-- The cells of the first i blocks. -/
def rowsTo (cv : Nat → Value) (i : Nat) : List (List Value) := (List.range i).map fun (j : Nat) => ([.int .i64 (j : Int), .int .i64 ((j : Int) + 1), cv j] : List Value)
theorem rowsTo_succ (cv : Nat → Value) (i : Nat) : rowsTo cv (i + 1) = rowsTo cv i ++ [[.int .i64 (i : Int), .int .i64 ((i : Int) + 1), cv i]] := by simp [rowsTo, List.range_succ]
theorem rowsTo_len (cv : Nat → Value) (i : Nat) : (rowsTo cv i).length = i := by simp [rowsTo]
structure GS (w0 w : World) (T g7 q7 : Nat) (vb : Value) (cv : Nat → Value) (i : Nat) (prev : List (List Int)) : Prop where
  bel : Below w0.heap.size w0 w
  hT : w.heap[T]? = some (.cells #[vb, .slice (some ⟨g7, 0, none⟩) prev.length q7] 25 (0, 0))
  rb : (Kd.raw 3).R 46 w w0.heap.size (fun _ => True) vb (rowsTo cv i)
  rp : Kd.S (Kd.slice 3 (Kd.int .i64)) 29 w w0.heap.size (fun _ => True) (.slice (some ⟨g7, 0, none⟩) prev.length q7) prev
  low : w0.heap.size ≤ T ∧ w0.heap.size ≤ g7
  h2 : w.heap[w0.heap.size]? = some (.cells #[.slice none 0 0, .slice none 0 0] 25 (0, 0))
  ne : w0.heap.size ≠ T
section
variable {w0 w w1 : World} {T g7 q7 : Nat} {vb : Value} {cv : Nat → Value} {i : Nat} {prev : List (List Int)}
theorem blk_put20 {w : World} {g : Nat} {t : TypeId} {v u : Value} (h : w.heap[g]? = some (.cells #[v, u] t (0, 0))) (x : Value) : (w.setCell ⟨g, 0, none⟩ x).heap[g]? = some (.cells #[x, u] t (0, 0)) := by
  rw [blk_set h]; rfl
theorem GS.below (h : GS w0 w T g7 q7 vb cv i prev) (hb : Below w.heap.size w w1) : GS w0 w1 T g7 q7 vb cv i prev :=
  ⟨below_step h.bel hb, blk_below h.hT hb, Kd.R_below h.rb hb, Kd.S_below h.rp hb, h.low, blk_below h.h2 hb, h.ne⟩
/-- The blocks are appended to and stored back. -/
theorem GS.add (h : GS w0 w T g7 q7 vb cv i prev) {v1 : Value} (hb : Below w0.heap.size w0 w1) (hg : w.grownBy w1 vb.ownBlock) (hr : (Kd.raw 3).R 46 w1 w0.heap.size (fun _ => True) v1 (rowsTo cv (i + 1))) :
    GS w0 (w1.setCell ⟨T, 0, none⟩ v1) T g7 q7 v1 cv (i + 1) prev ∧ w1.cell? ⟨T, 0, none⟩ = some vb ∧ w1.frozen? ⟨T, 0, none⟩ = false := by
  have hT1 := blk_grown h.hT hg (Kd.R_ne h.rb h.hT (by decide))
  have hp1 := Kd.S_over' h.rp (Kd.R_typed h.rb) (by decide) hg
  exact ⟨⟨hb.setCell (p := ⟨T, 0, none⟩) h.low.1 _, blk_put20 hT1 v1, Kd.R_set hr hT1 (by decide) _ _, Kd.S_set hp1 hT1 (by decide) _ _, h.low, blk_far (blk_grown h.h2 hg (Kd.R_ne h.rb h.h2 (by decide))) (p := ⟨T, 0, none⟩) h.ne _, h.ne⟩, (blk_read2 hT1).1, blk_frozen hT1 0⟩
/-- A row of predecessors is appended to and stored back. -/
theorem GS.push (h : GS w0 w T g7 q7 vb cv i prev) (a : Nat) (ha : a < prev.length) :
    ∃ (A : Option Addr) (c : Nat) (oki : Nat → Prop), w.cell? ⟨g7, a, none⟩ = some (.slice A (prev.getD a []).length c) ∧ w.frozen? ⟨g7, a, none⟩ = false ∧
      (Kd.int .i64).R 3 w w0.heap.size (fun k => oki k ∨ True ∧ w.heap.size ≤ k) (.slice A (prev.getD a []).length c) (prev.getD a []) ∧
      ∀ (v1 : Value) (w1 : World) (ys : List Int), w.grownBy w1 (Value.slice A (prev.getD a []).length c).ownBlock → Below w0.heap.size w0 w1 → (Kd.int .i64).R 3 w1 w0.heap.size (fun k => oki k ∨ True ∧ w.heap.size ≤ k) v1 ys →
        w1.cell? ⟨g7, a, none⟩ = some (.slice A (prev.getD a []).length c) ∧ w1.frozen? ⟨g7, a, none⟩ = false ∧ w1.cell? ⟨T, 1, none⟩ = some (.slice (some ⟨g7, 0, none⟩) prev.length q7) ∧
        GS w0 (w1.setCell ⟨g7, a, none⟩ v1) T g7 q7 vb cv i (prev.set a ys) := by
  obtain ⟨A, c, oki, hc, hf, hoki, hR, hpush⟩ := S_push h.rp a ha
  refine ⟨A, c, oki, hc, hf, Kd.R_mono hR (fun k hk => .inl hk), ?_⟩
  intro v1 w1 ys hg hb hR1
  obtain ⟨hc1, hf1, hS1, hg1, cells, hraw⟩ := hpush v1 w1 ys hg hR1
  have hT1 := blk_grown h.hT hg (Kd.R_ne hR h.hT (by decide))
  have hb1 := Kd.R_over' h.rb (Kd.R_typed hR) (by decide) hg
  refine ⟨hc1, hf1, (blk_read2 hT1).2, hb.setCell (p := ⟨g7, a, none⟩) h.low.2 _, ?_, Kd.R_set hb1 hraw (by decide) _ _, ?_, h.low, blk_far (blk_grown h.h2 hg (Kd.R_ne hR h.h2 (by decide))) (p := ⟨g7, a, none⟩) (blk_ne (blk_grown h.h2 hg (Kd.R_ne hR h.h2 (by decide))) hraw (by decide)) _, h.ne⟩
  · rw [List.length_set]; exact blk_far hT1 (p := ⟨g7, a, none⟩) (blk_ne hT1 hraw (by decide)) _
  · rw [List.length_set]; exact hS1
end
/-- The graph is copied into the result. -/
theorem GS.fin {w0 w : World} {T g7 q7 : Nat} {vb : Value} {cv : Nat → Value} {i : Nat} {prev : List (List Int)} (h : GS w0 w T g7 q7 vb cv i prev) :
    Below w0.heap.size w0 ((w.setCell ⟨w0.heap.size, 0, none⟩ vb).setCell ⟨w0.heap.size, 1, none⟩ (.slice (some ⟨g7, 0, none⟩) prev.length q7)) ∧
    ((w.setCell ⟨w0.heap.size, 0, none⟩ vb).setCell ⟨w0.heap.size, 1, none⟩ (.slice (some ⟨g7, 0, none⟩) prev.length q7)).heap[w0.heap.size]? = some (.cells #[vb, .slice (some ⟨g7, 0, none⟩) prev.length q7] 25 (0, 0)) ∧
    (w.setCell ⟨w0.heap.size, 0, none⟩ vb).heap[w0.heap.size]? = some (.cells #[vb, .slice none 0 0] 25 (0, 0)) ∧
    (Kd.raw 3).R 46 ((w.setCell ⟨w0.heap.size, 0, none⟩ vb).setCell ⟨w0.heap.size, 1, none⟩ (.slice (some ⟨g7, 0, none⟩) prev.length q7)) w0.heap.size (fun _ => True) vb (rowsTo cv i) ∧
    Kd.S (Kd.slice 3 (Kd.int .i64)) 29 ((w.setCell ⟨w0.heap.size, 0, none⟩ vb).setCell ⟨w0.heap.size, 1, none⟩ (.slice (some ⟨g7, 0, none⟩) prev.length q7)) w0.heap.size (fun _ => True) (.slice (some ⟨g7, 0, none⟩) prev.length q7) prev := by
  have h1 := blk_put20 h.h2 vb
  have h2 : ((w.setCell ⟨w0.heap.size, 0, none⟩ vb).setCell ⟨w0.heap.size, 1, none⟩ (.slice (some ⟨g7, 0, none⟩) prev.length q7)).heap[w0.heap.size]? = some (.cells #[vb, .slice (some ⟨g7, 0, none⟩) prev.length q7] 25 (0, 0)) := by rw [blk_set h1]; rfl
  exact ⟨(h.bel.setCell (p := ⟨w0.heap.size, 0, none⟩) (Nat.le_refl _) _).setCell (p := ⟨w0.heap.size, 1, none⟩) (Nat.le_refl _) _, h2, h1, Kd.R_set (Kd.R_set h.rb h.h2 (by decide) _ _) h1 (by decide) _ _, Kd.S_set (Kd.S_set h.rp h.h2 (by decide) _ _) h1 (by decide) _ _⟩
theorem raw_one (i j : Int) (A : Option Addr) (n c : Nat) : ∀ u ∈ ([.int .i64 i, .int .i64 j, .slice A n c] : List Value), u.oneCell' = true := by
  intro u hu
  simp only [List.mem_cons, List.not_mem_nil, or_false] at hu
  rcases hu with rfl | rfl | rfl <;> rfl
set_option maxHeartbeats 4000000 in
set_option maxRecDepth 100000 in
/-- The graph's blocks as cells, its predecessors as a row of rows. -/
theorem graph_calls (A0 : Option Addr) (c0 : Nat) (l0 : List (List Int)) (bl : List S46) (pv : List (List Int)) (cv : Nat → Value) (w : World) (hr0 : Kd.C (Kd.slice 3 (Kd.int .i64)) w A0 l0.length l0) (hc0 : l0.length ≤ c0) (hcv : ∀ ad, A0 = some ad → ∀ j, j < l0.length → w.cell? (ad.add j) = some (cv j)) (h : grF l0 = some (bl, pv)) :
    Calls Try.prog 27 #[.slice A0 l0.length c0] w fun e w' => ∃ v0 v1 : Value, e = .returned (.agg #[v0, v1]) ∧ (Kd.raw 3).R 46 w' w.heap.size (fun _ => True) v0 (rowsTo cv l0.length) ∧ Kd.S (Kd.slice 3 (Kd.int .i64)) 29 w' w.heap.size (fun _ => True) v1 pv ∧ Below w.heap.size w w' := by
  unfold grF at h
  by_cases hn : 0 < l0.length ∧ l0.length ≤ 3518437208882
  · rw [if_pos hn] at h
    obtain ⟨hn0, hn⟩ := hn
    obtain ⟨pf, hp, he⟩ := Option.map_eq_some_iff.1 h
    obtain ⟨rfl, rfl⟩ : blocksOf l0 = bl ∧ pf = pv := by simpa using he
    have H0 := Aside0.mk hr0
    have HCV := Aside0.mk hcv
    have HP := Aside0.mk hp
    clear hr0 hc0 hcv h he hp
    have hu25 := Try.underlying25
    go_enter Try.func27, Try.ntmps27
    go_wp2_with ((with_reducible refine gate_dst (N := 9) rfl ?_); refine Kd.S_make (Kd.slice 3 (Kd.int .i64)) _ 29 rfl (N := 9) rfl 23 _ _ rfl (l0.length : Int) rfl rfl Try.underlying23 (.slice none 0 0) 24 info29 rfl (by decide) (by omega) [] (ok := fun _ => True) (okp := fun _ => True) ⟨_, rfl, Kd.R_nil _ _ _ _ _⟩ (fun _ hk => hk) trivial (by omega) (by omega) ((Below.refl w.heap.size w).alloc (Nat.le_refl _) (.cells #[.slice none 0 0, .slice none 0 0] 25 (0, 0))) (by simp) ?_; intro v w6 ho hb hg hnew; rw [Int.toNat_natCast] at ho; obtain ⟨Av, c7, rfl⟩ := Kd.S_slice ho; have H2 := Aside0.mk (blk_grown (blk_new w (.cells #[.slice none 0 0, .slice none 0 0] 25 (0, 0))) hg (by simp)); have HO := Aside0.mk ho; have HB := Aside0.mk hb; clear ho hb hg hnew)
    obtain ⟨g7, q7, hv7, hb7, hl7, _⟩ := Kd.S_form HO.out (by simp; omega)
    obtain ⟨rfl, rfl⟩ : Av = some ⟨g7, 0, none⟩ ∧ c7 = q7 := by injection hv7 with h1 h2 h3; exact ⟨h1, h3⟩
    have HGS := Aside0.mk (show GS w (w6.alloc (.cells #[.slice none 0 0, .slice (some ⟨g7, 0, none⟩) l0.length c7] 25 (0, 0))) w6.heap.size g7 c7 (.slice none 0 0) cv 0 (List.replicate l0.length []) from ⟨HB.out.alloc HB.out.size _, (by rw [List.length_replicate]; exact blk_new w6 _), Kd.R_nil _ _ _ _ _, (by have h := HO.out; rw [List.length_replicate] at h ⊢; exact Kd.S_alloc h _), ⟨HB.out.size, hb7⟩, blk_alloc H2.out _, by have := blk_lt H2.out; omega⟩)
    clear hv7 hb7 hl7 HO HB hn0 H2
    obtain ⟨T, hT⟩ : ∃ T, T = w6.heap.size := ⟨_, rfl⟩
    rw [← hT] at HGS
    rw [← hT]
    clear hT
    go_loopw [4] (fun vi wr => ∃ (i : Nat) (vb : Value) (p : List (List Int)), vi = .int .i64 i ∧ i ≤ l0.length ∧ Aside0 (p.length = l0.length) ∧ Aside0 (grA i (l0.drop i) p = some pf) ∧ Aside0 (GS w wr T g7 c7 vb cv i p)) (fun vi _ => l0.length - (intOf vi).toNat)
    case atStart => exact ⟨0, _, _, rfl, Nat.zero_le _, ⟨by simp⟩, ⟨HP.out⟩, HGS⟩
    case round =>
      obtain ⟨i, vb, p, rfl, hi, HL, HA, HS⟩ := hrel
      clear HGS HP
      by_cases hlt : i < l0.length
      · obtain ⟨ad, Ai, ci, eA, hx0, hl0i, hi0⟩ := at_L1 H0.out (i : Int) (by omega) (by omega)
        cases eA
        rw [Int.toNat_natCast] at hx0
        have hcvi : cv i = .slice Ai (rd_L1 l0 (i : Int)).length ci := by
          have h1 := HCV.out _ rfl i hlt
          rw [hx0] at h1
          injection h1 with h1
          exact h1.symm
        have HCVI := Aside0.mk hcvi
        have HI0 := Aside0.mk hi0
        have hx := pw_cell_below HS.out.bel hx0
        have hxa := pw_cell_below (below_alloc (Below.refl _ _) (.cells #[.int .i64 (i : Int), .int .i64 ((i : Int) + 1), .slice Ai (rd_L1 l0 (i : Int)).length ci] 46 (0, 0))) hx
        have hT0 := (blk_read2 HS.out.hT).1
        have hT0a := (blk_read2 (blk_alloc HS.out.hT (.cells #[.int .i64 (i : Int), .int .i64 ((i : Int) + 1), .slice Ai (rd_L1 l0 (i : Int)).length ci] 46 (0, 0)))).1
        have hlm : (rd_L1 l0 (i : Int)).length ≤ 9223372036854775807 := hi0.2.1
        have hga := HA.out
        have hdr : l0.drop i = rd_L1 l0 (i : Int) :: l0.drop (i + 1) := by rw [List.drop_eq_getElem_cons hlt]; simp [rd_L1, List.getD_eq_getElem?_getD, hlt]
        rw [hdr, grA] at hga
        obtain ⟨p2, hgb, hga2⟩ := Option.bind_eq_some_iff.1 hga
        have HGB := Aside0.mk hgb
        have HGA := Aside0.mk hga2
        have HX0 := Aside0.mk hx0
        have hRL : (rowsTo cv i).length = i := rowsTo_len cv i
        have HRL := Aside0.mk hRL
        have HAL := Aside0.mk (show (rowsTo cv (i + 1)).length = (rowsTo cv i).length + 1 by simp [rowsTo_len])
        clear hcvi hi0 hl0i hga hdr hgb hga2 hx0 HA hRL
        have hwr : IntKind.i64.wrap ((i : Int) + 1) = (i : Int) + 1 := IntWalk.i64_in _ (by omega)
        obtain ⟨Wo, hWo⟩ : ∃ Wo : World, Wo = wr := ⟨_, rfl⟩
        subst hWo
        go_wp2
        go_cut [29] (fun _ wc => ∃ vb2 : Value, Aside0 (GS w wc T g7 c7 vb2 cv (i + 1) p))
        case first =>
          go_region_law (refine append_step_drew (Kd.raw 3) (w0 := w) (W := Wo) w.heap.size ?aW (.tmp 18) (.tmp 27) 22 46 (.agg #[.int .i64 0, .int .i64 0, .slice none 0 0]) 40 rfl Try.underlying22 ginfo46 rfl ?aD1 ?aD2 vb (rowsTo cv i) [.int .i64 (i : Int), .int .i64 ((i : Int) + 1), .slice Ai (rd_L1 l0 (i : Int)).length ci] [.int .i64 (i : Int), .int .i64 ((i : Int) + 1), .slice Ai (rd_L1 l0 (i : Int)).length ci] (fun _ => True) (fun _ => False) rfl rfl ?aP (fun _ hk => hk.elim) ?aF ?aO ?aB ?aS ?aL ?_; (case aW => rfl); (case aD1 => decide); (case aD2 => decide); (case aP => exact fun _ => ⟨rfl, rfl, raw_one _ _ _ _ _⟩); (case aF => exact fun _ _ => trivial); (case aO => exact HS.out.rb); (case aB => exact HS.out.bel); (case aS => exact HS.out.bel.size); (case aL => (rw [HRL.out]; omega)); intro v1 w11 ho hb hg hat; obtain ⟨Av1, cv1, rfl⟩ := Kd.R_slice ho; have hr2 := ho; rw [← HCVI.out, ← rowsTo_succ] at hr2; obtain ⟨hgs, hc1, hf1⟩ := HS.out.add hb hg hr2; have HGS2 := Aside0.mk hgs; clear ho hb hg hat hr2 hgs)
          all_goals
            go_wp2
            go_meet
            case rel =>
              have h1 := HGS2.out
              rw [HAL.out] at h1
              exact ⟨_, ⟨h1⟩⟩
        case rest =>
          obtain ⟨vb2, HS2⟩ := hcut
          clear HS hT0 hT0a hxa hx
          obtain ⟨Wm, hWm⟩ : ∃ Wm : World, Wm = wc := ⟨_, rfl⟩
          subst hWm
          go_wp2
          go_loopw [5] (fun vk wr => ∃ (k : Nat) (p' : List (List Int)), vk = .int .i64 k ∧ k ≤ (rd_L1 l0 (i : Int)).length ∧ Aside0 (p'.length = l0.length) ∧ Aside0 (grB i ((rd_L1 l0 (i : Int)).drop k) p' = some p2) ∧ Aside0 (GS w wr T g7 c7 vb2 cv (i + 1) p')) (fun vk _ => (rd_L1 l0 (i : Int)).length - (intOf vk).toNat)
          case atStart => exact ⟨0, p, rfl, Nat.zero_le _, HL, HGB, HS2⟩
          case round =>
            obtain ⟨k, p', rfl, hk, HL2, HB2, HS⟩ := hrel
            clear HS2 HGB HL
            have hx := pw_cell_below HS.out.bel HX0.out
            by_cases hlt2 : k < (rd_L1 l0 (i : Int)).length
            · obtain ⟨ad2, e2, hb2⟩ := Kd.at_int (Kd.C_below HI0.out HS.out.bel) (k : Int) (by omega) (by omega)
              cases e2
              rw [Int.toNat_natCast] at hb2
              have hgb := HB2.out
              rw [drop_rd _ k hlt2, grB] at hgb
              obtain ⟨b, hbE⟩ : ∃ b, b = rd (rd_L1 l0 (i : Int)) (k : Int) := ⟨_, rfl⟩
              rw [← hbE] at hgb hb2
              clear hbE HB2
              by_cases hix : ix p'.length b
              · rw [if_pos hix] at hgb
                have hbound : (p'.getD b.toNat []).length < 17592186044415 := by
                  by_cases hq : (p'.getD b.toNat []).length < 17592186044415
                  · exact hq
                  · rw [if_neg hq] at hgb; cases hgb
                rw [if_pos hbound] at hgb
                obtain ⟨hb0, hb1⟩ := hix
                obtain ⟨m, rfl⟩ := Int.eq_ofNat_of_zero_le hb0
                rw [Int.toNat_natCast] at hgb hbound
                have hm : m < p'.length := by omega
                have hml : (m : Int) < (l0.length : Int) := by have := HL2.out; omega
                obtain ⟨Ax, cx, oki, hcX, hfX, hRX, hpush⟩ := HS.out.push m hm
                obtain ⟨oj, hoj⟩ : ∃ oj, oj = p'.getD m [] := ⟨_, rfl⟩
                rw [← hoj] at hcX hRX hpush hbound hgb
                clear hoj
                have HNY := Aside0.mk hgb
                have HPU := Aside0.mk hpush
                have HRX := Aside0.mk hRX
                have hcXa := pw_cell_below (below_alloc (Below.refl _ _) (.cells #[.int .i64 (i : Int)] 3 (0, 0))) hcX
                have ht1 := (blk_read2 HS.out.hT).2
                have ht1a := (blk_read2 (blk_alloc HS.out.hT (.cells #[.int .i64 (i : Int)] 3 (0, 0)))).2
                have HLQ := Aside0.mk (show (oj ++ [(i : Int)]).length = oj.length + 1 by simp)
                have HL3 := Aside0.mk (show (p'.set m (oj ++ [(i : Int)])).length = l0.length by rw [List.length_set]; exact HL2.out)
                have hpl : p'.length = l0.length := HL2.out
                rw [hpl] at ht1 ht1a
                clear hpush hRX hgb hm hb0 hb1 hpl
                have hd1 : decide (0 ≤ (m : Int)) = true := decide_eq_true (by omega)
                obtain ⟨Wi, hWi⟩ : ∃ Wi : World, Wi = wr := ⟨_, rfl⟩
                subst hWi
                go_wp2
                go_region_law (refine append_step_drew (Kd.int .i64) (w0 := w) (W := Wi) w.heap.size ?aW (.tmp 61) (.tmp 63) 29 3 (.int .i64 0) 8 rfl Try.underlying29 info3 rfl ?aD1 ?aD2 (.slice Ax oj.length cx) oj (i : Int) [.int .i64 (i : Int)] (fun k => oki k ∨ True ∧ Wi.heap.size ≤ k) (fun _ => False) rfl rfl ?aP (fun _ hk => hk.elim) ?aF ?aO ?aB ?aS ?aL ?_; (case aW => rfl); (case aD1 => decide); (case aD2 => decide); (case aP => exact fun _ => rfl); (case aF => exact fun k hk => .inr ⟨trivial, hk⟩); (case aO => exact HRX.out); (case aB => exact HS.out.bel); (case aS => exact HS.out.bel.size); (case aL => omega); intro v1 w11 ho hb hg hat; obtain ⟨Av1, cv1, rfl⟩ := Kd.R_slice ho; obtain ⟨hc1, hf1, htt, hgs⟩ := HPU.out _ _ _ hg hb ho; have HGS2 := Aside0.mk hgs; rw [HL2.out] at htt; clear ho hb hg hat hgs)
                all_goals
                  go_wp2
                  go_roundw
                  case rel =>
                    have h1 := HGS2.out
                    rw [HLQ.out] at h1
                    exact ⟨k + 1, _, by go_num, hlt2, HL3, HNY, ⟨h1⟩⟩
                  case measure => simp [intOf]; omega
              · rw [if_neg hix] at hgb
                have HB3 := Aside0.mk hgb
                have hnix : b < 0 ∨ (l0.length : Int) ≤ b := by have := HL2.out; unfold ix at hix; omega
                clear hgb hix
                by_cases hneg : 0 ≤ b
                · have hd1 : decide (0 ≤ b) = true := decide_eq_true hneg
                  have hd2 : decide (b < (l0.length : Int)) = false := decide_eq_false (by omega)
                  clear hnix hneg
                  go_wp2
                  go_roundw
                  case rel => exact ⟨k + 1, p', by go_num, hlt2, HL2, HB3, HS⟩
                  case measure => simp [intOf]; omega
                · have hd1 : decide (0 ≤ b) = false := decide_eq_false hneg
                  clear hnix hneg
                  go_wp2
                  go_roundw
                  case rel => exact ⟨k + 1, p', by go_num, hlt2, HL2, HB3, HS⟩
                  case measure => simp [intOf]; omega
            · obtain rfl : p' = p2 := by have h := HB2.out; rw [List.drop_of_length_le (by omega), grB] at h; simpa using h
              go_wp2
              go_roundw
              case rel => exact ⟨i + 1, vb2, p', by go_num, hlt, HL2, HGA, HS⟩
              case measure => simp [intOf]; omega
      · obtain rfl : i = l0.length := by omega
        obtain rfl : p = pf := by have h := HA.out; rw [List.drop_of_length_le (by omega), grA] at h; simpa using h
        have hT0 := (blk_read2 HS.out.hT).1
        have hT1 := (blk_read2 HS.out.hT).2
        obtain ⟨Ab, cb, hvb⟩ := Kd.R_slice HS.out.rb
        subst hvb
        have hR2 := blk_read2 HS.out.h2
        have hF0 := blk_frozen HS.out.h2 0
        have hF1 := blk_frozen HS.out.h2 1
        have HW := Aside0.mk (GS.fin HS.out)
        have hw2 := (blk_read2 HW.out.2.2.1).2
        have hw3 := blk_frozen HW.out.2.2.1 1
        clear hR2
        have hr0 := (blk_read2 HS.out.h2).1
        have hr1 := (blk_read2 HS.out.h2).2
        go_wp2
        have hq0 := (blk_read2 HW.out.2.1).1
        have hq1 := (blk_read2 HW.out.2.1).2
        exact bodyPost_ret (v := .agg #[.slice Ab (rowsTo cv l0.length).length cb, .slice (some ⟨g7, 0, none⟩) p.length c7]) (by simp [results, Try.results27, go_sem, hq0, hq1]) rfl ⟨_, _, rfl, HW.out.2.2.2.1, HW.out.2.2.2.2, HW.out.1⟩
  · rw [if_neg hn] at h; cases h
end Go.Proofs.Ytlnlamgnilmbjaa.Q

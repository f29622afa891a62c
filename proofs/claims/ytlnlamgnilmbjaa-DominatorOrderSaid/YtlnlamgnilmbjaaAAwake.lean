/- The walk of ontimelaw25.awake: the example of the chapter holds. -/
import Derived.Test.YtlnlamgnilmbjaaAMono
import Derived.Test.YtlnlamgnilmbjaaAGraph
import Derived.Test.YtlnlamgnilmbjaaQqontimeref25Ints
namespace Go.Proofs.Ytlnlamgnilmbjaa.Q
open Go.RowKit Go.Proofs.YtlnlamgnilmbjaaW.PrintWords Go.Proofs.YtlnlamgnilmbjaaW.PrintLast Go.Proofs.YtlnlamgnilmbjaaW.PrintMore
set_option linter.unusedVariables false
set_option linter.unusedSimpArgs false
/-- The made blocks, read. -/
theorem blocks_C {w w' : World} {A0 : Option Addr} {n : Nat} {next : List (List Int)} {cv : Nat → Value} {v0 : Value} (hin : Kd.C (Kd.slice 3 (Kd.int .i64)) w A0 n next) (hcv : ∀ ad, A0 = some ad → ∀ j, j < n → w.cell? (ad.add j) = some (cv j)) (hb : Below w.heap.size w w') (hraw : (Kd.raw 3).R 46 w' w.heap.size (fun _ => True) v0 (rowsTo cv n)) :
    ∃ A c, v0 = .slice A (blocksOf next).length c ∧ (blocksOf next).length ≤ c ∧ k46.C w' A (blocksOf next).length (blocksOf next) := by
  obtain ⟨A, c, rfl, hl, hC⟩ := Kd.R_reads hraw
  have hn : next.length = n := hin.1
  have hlen : (blocksOf next).length = n := by simp [blocksOf, hn]
  rw [rowsTo_len] at hl hC
  rw [rowsTo_len, hlen]
  refine ⟨A, c, rfl, hl, hlen, hC.2.1, fun hp => ?_⟩
  obtain ⟨ad, eA, hr⟩ := hC.2.2 hp
  refine ⟨ad, eA, fun j p hj => ?_⟩
  have hjn : j < n := by have := (List.getElem?_eq_some_iff.1 hj).1; omega
  obtain ⟨ad0, Aj, cj, eA0, hx, hlj, hij⟩ := at_L1 hin (j : Int) (by omega) (by omega)
  rw [Int.toNat_natCast] at hx
  have h1 := hcv ad0 eA0 j hjn
  rw [hx] at h1
  injection h1 with h1
  have hrow : (rowsTo cv n)[j]? = some [.int .i64 (j : Int), .int .i64 ((j : Int) + 1), cv j] := by simp [rowsTo, hjn]
  obtain ⟨c2, hcl, hK, hcc⟩ := hr j _ hrow
  obtain ⟨rfl, _, _⟩ := hK
  have hpe : p = ⟨(j : Int), (j : Int) + 1, rd_L1 next (j : Int)⟩ := by
    have hj' := hj
    simp only [blocksOf, List.getElem?_map, List.getElem?_zipIdx] at hj'
    have hjl : j < next.length := by omega
    rw [List.getElem?_eq_getElem hjl] at hj'
    simp at hj'
    rw [← hj']
    simp [rd_L1, List.getD_eq_getElem?_getD, hjl]
  subst hpe
  refine ⟨_, hcl, ?_, hcc⟩
  rw [← h1]
  exact k46_mk w' ⟨(j : Int), (j : Int) + 1, rd_L1 next (j : Int)⟩ hlj (Kd.C_below hij hb)
def ontimelaw25_awake.f : Option Bool := some true
/-- A literal of numbers, read. -/
theorem lit_ints (w : World) (xs : List Int) (hm : xs.length ≤ 9223372036854775807) : Kd.C (Kd.int .i64) (w.alloc (.cells (xs.map (Value.int .i64)).toArray 3 (0, 0))) (some ⟨w.heap.size, 0, none⟩) xs.length xs := by
  refine ⟨rfl, hm, fun _ => ⟨_, rfl, fun j p hj => ⟨[.int .i64 p], rfl, rfl, fun i u hu => ?_⟩⟩⟩
  have h0 : i = 0 := by
    rcases i with _ | i
    · rfl
    · simp at hu
  subst h0
  injection hu with hu
  subst hu
  rw [add_plain, blk_cell (blk_new w _)]
  show (List.map (Value.int IntKind.i64) xs).toArray[j * 1 + 0]? = _
  simp [hj]
/-- A literal of rows of numbers, read. -/
theorem lit_rows (w : World) (vs : List Value) (xs : List (List Int)) (hl : vs.length = xs.length) (hm : xs.length ≤ 9223372036854775807) (hv : ∀ (j : Nat) (l : List Int) (v : Value), xs[j]? = some l → vs[j]? = some v → ∃ A c, v = .slice A l.length c ∧ l.length ≤ c ∧ (Kd.int .i64).C (w.alloc (.cells vs.toArray 29 (0, 0))) A l.length l) :
    Kd.C (Kd.slice 3 (Kd.int .i64)) (w.alloc (.cells vs.toArray 29 (0, 0))) (some ⟨w.heap.size, 0, none⟩) xs.length xs ∧ ∀ ad, (some ⟨w.heap.size, 0, none⟩ : Option Addr) = some ad → ∀ j, j < xs.length → (w.alloc (.cells vs.toArray 29 (0, 0))).cell? (ad.add j) = some (vs.getD j undef) := by
  constructor
  · refine ⟨rfl, hm, fun _ => ⟨_, rfl, fun j p hj => ?_⟩⟩
    obtain ⟨hjl, _⟩ := List.getElem?_eq_some_iff.1 hj
    have hvj : vs[j]? = some (vs[j]'(by omega)) := List.getElem?_eq_getElem (by omega)
    obtain ⟨A, c, he, hc, hC⟩ := hv j p _ hj hvj
    refine ⟨[vs[j]'(by omega)], rfl, ⟨A, c, by rw [he], hc, hC⟩, fun i u hu => ?_⟩
    have h0 : i = 0 := by
      rcases i with _ | i
      · rfl
      · simp at hu
    subst h0
    injection hu with hu
    subst hu
    rw [add_plain, blk_cell (blk_new w _)]
    show vs.toArray[j * 1 + 0]? = _
    simp [hvj]
  · intro ad had j hj
    injection had with had
    subst had
    rw [add_plain, blk_cell (blk_new w _)]
    have : j < vs.length := by omega
    simp [List.getD_eq_getElem?_getD, this]
theorem grF0 : grF nx0 = some (bl0, pv0) := by kernel_rfl
theorem ints_self : ∀ l ∈ [[-1, 0, 0, 0], [0, 2, 1, 3], ([3] : List Int)], ontimeref25_Ints.f 20 l l = some true := by
  intro l hl
  simp only [List.mem_cons, List.not_mem_nil, or_false] at hl
  rcases hl with rfl | rfl | rfl <;> kernel_rfl
theorem lit0 (w : World) : ∃ cv : Nat → Value, Kd.C (Kd.slice 3 (Kd.int .i64)) ((((w.alloc (.cells #[.int .i64 1, .int .i64 2] 3 (0, 0))).alloc (.cells #[.int .i64 3] 3 (0, 0))).alloc (.cells #[.int .i64 3] 3 (0, 0))).alloc (.cells #[.slice (some ⟨w.heap.size, 0, none⟩) 2 2, .slice (some ⟨w.heap.size + 1, 0, none⟩) 1 1, .slice (some ⟨w.heap.size + 1 + 1, 0, none⟩) 1 1, .slice none 0 0] 29 (0, 0))) (some ⟨w.heap.size + 1 + 1 + 1, 0, none⟩) nx0.length nx0 ∧
    ∀ ad, (some ⟨w.heap.size + 1 + 1 + 1, 0, none⟩ : Option Addr) = some ad → ∀ j, j < nx0.length → ((((w.alloc (.cells #[.int .i64 1, .int .i64 2] 3 (0, 0))).alloc (.cells #[.int .i64 3] 3 (0, 0))).alloc (.cells #[.int .i64 3] 3 (0, 0))).alloc (.cells #[.slice (some ⟨w.heap.size, 0, none⟩) 2 2, .slice (some ⟨w.heap.size + 1, 0, none⟩) 1 1, .slice (some ⟨w.heap.size + 1 + 1, 0, none⟩) 1 1, .slice none 0 0] 29 (0, 0))).cell? (ad.add j) = some (cv j) := by
  have h1 := lit_ints w [1, 2] (by decide)
  have h2 := lit_ints (w.alloc (.cells #[.int .i64 1, .int .i64 2] 3 (0, 0))) [3] (by decide)
  have h3 := lit_ints ((w.alloc (.cells #[.int .i64 1, .int .i64 2] 3 (0, 0))).alloc (.cells #[.int .i64 3] 3 (0, 0))) [3] (by decide)
  have hs2 : (w.alloc (.cells #[.int .i64 1, .int .i64 2] 3 (0, 0))).heap.size = w.heap.size + 1 := by simp
  have hs3 : ((w.alloc (.cells #[.int .i64 1, .int .i64 2] 3 (0, 0))).alloc (.cells #[.int .i64 3] 3 (0, 0))).heap.size = w.heap.size + 1 + 1 := by simp
  have hs4 : (((w.alloc (.cells #[.int .i64 1, .int .i64 2] 3 (0, 0))).alloc (.cells #[.int .i64 3] 3 (0, 0))).alloc (.cells #[.int .i64 3] 3 (0, 0))).heap.size = w.heap.size + 1 + 1 + 1 := by simp
  rw [hs2] at h2
  rw [hs3] at h3
  have := lit_rows (((w.alloc (.cells #[.int .i64 1, .int .i64 2] 3 (0, 0))).alloc (.cells #[.int .i64 3] 3 (0, 0))).alloc (.cells #[.int .i64 3] 3 (0, 0))) [.slice (some ⟨w.heap.size, 0, none⟩) 2 2, .slice (some ⟨w.heap.size + 1, 0, none⟩) 1 1, .slice (some ⟨w.heap.size + 1 + 1, 0, none⟩) 1 1, .slice none 0 0] nx0 rfl (by decide) (by
    intro j l v hj hv
    rcases j with _ | _ | _ | _ | j
    · injection hj with hj; injection hv with hv; subst hj; subst hv
      exact ⟨_, _, rfl, Nat.le_refl _, Kd.C_alloc (Kd.C_alloc (Kd.C_alloc h1 _) _) _⟩
    · injection hj with hj; injection hv with hv; subst hj; subst hv
      exact ⟨_, _, rfl, Nat.le_refl _, Kd.C_alloc (Kd.C_alloc h2 _) _⟩
    · injection hj with hj; injection hv with hv; subst hj; subst hv
      exact ⟨_, _, rfl, Nat.le_refl _, Kd.C_alloc h3 _⟩
    · injection hj with hj; injection hv with hv; subst hj; subst hv
      exact ⟨_, _, rfl, Nat.le_refl _, Kd.C_nil _ _⟩
    · simp [nx0] at hj)
  rw [hs4] at this
  exact ⟨fun j => _, this⟩
theorem ints_lit (w : World) (A : Option Addr) (c : Nat) (l : List Int) (hC : (Kd.int .i64).C w A l.length l) (hl : l.length ≤ c) (hm : l.length ≤ 9223372036854775807) (hf : ontimeref25_Ints.f 20 l l = some true) :
    Calls Try.prog 17 #[.slice A l.length c, .slice (some ⟨w.heap.size, 0, none⟩) l.length l.length] (w.alloc (.cells (l.map (Value.int .i64)).toArray 3 (0, 0))) fun e w' => e = .returned (.bool true) ∧ Below w.heap.size w w' :=
  (ontimeref25_Ints.calls 20 A c l (some ⟨w.heap.size, 0, none⟩) l.length l true _ (Kd.C_alloc hC _) hl (lit_ints w l hm) (Nat.le_refl _) hf).mono fun e w' ⟨he, hd⟩ => ⟨he, below_step (below_alloc (Below.refl w.heap.size w) _) hd.below⟩
theorem ints_a (w : World) (A : Option Addr) (c : Nat) (hC : (Kd.int .i64).C w A [-1, 0, 0, (0 : Int)].length [-1, 0, 0, 0]) (hl : [-1, 0, 0, (0 : Int)].length ≤ c) :
    Calls Try.prog 17 #[.slice A 4 c, .slice (some ⟨w.heap.size, 0, none⟩) 4 4] (w.alloc (.cells #[.int .i64 (-1), .int .i64 0, .int .i64 0, .int .i64 0] 3)) fun e w' => e = .returned (.bool true) ∧ Below w.heap.size w w' :=
  ints_lit w A c [-1, 0, 0, 0] hC hl (by decide) (ints_self _ (by simp))
theorem ints_b (w : World) (A : Option Addr) (c : Nat) (hC : (Kd.int .i64).C w A [0, 2, 1, (3 : Int)].length [0, 2, 1, 3]) (hl : [0, 2, 1, (3 : Int)].length ≤ c) :
    Calls Try.prog 17 #[.slice A 4 c, .slice (some ⟨w.heap.size, 0, none⟩) 4 4] (w.alloc (.cells #[.int .i64 0, .int .i64 2, .int .i64 1, .int .i64 3] 3)) fun e w' => e = .returned (.bool true) ∧ Below w.heap.size w w' :=
  ints_lit w A c [0, 2, 1, 3] hC hl (by decide) (ints_self _ (by simp))
theorem ints_c (w : World) (A : Option Addr) (c : Nat) (hC : (Kd.int .i64).C w A 1 [3]) (hl : 1 ≤ c) :
    Calls Try.prog 17 #[.slice A 1 c, .slice (some ⟨w.heap.size, 0, none⟩) 1 1] (w.alloc (.cells #[.int .i64 3] 3)) fun e w' => e = .returned (.bool true) ∧ Below w.heap.size w w' :=
  ints_lit w A c [3] hC hl (by decide) (ints_self _ (by simp))
theorem fr_at {w : World} {g : Nat} (h : Kd.C (Kd.slice 3 (Kd.int .i64)) w (some ⟨g, 0, none⟩) [[], [3], [3], ([] : List Int)].length [[], [3], [3], []]) (j : Nat) (hj : j < 4) : ∃ A c, w.cell? ⟨g, j, none⟩ = some (.slice A ([[], [3], [3], ([] : List Int)].getD j []).length c) ∧ ([[], [3], [3], ([] : List Int)].getD j []).length ≤ c ∧ (Kd.int .i64).C w A ([[], [3], [3], ([] : List Int)].getD j []).length ([[], [3], [3], ([] : List Int)].getD j []) := by
  obtain ⟨ad, A, c, eA, hx, hl, hi⟩ := at_L1 h (j : Int) (by omega) (by simp; omega)
  cases eA
  rw [add_plain, Int.toNat_natCast] at hx
  exact ⟨A, c, hx, hl, hi⟩
theorem fr0 {w : World} {g : Nat} (h : Kd.C (Kd.slice 3 (Kd.int .i64)) w (some ⟨g, 0, none⟩) [[], [3], [3], ([] : List Int)].length [[], [3], [3], []]) : ∃ A c, w.cell? ⟨g, 0, none⟩ = some (.slice A 0 c) := by
  obtain ⟨A, c, hx, _, _⟩ := fr_at h 0 (by decide)
  exact ⟨A, c, hx⟩
theorem fr1 {w : World} {g : Nat} (h : Kd.C (Kd.slice 3 (Kd.int .i64)) w (some ⟨g, 0, none⟩) [[], [3], [3], ([] : List Int)].length [[], [3], [3], []]) : ∃ A c, w.cell? ⟨g, 1, none⟩ = some (.slice A 1 c) ∧ 1 ≤ c ∧ (Kd.int .i64).C w A 1 [3] := fr_at h 1 (by decide)
theorem fr2 {w : World} {g : Nat} (h : Kd.C (Kd.slice 3 (Kd.int .i64)) w (some ⟨g, 0, none⟩) [[], [3], [3], ([] : List Int)].length [[], [3], [3], []]) : ∃ A c, w.cell? ⟨g, 2, none⟩ = some (.slice A 1 c) ∧ 1 ≤ c ∧ (Kd.int .i64).C w A 1 [3] := fr_at h 2 (by decide)
theorem graph0 (w : World) : Calls Try.prog 27 #[.slice (some ⟨w.heap.size + 1 + 1 + 1, 0, none⟩) 4 4] ((((w.alloc (.cells #[.int .i64 1, .int .i64 2] 3)).alloc (.cells #[.int .i64 3] 3)).alloc (.cells #[.int .i64 3] 3)).alloc (.cells #[.slice (some ⟨w.heap.size, 0, none⟩) 2 2, .slice (some ⟨w.heap.size + 1, 0, none⟩) 1 1, .slice (some ⟨w.heap.size + 1 + 1, 0, none⟩) 1 1, .slice none 0 0] 29))
    fun e w' => ∃ A c A1 c1, e = .returned (.agg #[.slice A bl0.length c, .slice A1 pv0.length c1]) ∧ bl0.length ≤ c ∧ k46.C w' A bl0.length bl0 ∧ pv0.length ≤ c1 ∧ Kd.C (Kd.slice 3 (Kd.int .i64)) w' A1 pv0.length pv0 ∧ Below w.heap.size w w' := by
  obtain ⟨cv, hC, hcv⟩ := lit0 w
  refine (graph_calls _ 4 nx0 bl0 pv0 cv _ hC (by decide) hcv grF0).mono ?_
  rintro e w1 ⟨v0, v1, rfl, hr, hs, hb⟩
  obtain ⟨A, c, hv, hl, hk⟩ := blocks_C hC hcv hb hr
  rw [show blocksOf nx0 = bl0 from rfl] at hv hl hk
  obtain ⟨A1, c1, hv1, hl1, hC1⟩ := Kd.S_reads hs
  exact ⟨A, c, A1, c1, by rw [hv, hv1], hl, hk, hl1, hC1, (((((Below.refl w.heap.size w).alloc (Nat.le_refl _) (.cells #[.int .i64 1, .int .i64 2] 3 (0, 0))).alloc (by simp) (.cells #[.int .i64 3] 3 (0, 0))).alloc (by simp; omega) (.cells #[.int .i64 3] 3 (0, 0))).alloc (by simp; omega) (.cells #[.slice (some ⟨w.heap.size, 0, none⟩) 2 2, .slice (some ⟨w.heap.size + 1, 0, none⟩) 1 1, .slice (some ⟨w.heap.size + 1 + 1, 0, none⟩) 1 1, .slice none 0 0] 29 (0, 0))).trans (hb.mono (by simp; omega))⟩
set_option maxHeartbeats 8000000 in
theorem ontimelaw25_awake.calls (r : Bool) (w : World) (h : ontimelaw25_awake.f = some r) :
    Calls Try.prog 12 #[] w fun e w' => e = .returned (.bool r) ∧ Below w.heap.size w w' := by
  obtain rfl : true = r := by simpa [f] using h
  clear h
  have hu25 := Try.underlying25
  go_enter Try.func12, Try.ntmps12
  go_wp2_with (go_at_call 27; (with_reducible refine (graph0 _).mono ?_); rintro e w1 ⟨A, c, A1, c1, rfl, hl, hk, hl1, hC1, hb⟩; have HK := Aside0.mk hk; have HL := Aside0.mk hl; have HC1 := Aside0.mk hC1; have HL1 := Aside0.mk hl1; have HB := Aside0.mk hb; clear hb hl hk hl1 hC1)
  have HX := Aside0.mk (blk_new w1 (.cells #[.slice A bl0.length c, .slice A1 pv0.length c1] 25 (0, 0)))
  have HB1 := Aside0.mk (below_alloc (Below.refl w1.heap.size w1) (.cells #[.slice A bl0.length c, .slice A1 pv0.length c1] 25 (0, 0)))
  go_wp2_with (go_at_call 16; (with_reducible refine (dominator_Frontier.calls A c bl0 A1 c1 pv0 [[], [3], [3], []] _ (Kd.C_below HK.out HB1.out) HL.out (Kd.C_below HC1.out HB1.out) HL1.out front0).mono ?_); rintro e w2 ⟨v, rfl, hs, hb⟩; obtain ⟨gf, cf, rfl, _⟩ := Kd.S_form hs (by decide); have hCf := (Kd.S_reads' hs).2.2; have HCF := Aside0.mk hCf; have HB2 := Aside0.mk hb; have hc0 := (blk_read2 (blk_below HX.out hb)).1; have hc1' := (blk_read2 (blk_below HX.out hb)).2; clear hs hb hCf)
  have HD2 := Aside0.mk (below_step HB1.out HB2.out)
  go_wp2_with (go_at_call 28; (with_reducible refine (cfg_Valid.calls 40 A c bl0 A1 c1 pv0 true _ (Kd.C_below HK.out HD2.out) HL.out (Kd.C_below HC1.out HD2.out) HL1.out valid0).mono ?_); rintro e w3 ⟨rfl, hb⟩; have HB3 := Aside0.mk (below_step HB2.out hb); have HF3 := Aside0.mk hb; clear hc0 hc1'; have hc0 := (blk_read2 (blk_below HX.out HB3.out)).1; have hc1' := (blk_read2 (blk_below HX.out HB3.out)).2; clear hb)
  have HD3 := Aside0.mk (below_step HB1.out HB3.out)
  go_wp2_with (go_at_call 14; (with_reducible refine (dominator_Tree.calls A c bl0 A1 c1 pv0 [-1, 0, 0, 0] _ (Kd.C_below HK.out HD3.out) HL.out (Kd.C_below HC1.out HD3.out) HL1.out tree0).mono ?_); rintro e w4 ⟨v, rfl, hr, hb⟩; obtain ⟨At, ct, rfl, hlt, hCt⟩ := Kd.R_reads hr; have HCT := Aside0.mk hCt; have HLT := Aside0.mk hlt; have HB4 := Aside0.mk (below_step HB3.out hb); have HF4 := Aside0.mk (below_step HF3.out hb); clear hr hb hCt hlt hc0 hc1')
  go_wp2_with (go_at_call 17; (with_reducible refine (ints_a w4 At ct HCT.out HLT.out).mono ?_); rintro e w5 ⟨rfl, hd⟩; have HB5 := Aside0.mk (below_step HB4.out hd); have HF5 := Aside0.mk (below_step HF4.out hd); have hc0 := (blk_read2 (blk_below HX.out HB5.out)).1; have hc1' := (blk_read2 (blk_below HX.out HB5.out)).2; clear hd)
  have HD5 := Aside0.mk (below_step HB1.out HB5.out)
  go_wp2_with (go_at_call 15; (with_reducible refine (dominator_Order.calls A c bl0 A1 c1 pv0 [0, 2, 1, 3] _ (Kd.C_below HK.out HD5.out) HL.out (Kd.C_below HC1.out HD5.out) HL1.out order0).mono ?_); rintro e w6 ⟨v, rfl, hr, hb⟩; obtain ⟨Ao, co, rfl, hlo, hCo⟩ := Kd.R_reads hr; have HCO := Aside0.mk hCo; have HLO := Aside0.mk hlo; have HF6 := Aside0.mk (below_step HF5.out hb); clear hr hb hCo hlo hc0 hc1')
  go_wp2_with (go_at_call 17; (with_reducible refine (ints_b w6 Ao co HCO.out HLO.out).mono ?_); rintro e w7 ⟨rfl, hd⟩; have HF7 := Aside0.mk (below_step HF6.out hd); obtain ⟨A10, c10, hx1, hl1, hi1⟩ := fr1 (Kd.C_below HCF.out HF7.out); have HI1 := Aside0.mk hi1; have HL10 := Aside0.mk hl1; clear hd hi1 hl1)
  go_wp2_with (go_at_call 17; (with_reducible refine (ints_c w7 A10 c10 HI1.out HL10.out).mono ?_); rintro e w8 ⟨rfl, hd⟩; have HF8 := Aside0.mk (below_step HF7.out hd); obtain ⟨A20, c20, hx2, hl2, hi2⟩ := fr2 (Kd.C_below HCF.out HF8.out); have HI2 := Aside0.mk hi2; have HL20 := Aside0.mk hl2; clear hd hi2 hl2 hx1)
  go_wp2_with (go_at_call 17; (with_reducible refine (ints_c w8 A20 c20 HI2.out HL20.out).mono ?_); rintro e w9 ⟨rfl, hd⟩; have HF9 := Aside0.mk (below_step HF8.out hd); obtain ⟨A00, c00, hx0⟩ := fr0 (Kd.C_below HCF.out HF9.out); clear hd hx2)
  go_ret
  exact ⟨rfl, below_step (below_step HB.out (below_alloc (Below.refl w1.heap.size w1) (.cells #[.slice A bl0.length c, .slice A1 pv0.length c1] 25 (0, 0)))) (below_step HB2.out HF9.out)⟩
end Go.Proofs.Ytlnlamgnilmbjaa.Q

/- The walk of dominator.Frontier. -/
import Derived.Test.YtlnlamgnilmbjaaATree
import Derived.Test.YtlnlamgnilmbjaaADom
import Derived.Test.YtlnlamgnilmbjaaAPush
import Derived.Outline
import Derived.RegionTactic
import Derived.BigRegion
import Derived.Deep.RegionLaw
import Derived.Laws.EntriesVeiled
namespace Go.Proofs.Ytlnlamgnilmbjaa.Q
open Go.RowKit Go.Proofs.YtlnlamgnilmbjaaW.PrintWords Go.Proofs.YtlnlamgnilmbjaaW.PrintLast Go.Proofs.YtlnlamgnilmbjaaW.PrintMore
set_option linter.unusedVariables false
set_option linter.unusedSimpArgs false

def domF (l : List Int) (a b : Int) : Bool := if insB l.length a = true ∧ insB l.length b = true then domL l.length l a b else false
theorem dom_f (l : List Int) (a b : Int) : dominator_Dominates.f l a b = some (domF l a b) := by
  unfold dominator_Dominates.f domF; split <;> rfl
/-- What the test of the predecessors reads. -/
structure PS (w : World) (b3 b4 : Nat) (ok3 ok4 : Nat → Prop) (K3 K4 K8 gS qS : Nat) (v3 : Value) (idom : List Int) (reached : List Bool) (a : Int) : Prop where
  h3 : w.heap[K3]? = some (.cells #[v3] 29 (0, 0))
  r3 : (Kd.int .i64).R 3 w b3 ok3 v3 idom
  h4 : w.heap[K4]? = some (.cells #[.slice (some ⟨gS, 0, none⟩) reached.length qS] 36 (0, 0))
  r4 : Kd.bool.R 4 w b4 ok4 (.slice (some ⟨gS, 0, none⟩) reached.length qS) reached
  h8 : w.heap[K8]? = some (.cells #[.int .i64 a] 3 (0, 0))
theorem PS.below {w w1 : World} {b3 b4 : Nat} {ok3 ok4 : Nat → Prop} {K3 K4 K8 gS qS : Nat} {v3 : Value} {idom : List Int} {reached : List Bool} {a : Int} (h : PS w b3 b4 ok3 ok4 K3 K4 K8 gS qS v3 idom reached a) (hb : Below w.heap.size w w1) : PS w1 b3 b4 ok3 ok4 K3 K4 K8 gS qS v3 idom reached a :=
  ⟨blk_below h.h3 hb, Kd.R_below h.r3 hb, blk_below h.h4 hb, Kd.R_below h.r4 hb, blk_below h.h8 hb⟩
set_option maxHeartbeats 1000000 in
theorem pred_calls {w : World} {b3 b4 : Nat} {ok3 ok4 : Nat → Prop} {K3 K4 K8 gS qS : Nat} {v3 : Value} {idom : List Int} {reached : List Bool} {a : Int} (h : PS w b3 b4 ok3 ok4 K3 K4 K8 gS qS v3 idom reached a) (p : Int) (hp : ix reached.length p) (q : Bool) (hq : (rdOf false reached p && domF idom a p) = q) :
    Calls Try.prog 33 #[.int .i64 p, .pointer (some ⟨K4, 0, none⟩), .pointer (some ⟨K3, 0, none⟩), .pointer (some ⟨K8, 0, none⟩)] w fun e w' => e = .returned (.bool q) ∧ Below w.heap.size w w' := by
  subst hq
  obtain ⟨hp0, hp1⟩ := hp
  obtain ⟨A3, c3, hv3, hl3, hC3⟩ := Kd.R_reads h.r3
  have h3 := (blk_read h.h3).1
  have h4 := (blk_read h.h4).1
  have h8 := (blk_read h.h8).1
  obtain ⟨e1, f1⟩ := Kd.R_cell (enc := Value.bool) false h.r4 p hp0 hp1
  subst hv3
  have HC := Aside0.mk hC3
  have HL := Aside0.mk hl3
  clear hC3 hl3 h f1
  cases hr : rdOf false reached p with
  | false =>
    rw [hr] at e1
    have HR := Aside0.mk hr
    clear hr
    go_enter Try.func33, Try.ntmps33
    go_wp2
    go_ret
    exact ⟨rfl, Below.refl _ _⟩
  | true =>
    rw [hr] at e1
    have HR := Aside0.mk hr
    have HD := Aside0.mk (dom_f idom a p)
    clear hr
    go_enter Try.func33, Try.ntmps33
    go_wp2_with (go_at_call 19; (with_reducible refine (dominator_Dominates.calls A3 c3 idom a p (domF idom a p) _ HC.out HL.out HD.out).mono ?_); rintro e w' ⟨rfl, hb⟩)
    go_ret
    exact ⟨rfl, hb⟩
/-- Is one of the numbers reached, and dominated. -/
def anyPred (idom : List Int) (reached : List Bool) (a : Int) : List Int → Option Bool
  | [] => some false
  | p :: ps => if ix reached.length p then (if (rdOf false reached p && domF idom a p) = true then some true else anyPred idom reached a ps) else none
set_option maxHeartbeats 1000000 in
theorem index_calls {w : World} {b3 b4 : Nat} {ok3 ok4 : Nat → Prop} {K3 K4 K8 gS qS : Nat} {v3 : Value} {idom : List Int} {reached : List Bool} {a : Int} (h : PS w b3 b4 ok3 ok4 K3 K4 K8 gS qS v3 idom reached a) (A : Option Addr) (c : Nat) (l : List Int) (hC : (Kd.int .i64).C w A l.length l) (q : Bool) (hq : anyPred idom reached a l = some q) :
    Calls Try.prog 39 #[.slice A l.length c, .func (.func 33) #[] #[.pointer (some ⟨K4, 0, none⟩), .pointer (some ⟨K3, 0, none⟩), .pointer (some ⟨K8, 0, none⟩)]] w fun e w' => ∃ j : Int, e = .returned (.int .i64 j) ∧ decide (0 ≤ j) = q ∧ Below w.heap.size w w' := by
  have HP := Aside0.mk h
  have HC := Aside0.mk hC
  have HQ := Aside0.mk hq
  have hmax : l.length ≤ 9223372036854775807 := hC.2.1
  clear h hC hq
  go_enter Try.func39, Try.ntmps39
  go_wp2
  go_loopw [8] (fun vi wr => ∃ i : Nat, vi = .int .i64 i ∧ i ≤ l.length ∧ Aside0 (anyPred idom reached a (l.drop i) = some q) ∧ Aside0 (Below w.heap.size w wr)) (fun vi _ => l.length - (intOf vi).toNat)
  case atStart => exact ⟨0, rfl, Nat.zero_le _, HQ, ⟨Below.refl _ _⟩⟩
  case round =>
    obtain ⟨i, rfl, hi, HA, HB⟩ := hrel
    by_cases hlt : i < l.length
    · obtain ⟨ad, eA, hx⟩ := Kd.at_int (Kd.C_below HC.out HB.out) (i : Int) (by omega) (by omega)
      cases eA
      rw [Int.toNat_natCast] at hx
      have ha := HA.out
      rw [drop_rd l i hlt, anyPred] at ha
      by_cases hp : ix reached.length (rd l (i : Int))
      · rw [if_pos hp] at ha
        have HPX := Aside0.mk hp
        clear hp
        cases ht : (rdOf false reached (rd l (i : Int)) && domF idom a (rd l (i : Int))) with
        | true =>
          have HT := Aside0.mk ht
          have HQT := Aside0.mk (show true = q by rw [if_pos ht] at ha; simpa using ha)
          clear ht ha
          go_wp2_with (go_at_call 33; (with_reducible refine (pred_calls (HP.out.below HB.out) _ HPX.out true HT.out).mono ?_); rintro e w' ⟨rfl, hb⟩; have HB2 := Aside0.mk (below_step HB.out hb); clear hb)
          go_ret
          exact ⟨_, rfl, by rw [← HQT.out]; exact decide_eq_true (by omega), HB2.out⟩
        | false =>
          have HT := Aside0.mk ht
          have HA2 := Aside0.mk (show anyPred idom reached a (l.drop (i + 1)) = some q by rw [if_neg (by rw [ht]; decide)] at ha; exact ha)
          clear ht ha
          go_wp2_with (go_at_call 33; (with_reducible refine (pred_calls (HP.out.below HB.out) _ HPX.out false HT.out).mono ?_); rintro e w' ⟨rfl, hb⟩; have HB2 := Aside0.mk (below_step HB.out hb); clear hb)
          go_roundw
          case rel => exact ⟨i + 1, by go_num, hlt, HA2, HB2⟩
          case measure => simp [intOf]; omega
      · rw [if_neg hp] at ha; cases ha
    · have HQF := Aside0.mk (show false = q by have h := HA.out; rw [List.drop_of_length_le (by omega), anyPred] at h; simpa using h)
      go_wp2
      go_ret
      exact ⟨_, rfl, by rw [← HQF.out]; rfl, HB.out⟩
theorem contains_calls {w : World} {b3 b4 : Nat} {ok3 ok4 : Nat → Prop} {K3 K4 K8 gS qS : Nat} {v3 : Value} {idom : List Int} {reached : List Bool} {a : Int} (h : PS w b3 b4 ok3 ok4 K3 K4 K8 gS qS v3 idom reached a) (A : Option Addr) (c : Nat) (l : List Int) (hC : (Kd.int .i64).C w A l.length l) (q : Bool) (hq : anyPred idom reached a l = some q) :
    Calls Try.prog 32 #[.slice A l.length c, .func (.func 33) #[] #[.pointer (some ⟨K4, 0, none⟩), .pointer (some ⟨K3, 0, none⟩), .pointer (some ⟨K8, 0, none⟩)]] w fun e w' => e = .returned (.bool q) ∧ Below w.heap.size w w' := by
  have HP := Aside0.mk h
  have HC := Aside0.mk hC
  have HQ := Aside0.mk hq
  clear h hC hq
  go_enter Try.func32, Try.ntmps32
  go_wp2_with (go_at_call 39; (with_reducible refine (index_calls HP.out A c l HC.out q HQ.out).mono ?_); rintro e w' ⟨j, rfl, hj, hb⟩; have HJ := Aside0.mk hj; clear hj)
  go_ret
  exact ⟨ret_b HJ.out, hb⟩
def reachAll : List Int → List Bool → Option (List Bool)
  | [], r => some r
  | b :: bs, r => if ix r.length b then reachAll bs (r.set b.toNat true) else none
theorem reachAll_len : ∀ (l : List Int) (r r' : List Bool), reachAll l r = some r' → r'.length = r.length
  | [], r, r', h => by simp [reachAll] at h; rw [h]
  | b :: bs, r, r', h => by
    unfold reachAll at h
    split at h
    · have := reachAll_len bs _ _ h; simpa using this
    · cases h
def frontB (idom : List Int) (reached : List Bool) (pv : List (List Int)) (a : Nat) : List Nat → List (List Int) → Option (List (List Int))
  | [], o => some o
  | b :: bs, o =>
    if (a ≠ b ∧ domF idom (a : Int) (b : Int) = true) then frontB idom reached pv a bs o
    else if b < pv.length then
      (anyPred idom reached (a : Int) (rd_L1 pv (b : Int))).bind fun q =>
        if q = true then (if (o.getD a []).length < 17592186044415 then frontB idom reached pv a bs (o.set a (o.getD a [] ++ [(b : Int)])) else none) else frontB idom reached pv a bs o
    else none
def frontA (idom : List Int) (reached : List Bool) (pv : List (List Int)) (n : Nat) : List Nat → List (List Int) → Option (List (List Int))
  | [], o => some o
  | a :: xs, o => if rdOf false reached (a : Int) = true then (frontB idom reached pv a (List.range n) o).bind fun o2 => frontA idom reached pv n xs o2 else frontA idom reached pv n xs o
noncomputable def dominator_Frontier.f (bl : List S46) (pv : List (List Int)) : Option (List (List Int)) :=
  (dominator_Tree.f bl pv).bind fun idom =>
    if idom = [] then some []
    else if 0 < bl.length ∧ bl.length ≤ 11728124029610 then
      (dominator_Order.f bl pv).bind fun ord => (reachAll ord (List.replicate bl.length false)).bind fun reached => frontA idom reached pv bl.length (List.range bl.length) (List.replicate bl.length [])
    else none
theorem drop_range (n k : Nat) (h : k < n) : (List.range n).drop k = k :: (List.range n).drop (k + 1) := by
  rw [List.drop_eq_getElem_cons (by simpa using h)]
  simp
/-- The memory while the rows are made. -/
structure FS (w0 w : World) (G K3 K4 gS g7 B : Nat) (A0 : Option Addr) (c0 : Nat) (A1 : Option Addr) (c1 qS q7 : Nat) (bl : List S46) (pv : List (List Int)) (v3 : Value) (idom : List Int) (reached : List Bool) (okx : Nat → Prop) (out : List (List Int)) : Prop where
  bel : Below w0.heap.size w0 w
  hpv : (Kd.slice 3 (Kd.int .i64)).C w0 A1 pv.length pv
  hG : w.heap[G]? = some (.cells #[.slice A0 bl.length c0, .slice A1 pv.length c1] 25 (0, 0))
  h3 : w.heap[K3]? = some (.cells #[v3] 29 (0, 0))
  r3 : (Kd.int .i64).R 3 w w0.heap.size (fun k => k < B) v3 idom
  h4 : w.heap[K4]? = some (.cells #[.slice (some ⟨gS, 0, none⟩) reached.length qS] 36 (0, 0))
  r4 : Kd.bool.R 4 w w0.heap.size (fun k => k < B) (.slice (some ⟨gS, 0, none⟩) reached.length qS) reached
  ro : Kd.S (Kd.slice 3 (Kd.int .i64)) 29 w w0.heap.size okx (.slice (some ⟨g7, 0, none⟩) out.length q7) out
  okb : ∀ k, okx k → B ≤ k
  low : G < B ∧ K3 < B ∧ K4 < B ∧ w0.heap.size ≤ g7 ∧ B ≤ w.heap.size ∧ B ≤ g7
section
variable {w0 w w1 : World} {G K3 K4 gS g7 B : Nat} {A0 : Option Addr} {c0 : Nat} {A1 : Option Addr} {c1 qS q7 : Nat} {bl : List S46} {pv : List (List Int)} {v3 : Value} {idom : List Int} {reached : List Bool} {okx ok' : Nat → Prop} {out : List (List Int)}
theorem FS.below (h : FS w0 w G K3 K4 gS g7 B A0 c0 A1 c1 qS q7 bl pv v3 idom reached okx out) (hb : Below w.heap.size w w1) : FS w0 w1 G K3 K4 gS g7 B A0 c0 A1 c1 qS q7 bl pv v3 idom reached okx out :=
  ⟨below_step h.bel hb, h.hpv, blk_below h.hG hb, blk_below h.h3 hb, Kd.R_below h.r3 hb, blk_below h.h4 hb, Kd.R_below h.r4 hb, Kd.S_below h.ro hb, h.okb, ⟨h.low.1, h.low.2.1, h.low.2.2.1, h.low.2.2.2.1, Nat.le_trans h.low.2.2.2.2.1 hb.size, h.low.2.2.2.2.2⟩⟩
theorem FS.mono (h : FS w0 w G K3 K4 gS g7 B A0 c0 A1 c1 qS q7 bl pv v3 idom reached okx out) (hk : ∀ k, okx k → k < w.heap.size → ok' k) (hk' : ∀ k, ok' k → B ≤ k) : FS w0 w G K3 K4 gS g7 B A0 c0 A1 c1 qS q7 bl pv v3 idom reached ok' out :=
  ⟨h.bel, h.hpv, h.hG, h.h3, h.r3, h.h4, h.r4, Kd.S_mono (Kd.S_bound h.ro) (fun k hq => hk k hq.1 hq.2.2.1), hk', h.low⟩
/-- A row is appended to. -/
theorem FS.push (h : FS w0 w G K3 K4 gS g7 B A0 c0 A1 c1 qS q7 bl pv v3 idom reached okx out) (a : Nat) (ha : a < out.length) :
    ∃ (A : Option Addr) (c : Nat) (oki : Nat → Prop), w.cell? ⟨g7, a, none⟩ = some (.slice A (out.getD a []).length c) ∧ w.frozen? ⟨g7, a, none⟩ = false ∧
      (Kd.int .i64).R 3 w w0.heap.size (fun k => oki k ∨ okx k ∧ w.heap.size ≤ k) (.slice A (out.getD a []).length c) (out.getD a []) ∧ (∀ k, w.heap.size ≤ k → okx k → (oki k ∨ okx k ∧ w.heap.size ≤ k)) ∧
      (∀ k, (Value.slice A (out.getD a []).length c).ownBlock = some k → okx k ∧ k ≠ g7) ∧
      ∀ (v1 : Value) (w1 : World) (ys : List Int), w.grownBy w1 (Value.slice A (out.getD a []).length c).ownBlock → Below w0.heap.size w0 w1 → (Kd.int .i64).R 3 w1 w0.heap.size (fun k => oki k ∨ okx k ∧ w.heap.size ≤ k) v1 ys →
        w1.cell? ⟨g7, a, none⟩ = some (.slice A (out.getD a []).length c) ∧ w1.frozen? ⟨g7, a, none⟩ = false ∧
        FS w0 (w1.setCell ⟨g7, a, none⟩ v1) G K3 K4 gS g7 B A0 c0 A1 c1 qS q7 bl pv v3 idom reached okx (out.set a ys) := by
  obtain ⟨A, c, oki, hc, hf, hoki, hR, hpush⟩ := S_push h.ro a ha
  refine ⟨A, c, oki, hc, hf, Kd.R_mono hR (fun k hk => .inl hk), fun k hk hx => .inr ⟨hx, hk⟩, fun k hk => hoki k (hR.1 k hk), ?_⟩
  intro v1 w1 ys hg hb hR1
  obtain ⟨hc1, hf1, hS1, hg1, cells, hraw⟩ := hpush v1 w1 ys hg hR1
  have hrow : ∀ k, k < B → some k ≠ (Value.slice A (out.getD a []).length c).ownBlock := fun k hk he => by have := h.okb k (hoki k (hR.1 k he.symm)).1; omega
  have hgg := h.low
  have hne : ∀ k, k < B → k ≠ g7 := fun k hk => by omega
  refine ⟨hc1, hf1, hb.setCell hgg.2.2.2.1 _, h.hpv, blk_far (blk_grown h.hG hg (hrow _ hgg.1)) (p := ⟨g7, a, none⟩) (hne _ hgg.1) _, blk_far (blk_grown h.h3 hg (hrow _ hgg.2.1)) (p := ⟨g7, a, none⟩) (hne _ hgg.2.1) _, Kd.R_far (p := ⟨g7, a, none⟩) (Kd.R_grown h.r3 hg hrow) hne _, blk_far (blk_grown h.h4 hg (hrow _ hgg.2.2.1)) (p := ⟨g7, a, none⟩) (hne _ hgg.2.2.1) _, Kd.R_far (p := ⟨g7, a, none⟩) (Kd.R_grown h.r4 hg hrow) hne _, ?_, h.okb, ⟨hgg.1, hgg.2.1, hgg.2.2.1, hgg.2.2.2.1, ?_, hgg.2.2.2.2.2⟩⟩
  · rw [List.length_set]; exact hS1
  · have := hg.size; have := hg1.size; omega
end
/-- The memory while the reached blocks are marked. -/
structure FM (w0 w : World) (G K3 K4 gS : Nat) (A0 : Option Addr) (c0 : Nat) (A1 : Option Addr) (c1 qS : Nat) (bl : List S46) (pv : List (List Int)) (v3 : Value) (idom : List Int) (reached : List Bool) (vo : Value) (ord : List Int) : Prop where
  bel : Below w0.heap.size w0 w
  hG : w.heap[G]? = some (.cells #[.slice A0 bl.length c0, .slice A1 pv.length c1] 25 (0, 0))
  h3 : w.heap[K3]? = some (.cells #[v3] 29 (0, 0))
  r3 : (Kd.int .i64).R 3 w w0.heap.size (fun _ => True) v3 idom
  h4 : w.heap[K4]? = some (.cells #[.slice (some ⟨gS, 0, none⟩) reached.length qS] 36 (0, 0))
  r4 : Kd.bool.R 4 w w0.heap.size (fun _ => True) (.slice (some ⟨gS, 0, none⟩) reached.length qS) reached
  ro : (Kd.int .i64).R 3 w w0.heap.size (fun _ => True) vo ord
theorem FM.mark {w0 w : World} {G K3 K4 gS : Nat} {A0 : Option Addr} {c0 : Nat} {A1 : Option Addr} {c1 qS : Nat} {bl : List S46} {pv : List (List Int)} {v3 : Value} {idom : List Int} {reached : List Bool} {vo : Value} {ord : List Int} (h : FM w0 w G K3 K4 gS A0 c0 A1 c1 qS bl pv v3 idom reached vo ord) (b : Int) (hb : ix reached.length b) (x : Bool) :
    FM w0 (w.setCell ⟨gS, b.toNat, none⟩ (.bool x)) G K3 K4 gS A0 c0 A1 c1 qS bl pv v3 idom (reached.set b.toNat x) vo ord := by
  obtain ⟨h0, h1⟩ := hb
  obtain ⟨g', cap, he, _, _, cells, hc⟩ := Kd.R_form h.r4 (by omega)
  injection he with h1
  injection h1 with h1
  injection h1 with h1
  subst h1
  have hput := Kd.R_put (enc := Value.bool) h.r4 b x
  have hbase : w0.heap.size ≤ gS := Kd.R_base h.r4 gS rfl
  refine ⟨h.bel.setCell (p := ⟨gS, b.toNat, none⟩) hbase _, blk_far h.hG (p := ⟨gS, b.toNat, none⟩) (blk_ne h.hG hc (by decide)) _, blk_far h.h3 (p := ⟨gS, b.toNat, none⟩) (blk_ne h.h3 hc (by decide)) _, Kd.R_set h.r3 hc (by decide) _ _, ?_, ?_, Kd.R_set h.ro hc (by decide) _ _⟩
  · rw [List.length_set]; exact blk_far h.h4 (p := ⟨gS, b.toNat, none⟩) (blk_ne h.h4 hc (by decide)) _
  · rw [List.length_set]; exact hput.1
theorem FS.made {w0 w : World} {G K3 K4 gS : Nat} {A0 : Option Addr} {c0 : Nat} {A1 : Option Addr} {c1 qS : Nat} {bl : List S46} {pv : List (List Int)} {v3 : Value} {idom : List Int} {reached : List Bool} {vo : Value} {ord : List Int} (h : FM w0 w G K3 K4 gS A0 c0 A1 c1 qS bl pv v3 idom reached vo ord) (hpv : (Kd.slice 3 (Kd.int .i64)).C w0 A1 pv.length pv) (hp : 0 < bl.length) :
    ∀ (v : Value) (w1 : World), Kd.S (Kd.slice 3 (Kd.int .i64)) 29 w1 w0.heap.size (fun k => w.heap.size ≤ k) v (List.replicate bl.length []) → Below w0.heap.size w0 w1 → w.grownBy w1 none →
    ∃ g7 q7, v = .slice (some ⟨g7, 0, none⟩) bl.length q7 ∧ FS w0 w1 G K3 K4 gS g7 w.heap.size A0 c0 A1 c1 qS q7 bl pv v3 idom reached (fun k => w.heap.size ≤ k) (List.replicate bl.length []) := by
  intro v w1 ho hb hg
  obtain ⟨g7, q7, hvR, hRg, _⟩ := Kd.S_form ho (by simp; omega)
  rw [List.length_replicate] at hvR
  subst hvR
  have h7 : w.heap.size ≤ g7 := (Kd.S_R ho).1 g7 rfl
  refine ⟨g7, q7, rfl, hb, hpv, blk_grown h.hG hg (by simp), blk_grown h.h3 hg (by simp), Kd.R_grown (Kd.R_mono (Kd.R_bound h.r3) (fun k hk => hk.2.2.1)) hg (by simp), blk_grown h.h4 hg (by simp), Kd.R_grown (Kd.R_mono (Kd.R_bound h.r4) (fun k hk => hk.2.2.1)) hg (by simp), ?_, fun _ hk => hk, ⟨blk_lt h.hG, blk_lt h.h3, blk_lt h.h4, hRg, hg.size, h7⟩⟩
  rw [List.length_replicate]; exact ho
set_option maxHeartbeats 4000000 in
set_option maxRecDepth 100000 in
theorem dominator_Frontier.calls (A0_0 : Option Addr) (c0_0 : Nat) (l0_0 : List S46) (A0_1 : Option Addr) (c0_1 : Nat) (l0_1 : List (List Int)) (r : List (List Int)) (w : World) (hr0_0 : Kd.C k46 w A0_0 l0_0.length l0_0) (hc0_0 : l0_0.length ≤ c0_0) (hr0_1 : Kd.C (Kd.slice 3 (Kd.int .i64)) w A0_1 l0_1.length l0_1) (hc0_1 : l0_1.length ≤ c0_1) (h : dominator_Frontier.f l0_0 l0_1 = some r) :
    Calls Try.prog 16 #[.agg #[.slice A0_0 l0_0.length c0_0, .slice A0_1 l0_1.length c0_1]] w fun e w' => ∃ v0_ : Value, e = .returned v0_ ∧ Kd.S (Kd.slice 3 (Kd.int .i64)) 29 w' w.heap.size (fun _ => True) v0_ r ∧ Below w.heap.size w w' := by
  have hmf : ∀ (fn : Fn) (first cap : Array Value) (w : World), (Instr.makeFunc fn first cap).run Try.prog w = .ok (.func fn first cap) w := fun _ _ _ _ => rfl
  obtain ⟨idom, hidom, hfin⟩ := Option.bind_eq_some_iff.1 h
  have H0 := Aside0.mk hr0_0
  have H1 := Aside0.mk hr0_1
  have C0 := Aside0.mk hc0_0
  have C1 := Aside0.mk hc0_1
  have HI := Aside0.mk hidom
  have HF := Aside0.mk hfin
  clear hr0_0 hr0_1 hc0_0 hc0_1 hidom hfin h
  have hu25 := Try.underlying25
  by_cases he : idom = []
  · subst he
    obtain rfl : [] = r := by have h := HF.out; simpa using h
    clear HF
    have hol : ((([] : List Int).length : Int) == 0) = true := by simp
    go_enter Try.func16, Try.ntmps16
    go_wp2_with (go_at_call 14; (with_reducible refine (dominator_Tree.calls _ _ l0_0 _ _ l0_1 [] _ ?s1 C0.out ?s3 C1.out HI.out).mono ?_); (case s1 => exact Kd.C_alloc H0.out _); (case s3 => exact Kd.C_alloc H1.out _); rintro e w' ⟨v, rfl, hv, hb⟩; obtain ⟨Av, cv, rfl⟩ := Kd.R_slice hv)
    go_ret
    exact ⟨_, rfl, Kd.S_nil _ _ _ _ _, (((Below.refl _ _).alloc (Nat.le_refl _) _).trans (hb.mono (by simp))).alloc (by have := hb.size; simp at this; omega) _⟩
  · have hf := HF.out
    rw [if_neg he] at hf
    by_cases hn : 0 < l0_0.length ∧ l0_0.length ≤ 11728124029610
    · rw [if_pos hn] at hf
      obtain ⟨hn1, hn2⟩ := hn
      obtain ⟨ord, hord, hf⟩ := Option.bind_eq_some_iff.1 hf
      obtain ⟨reached, hreach, hf⟩ := Option.bind_eq_some_iff.1 hf
      have HO := Aside0.mk hord
      have HRE := Aside0.mk hreach
      have HFA := Aside0.mk hf
      have hol : ((idom.length : Int) == 0) = false := by simp [he]
      have hol' : (idom.length == 0) = false := by simp [he]
      clear hf hord hreach HF he
      go_enter Try.func16, Try.ntmps16
      go_wp2_with (first | (go_at_call 14; (with_reducible refine (dominator_Tree.calls _ _ l0_0 _ _ l0_1 idom _ ?s1 C0.out ?s3 C1.out HI.out).mono ?_); (case s1 => exact Kd.C_alloc H0.out _); (case s3 => exact Kd.C_alloc H1.out _); rintro e w1 ⟨v, rfl, hv, hb⟩; obtain ⟨Av, cv, rfl⟩ := Kd.R_slice hv; have HB1 := Aside0.mk ((((Below.refl w.heap.size w).alloc (Nat.le_refl _) (.cells #[.slice A0_0 l0_0.length c0_0, .slice A0_1 l0_1.length c0_1] 25 (0, 0))).trans (hb.mono (by simp)))); have HG1 := Aside0.mk (blk_below (blk_new w (.cells #[.slice A0_0 l0_0.length c0_0, .slice A0_1 l0_1.length c0_1] 25 (0, 0))) hb); have HR1 := Aside0.mk (Kd.R_lower hv (by simp : w.heap.size ≤ (w.alloc (.cells #[.slice A0_0 l0_0.length c0_0, .slice A0_1 l0_1.length c0_1] 25 (0, 0))).heap.size)); have hG1 := (blk_read2 (blk_alloc HG1.out (.cells #[.slice Av idom.length cv] 29 (0, 0)))).1; clear hv hb) | ((with_reducible refine gate_dst (N := 18) rfl ?_); refine Kd.R_make Kd.bool _ 4 rfl (N := 18) rfl 36 _ _ rfl (l0_0.length : Int) rfl rfl Try.underlying36 (.bool false) 1 info4 rfl (by decide) (by omega) false (ok := fun _ => True) (okp := fun _ => True) rfl (fun _ hk => hk) trivial (by omega) (by omega) (HB1.out.alloc HB1.out.size (.cells #[.slice Av idom.length cv] 29 (0, 0))) (by have := HB1.out.size; simp; omega) ?_; intro v w2 ho hb hg hnew; obtain ⟨gS, qS, hvR, hRb⟩ := Kd.R_form ho (by simp; omega); clear hRb; have ev : v = .slice (some ⟨gS, 0, none⟩) l0_0.length qS := (by rw [hvR]; simp); subst ev; clear hvR; rw [Int.toNat_natCast] at ho; have HRS := Aside0.mk ho; have HB2 := Aside0.mk hb; have HG2 := Aside0.mk (blk_grown (blk_alloc HG1.out (.cells #[.slice Av idom.length cv] 29 (0, 0))) hg (by simp)); have HK3 := Aside0.mk (blk_grown (blk_new w1 (.cells #[.slice Av idom.length cv] 29 (0, 0))) hg (by simp)); have HR2 := Aside0.mk (Kd.R_grown (Kd.R_alloc HR1.out (.cells #[.slice Av idom.length cv] 29 (0, 0))) hg (by simp)); have hG2 := (blk_read2 (blk_alloc HG2.out (.cells #[.slice (some ⟨gS, 0, none⟩) l0_0.length qS] 36 (0, 0)))).1; have hG2' := (blk_read2 (blk_alloc HG2.out (.cells #[.slice (some ⟨gS, 0, none⟩) l0_0.length qS] 36 (0, 0)))).2; clear hb ho hg hnew hG1) | (go_at_call 15; (with_reducible refine (dominator_Order.calls _ _ l0_0 _ _ l0_1 ord _ ?s1 C0.out ?s3 C1.out HO.out).mono ?_); (case s1 => exact Kd.C_below H0.out (HB2.out.alloc HB2.out.size _)); (case s3 => exact Kd.C_below H1.out (HB2.out.alloc HB2.out.size _)); rintro e w3 ⟨v, rfl, hv, hb⟩; obtain ⟨Ao, co, rfl⟩ := Kd.R_slice hv; have HFM := Aside0.mk (show FM w w3 w.heap.size w1.heap.size w2.heap.size gS A0_0 c0_0 A0_1 c0_1 qS l0_0 l0_1 (.slice Av idom.length cv) idom (List.replicate l0_0.length false) (.slice Ao ord.length co) ord from ⟨below_step (HB2.out.alloc HB2.out.size _) hb, blk_below (blk_alloc HG2.out _) hb, blk_below (blk_alloc HK3.out _) hb, Kd.R_below (Kd.R_alloc HR2.out _) hb, (by rw [List.length_replicate]; exact blk_below (blk_new w2 _) hb), (by rw [List.length_replicate]; exact Kd.R_below (Kd.R_alloc HRS.out _) hb), Kd.R_lower hv (by have := HB2.out.size; simp; omega)⟩); clear hv hb hG2 hG2'))
      go_loopw [22] (fun i wr => ∃ (j : Nat) (rc : List Bool), i = .int .i64 j ∧ j ≤ ord.length ∧ Aside0 (reachAll (ord.drop j) rc = some reached) ∧ Aside0 (FM w wr w.heap.size w1.heap.size w2.heap.size gS A0_0 c0_0 A0_1 c0_1 qS l0_0 l0_1 (.slice Av idom.length cv) idom rc (.slice Ao ord.length co) ord)) (fun i _ => ord.length - (intOf i).toNat)
      case atStart => exact ⟨0, _, rfl, Nat.zero_le _, ⟨HRE.out⟩, HFM⟩
      case round =>
        obtain ⟨j, rc, rfl, hj, HK, HM⟩ := hrel
        clear HFM
        have h4 := (blk_read HM.out.h4).1
        have hC := (Kd.R_reads' HM.out.ro).2.2
        by_cases hlt : j < ord.length
        · have hmx : ord.length ≤ 9223372036854775807 := hC.2.1
          obtain ⟨ad, eA, hx⟩ := Kd.at_int hC (j : Int) (by omega) (by omega)
          cases eA
          clear hC
          rw [Int.toNat_natCast] at hx
          have hk := HK.out
          rw [drop_rd ord j hlt, reachAll] at hk
          by_cases hb : ix rc.length (rd ord (j : Int))
          · rw [if_pos hb] at hk
            have HK2 := Aside0.mk hk
            have HP := Aside0.mk (HM.out.mark _ hb true)
            obtain ⟨hb0, hb1⟩ := hb
            obtain ⟨e1, f1⟩ := Kd.R_cell (enc := Value.bool) false HM.out.r4 _ hb0 hb1
            clear hk
            go_wp2
            go_roundw
            case rel => exact ⟨j + 1, _, by go_num, hlt, HK2, HP⟩
            case measure => simp [intOf]; omega
          · rw [if_neg hb] at hk; cases hk
        · obtain rfl : rc = reached := by have h := HK.out; rw [List.drop_of_length_le (by omega), reachAll] at h; simpa using h
          have HRL := Aside0.mk (show rc.length = l0_0.length by have := reachAll_len _ _ _ HRE.out; simpa using this)
          clear HK HRE hC
          have hG := (blk_read2 HM.out.hG).1
          obtain ⟨W5, hW5⟩ : ∃ W5 : World, W5 = wr := ⟨_, rfl⟩
          subst hW5
          have HMK := Aside0.mk (FS.made HM.out H1.out hn1)
          go_wp2_with ((with_reducible refine gate_dst (N := 33) rfl ?_); refine Kd.S_make (Kd.slice 3 (Kd.int .i64)) _ 29 rfl (N := 33) rfl 23 _ _ rfl (l0_0.length : Int) rfl rfl Try.underlying23 (.slice none 0 0) 24 info29 rfl (by decide) (by omega) [] (ok := fun k => W5.heap.size ≤ k) (okp := fun k => W5.heap.size ≤ k) ⟨_, rfl, Kd.R_nil _ _ _ _ _⟩ (fun _ hk => hk) (Nat.le_refl _) (by omega) (by omega) HM.out.bel HM.out.bel.size ?_; intro v w6 ho hb hg hnew; rw [Int.toNat_natCast] at ho; obtain ⟨g7, q7, hv, hfs⟩ := HMK.out v w6 ho hb hg; subst hv; have HFS := Aside0.mk hfs; have hG6 := (blk_read2 hfs.hG).1; clear ho hb hg hnew hfs hG)
          clear HMK HM h4
          obtain ⟨B, hBdef⟩ : ∃ B, B = W5.heap.size := ⟨_, rfl⟩
          rw [← hBdef] at HFS
          clear hBdef
          go_loopw [37] (fun i wr => ∃ (j : Nat) (out : List (List Int)), i = .int .i64 j ∧ j ≤ l0_0.length ∧ Aside0 (out.length = l0_0.length) ∧ Aside0 (frontA idom rc l0_1 l0_0.length ((List.range l0_0.length).drop j) out = some r) ∧ Aside0 (FS w wr w.heap.size w1.heap.size w2.heap.size gS g7 B A0_0 c0_0 A0_1 c0_1 qS q7 l0_0 l0_1 (.slice Av idom.length cv) idom rc (fun k => B ≤ k) out)) (fun i _ => l0_0.length - (intOf i).toNat)
          case atStart => exact ⟨0, _, rfl, Nat.zero_le _, ⟨by simp⟩, ⟨HFA.out⟩, HFS⟩
          case round =>
            obtain ⟨j, out, rfl, hj, HOL, HA, HS⟩ := hrel
            clear HFS HFA hG6
            by_cases hlt : j < l0_0.length
            · have ha := HA.out
              rw [drop_range _ _ hlt, frontA] at ha
              have h4 := (blk_read (blk_alloc HS.out.h4 (.cells #[.int .i64 (j : Int)] 3 (0, 0)))).1
              obtain ⟨e1, f1⟩ := Kd.R_cell (enc := Value.bool) false (Kd.R_alloc HS.out.r4 (.cells #[.int .i64 (j : Int)] 3 (0, 0))) (j : Int) (by omega) (by have := HRL.out; omega)
              rw [Int.toNat_natCast] at e1
              have hrl : j < rc.length := by have := HRL.out; omega
              clear f1
              by_cases hre : rdOf false rc (j : Int) = true
              · rw [if_pos hre] at ha
                obtain ⟨o2, hB, hA2⟩ := Option.bind_eq_some_iff.1 ha
                have HBB := Aside0.mk hB
                have HAA := Aside0.mk hA2
                clear ha hB hA2 HA
                have hG := (blk_read2 (blk_alloc HS.out.hG (.cells #[.int .i64 (j : Int)] 3 (0, 0)))).1
                obtain ⟨Wo, hWo⟩ : ∃ Wo : World, Wo = wr := ⟨_, rfl⟩
                subst hWo
                have HS2 := Aside0.mk (show FS w (Wo.alloc (.cells #[.int .i64 (j : Int)] 3 (0, 0))) w.heap.size w1.heap.size w2.heap.size gS g7 B A0_0 c0_0 A0_1 c0_1 qS q7 l0_0 l0_1 (.slice Av idom.length cv) idom rc (fun k => B ≤ k ∧ k ≠ Wo.heap.size) out from FS.below (HS.out.mono (fun k hk hl => ⟨hk, by omega⟩) (fun k hk => hk.1)) (below_alloc (Below.refl _ _) _))
                have HK8 := Aside0.mk (blk_new Wo (.cells #[.int .i64 (j : Int)] 3 (0, 0)))
                have hB8 : B ≤ Wo.heap.size := HS.out.low.2.2.2.2.1
                obtain ⟨K8, hK8⟩ : ∃ K8, K8 = Wo.heap.size := ⟨_, rfl⟩
                clear HS
                go_wp2
                go_loopw [48] (fun i wr => ∃ (b : Nat) (o : List (List Int)), i = .int .i64 b ∧ b ≤ l0_0.length ∧ Aside0 (o.length = l0_0.length) ∧ Aside0 (frontB idom rc l0_1 j ((List.range l0_0.length).drop b) o = some o2) ∧ Aside0 (FS w wr w.heap.size w1.heap.size w2.heap.size gS g7 B A0_0 c0_0 A0_1 c0_1 qS q7 l0_0 l0_1 (.slice Av idom.length cv) idom rc (fun k => B ≤ k ∧ k ≠ Wo.heap.size) o) ∧ Aside0 (wr.heap[Wo.heap.size]? = some (.cells #[.int .i64 (j : Int)] 3 (0, 0)))) (fun i _ => l0_0.length - (intOf i).toNat)
                case atStart => exact ⟨0, out, rfl, Nat.zero_le _, HOL, HBB, HS2, HK8⟩
                case round =>
                  obtain ⟨b, o, rfl, hb, HOL2, HB2, HS, HK⟩ := hrel
                  clear HS2 HBB HK8 HOL h4 e1 hG
                  have h8 := (blk_read HK.out).1
                  by_cases hlt2 : b < l0_0.length
                  · have hbb := HB2.out
                    rw [drop_range _ _ hlt2, frontB] at hbb
                    clear HB2
                    by_cases hcond : j ≠ b ∧ domF idom (j : Int) (b : Int) = true
                    · rw [if_pos hcond] at hbb
                      have HNX := Aside0.mk hbb
                      have hne : ((j : Int) != (b : Int)) = true := by have := hcond.1; simp; omega
                      have HD := Aside0.mk (show dominator_Dominates.f idom (j : Int) (b : Int) = some true by rw [dom_f, hcond.2])
                      have h3 := (blk_read HS.out.h3).1
                      have HC3 := Aside0.mk (Kd.R_reads' HS.out.r3)
                      clear hbb hcond
                      go_wp2_with (go_at_call 19; (with_reducible refine (dominator_Dominates.calls Av cv idom (j : Int) (b : Int) true _ HC3.out.2.2 HC3.out.2.1 HD.out).mono ?_); rintro e w9 ⟨rfl, hb9⟩; have HS9 := Aside0.mk (HS.out.below hb9); have HK9 := Aside0.mk (blk_below HK.out hb9); clear hb9)
                      go_roundw
                      case rel => exact ⟨b + 1, o, by go_num, hlt2, HOL2, HNX, HS9, HK9⟩
                      case measure => simp [intOf]; omega
                    · rw [if_neg hcond] at hbb
                      by_cases hbp : b < l0_1.length
                      · rw [if_pos hbp] at hbb
                        obtain ⟨q, hany, hrest⟩ := Option.bind_eq_some_iff.1 hbb
                        have HQ := Aside0.mk hany
                        have HRS2 := Aside0.mk hrest
                        clear hbb hany hrest
                        have hor : ((j : Int) != (b : Int)) = false ∨ (((j : Int) != (b : Int)) = true ∧ domF idom (j : Int) (b : Int) = false) := by
                          by_cases h : j = b
                          · exact .inl (by simp [h])
                          · refine .inr ⟨by simp; omega, ?_⟩
                            cases hd : domF idom (j : Int) (b : Int) with
                            | false => rfl
                            | true => exact absurd ⟨h, hd⟩ hcond
                        clear hcond
                        have h3 := (blk_read HS.out.h3).1
                        have HC3 := Aside0.mk (Kd.R_reads' HS.out.r3)
                        have hG := (blk_read2 HS.out.hG).2
                        have hmp : l0_1.length ≤ 9223372036854775807 := H1.out.2.1
                        obtain ⟨adp, Ap, cp, eAp, hxp, hlp, hip⟩ := at_L1 (Kd.C_below H1.out HS.out.bel) (b : Int) (by omega) (by omega)
                        cases eAp
                        rw [Int.toNat_natCast] at hxp
                        have HIP := Aside0.mk hip
                        clear hip hlp
                        rcases hor with hne | ⟨hne, hdom⟩
                        · clear hmp
                          cases q with
                          | false =>
                            have HNX := Aside0.mk (show frontB idom rc l0_1 j ((List.range l0_0.length).drop (b + 1)) o = some o2 by have h := HRS2.out; rw [if_neg (by decide)] at h; exact h)
                            go_wp2_with ((go_at_call 32; (with_reducible refine (contains_calls (show PS _ _ _ _ _ w1.heap.size w2.heap.size Wo.heap.size gS qS (.slice Av idom.length cv) idom rc (j : Int) from ⟨HS.out.h3, HS.out.r3, HS.out.h4, HS.out.r4, HK.out⟩) Ap cp (rd_L1 l0_1 (b : Int)) HIP.out _ HQ.out).mono ?_); rintro e w10 ⟨rfl, hb10⟩; have HT := Aside0.mk (HS.out.below hb10); have HKT := Aside0.mk (blk_below HK.out hb10); clear hb10))
                            go_roundw
                            case rel => exact ⟨b + 1, o, by go_num, hlt2, HOL2, HNX, HT, HKT⟩
                            case measure => simp [intOf]; omega
                          | true =>
                            have hbound : (o.getD j []).length < 17592186044415 := by
                              have h := HRS2.out
                              rw [if_pos rfl] at h
                              by_cases hq : (o.getD j []).length < 17592186044415
                              · exact hq
                              · rw [if_neg hq] at h; cases h
                            have HNX := Aside0.mk (show frontB idom rc l0_1 j ((List.range l0_0.length).drop (b + 1)) (o.set j (o.getD j [] ++ [(b : Int)])) = some o2 by have h := HRS2.out; rw [if_pos rfl, if_pos hbound] at h; exact h)
                            have hjo : j < o.length := by have := HOL2.out; omega
                            go_wp2_with ((go_at_call 32; (with_reducible refine (contains_calls (show PS _ _ _ _ _ w1.heap.size w2.heap.size Wo.heap.size gS qS (.slice Av idom.length cv) idom rc (j : Int) from ⟨HS.out.h3, HS.out.r3, HS.out.h4, HS.out.r4, HK.out⟩) Ap cp (rd_L1 l0_1 (b : Int)) HIP.out _ HQ.out).mono ?_); rintro e w10 ⟨rfl, hb10⟩; have HT := Aside0.mk (HS.out.below hb10); have HKT := Aside0.mk (blk_below HK.out hb10); clear hb10))
                            obtain ⟨Ax, cx, oki, hcX, hfX, hRX, hfr, hown, hpush⟩ := HT.out.push j hjo
                            have hnx := HNX.out
                            obtain ⟨oj, hoj⟩ : ∃ oj, oj = o.getD j [] := ⟨_, rfl⟩
                            rw [← hoj] at hcX hRX hown hpush hbound hnx
                            have HNY := Aside0.mk hnx
                            have hcXa := pw_cell_below (below_alloc (Below.refl _ _) (.cells #[.int .i64 (b : Int)] 3 (0, 0))) hcX
                            clear hoj hnx
                            have h8T := (blk_read HKT.out).1
                            have h8a := (blk_read (blk_alloc HKT.out (.cells #[.int .i64 (b : Int)] 3 (0, 0)))).1
                            have HPU := Aside0.mk hpush
                            have HRX := Aside0.mk hRX
                            have HOW := Aside0.mk hown
                            have HFR := Aside0.mk hfr
                            have hBs : B ≤ w10.heap.size := HT.out.low.2.2.2.2.1
                            have hKs : Wo.heap.size < w10.heap.size := blk_lt HKT.out
                            have HFZ := Aside0.mk (show ∀ k, w10.heap.size ≤ k → (oki k ∨ (B ≤ k ∧ k ≠ Wo.heap.size) ∧ w10.heap.size ≤ k) from fun k hk => .inr ⟨⟨by omega, by omega⟩, hk⟩)
                            have HNB := Aside0.mk (show some Wo.heap.size ≠ (Value.slice Ax oj.length cx).ownBlock from fun he => (hown _ he.symm).1.2 rfl)
                            have HK7 := Aside0.mk (show Wo.heap.size ≠ g7 by obtain ⟨cells, hc⟩ := Kd.S_typed HT.out.ro g7 rfl; exact blk_ne HKT.out hc (by decide))
                            have HOL3 := Aside0.mk (show (o.set j (oj ++ [(b : Int)])).length = l0_0.length by rw [List.length_set]; exact HOL2.out)
                            have HLQ := Aside0.mk (show (oj ++ [(b : Int)]).length = oj.length + 1 by simp)
                            clear hpush hRX hown hfr hBs hKs
                            go_region_law (refine append_step_drew (Kd.int .i64) (w0 := w) (W := w10) w.heap.size ?aW (.tmp 72) (.tmp 74) 29 3 (.int .i64 0) 8 rfl Try.underlying29 info3 rfl ?aD1 ?aD2 (.slice Ax oj.length cx) oj (b : Int) [.int .i64 (b : Int)] (fun k => oki k ∨ (B ≤ k ∧ k ≠ Wo.heap.size) ∧ w10.heap.size ≤ k) (fun _ => False) rfl rfl ?aP (fun _ hk => hk.elim) ?aF ?aO ?aB ?aS ?aL ?_; (case aW => rfl); (case aD1 => decide); (case aD2 => decide); (case aP => exact fun _ => rfl); (case aF => exact HFZ.out); (case aO => exact HRX.out); (case aB => exact HT.out.bel); (case aS => exact HT.out.bel.size); (case aL => omega); intro v1 w11 ho hb hg hat; obtain ⟨Av1, cv1, rfl⟩ := Kd.R_slice ho; obtain ⟨hc1, hf1, hfs⟩ := HPU.out _ _ _ hg hb ho; have HFS1 := Aside0.mk hfs; have h8w := (blk_read (blk_grown HKT.out hg (HNB.out))).1; have HKG := Aside0.mk (blk_grown HKT.out hg (HNB.out)); clear ho hb hg hat hfs)
                            all_goals
                              go_wp2
                              go_roundw
                              case rel =>
                                refine ⟨b + 1, _, by go_num, hlt2, HOL3, HNY, ⟨?_⟩, ⟨blk_far HKG.out (p := ⟨g7, j, none⟩) HK7.out _⟩⟩
                                have h1 := HFS1.out
                                rw [HLQ.out] at h1
                                exact h1
                              case measure => simp [intOf]; omega
                        · have HD := Aside0.mk (show dominator_Dominates.f idom (j : Int) (b : Int) = some false by rw [dom_f, hdom])
                          clear hdom
                          cases q with
                          | false =>
                            have HNX := Aside0.mk (show frontB idom rc l0_1 j ((List.range l0_0.length).drop (b + 1)) o = some o2 by have h := HRS2.out; rw [if_neg (by decide)] at h; exact h)
                            go_wp2_with (first | (go_at_call 19; (with_reducible refine (dominator_Dominates.calls Av cv idom (j : Int) (b : Int) false _ HC3.out.2.2 HC3.out.2.1 HD.out).mono ?_); rintro e w9 ⟨rfl, hb9⟩; have HS9 := Aside0.mk (HS.out.below hb9); have HK9 := Aside0.mk (blk_below HK.out hb9); have h89 := (blk_read HK9.out).1; have hG9 := (blk_read2 HS9.out.hG).2; have hxp9 := pw_cell_below hb9 hxp; have HIP9 := Aside0.mk (Kd.C_below HIP.out hb9); clear hb9) | (go_at_call 32; (with_reducible refine (contains_calls (show PS _ _ _ _ _ w1.heap.size w2.heap.size Wo.heap.size gS qS (.slice Av idom.length cv) idom rc (j : Int) from ⟨HS9.out.h3, HS9.out.r3, HS9.out.h4, HS9.out.r4, HK9.out⟩) Ap cp (rd_L1 l0_1 (b : Int)) HIP9.out _ HQ.out).mono ?_); rintro e w10 ⟨rfl, hb10⟩; have HT := Aside0.mk (HS9.out.below hb10); have HKT := Aside0.mk (blk_below HK9.out hb10); clear hb10))
                            go_roundw
                            case rel => exact ⟨b + 1, o, by go_num, hlt2, HOL2, HNX, HT, HKT⟩
                            case measure => simp [intOf]; omega
                          | true =>
                            have hbound : (o.getD j []).length < 17592186044415 := by
                              have h := HRS2.out
                              rw [if_pos rfl] at h
                              by_cases hq : (o.getD j []).length < 17592186044415
                              · exact hq
                              · rw [if_neg hq] at h; cases h
                            have HNX := Aside0.mk (show frontB idom rc l0_1 j ((List.range l0_0.length).drop (b + 1)) (o.set j (o.getD j [] ++ [(b : Int)])) = some o2 by have h := HRS2.out; rw [if_pos rfl, if_pos hbound] at h; exact h)
                            have hjo : j < o.length := by have := HOL2.out; omega
                            go_wp2_with (first | (go_at_call 19; (with_reducible refine (dominator_Dominates.calls Av cv idom (j : Int) (b : Int) false _ HC3.out.2.2 HC3.out.2.1 HD.out).mono ?_); rintro e w9 ⟨rfl, hb9⟩; have HS9 := Aside0.mk (HS.out.below hb9); have HK9 := Aside0.mk (blk_below HK.out hb9); have h89 := (blk_read HK9.out).1; have hG9 := (blk_read2 HS9.out.hG).2; have hxp9 := pw_cell_below hb9 hxp; have HIP9 := Aside0.mk (Kd.C_below HIP.out hb9); clear hb9) | (go_at_call 32; (with_reducible refine (contains_calls (show PS _ _ _ _ _ w1.heap.size w2.heap.size Wo.heap.size gS qS (.slice Av idom.length cv) idom rc (j : Int) from ⟨HS9.out.h3, HS9.out.r3, HS9.out.h4, HS9.out.r4, HK9.out⟩) Ap cp (rd_L1 l0_1 (b : Int)) HIP9.out _ HQ.out).mono ?_); rintro e w10 ⟨rfl, hb10⟩; have HT := Aside0.mk (HS9.out.below hb10); have HKT := Aside0.mk (blk_below HK9.out hb10); clear hb10))
                            obtain ⟨Ax, cx, oki, hcX, hfX, hRX, hfr, hown, hpush⟩ := HT.out.push j hjo
                            have hnx := HNX.out
                            obtain ⟨oj, hoj⟩ : ∃ oj, oj = o.getD j [] := ⟨_, rfl⟩
                            rw [← hoj] at hcX hRX hown hpush hbound hnx
                            have HNY := Aside0.mk hnx
                            have hcXa := pw_cell_below (below_alloc (Below.refl _ _) (.cells #[.int .i64 (b : Int)] 3 (0, 0))) hcX
                            clear hoj hnx
                            have h8T := (blk_read HKT.out).1
                            have h8a := (blk_read (blk_alloc HKT.out (.cells #[.int .i64 (b : Int)] 3 (0, 0)))).1
                            have HPU := Aside0.mk hpush
                            have HRX := Aside0.mk hRX
                            have HOW := Aside0.mk hown
                            have HFR := Aside0.mk hfr
                            have hBs : B ≤ w10.heap.size := HT.out.low.2.2.2.2.1
                            have hKs : Wo.heap.size < w10.heap.size := blk_lt HKT.out
                            have HFZ := Aside0.mk (show ∀ k, w10.heap.size ≤ k → (oki k ∨ (B ≤ k ∧ k ≠ Wo.heap.size) ∧ w10.heap.size ≤ k) from fun k hk => .inr ⟨⟨by omega, by omega⟩, hk⟩)
                            have HNB := Aside0.mk (show some Wo.heap.size ≠ (Value.slice Ax oj.length cx).ownBlock from fun he => (hown _ he.symm).1.2 rfl)
                            have HK7 := Aside0.mk (show Wo.heap.size ≠ g7 by obtain ⟨cells, hc⟩ := Kd.S_typed HT.out.ro g7 rfl; exact blk_ne HKT.out hc (by decide))
                            have HOL3 := Aside0.mk (show (o.set j (oj ++ [(b : Int)])).length = l0_0.length by rw [List.length_set]; exact HOL2.out)
                            have HLQ := Aside0.mk (show (oj ++ [(b : Int)]).length = oj.length + 1 by simp)
                            clear hpush hRX hown hfr hBs hKs
                            go_region_law (refine append_step_drew (Kd.int .i64) (w0 := w) (W := w10) w.heap.size ?aW (.tmp 72) (.tmp 74) 29 3 (.int .i64 0) 8 rfl Try.underlying29 info3 rfl ?aD1 ?aD2 (.slice Ax oj.length cx) oj (b : Int) [.int .i64 (b : Int)] (fun k => oki k ∨ (B ≤ k ∧ k ≠ Wo.heap.size) ∧ w10.heap.size ≤ k) (fun _ => False) rfl rfl ?aP (fun _ hk => hk.elim) ?aF ?aO ?aB ?aS ?aL ?_; (case aW => rfl); (case aD1 => decide); (case aD2 => decide); (case aP => exact fun _ => rfl); (case aF => exact HFZ.out); (case aO => exact HRX.out); (case aB => exact HT.out.bel); (case aS => exact HT.out.bel.size); (case aL => omega); intro v1 w11 ho hb hg hat; obtain ⟨Av1, cv1, rfl⟩ := Kd.R_slice ho; obtain ⟨hc1, hf1, hfs⟩ := HPU.out _ _ _ hg hb ho; have HFS1 := Aside0.mk hfs; have h8w := (blk_read (blk_grown HKT.out hg (HNB.out))).1; have HKG := Aside0.mk (blk_grown HKT.out hg (HNB.out)); clear ho hb hg hat hfs)
                            all_goals
                              go_wp2
                              go_roundw
                              case rel =>
                                refine ⟨b + 1, _, by go_num, hlt2, HOL3, HNY, ⟨?_⟩, ⟨blk_far HKG.out (p := ⟨g7, j, none⟩) HK7.out _⟩⟩
                                have h1 := HFS1.out
                                rw [HLQ.out] at h1
                                exact h1
                              case measure => simp [intOf]; omega
                      · rw [if_neg hbp] at hbb; cases hbb
                  · obtain rfl : o = o2 := by have h := HB2.out; rw [List.drop_of_length_le (by simp; omega), frontB] at h; simpa using h
                    go_wp2
                    go_roundw
                    case rel => exact ⟨j + 1, o, by go_num, hlt, HOL2, HAA, ⟨HS.out.mono (fun k hk _ => hk.1) (fun k hk => hk)⟩⟩
                    case measure => simp [intOf]; omega
              · rw [if_neg hre] at ha
                replace hre : rdOf false rc (j : Int) = false := by simpa using hre
                have HA2 := Aside0.mk ha
                clear ha
                go_wp2
                go_roundw
                case rel => exact ⟨j + 1, out, by go_num, hlt, HOL, HA2, ⟨HS.out.below (below_alloc (Below.refl _ _) _)⟩⟩
                case measure => simp [intOf]; omega
            · obtain rfl : out = r := by have h := HA.out; rw [List.drop_of_length_le (by simp; omega), frontA] at h; simpa using h
              go_wp2
              go_ret
              refine ⟨_, rfl, ?_, HS.out.bel⟩
              have hq := Kd.S_mono HS.out.ro (fun _ _ => trivial) (ok' := fun _ => True)
              rw [HOL.out] at hq
              exact hq
    · rw [if_neg hn] at hf; cases hf
end Go.Proofs.Ytlnlamgnilmbjaa.Q

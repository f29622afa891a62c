/- The walk of dominator.Order: the depth-first search, its order reversed. -/
import Derived.Test.YtlnlamgnilmbjaaARun
import Derived.Test.YtlnlamgnilmbjaaQqcfgValid
import Derived.Test.YtlnlamgnilmbjaaQqslicesReverseintint
import Derived.Outline
import Derived.Laws.EntriesVeiled
namespace Go.Proofs.Ytlnlamgnilmbjaa.Q
open Go.RowKit Go.Proofs.YtlnlamgnilmbjaaW.PrintWords Go.Proofs.YtlnlamgnilmbjaaW.PrintLast Go.Proofs.YtlnlamgnilmbjaaW.PrintMore
set_option linter.unusedVariables false
set_option linter.unusedSimpArgs false

/-- The successors of a block. -/
def nx (bl : List S46) (b : Int) : List Int := (rd_T46 bl b).f2
/-- What the visits of a list of blocks leave: which blocks have been seen, and the blocks in the order in which they were left. -/
def dfsAll (f : List Bool → List Int → Int → Option (List Bool × List Int)) : List Int → List Bool → List Int → Option (List Bool × List Int)
  | [], seen, out => some (seen, out)
  | s :: ss, seen, out =>
    if 0 ≤ s ∧ s < seen.length then
      if rdOf false seen s = true then dfsAll f ss seen out
      else (f seen out s).bind fun p => dfsAll f ss p.1 p.2
    else none
def dfs (bl : List S46) : Nat → List Bool → List Int → Int → Option (List Bool × List Int)
  | 0, _, _, _ => none
  | k + 1, seen, out, b =>
    if 0 ≤ b ∧ b < seen.length then
      (dfsAll (dfs bl k) (nx bl b) (seen.set b.toNat true) out).bind fun p => if p.2.length < 17592186044415 then some (p.1, p.2 ++ [b]) else none
    else none
/-- The memory that a visit works on. -/
structure VS (w0 w : World) (G S R V O : Nat) (A0 : Option Addr) (c0 : Nat) (A1 : Option Addr) (c1 np cS : Nat) (bl : List S46) (seen : List Bool) (out : List Int) : Prop where
  bel : Below w0.heap.size w0 w
  hbl : k46.C w0 A0 bl.length bl
  len : seen.length = bl.length
  hG : w.heap[G]? = some (.cells #[.slice A0 bl.length c0, .slice A1 np c1] 25 (0, 0))
  hS : w.heap[S]? = some (.cells #[.slice (some ⟨R, 0, none⟩) seen.length cS] 36 (0, 0))
  hR : Kd.bool.R 4 w w0.heap.size (fun _ => True) (.slice (some ⟨R, 0, none⟩) seen.length cS) seen
  hV : w.heap[V]? = some (.cells #[.func (.func 30) #[] #[.pointer (some ⟨S, 0, none⟩), .pointer (some ⟨G, 0, none⟩), .pointer (some ⟨V, 0, none⟩), .pointer (some ⟨O, 0, none⟩)]] 48 (0, 0))
  hO : ∃ v, w.heap[O]? = some (.cells #[v] 29 (0, 0)) ∧ (Kd.int .i64).R 3 w w0.heap.size (fun _ => True) v out
  low : w0.heap.size ≤ G ∧ w0.heap.size ≤ S ∧ w0.heap.size ≤ R ∧ w0.heap.size ≤ V ∧ w0.heap.size ≤ O
section
variable {w0 w : World} {G S R V O : Nat} {A0 : Option Addr} {c0 : Nat} {A1 : Option Addr} {c1 np cS : Nat} {bl : List S46} {seen : List Bool} {out : List Int}
theorem VS.row (h : VS w0 w G S R V O A0 c0 A1 c1 np cS bl seen out) (hp : 0 < seen.length) : ∃ cells, w.heap[R]? = some (.cells cells 4 (0, 0)) := by
  obtain ⟨g, cap, he, _, _, hc⟩ := Kd.R_form h.hR hp
  injection he with h1
  injection h1 with h1
  injection h1 with h1
  subst h1
  exact hc
/-- A block is marked as seen. -/
theorem VS.mark (h : VS w0 w G S R V O A0 c0 A1 c1 np cS bl seen out) (b : Int) (h0 : 0 ≤ b) (h1 : b < seen.length) (x : Bool) : VS w0 (w.setCell ⟨R, b.toNat, none⟩ (.bool x)) G S R V O A0 c0 A1 c1 np cS bl (seen.set b.toNat x) out := by
  obtain ⟨cells, hc⟩ := h.row (by omega)
  obtain ⟨v, hv, ho⟩ := h.hO
  have hput := Kd.R_put (enc := Value.bool) h.hR b x
  refine ⟨h.bel.setCell h.low.2.2.1 _, h.hbl, by simpa using h.len, blk_far h.hG (p := ⟨R, b.toNat, none⟩) (blk_ne h.hG hc (by decide)) _, ?_, ?_, blk_far h.hV (p := ⟨R, b.toNat, none⟩) (blk_ne h.hV hc (by decide)) _, ⟨v, blk_far hv (p := ⟨R, b.toNat, none⟩) (blk_ne hv hc (by decide)) _, Kd.R_set ho hc (by decide) _ _⟩, h.low⟩
  · rw [List.length_set]; exact blk_far h.hS (p := ⟨R, b.toNat, none⟩) (blk_ne h.hS hc (by decide)) _
  · rw [List.length_set]; exact hput.1
theorem VS.drawn (h : VS w0 w G S R V O A0 c0 A1 c1 np cS bl seen out) (n : Nat) : VS w0 (w.drewN n) G S R V O A0 c0 A1 c1 np cS bl seen out := by
  obtain ⟨v, hv, ho⟩ := h.hO
  exact ⟨pw_below_drewN h.bel n, h.hbl, h.len, h.hG, h.hS, Kd.R_drewN h.hR n, h.hV, ⟨v, hv, Kd.R_drewN ho n⟩, h.low⟩
/-- The order is appended to and stored back. -/
theorem VS.store (h : VS w0 w G S R V O A0 c0 A1 c1 np cS bl seen out) {v : Value} (hv : w.heap[O]? = some (.cells #[v] 29 (0, 0))) {w1 : World} {v1 : Value} {out1 : List Int} (hg : w.grownBy w1 v.ownBlock) (hb : Below w0.heap.size w0 w1) (ho : (Kd.int .i64).R 3 w w0.heap.size (fun _ => True) v out) (ho1 : (Kd.int .i64).R 3 w1 w0.heap.size (fun _ => True) v1 out1) : VS w0 (w1.setCell ⟨O, 0, none⟩ v1) G S R V O A0 c0 A1 c1 np cS bl seen out1 := by
  have g1 := blk_grown h.hG hg (Kd.R_ne ho h.hG (by decide))
  have s1 := blk_grown h.hS hg (Kd.R_ne ho h.hS (by decide))
  have f1 := blk_grown h.hV hg (Kd.R_ne ho h.hV (by decide))
  have o1 := blk_grown hv hg (Kd.R_ne ho hv (by decide))
  have r1 := Kd.R_over h.hR ho (by decide) hg
  exact ⟨hb.setCell h.low.2.2.2.2 _, h.hbl, h.len, blk_far g1 (p := ⟨O, 0, none⟩) (blk_ne g1 o1 (by decide)) _, blk_far s1 (p := ⟨O, 0, none⟩) (blk_ne s1 o1 (by decide)) _, Kd.R_set r1 o1 (by decide) _ _, blk_far f1 (p := ⟨O, 0, none⟩) (blk_ne f1 o1 (by decide)) _, ⟨v1, blk_put o1 v1, Kd.R_set ho1 o1 (by decide) _ _⟩, h.low⟩
end
theorem drop_rd (xs : List Int) (i : Nat) (h : i < xs.length) : xs.drop i = rd xs (i : Int) :: xs.drop (i + 1) := by
  rw [List.drop_eq_getElem_cons h]
  simp [rd, List.getD_eq_getElem?_getD, h]
set_option maxHeartbeats 4000000 in
theorem visit_calls (w0 : World) (G S R V O : Nat) (A0 : Option Addr) (c0 : Nat) (A1 : Option Addr) (c1 np cS : Nat) (bl : List S46) (k : Nat) : ∀ (b : Int) (seen : List Bool) (out : List Int) (seen' : List Bool) (out' : List Int) (w : World),
    VS w0 w G S R V O A0 c0 A1 c1 np cS bl seen out → dfs bl k seen out b = some (seen', out') →
    Calls Try.prog 30 #[.int .i64 b, .pointer (some ⟨S, 0, none⟩), .pointer (some ⟨G, 0, none⟩), .pointer (some ⟨V, 0, none⟩), .pointer (some ⟨O, 0, none⟩)] w fun e w' => e = .returned (.tuple #[]) ∧ VS w0 w' G S R V O A0 c0 A1 c1 np cS bl seen' out' := by
  induction k with
  | zero => intro b seen out seen' out' w hv hd; simp [dfs] at hd
  | succ k ih =>
    intro b seen out seen' out' w hv hd
    have IH := Aside0.mk ih
    clear ih
    simp only [dfs] at hd
    by_cases hb : 0 ≤ b ∧ b < seen.length
    · rw [if_pos hb] at hd
      obtain ⟨⟨seen2, out2⟩, hall, hfin⟩ := Option.bind_eq_some_iff.1 hd
      clear hd
      obtain ⟨hb0, hb1⟩ := hb
      have HV := Aside0.mk hv
      have HA := Aside0.mk hall
      have HF := Aside0.mk hfin
      clear hall hfin
      have hlen : seen.length = bl.length := hv.len
      have hb2 : b < bl.length := by omega
      have hS := (blk_read hv.hS).1
      obtain ⟨hR1, hR2⟩ := Kd.R_cell (enc := Value.bool) false hv.hR b hb0 hb1
      have hm := hv.mark b hb0 hb1 true
      have HM := Aside0.mk hm
      have hG := (blk_read2 hm.hG).1
      obtain ⟨ad, A2, c2, eA, hx0, hx1, hx2, hl2, hi2⟩ := at_T46 (Kd.C_below hm.hbl hm.bel) b hb0 hb2
      obtain ⟨_, A2', c2', eA', hy0, hy1, hy2, hl2', hi2'⟩ := at_T46 hm.hbl b hb0 hb2
      cases eA
      clear hx0 hx1 hy0 hy1
      have HL := Aside0.mk hlen
      have HI := Aside0.mk hi2
      have HC := Aside0.mk hl2
      cases eA'
      have hsame : A2' = A2 := by have h1 := (pw_cell_below (w := w0) (w1 := w.setCell ⟨R, b.toNat, none⟩ (.bool true)) hm.bel hy2); rw [hx2] at h1; injection h1 with h1; injection h1 with h1; exact h1.symm
      subst hsame
      clear hlen hi2 hl2 hl2' hy2 hv hm
      go_enter Try.func30, Try.ntmps30
      go_wp2
      clear hS hR1 hR2 hG hx2 HV
      have HN := Aside0.mk (show nx bl b = (rd_T46 bl b).f2 from rfl)
      go_loopw [18] (fun i wr => ∃ (j : Nat) (seen1 : List Bool) (out1 : List Int), i = .int .i64 j ∧ j ≤ (rd_T46 bl b).f2.length ∧ Aside0 (VS w0 wr G S R V O (some ad) c0 A1 c1 np cS bl seen1 out1) ∧ Aside0 (dfsAll (dfs bl k) ((nx bl b).drop j) seen1 out1 = some (seen2, out2))) (fun i _ => (rd_T46 bl b).f2.length - (intOf i).toNat)
      case atStart => exact ⟨0, _, _, rfl, Nat.zero_le _, HM, ⟨HA.out⟩⟩
      case round =>
        obtain ⟨j, seen1, out1, rfl, hj, HV, HD⟩ := hrel
        clear HM HA
        by_cases hlt : j < (rd_T46 bl b).f2.length
        · have hmax : (rd_T46 bl b).f2.length ≤ 9223372036854775807 := HI.out.2.1
          obtain ⟨ad2, e2, hcell⟩ := Kd.at_int (Kd.C_below hi2' HV.out.bel) (j : Int) (by omega) (by omega)
          cases e2
          rw [Int.toNat_natCast] at hcell
          have hd := HD.out
          rw [HN.out, drop_rd _ j hlt, dfsAll] at hd
          clear HD
          by_cases hs : 0 ≤ rd (rd_T46 bl b).f2 (j : Int) ∧ rd (rd_T46 bl b).f2 (j : Int) < seen1.length
          · rw [if_pos hs] at hd
            obtain ⟨hs0, hs1⟩ := hs
            have hS := (blk_read HV.out.hS).1
            obtain ⟨hR1, hR2⟩ := Kd.R_cell (enc := Value.bool) false HV.out.hR _ hs0 hs1
            have hVc := (blk_read HV.out.hV).1
            by_cases hseen : rdOf false seen1 (rd (rd_T46 bl b).f2 (j : Int)) = true
            · rw [if_pos hseen] at hd
              have HD := Aside0.mk hd
              clear hd
              go_wp2
              go_roundw
              case rel => exact ⟨j + 1, seen1, out1, by go_num, hlt, HV, ⟨by rw [HN.out]; exact HD.out⟩⟩
              case measure => simp [intOf]; omega
            · rw [if_neg hseen] at hd
              replace hseen : rdOf false seen1 (rd (rd_T46 bl b).f2 (j : Int)) = false := by simpa using hseen
              obtain ⟨⟨seen3, out3⟩, hcall, hrest⟩ := Option.bind_eq_some_iff.1 hd
              have HCl := Aside0.mk hcall
              have HD := Aside0.mk hrest
              clear hd hcall hrest
              go_wp2_with (go_at_call 30; (with_reducible refine (IH.out _ _ _ _ _ _ HV.out HCl.out).mono ?_); rintro e w' ⟨rfl, hv'⟩)
              go_roundw
              case rel => exact ⟨j + 1, seen3, out3, by go_num, hlt, ⟨hv'⟩, ⟨by rw [HN.out]; exact HD.out⟩⟩
              case measure => simp [intOf]; omega
          · rw [if_neg hs] at hd; cases hd
        · have HE := Aside0.mk (show seen1 = seen2 ∧ out1 = out2 by have h := HD.out; rw [HN.out, List.drop_of_length_le (by omega), dfsAll] at h; simpa using h)
          obtain ⟨v, hvO, hvR⟩ := HV.out.hO
          have hO1 := (blk_read hvO).1
          have hbound : out1.length < 17592186044415 := by
            have h := HF.out
            rw [← HE.out.2] at h
            by_cases hq : out1.length < 17592186044415
            · exact hq
            · rw [if_neg hq] at h; cases h
          have HF' := Aside0.mk (show seen1 = seen' ∧ out1 ++ [b] = out' by
            have h := HF.out
            rw [← HE.out.1, ← HE.out.2, if_pos hbound] at h
            simpa using h)
          have HR := Aside0.mk hvR
          have HO := Aside0.mk hvO
          clear hvR hvO HF HD HI hi2'
          go_wp2_with (at_builtin; refine Kd.R_append (Kd.int .i64) (w0 := w0) w0.heap.size rfl (.tmp 31) (.tmp 33) 29 3 (.int .i64 0) 8 rfl Try.underlying29 info3 rfl (by decide) (by decide) v out1 b [.int .i64 b] (fun _ => True) (fun _ => False) rfl rfl ?aP (fun _ hk => hk.elim) ?aF ?aO ?aB ?aS ?aL ?_; (case aP => exact rfl); (case aF => exact fun _ _ => trivial); (case aO => exact HR.out); (case aB => exact HV.out.bel); (case aS => exact HV.out.bel.size); (case aL => omega); intro v1 w1 ho hb hg hat; obtain ⟨Av, cv, rfl⟩ := Kd.R_slice ho; have HS := Aside0.mk (HV.out.store HO.out hg hb HR.out ho); have hO2 := (blk_read (blk_grown HO.out hg (Kd.R_ne HR.out HO.out (by decide)))).1; have hO3 := (blk_read (blk_grown HO.out hg (Kd.R_ne HR.out HO.out (by decide)))).2; clear ho hb hg hat)
          go_end0
          have hq : (out1 ++ [b]).length = out1.length + 1 := by simp
          have hs := HS.out
          rw [hq] at hs
          obtain ⟨rfl, rfl⟩ := HF'.out
          exact ⟨rfl, hs⟩
    · rw [if_neg hb] at hd; cases hd
theorem VS.start {w w3 : World} {A0 : Option Addr} {c0 : Nat} {A1 : Option Addr} {c1 np cS Rb : Nat} {bl : List S46} (hb : Below w.heap.size w w3) (hbl : k46.C w A0 bl.length bl)
    (hG : w3.heap[w.heap.size]? = some (.cells #[.slice A0 bl.length c0, .slice A1 np c1] 25 (0, 0))) (hR : Kd.bool.R 4 w3 w.heap.size (fun _ => True) (.slice (some ⟨Rb, 0, none⟩) bl.length cS) (List.replicate bl.length false)) (hRb : w.heap.size ≤ Rb) :
    VS w (((w3.alloc (Obj.cells #[Value.slice (some ⟨Rb, 0, none⟩) bl.length cS] 36)).alloc (Obj.cells #[Value.slice none 0 0] 29)).alloc (Obj.cells #[Value.func (.func 30) #[] #[.pointer (some ⟨w3.heap.size, 0, none⟩), .pointer (some ⟨w.heap.size, 0, none⟩), .pointer (some ⟨w3.heap.size + 1 + 1, 0, none⟩), .pointer (some ⟨w3.heap.size + 1, 0, none⟩)]] 48))
      w.heap.size w3.heap.size Rb (w3.heap.size + 1 + 1) (w3.heap.size + 1) A0 c0 A1 c1 np cS bl (List.replicate bl.length false) [] := by
  have hs := hb.size
  refine ⟨((hb.alloc hs _).alloc (by simp; omega) _).alloc (by simp; omega) _, hbl, by simp, ?_, ?_, ?_, ?_, ⟨.slice none 0 0, ?_, Kd.R_nil _ _ _ _ _⟩, ⟨by omega, by omega, hRb, by omega, by omega⟩⟩
  · exact blk_alloc (blk_alloc (blk_alloc hG _) _) _
  · rw [List.length_replicate]; exact blk_alloc (blk_alloc (blk_new w3 _) _) _
  · rw [List.length_replicate]; exact Kd.R_alloc (Kd.R_alloc (Kd.R_alloc hR _) _) _
  · have := blk_new ((w3.alloc (Obj.cells #[Value.slice (some ⟨Rb, 0, none⟩) bl.length cS] 36)).alloc (Obj.cells #[Value.slice none 0 0] 29)) (Obj.cells #[Value.func (.func 30) #[] #[.pointer (some ⟨w3.heap.size, 0, none⟩), .pointer (some ⟨w.heap.size, 0, none⟩), .pointer (some ⟨w3.heap.size + 1 + 1, 0, none⟩), .pointer (some ⟨w3.heap.size + 1, 0, none⟩)]] 48)
    simpa using this
  · have := blk_new (w3.alloc (Obj.cells #[Value.slice (some ⟨Rb, 0, none⟩) bl.length cS] 36)) (Obj.cells #[Value.slice none 0 0] 29)
    exact blk_alloc (by simpa using this) _
theorem wrap_pred {i : Int} (h0 : 0 ≤ i) (h1 : i < 9223372036854775807) : wrap64 (i - 1) = i - 1 := by unfold wrap64; omega
/-- What the reversal's loop leaves: from i on, j = n - 1 - i. -/
theorem rev_loop (l : List Int) (hm : l.length ≤ 9223372036854775807) (d : Nat) : ∀ (k i : Nat) (x : List Int), l.length ≤ 2 * i + d → i ≤ l.length → d < k → x.length = l.length →
    (∀ p, p < l.length → rd x (p : Int) = if p < i ∨ l.length - i ≤ p then rd l ((l.length - 1 - p : Nat) : Int) else rd l (p : Int)) →
    slices_Reverse_int_int.l0 k x (i : Int) ((l.length : Int) - 1 - i) = some l.reverse := by
  have fin : ∀ (i : Nat) (x : List Int), l.length ≤ 2 * i + 1 → i ≤ l.length → x.length = l.length → (∀ p, p < l.length → rd x (p : Int) = if p < i ∨ l.length - i ≤ p then rd l ((l.length - 1 - p : Nat) : Int) else rd l (p : Int)) → x = l.reverse := by
    intro i x h1 h2 hx hp
    apply List.ext_getElem (by simpa using hx)
    intro p hp1 hp2
    have h := hp p (by omega)
    rw [List.getElem_reverse]
    have e1 : rd x (p : Int) = x[p] := by simp [rd, List.getD_eq_getElem?_getD, hp1]
    have hq : l.length - 1 - p < l.length := by omega
    have e2 : rd l ((l.length - 1 - p : Nat) : Int) = l[l.length - 1 - p] := by simp [rd, List.getD_eq_getElem?_getD, hq]
    rw [← e1, h]
    by_cases hc : p < i ∨ l.length - i ≤ p
    · rw [if_pos hc, e2]
    · rw [if_neg hc]
      have : p = l.length - 1 - p := by omega
      rw [← e2, ← this]
  induction d with
  | zero =>
    intro k i x h1 h2 hk hx hp
    obtain ⟨k, rfl⟩ : ∃ m, k = m + 1 := ⟨k - 1, by omega⟩
    simp only [slices_Reverse_int_int.l0]
    rw [if_neg (by omega), fin i x (by omega) h2 hx hp]
  | succ d ih =>
    intro k i x h1 h2 hk hx hp
    obtain ⟨k, rfl⟩ : ∃ m, k = m + 1 := ⟨k - 1, by omega⟩
    simp only [slices_Reverse_int_int.l0]
    by_cases hlt : 2 * i + 1 < l.length
    · rw [if_pos (by omega), if_pos (by omega), if_pos (by omega), if_pos (by omega), if_pos (by omega)]
      have ej : ((l.length : Int) - 1 - i) = ((l.length - 1 - i : Nat) : Int) := by omega
      rw [wrap_s (by omega) (by omega), wrap_pred (by omega) (by omega)]
      have := ih k (i + 1) ((x.set (i : Int).toNat (rd x ((l.length : Int) - 1 - i))).set ((l.length : Int) - 1 - i).toNat (rd x (i : Int))) (by omega) (by omega) (by omega) (by simpa using hx) (by
        intro p hpl
        have hi := hp i (by omega)
        have hj := hp (l.length - 1 - i) (by omega)
        rw [if_neg (by omega)] at hi hj
        have hpp := hp p hpl
        rw [ej, hi, hj]
        simp only [Int.toNat_natCast]
        have rs : ∀ (y : List Int) (a : Nat) (v : Int), a < y.length → rd (y.set a v) (p : Int) = if a = p then v else rd y (p : Int) := by
          intro y a v ha
          simp only [rd, Int.toNat_natCast, List.getD_eq_getElem?_getD, List.getElem?_set]
          by_cases h : a = p
          · subst h; simp [ha]
          · simp [h]
        rw [rs _ _ _ (by simp; omega), rs _ _ _ (by omega)]
        by_cases hp1 : l.length - 1 - i = p
        · rw [if_pos hp1, if_pos (by omega)]; congr 2; omega
        · rw [if_neg hp1]
          by_cases hp2 : i = p
          · rw [if_pos hp2, if_pos (by omega)]; congr 2; omega
          · rw [if_neg hp2, hpp]
            by_cases hp3 : p < i ∨ l.length - i ≤ p
            · rw [if_pos hp3, if_pos (by omega)]
            · rw [if_neg hp3, if_neg (by omega)])
      rw [Int.natCast_add] at this
      have e2 : (l.length : Int) - 1 - (i : Int) - 1 = (l.length : Int) - 1 - ((i : Int) + ((1 : Nat) : Int)) := by omega
      rw [e2]
      exact this
    · rw [if_neg (by omega), fin i x (by omega) h2 hx hp]
theorem rev_tells (l : List Int) (hm : l.length ≤ 9223372036854775807) : ∃ k, slices_Reverse_int_int.f k l = some l.reverse := by
  refine ⟨l.length + 1, ?_⟩
  unfold slices_Reverse_int_int.f
  have e : wrap64 ((l.length : Int) - 1) = (l.length : Int) - 1 - ((0 : Nat) : Int) := by unfold wrap64; omega
  rw [e]
  exact rev_loop l hm l.length (l.length + 1) 0 l (by omega) (by omega) (by omega) rfl (by intro p hp; rw [if_neg (by omega)])
noncomputable def dominator_Order.f (bl : List S46) (pv : List (List Int)) : Option (List Int) :=
  (Run fun k => cfg_Valid.f k bl pv).bind fun ok =>
    if ok = true then (if bl.length ≤ 281474976710656 ∧ 0 < bl.length then (dfs bl (bl.length + 1) (List.replicate bl.length false) [] 0).map fun p => p.2.reverse else none) else some []
set_option maxHeartbeats 4000000 in
theorem dominator_Order.calls (A0_0 : Option Addr) (c0_0 : Nat) (l0_0 : List S46) (A0_1 : Option Addr) (c0_1 : Nat) (l0_1 : List (List Int)) (r : List Int) (w : World) (hr0_0 : Kd.C k46 w A0_0 l0_0.length l0_0) (hc0_0 : l0_0.length ≤ c0_0) (hr0_1 : Kd.C (Kd.slice 3 (Kd.int .i64)) w A0_1 l0_1.length l0_1) (hc0_1 : l0_1.length ≤ c0_1) (h : dominator_Order.f l0_0 l0_1 = some r) :
    Calls Try.prog 15 #[.agg #[.slice A0_0 l0_0.length c0_0, .slice A0_1 l0_1.length c0_1]] w fun e w' => ∃ v0_ : Value, e = .returned v0_ ∧ Kd.R (Kd.int .i64) 3 w' w.heap.size (fun _ => True) v0_ r ∧ Below w.heap.size w w' := by
  have hmf : ∀ (fn : Fn) (first cap : Array Value) (w : World), (Instr.makeFunc fn first cap).run Try.prog w = .ok (.func fn first cap) w := fun _ _ _ _ => rfl
  obtain ⟨ok, hok, hfin⟩ := Option.bind_eq_some_iff.1 h
  obtain ⟨kv, hkv⟩ := Run.got hok
  have H0 := Aside0.mk hr0_0
  have H1 := Aside0.mk hr0_1
  have C0 := Aside0.mk hc0_0
  have C1 := Aside0.mk hc0_1
  have HKV := Aside0.mk hkv
  have HF := Aside0.mk hfin
  clear hr0_0 hr0_1 hc0_0 hc0_1 hkv hfin hok h
  have hu25 := Try.underlying25
  cases ok with
  | false =>
    have hr : [] = r := by have h := HF.out; simpa using h
    go_enter Try.func15, Try.ntmps15
    go_wp2_with (go_at_call 28; (with_reducible refine (cfg_Valid.calls kv _ _ l0_0 _ _ l0_1 false _ ?s1 C0.out ?s3 C1.out HKV.out).mono ?_); (case s1 => exact Kd.C_alloc H0.out _); (case s3 => exact Kd.C_alloc H1.out _); rintro e w' ⟨rfl, hb⟩)
    go_ret
    exact ⟨_, rfl, by rw [← hr]; exact Kd.R_nil _ _ _ _ _, ((Below.refl _ _).alloc (Nat.le_refl _) _).trans (hb.mono (by simp))⟩
  | true =>
    have hn : l0_0.length ≤ 281474976710656 ∧ 0 < l0_0.length := by
      have h := HF.out
      rw [if_pos rfl] at h
      by_cases hq : l0_0.length ≤ 281474976710656 ∧ 0 < l0_0.length
      · exact hq
      · rw [if_neg hq] at h; cases h
    obtain ⟨hn1, hn0⟩ := hn
    obtain ⟨⟨seenF, outF⟩, hdfs, hr⟩ : ∃ p, dfs l0_0 (l0_0.length + 1) (List.replicate l0_0.length false) [] 0 = some p ∧ p.2.reverse = r := by
      have h := HF.out
      rw [if_pos rfl, if_pos ⟨hn1, hn0⟩] at h
      exact Option.map_eq_some_iff.1 h
    have HD := Aside0.mk hdfs
    have HR := Aside0.mk hr
    clear hdfs hr HF
    go_enter Try.func15, Try.ntmps15
    go_wp2_with (first | (go_at_call 28; (with_reducible refine (cfg_Valid.calls kv _ _ l0_0 _ _ l0_1 true _ ?s1 C0.out ?s3 C1.out HKV.out).mono ?_); (case s1 => exact Kd.C_alloc H0.out _); (case s3 => exact Kd.C_alloc H1.out _); rintro e w2 ⟨rfl, hb⟩; have HB := Aside0.mk ((((Below.refl w.heap.size w).alloc (Nat.le_refl _) (.cells #[.slice A0_0 l0_0.length c0_0, .slice A0_1 l0_1.length c0_1] 25 (0, 0))).trans (hb.mono (by simp)))); have HG := Aside0.mk (blk_below (blk_new w (.cells #[.slice A0_0 l0_0.length c0_0, .slice A0_1 l0_1.length c0_1] 25 (0, 0))) hb); have hG0 := (blk_read2 HG.out).1; have hG1 := (blk_read2 HG.out).2; clear hb) | ((with_reducible refine gate_dst (N := 12) rfl ?_); refine Kd.R_make Kd.bool _ 4 rfl (N := 12) rfl 36 _ _ rfl (l0_0.length : Int) rfl rfl Try.underlying36 (.bool false) 1 info4 rfl (by decide) (by omega) false (ok := fun _ => True) (okp := fun _ => True) rfl (fun _ hk => hk) trivial (by omega) (by omega) HB.out HB.out.size ?_; intro v w3 ho hb hg hnew; obtain ⟨Rb, cS, hvR, hRb⟩ := Kd.R_form ho (by simp; omega); have hRl := hRb.1; clear hRb; have ev : v = .slice (some ⟨Rb, 0, none⟩) l0_0.length cS := (by rw [hvR]; simp); subst ev; clear hvR; rw [Int.toNat_natCast] at ho; have HVS := Aside0.mk (VS.start (c0 := c0_0) (A1 := A0_1) (c1 := c0_1) (np := l0_1.length) hb H0.out (blk_grown HG.out hg (by simp)) ho hRl); have HG3 := Aside0.mk (blk_grown HG.out hg (by simp)); have hG3 := (blk_read2 HG3.out).1; have HRl := Aside0.mk hRl; clear hb ho hg hnew hG0 hG1 hRl) | (go_at_call 30; (with_reducible refine (visit_calls w _ _ _ _ _ A0_0 c0_0 A0_1 c0_1 l0_1.length cS l0_0 _ 0 _ _ seenF outF _ HVS.out HD.out).mono ?_); rintro e w4 ⟨rfl, hv4⟩; obtain ⟨v, hO, hR4⟩ := hv4.hO; have hO1 := (blk_read hO).1; have HB4 := Aside0.mk hv4.bel; have HO := Aside0.mk hO; have HRr := Aside0.mk hR4; clear hO hR4 hv4 hG3) | (go_at_call 31; obtain ⟨Av, cv, hve, hcv, hC⟩ := Kd.R_reads HRr.out; obtain ⟨kr, hkr⟩ := rev_tells outF hC.2.1; (with_reducible refine (slices_Reverse_int_int.calls kr (fun k => v.ownBlock = some k) v outF outF.reverse w w4 HB4.out ?s1 hkr).mono ?_); (case s1 => exact Kd.R_of_own (Kd.own_of_R HRr.out) (fun k hk => hk)); rintro e w5 ⟨rfl, hR5, hB5, hK5⟩; have HR5 := Aside0.mk hR5; have HB5 := Aside0.mk hB5; have hO5 := (blk_read ((hK5.2 _ (blk_lt HO.out) (fun hq => Kd.R_ne HRr.out HO.out (by decide) hq.symm)).trans HO.out)).1; clear hve hcv hC hkr hR5 hB5 hK5 hO1))
    go_ret
    exact ⟨_, rfl, by rw [← HR.out]; exact Kd.R_mono HR5.out (fun _ _ => trivial), HB5.out⟩
end Go.Proofs.Ytlnlamgnilmbjaa.Q

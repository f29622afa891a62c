/- The depth-first search of the program and that of the reference are one. -/
import Derived.Test.YtlnlamgnilmbjaaBValid
import Derived.Test.YtlnlamgnilmbjaaQqontimeref25Order
namespace Go.Proofs.Ytlnlamgnilmbjaa.Q
open Go.RowKit Go.Proofs.YtlnlamgnilmbjaaW.PrintWords Go.Proofs.YtlnlamgnilmbjaaW.PrintLast Go.Proofs.YtlnlamgnilmbjaaW.PrintMore
/-- All successors are blocks. -/
def OkG (bl : List S46) : Prop := ∀ b : Int, 0 ≤ b → b < bl.length → (nx bl b).length ≤ 2 ∧ ∀ s ∈ nx bl b, 0 ≤ s ∧ s < bl.length
def cntF (s : List Bool) : Nat := s.count false
theorem rdOf_get (s : List Bool) (b : Int) (h0 : 0 ≤ b) (h1 : b < s.length) : rdOf false s b = s[b.toNat]'(by omega) := by
  simp [rdOf, List.getD_eq_getElem?_getD, show b.toNat < s.length by omega]
theorem cntF_mark {s : List Bool} {b : Int} (h0 : 0 ≤ b) (h1 : b < s.length) (hb : rdOf false s b = false) : cntF (s.set b.toNat true) + 1 = cntF s := by
  have hl : b.toNat < s.length := by omega
  rw [rdOf_get s b h0 h1] at hb
  unfold cntF
  rw [List.count_set hl, hb]
  have : 0 < s.count false := List.count_pos_iff.2 (hb ▸ List.getElem_mem hl)
  simp
  omega
theorem rdOf_set (s : List Bool) (b i : Int) (h0 : 0 ≤ b) (h1 : b < s.length) (hi : 0 ≤ i) : rdOf false (s.set b.toNat true) i = if i = b then true else rdOf false s i := by
  unfold rdOf
  rw [List.getD_eq_getElem?_getD, List.getElem?_set, List.getD_eq_getElem?_getD]
  by_cases h : i = b
  · subst h
    rw [if_pos rfl, if_pos (by omega), if_pos rfl]; rfl
  · rw [if_neg h, if_neg (by omega)]
/-- With as many rounds as blocks are unseen the search ends. -/
theorem dfs_ends (bl : List S46) (hok : OkG bl) (k : Nat) : ∀ (seen : List Bool) (out : List Int) (b : Int), seen.length = bl.length → 0 ≤ b → b < bl.length → rdOf false seen b = false → cntF seen ≤ k → out.length + cntF seen ≤ 1000 →
    ∃ seen' out', dfs bl k seen out b = some (seen', out') ∧ seen'.length = bl.length ∧ out'.length + cntF seen' ≤ out.length + cntF seen ∧ cntF seen' ≤ cntF seen := by
  induction k with
  | zero =>
    intro seen out b hl h0 h1 hb hk ho
    have := cntF_mark h0 (by omega : b < (seen.length : Int)) hb
    omega
  | succ k ih =>
    intro seen out b hl h0 h1 hb hk ho
    have hall : ∀ (ss : List Int) (sn : List Bool) (ot : List Int), (∀ s ∈ ss, 0 ≤ s ∧ s < bl.length) → sn.length = bl.length → cntF sn ≤ k → ot.length + cntF sn ≤ 1000 →
        ∃ sn' ot', dfsAll (dfs bl k) ss sn ot = some (sn', ot') ∧ sn'.length = bl.length ∧ ot'.length + cntF sn' ≤ ot.length + cntF sn ∧ cntF sn' ≤ cntF sn := by
      intro ss
      induction ss with
      | nil => intro sn ot _ hsl _ _; exact ⟨sn, ot, rfl, hsl, Nat.le_refl _, Nat.le_refl _⟩
      | cons s ss ihs =>
        intro sn ot hs hsl hc ho
        obtain ⟨hs0, hs1⟩ := hs s (by simp)
        unfold dfsAll
        rw [if_pos ⟨hs0, by omega⟩]
        by_cases hseen : rdOf false sn s = true
        · rw [if_pos hseen]
          exact ihs sn ot (fun x hx => hs x (by simp [hx])) hsl hc ho
        · rw [if_neg hseen]
          obtain ⟨s1, o1, e1, l1, c1, d1⟩ := ih sn ot s hsl hs0 hs1 (by simpa using hseen) hc ho
          rw [e1]
          obtain ⟨s2, o2, e2, l2, c2, d2⟩ := ihs s1 o1 (fun x hx => hs x (by simp [hx])) l1 (by omega) (by omega)
          exact ⟨s2, o2, e2, l2, by omega, by omega⟩
    have hm := cntF_mark h0 (by omega : b < (seen.length : Int)) hb
    obtain ⟨s1, o1, e1, l1, c1, d1⟩ := hall (nx bl b) (seen.set b.toNat true) out (hok b h0 h1).2 (by simpa using hl) (by omega) (by omega)
    refine ⟨s1, o1 ++ [b], ?_, l1, by simp; omega, by omega⟩
    unfold dfs
    rw [if_pos ⟨h0, by omega⟩, e1]
    simp only [Option.bind_some]
    rw [if_pos (by omega)]
/-- The reference's search. -/
theorem leave_is (bl : List S46) (hok : OkG bl) (k : Nat) : ∀ (seen : List Bool) (out : List Int) (b : Int) (seen' : List Bool) (out' : List Int), seen.length = bl.length → 0 ≤ b → b < bl.length → dfs bl k seen out b = some (seen', out') → rdOf false seen b = false →
    Ev (fun K => ontimeref25_leave.f K (bl.map (·.f2)) b seen out) (out', seen') ∧ seen'.length = bl.length := by
  induction k with
  | zero => intro seen out b seen' out' _ _ _ h; simp [dfs] at h
  | succ k ih =>
    intro seen out b seen' out' hl h0 h1 hd hb
    unfold dfs at hd
    rw [if_pos ⟨h0, by omega⟩] at hd
    obtain ⟨⟨s1, o1⟩, hall, hfin⟩ := Option.bind_eq_some_iff.1 hd
    by_cases hlen : o1.length < 17592186044415
    · rw [if_pos hlen] at hfin
      obtain ⟨rfl, rfl⟩ : s1 = seen' ∧ o1 ++ [b] = out' := by simpa using hfin
      have hrow : rd_L1 (bl.map (·.f2)) b = nx bl b := by
        have hbl : b.toNat < bl.length := by omega
        simp [rd_L1, nx, rd_T46, List.getD_eq_getElem?_getD, hbl]
      have hgo : ∀ (ss : List Int) (j : Nat) (sn : List Bool) (ot : List Int), (nx bl b).drop j = ss → sn.length = bl.length → dfsAll (dfs bl k) ss sn ot = some (s1, o1) →
          Ev (fun K => ontimeref25_leave.l0 K (bl.map (·.f2)) b sn ot (j : Int)) (o1 ++ [b], s1) ∧ s1.length = bl.length := by
        intro ss
        induction ss with
        | nil =>
          intro j sn ot hj hsl hda
          obtain ⟨rfl, rfl⟩ : sn = s1 ∧ ot = o1 := by simpa [dfsAll] using hda
          have hjl : (nx bl b).length ≤ j := by simpa using hj
          refine ⟨⟨1, fun K hK => ?_⟩, hsl⟩
          obtain ⟨K, rfl⟩ : ∃ m, K = m + 1 := ⟨K - 1, by omega⟩
          simp only [ontimeref25_leave.l0]
          rw [if_pos h0, if_pos (by simpa using h1), hrow, if_neg (by omega), if_pos (by omega)]
        | cons s ss ihs =>
          intro j sn ot hj hsl hda
          have hjl : j < (nx bl b).length := by
            rcases Nat.lt_or_ge j (nx bl b).length with h | h
            · exact h
            · rw [List.drop_of_length_le h] at hj; cases hj
          have hdr := drop_rd (nx bl b) j hjl
          rw [hj] at hdr
          injection hdr with hs hss
          have hmem : s ∈ nx bl b := by have : s ∈ (nx bl b).drop j := by rw [hj]; simp
                                        exact List.mem_of_mem_drop this
          obtain ⟨hs0, hs1⟩ := (hok b h0 h1).2 s hmem
          have hjb : j < 9223372036854775807 := by have := (hok b h0 h1).1; omega
          unfold dfsAll at hda
          rw [if_pos ⟨hs0, by omega⟩] at hda
          have hstep : ∀ (K : Nat), ontimeref25_leave.l0 (K + 1) (bl.map (·.f2)) b sn ot (j : Int) = (ontimeref25_leave.f K (bl.map (·.f2)) s sn ot).bind fun bt => ontimeref25_leave.l0 K (bl.map (·.f2)) b bt.2 bt.1 ((j + 1 : Nat) : Int) := by
            intro K
            simp only [ontimeref25_leave.l0]
            rw [if_pos h0, if_pos (by simpa using h1), hrow, if_pos (by omega), if_pos (by omega), ← hs, wrap_s (by omega) (by omega)]
            rfl
          by_cases hseen : rdOf false sn s = true
          · rw [if_pos hseen] at hda
            obtain ⟨he, hl1⟩ := ihs (j + 1) sn ot hss.symm hsl hda
            refine ⟨Ev.step hstep (Ev.bind (a := (ot, sn)) (f := fun K bt => ontimeref25_leave.l0 K (bl.map (·.f2)) b bt.2 bt.1 ((j + 1 : Nat) : Int)) ⟨1, fun K hK => ?_⟩ he), hl1⟩
            obtain ⟨K, rfl⟩ : ∃ m, K = m + 1 := ⟨K - 1, by omega⟩
            simp only [ontimeref25_leave.f]
            rw [if_pos hs0, if_pos (by omega), if_pos hseen]
          · rw [if_neg hseen] at hda
            obtain ⟨⟨s2, o2⟩, hc, hr⟩ := Option.bind_eq_some_iff.1 hda
            obtain ⟨he1, hl1⟩ := ih sn ot s s2 o2 hsl hs0 hs1 hc (by simpa using hseen)
            obtain ⟨he, hl2⟩ := ihs (j + 1) s2 o2 hss.symm hl1 hr
            exact ⟨Ev.step hstep (Ev.bind (f := fun K bt => ontimeref25_leave.l0 K (bl.map (·.f2)) b bt.2 bt.1 ((j + 1 : Nat) : Int)) he1 he), hl2⟩
      obtain ⟨he, hl1⟩ := hgo (nx bl b) 0 (seen.set b.toNat true) out (by simp) (by simpa using hl) hall
      refine ⟨Ev.step (fun K => ?_) he, hl1⟩
      simp only [ontimeref25_leave.f]
      rw [if_pos h0, if_pos (by omega), if_neg (by rw [hb]; decide)]
      rfl
    · rw [if_neg hlen] at hfin; cases hfin
/-- A valid graph's successors are blocks. -/
theorem vB_range {n : Nat} {i : Int} : ∀ {ts : List Int} {p p' : List (List Int)}, vB n i ts p = some p' → ∀ s ∈ ts, 0 ≤ s ∧ s < n
  | [], _, _, _, s, hs => by cases hs
  | t :: ts, p, p', h, s, hs => by
    unfold vB at h
    split at h
    · rename_i ht
      rcases List.mem_cons.1 hs with rfl | hs
      · exact ht
      · exact vB_range h s hs
    · cases h
theorem vA_range {n : Nat} : ∀ {bs : List S46} {i : Nat} {e : Int} {p p' : List (List Int)}, vA n i e bs p = some p' → ∀ b ∈ bs, b.f2.length ≤ 2 ∧ ∀ s ∈ b.f2, 0 ≤ s ∧ s < n
  | [], _, _, _, _, _, b, hb => by cases hb
  | c :: bs, i, e, p, p', h, b, hb => by
    unfold vA at h
    split at h
    · cases h
    · rename_i hbad
      obtain ⟨p2, h1, h2⟩ := Option.bind_eq_some_iff.1 h
      rcases List.mem_cons.1 hb with rfl | hb
      · refine ⟨?_, vB_range h1⟩
        replace hbad : badB e b = false := by simpa using hbad
        simp only [badB, Bool.or_eq_false_iff, decide_eq_false_iff_not] at hbad
        omega
      · exact vA_range h2 b hb
theorem valid_ok {bl : List S46} {pv : List (List Int)} (h : validB bl pv = true) : OkG bl ∧ 0 < bl.length ∧ pv.length = bl.length := by
  simp only [validB, Bool.and_eq_true, decide_eq_true_eq] at h
  obtain ⟨⟨h0, h1⟩, h2⟩ := h
  refine ⟨fun b hb0 hb1 => ?_, h0, h1⟩
  have hl : b.toNat < bl.length := by omega
  have := vA_range h2 (bl[b.toNat]) (List.getElem_mem hl)
  have e : nx bl b = (bl[b.toNat]).f2 := by simp [nx, rd_T46, List.getD_eq_getElem?_getD, hl]
  rw [e]
  exact this
/-- The program's order, for a valid graph. -/
theorem order_some (bl : List S46) (pv : List (List Int)) (hbl : bl.length ≤ 14) (hv : validB bl pv = true) : ∃ seen out, dfs bl (bl.length + 1) (List.replicate bl.length false) [] 0 = some (seen, out) ∧ out.length ≤ bl.length ∧ dominator_Order.f bl pv = some out.reverse := by
  obtain ⟨hok, h0, _⟩ := valid_ok hv
  obtain ⟨seen, out, hd, hl, hc, _⟩ := dfs_ends bl hok (bl.length + 1) (List.replicate bl.length false) [] 0 (by simp) (by omega) (by omega) (by simp [rdOf, List.getD_eq_getElem?_getD, h0]) (by unfold cntF; have := List.count_le_length (a := false) (l := List.replicate bl.length false); simp at this; simp) (by unfold cntF; simp; omega)
  refine ⟨seen, out, hd, ?_, ?_⟩
  · unfold cntF at hc; simp at hc; omega
  · unfold dominator_Order.f
    rw [runV bl pv hbl, hv]
    simp only [Option.bind_some, if_true]
    rw [if_pos ⟨by omega, h0⟩, hd]
    rfl
theorem orderRev (l : List Int) (hl : l.length ≤ 1000) (d : Nat) : ∀ (acc : List Int), d ≤ l.length → acc = (l.drop d).reverse → Ev (fun k => ontimeref25_Order.l0 k l acc ((d : Int) - 1)) l.reverse := by
  induction d with
  | zero =>
    intro acc _ ha
    refine ⟨1, fun k hk => ?_⟩
    obtain ⟨k, rfl⟩ : ∃ m, k = m + 1 := ⟨k - 1, by omega⟩
    simp only [ontimeref25_Order.l0]
    rw [if_neg (by omega), ha, List.drop_zero]
  | succ d ih =>
    intro acc hd ha
    have hdl : d < l.length := by omega
    refine Ev.step (f := fun k => ontimeref25_Order.l0 k l (acc ++ [rd l (d : Int)]) ((d : Int) - 1)) (fun k => ?_) (ih _ (by omega) ?_)
    · simp only [ontimeref25_Order.l0]
      have e : ((d + 1 : Nat) : Int) - 1 = (d : Int) := by omega
      rw [e, if_pos (by omega), if_pos (by omega), if_pos (by omega), if_pos (by rw [ha]; simp; omega), wrap_pred (by omega) (by omega)]
    · rw [drop_rd l d hdl, List.reverse_cons, ha]
theorem refOrder (bl : List S46) (pv : List (List Int)) (hbl : bl.length ≤ 14) (hv : validB bl pv = true) : ∃ out, dominator_Order.f bl pv = some out ∧ out.length ≤ 14 ∧ Ev (fun k => ontimeref25_Order.f k (bl.map (·.f2))) out := by
  obtain ⟨hok, h0, _⟩ := valid_ok hv
  obtain ⟨seen, out, hd, hl, ho⟩ := order_some bl pv hbl hv
  refine ⟨out.reverse, ho, by simp; omega, ?_⟩
  obtain ⟨he, _⟩ := leave_is bl hok (bl.length + 1) (List.replicate bl.length false) [] 0 seen out (by simp) (by omega) (by omega) hd (by simp [rdOf, List.getD_eq_getElem?_getD, h0])
  have hbind : Ev (fun k => (ontimeref25_leave.f k (bl.map (·.f2)) 0 (List.replicate bl.length false) []).bind fun bt => ontimeref25_Order.l0 k bt.1 ([] : List Int) (wrap64 ((bt.1.length : Int) - 1))) out.reverse := by
    refine Ev.bind (f := fun k bt => ontimeref25_Order.l0 k bt.1 ([] : List Int) (wrap64 ((bt.1.length : Int) - 1))) he ?_
    have hw : wrap64 ((out.length : Int) - 1) = (out.length : Int) - 1 := by unfold wrap64; omega
    show Ev (fun k => ontimeref25_Order.l0 k out [] (wrap64 ((out.length : Int) - 1))) out.reverse
    rw [hw]
    exact orderRev out (by omega) out.length [] (Nat.le_refl _) (by simp)
  refine Ev.congr (fun k => ?_) hbind
  unfold ontimeref25_Order.f
  rw [if_pos (by omega), if_pos (by simp; omega)]
  simp
end Go.Proofs.Ytlnlamgnilmbjaa.Q

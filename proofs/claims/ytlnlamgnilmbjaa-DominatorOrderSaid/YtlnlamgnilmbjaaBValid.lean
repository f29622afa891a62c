/- cfg.Valid and the law's next, as plain functions. -/
import Derived.Test.YtlnlamgnilmbjaaAMono
import Derived.Test.YtlnlamgnilmbjaaQqontimelaw25next
namespace Go.Proofs.Ytlnlamgnilmbjaa.Q
open Go.RowKit Go.Proofs.YtlnlamgnilmbjaaW.PrintWords Go.Proofs.YtlnlamgnilmbjaaW.PrintLast Go.Proofs.YtlnlamgnilmbjaaW.PrintMore
/-- The predecessors after a block's successors; none: a successor is out of range. -/
def vB (n : Nat) (i : Int) : List Int → List (List Int) → Option (List (List Int))
  | [], p => some p
  | t :: ts, p => if 0 ≤ t ∧ t < n then vB n i ts (p.set t.toNat (rd_L1 p t ++ [i])) else none
def badB (e : Int) (b : S46) : Bool := decide (b.f0 < e) || decide (b.f1 ≤ b.f0) || decide (b.f2.length > 2) || (decide (b.f2.length = 2) && (rd b.f2 0 == rd b.f2 1))
def vA (n : Nat) : Nat → Int → List S46 → List (List Int) → Option (List (List Int))
  | _, _, [], p => some p
  | i, e, b :: bs, p => if badB e b = true then none else (vB n (i : Int) b.f2 p).bind fun p2 => vA n (i + 1) b.f1 bs p2
def validB (bl : List S46) (pv : List (List Int)) : Bool := decide (0 < bl.length) && decide (pv.length = bl.length) && decide (vA bl.length 0 0 bl (List.replicate bl.length []) = some pv)
theorem vB_len {n : Nat} {i : Int} : ∀ {ts : List Int} {p p' : List (List Int)}, vB n i ts p = some p' → p'.length = p.length
  | [], p, p', h => by simp [vB] at h; rw [h]
  | t :: ts, p, p', h => by
    unfold vB at h
    split at h
    · have := vB_len h; simpa using this
    · cases h
/-- The rows of the predecessors stay short. -/
def shortP (m : Nat) (p : List (List Int)) : Prop := ∀ l ∈ p, l.length ≤ m
theorem short_rd {m : Nat} {p : List (List Int)} (h : shortP m p) (t : Int) : (rd_L1 p t).length ≤ m := by
  unfold rd_L1
  rw [List.getD_eq_getElem?_getD]
  cases hq : p[t.toNat]? with
  | none => simp
  | some l => exact h l (List.mem_of_getElem? hq)
theorem short_set {m : Nat} {p : List (List Int)} (h : shortP m p) (t : Int) (i : Int) : shortP (m + 1) (p.set t.toNat (rd_L1 p t ++ [i])) := by
  intro l hl
  rcases List.mem_or_eq_of_mem_set hl with h1 | h1
  · have := h l h1; omega
  · subst h1; have := short_rd h t; simp; omega
theorem vB_short {n : Nat} {i : Int} : ∀ {ts : List Int} {m : Nat} {p p' : List (List Int)}, shortP m p → vB n i ts p = some p' → ts.length ≤ 2 → shortP (m + 2) p' := by
  have h : ∀ (ts : List Int) (m : Nat) (p p' : List (List Int)), shortP m p → vB n i ts p = some p' → shortP (m + ts.length) p' := by
    intro ts
    induction ts with
    | nil => intro m p p' hs h; simp [vB] at h; subst h; exact hs
    | cons t ts ih =>
      intro m p p' hs h
      unfold vB at h
      split at h
      · have := ih (m + 1) _ _ (short_set hs t i) h
        simpa [Nat.add_assoc, Nat.add_comm 1] using this
      · cases h
  intro ts m p p' hs hv hl l hm
  have := h ts m p p' hs hv l hm
  omega
theorem valid_l1 (bl : List S46) (pv : List (List Int)) (e i : Int) (b : Int) (R : Bool) (nx : List Int) (hn : nx.length ≤ 14) (_hbl : bl.length ≤ 14) (ts : List Int) : ∀ (j m : Nat) (p : List (List Int)), nx.drop j = ts → j ≤ nx.length → p.length = bl.length → shortP m p → m + ts.length < 1000 →
    (match vB bl.length i ts p with
     | none => R = false
     | some p' => Ev (fun k => cfg_Valid.l0 k (bl.length : Int) p' e bl (bl.length : Int) (wrap64 (b + 1)) bl pv) R) →
    Ev (fun k => cfg_Valid.l1 k (bl.length : Int) p e i bl (bl.length : Int) b nx (nx.length : Int) (j : Int) bl pv) R := by
  induction ts with
  | nil =>
    intro j m p hd hj hp hs hm h
    have hjl : nx.length ≤ j := by simpa using hd
    refine Ev.step (f := fun k => cfg_Valid.l0 k (bl.length : Int) p e bl (bl.length : Int) (wrap64 (b + 1)) bl pv) (fun k => ?_) h
    simp only [cfg_Valid.l1]
    rw [if_neg (by omega)]
  | cons t ts ih =>
    intro j m p hd hj hp hs hm h
    have hjl : j < nx.length := by
      rcases Nat.lt_or_ge j nx.length with h1 | h1
      · exact h1
      · rw [List.drop_of_length_le h1] at hd; cases hd
    have hdr := drop_rd nx j hjl
    rw [hd] at hdr
    injection hdr with ht hts
    unfold vB at h
    by_cases hb : 0 ≤ t ∧ t < (bl.length : Int)
    · rw [if_pos hb] at h
      refine Ev.step (f := fun k => cfg_Valid.l1 k (bl.length : Int) (p.set t.toNat (rd_L1 p t ++ [i])) e i bl (bl.length : Int) b nx (nx.length : Int) ((j + 1 : Nat) : Int) bl pv) (fun k => ?_) (ih (j + 1) (m + 1) _ hts.symm (by omega) (by simpa using hp) (short_set hs t i) (by simp at hm; omega) h)
      simp only [cfg_Valid.l1]
      have hsr := short_rd hs t
      rw [if_pos (by omega), if_pos (by omega), if_pos (by omega), ← ht, if_neg (by omega), if_neg (by omega), if_pos hb.1, if_pos (by omega), if_pos (by simp at hm; omega), wrap_s (by omega) (by omega)]
      rfl
    · rw [if_neg hb] at h
      subst h
      refine ⟨1, fun k hk => ?_⟩
      obtain ⟨k, rfl⟩ : ∃ m, k = m + 1 := ⟨k - 1, by omega⟩
      simp only [cfg_Valid.l1]
      rw [if_pos (by omega), if_pos (by omega), if_pos (by omega), ← ht]
      by_cases h0 : t < 0
      · rw [if_pos h0]
      · rw [if_neg h0, if_pos (by omega)]
theorem drop_T (xs : List S46) (i : Nat) (h : i < xs.length) : xs.drop i = rd_T46 xs (i : Int) :: xs.drop (i + 1) := by
  rw [List.drop_eq_getElem_cons h]
  simp [rd_T46, List.getD_eq_getElem?_getD, h]
def okP (pv : List (List Int)) : Option (List (List Int)) → Bool
  | none => false
  | some p => decide (p = pv)
theorem valid_l0 (bl : List S46) (pv : List (List Int)) (hbl : bl.length ≤ 14) (bs : List S46) : ∀ (i m : Nat) (e : Int) (p : List (List Int)), bl.drop i = bs → i ≤ bl.length → p.length = bl.length → shortP m p → m + 2 * bs.length < 100 →
    Ev (fun k => cfg_Valid.l0 k (bl.length : Int) p e bl (bl.length : Int) (i : Int) bl pv) (okP pv (vA bl.length i e bs p)) := by
  induction bs with
  | nil =>
    intro i m e p hd hi hp hs hm
    have hil : bl.length ≤ i := by simpa using hd
    refine ⟨1, fun k hk => ?_⟩
    obtain ⟨k, rfl⟩ : ∃ m, k = m + 1 := ⟨k - 1, by omega⟩
    simp only [cfg_Valid.l0]
    rw [if_neg (by omega)]
    rfl
  | cons b bs ih =>
    intro i m e p hd hi hp hs hm
    have hil : i < bl.length := by
      rcases Nat.lt_or_ge i bl.length with h1 | h1
      · exact h1
      · rw [List.drop_of_length_le h1] at hd; cases hd
    have hdr := drop_T bl i hil
    rw [hd] at hdr
    injection hdr with hb hbs
    have hj2 : ∀ (x : Bool), (x = true → badB e b = true) → (x = false → badB e b = false) →
        Ev (fun k => cfg_Valid.j2 k (bl.length : Int) p (i : Int) bl (bl.length : Int) (i : Int) x bl pv b.f0 b.f1 b.f2) (okP pv (vA bl.length i e (b :: bs) p)) := by
      intro x hx1 hx2
      unfold vA
      cases x with
      | true =>
        rw [if_pos (hx1 rfl)]
        refine ⟨1, fun k hk => ?_⟩
        obtain ⟨k, rfl⟩ : ∃ m, k = m + 1 := ⟨k - 1, by omega⟩
        simp only [cfg_Valid.j2]
        rfl
      | false =>
        have hbad := hx2 rfl
        rw [if_neg (by rw [hbad]; decide)]
        have hl2 : b.f2.length ≤ 2 := by
          simp only [badB, Bool.or_eq_false_iff, decide_eq_false_iff_not] at hbad
          omega
        refine Ev.step (f := fun k => cfg_Valid.l1 k (bl.length : Int) p b.f1 (i : Int) bl (bl.length : Int) (i : Int) b.f2 (b.f2.length : Int) ((0 : Nat) : Int) bl pv) (fun k => ?_) ?_
        · simp only [cfg_Valid.j2]
          rw [if_neg (by decide)]
          rfl
        · refine valid_l1 bl pv b.f1 (i : Int) (i : Int) _ b.f2 (by omega) hbl b.f2 0 m p (by simp) (by omega) hp hs (by simp at hm; omega) ?_
          cases hv : vB bl.length (i : Int) b.f2 p with
          | none => rfl
          | some p' =>
            rw [wrap_s (by omega) (by omega)]
            have hs' : shortP (m + 2) p' := vB_short hs hv hl2
            exact ih (i + 1) (m + 2) b.f1 p' hbs.symm (by omega) (by rw [vB_len hv, hp]) hs' (by simp at hm; omega)
    have hstep : ∀ k, cfg_Valid.l0 (k + 1) (bl.length : Int) p e bl (bl.length : Int) (i : Int) bl pv = cfg_Valid.j2 k (bl.length : Int) p (i : Int) bl (bl.length : Int) (i : Int) (badB e b) bl pv b.f0 b.f1 b.f2 := by
      intro k
      simp only [cfg_Valid.l0]
      rw [if_pos (by omega), if_pos (by omega), if_pos (by omega), ← hb]
      unfold badB
      by_cases h1 : b.f0 < e
      · rw [if_pos h1]; simp [h1]
      · rw [if_neg h1]
        by_cases h2 : b.f1 ≤ b.f0
        · rw [if_pos h2]; simp [h2]
        · rw [if_neg h2]
          by_cases h3 : (b.f2.length : Int) > 2
          · rw [if_pos h3]
            have h3' : b.f2.length > 2 := by omega
            simp [h3']
          · rw [if_neg h3]
            have h3' : ¬ b.f2.length > 2 := by omega
            by_cases h4 : (b.f2.length : Int) = 2
            · have h4' : b.f2.length = 2 := by omega
              rw [if_pos h4, if_pos (by omega), if_pos (by omega)]
              simp [h1, h2, h4']
            · have h4' : ¬ b.f2.length = 2 := by omega
              rw [if_neg h4]
              simp [h1, h2, h3', h4']
    exact Ev.step hstep (hj2 _ (fun h => h) (fun h => h))
theorem valid_ev (bl : List S46) (pv : List (List Int)) (hbl : bl.length ≤ 14) : Ev (fun k => cfg_Valid.f k bl pv) (validB bl pv) := by
  unfold validB
  by_cases h0 : bl.length = 0
  · refine ⟨1, fun k hk => ?_⟩
    obtain ⟨k, rfl⟩ : ∃ m, k = m + 1 := ⟨k - 1, by omega⟩
    show cfg_Valid.f (k + 1) bl pv = _
    unfold cfg_Valid.f
    rw [if_pos (by omega)]
    simp [cfg_Valid.j0, h0]
  · have h0' : 0 < bl.length := by omega
    by_cases h1 : pv.length = bl.length
    · refine Ev.step (f := fun k => cfg_Valid.l0 k (bl.length : Int) (List.replicate bl.length []) 0 bl (bl.length : Int) ((0 : Nat) : Int) bl pv) (fun k => ?_) ?_
      · unfold cfg_Valid.f
        rw [if_neg (by omega)]
        have hne : ((pv.length : Int) != (bl.length : Int)) = false := by simp [h1]
        rw [hne]
        simp only [cfg_Valid.j0]
        rw [if_neg (by decide), if_pos (by omega), if_pos (by omega)]
        simp
      · have h := valid_l0 bl pv hbl bl 0 0 0 (List.replicate bl.length []) (by simp) (by omega) (by simp) (by intro l hl; rw [List.eq_of_mem_replicate hl]; simp) (by omega)
        have he : okP pv (vA bl.length 0 0 bl (List.replicate bl.length [])) = (decide (0 < bl.length) && decide (pv.length = bl.length) && decide (vA bl.length 0 0 bl (List.replicate bl.length []) = some pv)) := by
          cases hv : vA bl.length 0 0 bl (List.replicate bl.length []) with
          | none => simp [okP]
          | some p => simp [okP, h0', h1]
        rw [he] at h
        exact h
    · refine ⟨1, fun k hk => ?_⟩
      obtain ⟨k, rfl⟩ : ∃ m, k = m + 1 := ⟨k - 1, by omega⟩
      show cfg_Valid.f (k + 1) bl pv = _
      unfold cfg_Valid.f
      rw [if_neg (by omega)]
      have hne : ((pv.length : Int) != (bl.length : Int)) = true := by simp; omega
      rw [hne]
      simp [cfg_Valid.j0, h1]
theorem runV (bl : List S46) (pv : List (List Int)) (hbl : bl.length ≤ 14) : Run (fun k => cfg_Valid.f k bl pv) = some (validB bl pv) := by
  obtain ⟨k, hk⟩ := (valid_ev bl pv hbl).rounds
  exact Run.of (cfg_Valid.mono _ _) hk
theorem next_l0 (bl : List S46) (pv : List (List Int)) (hbl : bl.length ≤ 14) (d : Nat) : ∀ i : Nat, i + d = bl.length →
    Ev (fun k => ontimelaw25_next.l0 k ((bl.take i).map (·.f2)) (i : Int) bl pv) (bl.map (·.f2), true) := by
  induction d with
  | zero =>
    intro i hi
    refine ⟨1, fun k hk => ?_⟩
    obtain ⟨k, rfl⟩ : ∃ m, k = m + 1 := ⟨k - 1, by omega⟩
    simp only [ontimelaw25_next.l0]
    rw [if_neg (by omega), List.take_of_length_le (by omega)]
  | succ d ih =>
    intro i hi
    refine Ev.step (f := fun k => ontimelaw25_next.l0 k ((bl.take (i + 1)).map (·.f2)) ((i + 1 : Nat) : Int) bl pv) (fun k => ?_) (ih (i + 1) (by omega))
    simp only [ontimelaw25_next.l0]
    rw [if_pos (by omega), if_pos (by omega), if_pos (by simp; omega), wrap_s (by omega) (by omega)]
    have hil : i < bl.length := by omega
    have e : (bl.take (i + 1)).map (·.f2) = (bl.take i).map (·.f2) ++ [(rd_T46 bl (i : Int)).f2] := by
      rw [List.take_succ_eq_append_getElem hil, List.map_append]
      simp [rd_T46, List.getD_eq_getElem?_getD, hil]
    rw [e]
    rfl
/-- What the law's next answers. -/
def nextB (bl : List S46) (pv : List (List Int)) : List (List Int) × Bool := if bl.length ≤ 14 ∧ validB bl pv = true then (bl.map (·.f2), true) else ([], false)
theorem next_ev (bl : List S46) (pv : List (List Int)) : Ev (fun k => ontimelaw25_next.f k bl pv) (nextB bl pv) := by
  unfold nextB
  by_cases h : bl.length ≤ 14
  · have hv := valid_ev bl pv h
    have key : Ev (fun k => (cfg_Valid.f k bl pv).bind fun t => ontimelaw25_next.j0 k (!t) bl pv) (if bl.length ≤ 14 ∧ validB bl pv = true then (bl.map (·.f2), true) else ([], false)) := by
      refine Ev.bind (f := fun k t => ontimelaw25_next.j0 k (!t) bl pv) hv ?_
      cases hb : validB bl pv with
      | true =>
        rw [if_pos ⟨h, rfl⟩]
        refine Ev.step (f := fun k => ontimelaw25_next.l0 k ((bl.take 0).map (·.f2)) ((0 : Nat) : Int) bl pv) (fun k => ?_) (next_l0 bl pv h bl.length 0 (by omega))
        simp only [ontimelaw25_next.j0]
        rw [if_neg (by decide)]
        rfl
      | false =>
        rw [if_neg (fun h => by cases h.2)]
        refine ⟨1, fun k hk => ?_⟩
        obtain ⟨k, rfl⟩ : ∃ m, k = m + 1 := ⟨k - 1, by omega⟩
        rfl
    refine Ev.congr (fun k => ?_) key
    unfold ontimelaw25_next.f
    rw [if_neg (by omega)]
  · rw [if_neg (fun hh => h hh.1)]
    refine ⟨1, fun k hk => ?_⟩
    obtain ⟨k, rfl⟩ : ∃ m, k = m + 1 := ⟨k - 1, by omega⟩
    show ontimelaw25_next.f (k + 1) bl pv = _
    unfold ontimelaw25_next.f
    rw [if_pos (by omega)]
    rfl
end Go.Proofs.Ytlnlamgnilmbjaa.Q

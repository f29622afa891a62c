/- The walk of dominator.Tree: the iteration of Cooper, Harvey and Kennedy. -/
import Derived.Test.YtlnlamgnilmbjaaAOrder
import Derived.Outline
import Derived.RegionTactic
import Derived.BigRegion
import Derived.Laws.EntriesVeiled
namespace Go.Proofs.Ytlnlamgnilmbjaa.Q
open Go.RowKit Go.Proofs.YtlnlamgnilmbjaaW.PrintWords Go.Proofs.YtlnlamgnilmbjaaW.PrintLast Go.Proofs.YtlnlamgnilmbjaaW.PrintMore
set_option linter.unusedVariables false
set_option linter.unusedSimpArgs false

/-- An index in a list of a length. -/
def ix (n : Nat) (i : Int) : Prop := 0 ≤ i ∧ i < (n : Int)
instance (n : Nat) (i : Int) : Decidable (ix n i) := inferInstanceAs (Decidable (_ ∧ _))
/-- The nearest common dominator: the block of the greater rank goes up. -/
def meet (rank idom : List Int) : Nat → Int → Int → Option Int
  | 0, _, _ => none
  | k + 1, a, b =>
    if a = b then some a
    else if ix rank.length a ∧ ix rank.length b ∧ ix idom.length a ∧ ix idom.length b then
      if rd rank a > rd rank b then meet rank idom k (rd idom a) b else meet rank idom k a (rd idom b)
    else none
/-- The memory that the tree's loops work on: the graph's box, the ranks' and the immediate dominators' rows behind their boxes; the order's row is elder than B. -/
structure TS (w0 w : World) (G K4 K5 R1 R2 B : Nat) (A0 : Option Addr) (c0 : Nat) (A1 : Option Addr) (c1 : Nat) (q1 q2 : Nat) (bl : List S46) (pv : List (List Int)) (vo : Value) (ord rank idom : List Int) : Prop where
  bel : Below w0.heap.size w0 w
  hbl : k46.C w0 A0 bl.length bl
  hpv : (Kd.slice 3 (Kd.int .i64)).C w0 A1 pv.length pv
  len1 : rank.length = bl.length
  len2 : idom.length = bl.length
  hG : w.heap[G]? = some (.cells #[.slice A0 bl.length c0, .slice A1 pv.length c1] 25 (0, 0))
  h4 : w.heap[K4]? = some (.cells #[.slice (some ⟨R1, 0, none⟩) rank.length q1] 29 (0, 0))
  h5 : w.heap[K5]? = some (.cells #[.slice (some ⟨R2, 0, none⟩) idom.length q2] 29 (0, 0))
  r1 : (Kd.int .i64).R 3 w w0.heap.size (fun k => k = R1) (.slice (some ⟨R1, 0, none⟩) rank.length q1) rank
  r2 : (Kd.int .i64).R 3 w w0.heap.size (fun k => k = R2) (.slice (some ⟨R2, 0, none⟩) idom.length q2) idom
  low : w0.heap.size ≤ G ∧ w0.heap.size ≤ K4 ∧ w0.heap.size ≤ K5 ∧ w0.heap.size ≤ B ∧ B ≤ R1 ∧ B ≤ R2
  ne : R1 ≠ R2
  ho : (Kd.int .i64).R 3 w w0.heap.size (fun k => k < B) vo ord
section
variable {w0 w : World} {G K4 K5 R1 R2 B : Nat} {A0 : Option Addr} {c0 : Nat} {A1 : Option Addr} {c1 : Nat} {q1 q2 : Nat} {bl : List S46} {pv : List (List Int)} {vo : Value} {ord rank idom : List Int}
theorem row_at {base g n c : Nat} {ok : Nat → Prop} {xs : List Int} (h : (Kd.int .i64).R 3 w base ok (.slice (some ⟨g, 0, none⟩) n c) xs) (hp : 0 < xs.length) : ∃ cells, w.heap[g]? = some (.cells cells 3 (0, 0)) := by
  obtain ⟨g', cap, he, _, _, hc⟩ := Kd.R_form h hp
  injection he with h1
  injection h1 with h1
  injection h1 with h1
  subst h1
  exact hc
theorem TS.drawn (h : TS w0 w G K4 K5 R1 R2 B A0 c0 A1 c1 q1 q2 bl pv vo ord rank idom) (n : Nat) : TS w0 (w.drewN n) G K4 K5 R1 R2 B A0 c0 A1 c1 q1 q2 bl pv vo ord rank idom :=
  ⟨pw_below_drewN h.bel n, h.hbl, h.hpv, h.len1, h.len2, h.hG, h.h4, h.h5, Kd.R_drewN h.r1 n, Kd.R_drewN h.r2 n, h.low, h.ne, Kd.R_drewN h.ho n⟩
/-- A rank is stored. -/
theorem TS.put1 (h : TS w0 w G K4 K5 R1 R2 B A0 c0 A1 c1 q1 q2 bl pv vo ord rank idom) (i : Int) (hi : ix rank.length i) (x : Int) : TS w0 (w.setCell ⟨R1, i.toNat, none⟩ (.int .i64 x)) G K4 K5 R1 R2 B A0 c0 A1 c1 q1 q2 bl pv vo ord (rank.set i.toNat x) idom := by
  obtain ⟨cells, hc⟩ := row_at h.r1 (by have := hi.1; have := hi.2; omega)
  have hput := Kd.R_put (enc := Value.int .i64) h.r1 i x
  refine ⟨h.bel.setCell (by show w0.heap.size ≤ R1; have := h.low; omega) _, h.hbl, h.hpv, by simpa using h.len1, h.len2, blk_far h.hG (p := ⟨R1, i.toNat, none⟩) (blk_ne h.hG hc (by decide)) _, ?_, blk_far h.h5 (p := ⟨R1, i.toNat, none⟩) (blk_ne h.h5 hc (by decide)) _, ?_, Kd.R_far (p := ⟨R1, i.toNat, none⟩) h.r2 (fun k hk => by subst hk; exact fun e => h.ne e.symm) _, h.low, h.ne, Kd.R_far (p := ⟨R1, i.toNat, none⟩) h.ho (fun k hk => by show k ≠ R1; have := h.low; omega) _⟩
  · rw [List.length_set]; exact blk_far h.h4 (p := ⟨R1, i.toNat, none⟩) (blk_ne h.h4 hc (by decide)) _
  · rw [List.length_set]; exact hput.1
/-- An immediate dominator is stored. -/
theorem TS.put2 (h : TS w0 w G K4 K5 R1 R2 B A0 c0 A1 c1 q1 q2 bl pv vo ord rank idom) (i : Int) (hi : ix idom.length i) (x : Int) : TS w0 (w.setCell ⟨R2, i.toNat, none⟩ (.int .i64 x)) G K4 K5 R1 R2 B A0 c0 A1 c1 q1 q2 bl pv vo ord rank (idom.set i.toNat x) := by
  obtain ⟨cells, hc⟩ := row_at h.r2 (by have := hi.1; have := hi.2; omega)
  have hput := Kd.R_put (enc := Value.int .i64) h.r2 i x
  refine ⟨h.bel.setCell (by show w0.heap.size ≤ R2; have := h.low; omega) _, h.hbl, h.hpv, h.len1, by simpa using h.len2, blk_far h.hG (p := ⟨R2, i.toNat, none⟩) (blk_ne h.hG hc (by decide)) _, blk_far h.h4 (p := ⟨R2, i.toNat, none⟩) (blk_ne h.h4 hc (by decide)) _, ?_, Kd.R_far (p := ⟨R2, i.toNat, none⟩) h.r1 (fun k hk => by subst hk; exact h.ne) _, ?_, h.low, h.ne, Kd.R_far (p := ⟨R2, i.toNat, none⟩) h.ho (fun k hk => by show k ≠ R2; have := h.low; omega) _⟩
  · rw [List.length_set]; exact blk_far h.h5 (p := ⟨R2, i.toNat, none⟩) (blk_ne h.h5 hc (by decide)) _
  · rw [List.length_set]; exact hput.1
end
theorem ret_i64 {a b : Int} (h : a = b) : Ending.returned (.int .i64 a) = .returned (.int .i64 b) := by rw [h]
set_option maxHeartbeats 4000000 in
theorem meet_calls (K4 K5 R1 R2 q1 q2 : Nat) (rank idom : List Int) (b1 b2 : Nat) (ok1 ok2 : Nat → Prop) (k : Nat) (a b r : Int) (w : World)
    (h4 : w.heap[K4]? = some (.cells #[.slice (some ⟨R1, 0, none⟩) rank.length q1] 29 (0, 0))) (h5 : w.heap[K5]? = some (.cells #[.slice (some ⟨R2, 0, none⟩) idom.length q2] 29 (0, 0)))
    (r1 : (Kd.int .i64).R 3 w b1 ok1 (.slice (some ⟨R1, 0, none⟩) rank.length q1) rank) (r2 : (Kd.int .i64).R 3 w b2 ok2 (.slice (some ⟨R2, 0, none⟩) idom.length q2) idom) (h : meet rank idom k a b = some r) :
    Calls Try.prog 29 #[.int .i64 a, .int .i64 b, .pointer (some ⟨K4, 0, none⟩), .pointer (some ⟨K5, 0, none⟩)] w fun e w' => e = .returned (.int .i64 r) ∧ Drawn0 w w' := by
  have H4 := Aside0.mk h4
  have H5 := Aside0.mk h5
  have H1 := Aside0.mk r1
  have H2 := Aside0.mk r2
  have HM := Aside0.mk h
  clear h4 h5 r1 r2 h
  go_enter Try.func29, Try.ntmps29
  go_wp2
  go_loopg [0, 1] k (fun kq va vb wr => ∃ (x y : Int), va = .int .i64 x ∧ vb = .int .i64 y ∧ Aside0 (meet rank idom kq x y = some r) ∧ Aside0 (Drawn0 w wr))
  case atStart => exact ⟨a, b, rfl, rfl, HM, ⟨Drawn0.refl _⟩⟩
  case round =>
    obtain ⟨x, y, rfl, rfl, HM', HD⟩ := hrel
    cases gk with
    | zero => exact absurd HM'.out (by simp [meet])
    | succ k2 =>
      have hm := HM'.out
      clear HM' HM
      simp only [meet] at hm
      have hbel := HD.out.below
      have h4 := (blk_read (blk_below H4.out hbel)).1
      have h5 := (blk_read (blk_below H5.out hbel)).1
      by_cases hxy : x = y
      · rw [if_pos hxy] at hm
        obtain rfl : x = r := by simpa using hm
        subst hxy
        clear hm
        go_wp2
        go_ret
        exact ⟨rfl, HD.out⟩
      · have hne : (x != y) = true := by simpa using hxy
        rw [if_neg hxy] at hm
        by_cases hi : ix rank.length x ∧ ix rank.length y ∧ ix idom.length x ∧ ix idom.length y
        · rw [if_pos hi] at hm
          obtain ⟨⟨hx0, hx1⟩, ⟨hy0, hy1⟩, ⟨_, hx2⟩, ⟨_, hy2⟩⟩ := hi
          have e1 := (Kd.R_cell (enc := Value.int .i64) 0 (Kd.R_below H1.out hbel) x hx0 hx1).1
          have e2 := (Kd.R_cell (enc := Value.int .i64) 0 (Kd.R_below H1.out hbel) y hy0 hy1).1
          have e3 := (Kd.R_cell (enc := Value.int .i64) 0 (Kd.R_below H2.out hbel) x hx0 hx2).1
          have e4 := (Kd.R_cell (enc := Value.int .i64) 0 (Kd.R_below H2.out hbel) y hy0 hy2).1
          clear hxy hbel
          by_cases hlt : rd rank x > rd rank y
          · rw [if_pos hlt] at hm
            have HM' := Aside0.mk hm
            clear hm
            have hd : decide (rdOf 0 rank y < rdOf 0 rank x) = true := decide_eq_true hlt
            clear hlt
            go_wp2
            go_quiet (fail)
            go_wp2
            go_roundg k2
            case measure => omega
            case rel => exact ⟨_, y, rfl, rfl, ⟨HM'.out⟩, ⟨HD.out.step _⟩⟩
          · rw [if_neg hlt] at hm
            have HM' := Aside0.mk hm
            clear hm
            have hd : decide (rdOf 0 rank y < rdOf 0 rank x) = false := decide_eq_false hlt
            clear hlt
            go_wp2
            go_quiet (fail)
            go_wp2
            go_roundg k2
            case measure => omega
            case rel => exact ⟨x, _, rfl, rfl, ⟨HM'.out⟩, ⟨HD.out.step _⟩⟩
        · rw [if_neg hi] at hm; cases hm
theorem own_only {base g n c : Nat} {ok : Nat → Prop} {w : World} {xs : List Int} (h : (Kd.int .i64).R 3 w base ok (.slice (some ⟨g, 0, none⟩) n c) xs) : (Kd.int .i64).R 3 w base (fun k => k = g) (.slice (some ⟨g, 0, none⟩) n c) xs :=
  Kd.R_of_own (Kd.own_of_R h) (fun k hk => by simp [Value.ownBlock] at hk; exact hk.symm)
theorem TS.start {w w1 w2 w3 : World} {A0 : Option Addr} {c0 : Nat} {A1 : Option Addr} {c1 q1 q2 R1 R2 : Nat} {bl : List S46} {pv : List (List Int)} {vo : Value} {ord r1 r2 : List Int} (hbl : k46.C w A0 bl.length bl) (hpv : (Kd.slice 3 (Kd.int .i64)).C w A1 pv.length pv)
    (hb : Below w.heap.size w w1) (hG : w1.heap[w.heap.size]? = some (.cells #[.slice A0 bl.length c0, .slice A1 pv.length c1] 25 (0, 0))) (ho : (Kd.int .i64).R 3 w1 w.heap.size (fun _ => True) vo ord)
    (g12 : w1.grownBy w2 none) (b2 : Below w.heap.size w w2) (h1 : (Kd.int .i64).R 3 w2 w.heap.size (fun k => w1.heap.size ≤ k) (.slice (some ⟨R1, 0, none⟩) bl.length q1) r1) (l1 : r1.length = bl.length)
    (g23 : (w2.alloc (.cells #[.slice (some ⟨R1, 0, none⟩) bl.length q1] 29 (0, 0))).grownBy w3 none) (b3 : Below w.heap.size w w3) (h2 : (Kd.int .i64).R 3 w3 w.heap.size (fun k => (w2.alloc (.cells #[.slice (some ⟨R1, 0, none⟩) bl.length q1] 29 (0, 0))).heap.size ≤ k) (.slice (some ⟨R2, 0, none⟩) bl.length q2) r2) (l2 : r2.length = bl.length) :
    TS w (w3.alloc (.cells #[.slice (some ⟨R2, 0, none⟩) bl.length q2] 29 (0, 0))) w.heap.size w2.heap.size w3.heap.size R1 R2 w1.heap.size A0 c0 A1 c1 q1 q2 bl pv vo ord r1 r2 := by
  have s1 := hb.size
  have s2 := g12.size
  have s3 := g23.size
  simp at s3
  have k1 : w1.heap.size ≤ R1 := h1.1 R1 rfl
  have k2 : w2.heap.size + 1 ≤ R2 := by have := h2.1 R2 rfl; simpa using this
  have t1 : R1 < w2.heap.size := Kd.R_lt h1 R1 rfl
  have hG2 := blk_grown hG g12 (by simp)
  refine ⟨b3.alloc (by omega) _, hbl, hpv, l1, l2, blk_alloc (blk_grown (blk_alloc hG2 _) g23 (by simp)) _, ?_, ?_, ?_, ?_, ⟨by omega, by omega, by omega, by omega, by omega, by omega⟩, by omega, ?_⟩
  · rw [l1]; exact blk_alloc (blk_grown (blk_new w2 _) g23 (by simp)) _
  · rw [l2]; exact blk_new w3 _
  · rw [l1]; exact Kd.R_alloc (own_only (Kd.R_grown (Kd.R_alloc h1 _) g23 (by simp))) _
  · rw [l2]; exact Kd.R_alloc (own_only h2) _
  · exact Kd.R_alloc (Kd.R_grown (Kd.R_alloc (Kd.R_grown (Kd.R_mono (Kd.R_bound ho) (fun k hk => hk.2.2.1)) g12 (by simp)) _) g23 (by simp)) _
def initR (n j : Nat) : List Int := List.replicate j (-1) ++ List.replicate (n - j) 0
theorem initR_zero (n : Nat) : initR n 0 = List.replicate n 0 := by simp [initR]
theorem initR_full (n : Nat) : initR n n = List.replicate n (-1) := by simp [initR]
theorem initR_len {n j : Nat} (h : j ≤ n) : (initR n j).length = n := by simp [initR]; omega
theorem initR_set (n j : Nat) (h : j < n) : (initR n j).set j (-1) = initR n (j + 1) := by
  unfold initR
  rw [List.set_append_right _ _ (by simp)]
  simp only [List.length_replicate, Nat.sub_self]
  rw [show n - j = (n - (j + 1)) + 1 by omega, List.replicate_succ, List.set_cons_zero, List.replicate_succ']
  simp
def rankAll : List Int → Nat → List Int → Option (List Int)
  | [], _, r => some r
  | b :: bs, i, r => if ix r.length b then rankAll bs (i + 1) (r.set b.toNat (i : Int)) else none
def bestOf (rank idom : List Int) (K : Nat) : List Int → Int → Option Int
  | [], best => some best
  | p :: ps, best =>
    if ix rank.length p ∧ ix idom.length p then
      if rd rank p < 0 ∨ rd idom p < 0 then bestOf rank idom K ps best
      else if best < 0 then bestOf rank idom K ps p
      else (meet rank idom K best p).bind fun m => bestOf rank idom K ps m
    else none
def pass (rank : List Int) (pv : List (List Int)) (K : Nat) : List Int → List Int → Bool → Option (List Int × Bool)
  | [], idom, ch => some (idom, ch)
  | b :: bs, idom, ch =>
    if ix pv.length b ∧ ix idom.length b then
      (bestOf rank idom K (rd_L1 pv b) (-1)).bind fun best =>
        if best = rd idom b then pass rank pv K bs idom ch else pass rank pv K bs (idom.set b.toNat best) true
    else none
def iter (rank : List Int) (pv : List (List Int)) (ord : List Int) (K : Nat) : Nat → List Int → Option (List Int)
  | 0, _ => none
  | k + 1, idom => (pass rank pv K ord idom false).bind fun p => if p.2 = true then iter rank pv ord K k p.1 else some p.1
def treeK (k : Nat) (bl : List S46) (pv : List (List Int)) (ord : List Int) : Option (List Int) :=
  (rankAll ord 0 (List.replicate bl.length (-1))).bind fun rank =>
    (iter rank pv (ord.drop 1) k k ((List.replicate bl.length (-1)).set 0 0)).map fun idom => idom.set 0 (-1)
noncomputable def dominator_Tree.f (bl : List S46) (pv : List (List Int)) : Option (List Int) :=
  (dominator_Order.f bl pv).bind fun ord =>
    if ord = [] then some [] else if bl.length ≤ 35184372088832 ∧ 0 < bl.length then Run fun k => treeK k bl pv ord else none
set_option maxHeartbeats 4000000 in
set_option maxRecDepth 100000 in
theorem dominator_Tree.calls (A0_0 : Option Addr) (c0_0 : Nat) (l0_0 : List S46) (A0_1 : Option Addr) (c0_1 : Nat) (l0_1 : List (List Int)) (r : List Int) (w : World) (hr0_0 : Kd.C k46 w A0_0 l0_0.length l0_0) (hc0_0 : l0_0.length ≤ c0_0) (hr0_1 : Kd.C (Kd.slice 3 (Kd.int .i64)) w A0_1 l0_1.length l0_1) (hc0_1 : l0_1.length ≤ c0_1) (h : dominator_Tree.f l0_0 l0_1 = some r) :
    Calls Try.prog 14 #[.agg #[.slice A0_0 l0_0.length c0_0, .slice A0_1 l0_1.length c0_1]] w fun e w' => ∃ v0_ : Value, e = .returned v0_ ∧ Kd.R (Kd.int .i64) 3 w' w.heap.size (fun _ => True) v0_ r ∧ Below w.heap.size w w' := by
  have hmf : ∀ (fn : Fn) (first cap : Array Value) (w : World), (Instr.makeFunc fn first cap).run Try.prog w = .ok (.func fn first cap) w := fun _ _ _ _ => rfl
  obtain ⟨ord, hord, hfin⟩ := Option.bind_eq_some_iff.1 h
  have H0 := Aside0.mk hr0_0
  have H1 := Aside0.mk hr0_1
  have C0 := Aside0.mk hc0_0
  have C1 := Aside0.mk hc0_1
  have HO := Aside0.mk hord
  have HF := Aside0.mk hfin
  clear hr0_0 hr0_1 hc0_0 hc0_1 hord hfin h
  have hu25 := Try.underlying25
  by_cases he : ord = []
  · subst he
    obtain rfl : [] = r := by have h := HF.out; simpa using h
    clear HF
    have hol : ((([] : List Int).length : Int) == 0) = true := by simp
    go_enter Try.func14, Try.ntmps14
    go_wp2_with (go_at_call 15; (with_reducible refine (dominator_Order.calls _ _ l0_0 _ _ l0_1 [] _ ?s1 C0.out ?s3 C1.out HO.out).mono ?_); (case s1 => exact Kd.C_alloc H0.out _); (case s3 => exact Kd.C_alloc H1.out _); rintro e w' ⟨v, rfl, hv, hb⟩; obtain ⟨Av, cv, rfl⟩ := Kd.R_slice hv)
    go_ret
    exact ⟨_, rfl, Kd.R_nil _ _ _ _ _, ((Below.refl _ _).alloc (Nat.le_refl _) _).trans (hb.mono (by simp))⟩
  · have hf := HF.out
    rw [if_neg he] at hf
    by_cases hn : l0_0.length ≤ 35184372088832 ∧ 0 < l0_0.length
    · rw [if_pos hn] at hf
      obtain ⟨k, hk⟩ := Run.got hf
      obtain ⟨hn1, hn2⟩ := hn
      obtain ⟨rank, hrank, hk⟩ := Option.bind_eq_some_iff.1 hk
      obtain ⟨idom, hit, hset⟩ := Option.map_eq_some_iff.1 hk
      have HRK := Aside0.mk hrank
      have HIT := Aside0.mk hit
      have HSET := Aside0.mk hset
      clear hk
      have hol : ((ord.length : Int) == 0) = false := by simp [he]
      have hol' : (ord.length == 0) = false := by simp [he]
      have HE := Aside0.mk he
      clear hf hrank hit hset HF he
      go_enter Try.func14, Try.ntmps14
      go_wp2_with (first | (go_at_call 15; (with_reducible refine (dominator_Order.calls _ _ l0_0 _ _ l0_1 ord _ ?s1 C0.out ?s3 C1.out HO.out).mono ?_); (case s1 => exact Kd.C_alloc H0.out _); (case s3 => exact Kd.C_alloc H1.out _); rintro e w1 ⟨v, rfl, hv, hb⟩; obtain ⟨Av, cv, rfl⟩ := Kd.R_slice hv; have HB1 := Aside0.mk ((((Below.refl w.heap.size w).alloc (Nat.le_refl _) (.cells #[.slice A0_0 l0_0.length c0_0, .slice A0_1 l0_1.length c0_1] 25 (0, 0))).trans (hb.mono (by simp)))); have HG1 := Aside0.mk (blk_below (blk_new w (.cells #[.slice A0_0 l0_0.length c0_0, .slice A0_1 l0_1.length c0_1] 25 (0, 0))) hb); have hG0 := (blk_read2 HG1.out).1; have HOR := Aside0.mk (Kd.R_lower hv (by simp : w.heap.size ≤ (w.alloc (.cells #[.slice A0_0 l0_0.length c0_0, .slice A0_1 l0_1.length c0_1] 25 (0, 0))).heap.size)); clear hv hb) | ((with_reducible refine gate_dst (N := 24) rfl ?_); refine Kd.R_make (Kd.int .i64) _ 3 rfl (N := 24) rfl 29 _ _ rfl (l0_0.length : Int) rfl rfl Try.underlying29 (.int .i64 0) 8 info3 rfl (by decide) (by omega) 0 (ok := fun k => w1.heap.size ≤ k) (okp := fun k => w1.heap.size ≤ k) rfl (fun _ hk => hk) (Nat.le_refl _) (by omega) (by omega) HB1.out HB1.out.size ?_; intro v w2 ho hb hg hnew; obtain ⟨R1, q1, hvR, hRb⟩ := Kd.R_form ho (by simp; omega); clear hRb; have ev : v = .slice (some ⟨R1, 0, none⟩) l0_0.length q1 := (by rw [hvR]; simp); subst ev; clear hvR; rw [Int.toNat_natCast] at ho; have HR1 := Aside0.mk ho; have HB2 := Aside0.mk hb; have HG12 := Aside0.mk hg; have hG2 := (blk_read2 (blk_alloc (blk_grown HG1.out hg (by simp)) (.cells #[.slice (some ⟨R1, 0, none⟩) l0_0.length q1] 29 (0, 0)))).1; clear hb ho hg hnew hG0) | ((with_reducible refine gate_dst (N := 28) rfl ?_); refine Kd.R_make (Kd.int .i64) _ 3 rfl (N := 28) rfl 29 _ _ rfl (l0_0.length : Int) rfl rfl Try.underlying29 (.int .i64 0) 8 info3 rfl (by decide) (by omega) 0 (ok := fun k => (w2.alloc (.cells #[.slice (some ⟨R1, 0, none⟩) l0_0.length q1] 29 (0, 0))).heap.size ≤ k) (okp := fun k => (w2.alloc (.cells #[.slice (some ⟨R1, 0, none⟩) l0_0.length q1] 29 (0, 0))).heap.size ≤ k) rfl (fun _ hk => hk) (Nat.le_refl _) (by omega) (by omega) (HB2.out.alloc HB2.out.size _) (by have := HB2.out.size; simp; omega) ?_; intro v w3 ho hb hg hnew; obtain ⟨R2, q2, hvR, hRb⟩ := Kd.R_form ho (by simp; omega); clear hRb; have ev : v = .slice (some ⟨R2, 0, none⟩) l0_0.length q2 := (by rw [hvR]; simp); subst ev; clear hvR; rw [Int.toNat_natCast] at ho; have HTS := Aside0.mk (TS.start H0.out H1.out HB1.out HG1.out HOR.out HG12.out HB2.out HR1.out (by simp) hg hb ho (by simp)); clear hb ho hg hnew))
      clear hG2
      have HP := Aside0.mk (show ∀ j, j < l0_0.length → (initR l0_0.length j).set j (-1) = initR l0_0.length (j + 1) from fun j hj => initR_set _ j hj)
      go_loopw [31] (fun i wr => ∃ j : Nat, i = .int .i64 j ∧ j ≤ l0_0.length ∧ Aside0 (TS w wr w.heap.size w2.heap.size w3.heap.size R1 R2 w1.heap.size A0_0 c0_0 A0_1 c0_1 q1 q2 l0_0 l0_1 (.slice Av ord.length cv) ord (initR l0_0.length j) (initR l0_0.length j))) (fun i _ => l0_0.length - (intOf i).toNat)
      case atStart => exact ⟨0, rfl, Nat.zero_le _, ⟨by rw [initR_zero]; exact HTS.out⟩⟩
      case round =>
        obtain ⟨j, rfl, hj, HT⟩ := hrel
        by_cases hlt : j < l0_0.length
        · have h4 := (blk_read HT.out.h4).1
          have h5 := (blk_read HT.out.h5).1
          rw [initR_len hj] at h4 h5
          have hr1 := HT.out.r1
          have hr2 := HT.out.r2
          rw [initR_len hj] at hr1 hr2
          obtain ⟨e1, f1⟩ := Kd.R_cell (enc := Value.int .i64) 0 HT.out.r1 (j : Int) (by omega) (by rw [initR_len hj]; omega)
          obtain ⟨e2, f2⟩ := Kd.R_cell (enc := Value.int .i64) 0 HT.out.r2 (j : Int) (by omega) (by rw [initR_len hj]; omega)
          clear hr1 hr2
          have hix : ix (initR l0_0.length j).length (j : Int) := ⟨by omega, by rw [initR_len hj]; omega⟩
          have HP1 := Aside0.mk (HT.out.put1 (j : Int) hix (-1))
          have HP2 := Aside0.mk (HT.out.put2 (j : Int) hix (-1))
          obtain ⟨e3, f3⟩ := Kd.R_cell (enc := Value.int .i64) 0 HP1.out.r2 (j : Int) (by omega) (by rw [initR_len hj]; omega)
          obtain ⟨e4, f4⟩ := Kd.R_cell (enc := Value.int .i64) 0 HP2.out.r1 (j : Int) (by omega) (by rw [initR_len hj]; omega)
          have HQ := Aside0.mk (HP1.out.put2 (j : Int) hix (-1))
          have HQ' := Aside0.mk (HP2.out.put1 (j : Int) hix (-1))
          clear hix
          have g1 := (blk_read HP1.out.h5).1
          have g2 := (blk_read HP2.out.h4).1
          rw [initR_len hj] at g1 g2
          rw [Int.toNat_natCast] at e1 f1 e2 f2 e3 f3 e4 f4 g1 g2
          go_wp2
          go_region
          all_goals
            go_wp2
            go_roundw
            case rel =>
              refine ⟨j + 1, by go_num, hlt, ⟨?_⟩⟩
              rw [← HP.out j hlt]
              first
              | (have h := HQ.out.drawn 1; rw [Int.toNat_natCast] at h; exact h)
              | (have h := HQ'.out.drawn 1; rw [Int.toNat_natCast] at h; exact h)
            case measure => simp [intOf]; omega
        · obtain rfl : j = l0_0.length := by omega
          clear HP HTS
          rw [initR_full] at HT
          have h4 := (blk_read HT.out.h4).1
          have h5 := (blk_read HT.out.h5).1
          rw [List.length_replicate] at h4 h5
          obtain ⟨W5, hW5⟩ : ∃ W5 : World, W5 = wr := ⟨_, rfl⟩
          subst hW5
          go_wp2
          go_loopw [43] (fun i wr => ∃ (j : Nat) (rk : List Int), i = .int .i64 j ∧ j ≤ ord.length ∧ Aside0 (rankAll (ord.drop j) j rk = some rank) ∧ Aside0 (TS w wr w.heap.size w2.heap.size w3.heap.size R1 R2 w1.heap.size A0_0 c0_0 A0_1 c0_1 q1 q2 l0_0 l0_1 (.slice Av ord.length cv) ord rk (List.replicate l0_0.length (-1)))) (fun i _ => ord.length - (intOf i).toNat)
          case atStart => exact ⟨0, _, rfl, Nat.zero_le _, ⟨HRK.out⟩, HT⟩
          case round =>
            obtain ⟨j, rk, rfl, hj, HK, HT⟩ := hrel
            clear h4 h5
            have h4 := (blk_read HT.out.h4).1
            have hC := (Kd.R_reads' HT.out.ho).2.2
            by_cases hlt : j < ord.length
            · obtain ⟨ad, eA, hx⟩ := Kd.at_int hC (j : Int) (by omega) (by omega)
              cases eA
              clear hC
              rw [Int.toNat_natCast] at hx
              have hk := HK.out
              rw [drop_rd ord j hlt, rankAll] at hk
              by_cases hb : ix rk.length (rd ord (j : Int))
              · rw [if_pos hb] at hk
                have HK2 := Aside0.mk hk
                have HP := Aside0.mk (HT.out.put1 _ hb (j : Int))
                obtain ⟨hb0, hb1⟩ := hb
                obtain ⟨e1, f1⟩ := Kd.R_cell (enc := Value.int .i64) 0 HT.out.r1 _ hb0 hb1
                have hmx : ord.length ≤ 9223372036854775807 := (Kd.R_reads' HT.out.ho).2.2.2.1
                clear hk
                go_wp2
                go_roundw
                case rel => exact ⟨j + 1, _, by go_num, hlt, HK2, HP⟩
                case measure => simp [intOf]; omega
              · rw [if_neg hb] at hk; cases hk
            · obtain rfl : rk = rank := by have h := HK.out; rw [List.drop_of_length_le (by omega)] at h; simpa [rankAll] using h
              have hR2len : (List.replicate l0_0.length (-1 : Int)).length = l0_0.length := by simp
              have h5 := (blk_read HT.out.h5).1
              rw [hR2len] at h5
              obtain ⟨e1, f1⟩ := Kd.R_cell (enc := Value.int .i64) 0 HT.out.r2 0 (by omega) (by simp; omega)
              rw [Int.toNat_zero] at e1 f1
              have HP := Aside0.mk (HT.out.put2 0 ⟨by omega, by simp; omega⟩ 0)
              rw [Int.toNat_zero] at HP
              clear hR2len hC h4
              obtain ⟨W6, hW6⟩ : ∃ W6 : World, W6 = wr := ⟨_, rfl⟩
              subst hW6
              have hinfo := info3
              obtain ⟨i3, hi3, hz3⟩ := Option.map_eq_some_iff.1 hinfo
              simp only [Prod.mk.injEq] at hz3
              have hol1 : 1 ≤ ord.length := by rcases ord with _ | ⟨o, os⟩ <;> first | exact absurd rfl HE.out | simp
              obtain ⟨A', hA'⟩ : ∃ A' : Option Addr, A' = (if cv = 1 then Av else Av.map (·.add (1 * (Kd.int .i64).sz))) := ⟨_, rfl⟩
              have hcut : ∀ W : World, (Instr.slice 29 (.slice Av ord.length cv) (some (.int .i64 1)) none none).run Try.prog W = .ok (.slice A' (ord.length - 1) (cv - 1)) W := by
                rw [hA']; exact cut_from 29 3 .i64 Try.underlying29 hi3 1 hz3.2.1 Av ord.length cv 1 (by omega) (by omega)
              have HCT := Aside0.mk (show ∀ W : World, (Kd.int .i64).C W Av ord.length ord → (Kd.int .i64).C W A' (ord.length - 1) (ord.drop 1) from fun W hc => by
                have := Kd.C_drop (m := 1) hc hol1 (Kd.R_reads' HT.out.ho).2.1
                rw [List.length_drop] at this
                rw [hA']; exact this)
              clear hA' hi3 hz3 hinfo
              go_wp2
              go_loopg [10] k (fun kq vch wr => ∃ (ch : Bool) (idm : List Int), vch = .bool ch ∧ Aside0 (TS w wr w.heap.size w2.heap.size w3.heap.size R1 R2 w1.heap.size A0_0 c0_0 A0_1 c0_1 q1 q2 l0_0 l0_1 (.slice Av ord.length cv) ord rk idm) ∧ Aside0 (if ch = true then iter rk l0_1 (ord.drop 1) k kq idm = some idom else idm = idom))
              case atStart => exact ⟨true, _, rfl, HP, ⟨by simpa using HIT.out⟩⟩
              case round =>
                obtain ⟨ch, idm, rfl, HT, HI⟩ := hrel
                cases ch with
                | false =>
                  obtain rfl : idm = idom := by simpa using HI.out
                  have hil : idm.length = l0_0.length := HT.out.len2
                  have HIL := Aside0.mk hil
                  clear hil HI
                  have h5 := (blk_read HT.out.h5).1
                  obtain ⟨e1, f1⟩ := Kd.R_cell (enc := Value.int .i64) 0 HT.out.r2 0 (by omega) (by have := HIL.out; omega)
                  rw [Int.toNat_zero] at e1 f1
                  have HP := Aside0.mk (HT.out.put2 0 ⟨by omega, by have := HIL.out; omega⟩ (-1))
                  rw [Int.toNat_zero] at HP
                  have h6 := (blk_read HP.out.h5).1
                  have hpos : 0 < idm.length := by have := HIL.out; omega
                  go_wp2
                  go_ret
                  refine ⟨_, rfl, ?_, HP.out.bel⟩
                  have hs := HSET.out
                  subst hs
                  have hq := HP.out.r2
                  rw [List.length_set] at hq
                  exact Kd.R_mono hq (fun _ _ => trivial)
                | true =>
                  cases gk with
                  | zero => exact absurd HI.out (by simp [iter])
                  | succ kg =>
                    have hi := HI.out
                    rw [if_pos rfl, iter] at hi
                    obtain ⟨⟨idm2, ch2⟩, hpass, hrest⟩ := Option.bind_eq_some_iff.1 hi
                    have HPS := Aside0.mk hpass
                    have HRS := Aside0.mk hrest
                    clear hi hpass hrest HI
                    obtain ⟨Wo, hWo⟩ : ∃ Wo : World, Wo = wr := ⟨_, rfl⟩
                    subst hWo
                    go_wp2
                    go_loopw [60, 10] (fun vi vch wr => ∃ (n : Nat) (ch : Bool) (idn : List Int), vi = .int .i64 n ∧ vch = .bool ch ∧ n ≤ ord.length - 1 ∧ Aside0 (TS w wr w.heap.size w2.heap.size w3.heap.size R1 R2 w1.heap.size A0_0 c0_0 A0_1 c0_1 q1 q2 l0_0 l0_1 (.slice Av ord.length cv) ord rk idn) ∧ Aside0 (pass rk l0_1 k ((ord.drop 1).drop n) idn ch = some (idm2, ch2))) (fun vi _ _ => (ord.length - 1) - (intOf vi).toNat)
                    case atStart => exact ⟨0, false, idm, rfl, rfl, Nat.zero_le _, HT, HPS⟩
                    case round =>
                      obtain ⟨n, ch, idn, rfl, rfl, hn, HT2, HP2⟩ := hrel
                      clear HPS HT HP
                      by_cases hlt2 : n < ord.length - 1
                      · have hC2 := HCT.out _ (Kd.R_reads' HT2.out.ho).2.2
                        have hmx2 : ord.length - 1 ≤ 9223372036854775807 := hC2.2.1
                        obtain ⟨ad2, eA2, hx2⟩ := Kd.at_int hC2 (n : Int) (by omega) (by omega)
                        cases eA2
                        clear hC2
                        rw [Int.toNat_natCast] at hx2
                        have hp := HP2.out
                        rw [drop_rd (ord.drop 1) n (by rw [List.length_drop]; omega), pass] at hp
                        obtain ⟨b, hbE⟩ : ∃ b, b = rd (ord.drop 1) (n : Int) := ⟨_, rfl⟩
                        rw [← hbE] at hp hx2
                        clear hbE
                        by_cases hb : ix l0_1.length b ∧ ix idn.length b
                        · rw [if_pos hb] at hp
                          obtain ⟨best, hbest, hp⟩ := Option.bind_eq_some_iff.1 hp
                          obtain ⟨⟨hb0, hb1⟩, ⟨_, hb2⟩⟩ := hb
                          have HBST := Aside0.mk hbest
                          have HPN := Aside0.mk hp
                          clear hbest hp HP2
                          obtain ⟨adp, Ap, cp, eAp, hxp, hlp, hip⟩ := at_L1 (Kd.C_below H1.out HT2.out.bel) b hb0 hb1
                          obtain ⟨_, Ap', cp', eAp', hxp', hlp', hip'⟩ := at_L1 H1.out b hb0 hb1
                          cases eAp
                          cases eAp'
                          have hgc := (blk_read2 HT2.out.hG).2
                          have hipm : (rd_L1 l0_1 b).length ≤ 9223372036854775807 := hip'.2.1
                          have HCP := Aside0.mk (show Ap' = Ap by
                            have h1 := pw_cell_below HT2.out.bel hxp'
                            rw [hxp] at h1
                            injection h1 with h1
                            injection h1 with h1
                            exact h1.symm)
                          have HIP := Aside0.mk hip'
                          clear hip hip' hlp' hxp'
                          obtain ⟨Wi, hWi⟩ : ∃ Wi : World, Wi = wr := ⟨_, rfl⟩
                          subst hWi
                          go_wp2
                          go_loopw [70, 13] (fun vi vb wr => ∃ (i : Nat) (bs : Int), vi = .int .i64 i ∧ vb = .int .i64 bs ∧ i ≤ (rd_L1 l0_1 b).length ∧ Aside0 (TS w wr w.heap.size w2.heap.size w3.heap.size R1 R2 w1.heap.size A0_0 c0_0 (some adp) c0_1 q1 q2 l0_0 l0_1 (.slice Av ord.length cv) ord rk idn) ∧ Aside0 (bestOf rk idn k ((rd_L1 l0_1 b).drop i) bs = some best)) (fun vi _ _ => (rd_L1 l0_1 b).length - (intOf vi).toNat)
                          case atStart => exact ⟨0, -1, rfl, rfl, Nat.zero_le _, HT2, HBST⟩
                          case round =>
                            obtain ⟨i, bs, rfl, rfl, hi, HT3, HB3⟩ := hrel
                            clear HBST HT2 hgc hxp hx2
                            have hlen1 : rk.length = l0_0.length := HT3.out.len1
                            have hlen2 : idn.length = l0_0.length := HT3.out.len2
                            have HL1 := Aside0.mk hlen1
                            have HL2 := Aside0.mk hlen2
                            clear hlen1 hlen2
                            have h4 := (blk_read HT3.out.h4).1
                            have h5 := (blk_read HT3.out.h5).1
                            by_cases hlt3 : i < (rd_L1 l0_1 b).length
                            · obtain ⟨ad3, eA3, hx3⟩ := Kd.at_int (Kd.C_below HIP.out HT3.out.bel) (i : Int) (by omega) (by omega)
                              have hAp := HCP.out
                              rw [hAp] at eA3
                              cases eA3
                              clear hAp
                              rw [Int.toNat_natCast] at hx3
                              have hb3 := HB3.out
                              rw [drop_rd _ i hlt3, bestOf] at hb3
                              obtain ⟨p, hpE⟩ : ∃ p, p = rd (rd_L1 l0_1 b) (i : Int) := ⟨_, rfl⟩
                              rw [← hpE] at hb3 hx3
                              clear hpE HB3
                              by_cases hpi : ix rk.length p ∧ ix idn.length p
                              · rw [if_pos hpi] at hb3
                                obtain ⟨⟨hp0, hp1⟩, ⟨_, hp2⟩⟩ := hpi
                                obtain ⟨e1, f1⟩ := Kd.R_cell (enc := Value.int .i64) 0 HT3.out.r1 p hp0 hp1
                                obtain ⟨e2, f2⟩ := Kd.R_cell (enc := Value.int .i64) 0 HT3.out.r2 p hp0 hp2
                                clear f1 f2
                                by_cases hneg : rd rk p < 0 ∨ rd idn p < 0
                                · rw [if_pos hneg] at hb3
                                  have HB4 := Aside0.mk hb3
                                  clear hb3
                                  by_cases hn1' : rd rk p < 0
                                  · have hd1 : decide (rdOf 0 rk p < 0) = true := decide_eq_true hn1'
                                    clear hneg hn1'
                                    go_wp2
                                    go_roundw
                                    case rel => exact ⟨i + 1, bs, by go_num, rfl, hlt3, HT3, HB4⟩
                                    case measure => simp [intOf]; omega
                                  · have hd1 : decide (rdOf 0 rk p < 0) = false := decide_eq_false hn1'
                                    have hd2 : decide (rdOf 0 idn p < 0) = true := decide_eq_true (hneg.resolve_left hn1')
                                    clear hneg hn1'
                                    go_wp2
                                    go_roundw
                                    case rel => exact ⟨i + 1, bs, by go_num, rfl, hlt3, HT3, HB4⟩
                                    case measure => simp [intOf]; omega
                                · rw [if_neg hneg] at hb3
                                  have hd1 : decide (rdOf 0 rk p < 0) = false := decide_eq_false (fun h => hneg (.inl h))
                                  have hd2 : decide (rdOf 0 idn p < 0) = false := decide_eq_false (fun h => hneg (.inr h))
                                  clear hneg
                                  by_cases hbs : bs < 0
                                  · rw [if_pos hbs] at hb3
                                    have HB4 := Aside0.mk hb3
                                    clear hb3
                                    have hd3 : decide (bs < 0) = true := decide_eq_true hbs
                                    go_wp2
                                    go_roundw
                                    case rel => exact ⟨i + 1, p, by go_num, rfl, hlt3, HT3, HB4⟩
                                    case measure => simp [intOf]; omega
                                  · rw [if_neg hbs] at hb3
                                    obtain ⟨m, hmeet, hb3⟩ := Option.bind_eq_some_iff.1 hb3
                                    have HB4 := Aside0.mk hb3
                                    have HMT := Aside0.mk hmeet
                                    clear hb3 hmeet
                                    have hd3 : decide (bs < 0) = false := decide_eq_false hbs
                                    go_wp2_with (go_at_call 29; (with_reducible refine (meet_calls _ _ R1 R2 q1 q2 rk idn _ _ _ _ k _ _ m _ HT3.out.h4 HT3.out.h5 HT3.out.r1 HT3.out.r2 HMT.out).mono ?_); rintro e w' ⟨rfl, hdr⟩; obtain ⟨nd, rfl⟩ := hdr)
                                    go_roundw
                                    case rel => exact ⟨i + 1, m, by go_num, rfl, hlt3, ⟨HT3.out.drawn _⟩, HB4⟩
                                    case measure => simp [intOf]; omega
                              · rw [if_neg hpi] at hb3; cases hb3
                            · obtain rfl : bs = best := by have h := HB3.out; rw [List.drop_of_length_le (by omega), bestOf] at h; simpa using h
                              clear HB3
                              obtain ⟨e2, f2⟩ := Kd.R_cell (enc := Value.int .i64) 0 HT3.out.r2 b hb0 hb2
                              have hpn := HPN.out
                              by_cases heq : bs = rd idn b
                              · rw [if_pos heq] at hpn
                                have HPM := Aside0.mk hpn
                                have hq : (bs != rdOf 0 idn b) = false := by simpa [rdOf, rd] using heq
                                clear hpn heq
                                go_wp2
                                go_roundw
                                case rel => exact ⟨n + 1, ch, idn, by go_num, rfl, by omega, HT3, HPM⟩
                                case measure => simp [intOf]; omega
                              · rw [if_neg heq] at hpn
                                have HPM := Aside0.mk hpn
                                have hq : (bs != rdOf 0 idn b) = true := by simpa [rdOf, rd] using heq
                                clear hpn heq
                                have HPT := Aside0.mk (HT3.out.put2 b ⟨hb0, hb2⟩ bs)
                                go_wp2
                                go_roundw
                                case rel => exact ⟨n + 1, true, _, by go_num, rfl, by omega, HPT, HPM⟩
                                case measure => simp [intOf]; omega
                        · rw [if_neg hb] at hp; cases hp
                      · have HQ := Aside0.mk (show idn = idm2 ∧ ch = ch2 by have h := HP2.out; rw [List.drop_of_length_le (by rw [List.length_drop]; omega), pass] at h; simpa using h)
                        go_wp2
                        go_roundg kg
                        case measure => omega
                        case rel =>
                          refine ⟨ch, idn, rfl, HT2, ⟨?_⟩⟩
                          obtain ⟨rfl, rfl⟩ := HQ.out
                          have h := HRS.out
                          cases ch
                          · simpa using h
                          · simpa using h
    · rw [if_neg hn] at hf; cases hf
end Go.Proofs.Ytlnlamgnilmbjaa.Q

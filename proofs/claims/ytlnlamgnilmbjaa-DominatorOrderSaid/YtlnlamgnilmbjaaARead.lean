/- What an argument reads as: from the reading of the data to the kinds of the walks, type by type. -/
import Derived.Test.YtlnlamgnilmbjaaQ0
import Derived.Deep.Slices
import Derived.Deep.Strs
import Derived.Lib.SmallJoins
import Derived.WalkKit
import Derived.ProofKit
namespace Go.Proofs.Ytlnlamgnilmbjaa.Q
open Go.RowKit Go.ChangeShapes Go.WideShapes Go.ChangeAt Go.Deep Go.Joins Go.Proofs.YtlnlamgnilmbjaaW.PrintWords
/-- Whatever reads as data of type t is of kind k, and good. -/
def Rdr {α : Type} (P : Program) (W : World) (t : TypeId) (k : Kd α) (good : α → Prop) : Prop :=
  ∀ (H : Type) (enc : TypeId × Value → H) (fuel : Nat) (cs : List Value) (x : DataW H × List MemPlace), DataW.trod enc P W 0 (fun _ => true) true fuel t cs = some x → ∃ a : α, k.K W a cs ∧ good a
section
variable {P : Program} {W : World} {t : TypeId}
theorem Rdr.int {k : IntKind} (ht : P.underlying t = some (.int k)) : Rdr P W t (Kd.int k) (fun n => (Lit.int k n).wf = true) := by
  intro H enc fuel cs x h
  obtain ⟨n, rfl, _, hw⟩ := DataW.trod_int ht h
  exact ⟨n, rfl, hw⟩
theorem Rdr.string (ht : P.underlying t = some .string) : Rdr P W t Kd.string (fun _ => True) := by
  intro H enc fuel cs x h
  obtain ⟨s, rfl, _, _⟩ := DataW.trod_string ht h
  exact ⟨s, rfl, trivial⟩
theorem Rdr.slice {α : Type} [Inhabited α] {e : TypeId} {k : Kd α} {good : α → Prop} (ht : P.underlying t = some (.slice e)) (he : P.cellsOf e = k.sz) (hr : Rdr P W e k good) : Rdr P W t (Kd.slice e k) (fun l => ∀ a ∈ l, good a) := by
  intro H enc fuel cs x h
  rcases open_slice ht h with ⟨rfl, _⟩ | ⟨a, len, cap, m, n, D, Pl, rfl, _, hl, hm, hmm, _, hx⟩
  · exact ⟨[], ⟨none, 0, rfl, Nat.le_refl _, Kd.C_nil _ _⟩, by simp⟩
  · have hmc : m = cap := by simpa using hmm
    obtain ⟨f, hf⟩ := choose_lt (n := len) (p := fun i (v : α) => good v ∧ ∃ c : List Value, c.length = k.sz ∧ k.K W v c ∧ ∀ j u, c[j]? = some u → W.cell? (a.add (i * k.sz + j)) = some u) (fun i hi => by
      obtain ⟨c, h1, h2⟩ := hx i (by omega)
      obtain ⟨v, hK, hg⟩ := hr H enc n c _ h2
      rw [he] at h1
      obtain ⟨_, hlen, hcell⟩ := World.cells?_some h1
      refine ⟨v, hg, c, hlen, hK, fun j u hu => ?_⟩
      have hj : j < c.length := (List.getElem?_eq_some_iff.1 hu).1
      have := hcell j (by omega)
      rw [hu, Go.Deep.add_add] at this
      exact this)
    refine ⟨(List.range len).map f, ⟨some a, cap, by simp, by simpa using hl, rfl, (by rw [List.length_map, List.length_range]; unfold maxLen at hm; omega), fun hp => ⟨a, rfl, fun j p hj => ?_⟩⟩, ?_⟩
    · have hjl : j < len := by have := (List.getElem?_eq_some_iff.1 hj).1; simpa using this
      have hp' : p = f j := by
        rw [List.getElem?_map, List.getElem?_range hjl] at hj
        simpa using hj.symm
      subst hp'
      obtain ⟨_, c, h1, h2, h3⟩ := hf j hjl
      exact ⟨c, h1, h2, h3⟩
    · intro v hv
      obtain ⟨i, hi, rfl⟩ := List.mem_map.1 hv
      exact (hf i (List.mem_range.1 hi)).1
theorem Rdr.struct2 {α β γ : Type} {f0 f1 : Field} {k0 : Kd α} {k1 : Kd β} {g0 : α → Prop} {g1 : β → Prop} (mk : α → β → γ) (un : γ → α × β) (hun : ∀ a b, un (mk a b) = (a, b)) (ht : P.underlying t = some (.struct #[f0, f1])) (hc : P.cellsOf t = k0.sz + k1.sz) (h0 : f0.offset = 0) (h1 : f1.offset = k0.sz) (e0 : P.cellsOf f0.type = k0.sz) (e1 : P.cellsOf f1.type = k1.sz) (r0 : Rdr P W f0.type k0 g0) (r1 : Rdr P W f1.type k1 g1) :
    Rdr P W t (Kd.iso (Kd.pair k0 k1) un) (fun x => g0 (un x).1 ∧ g1 (un x).2) := by
  intro H enc fuel cs x h
  obtain ⟨y0, y1, n, _, hl, ha, hb⟩ := trod_struct2 ht h
  obtain ⟨a, ka, ga⟩ := r0 H enc n _ _ ha
  obtain ⟨b, kb, gb⟩ := r1 H enc n _ _ hb
  refine ⟨mk a b, ?_, by show g0 (un (mk a b)).1 ∧ g1 (un (mk a b)).2; rw [hun]; exact ⟨ga, gb⟩⟩
  show (Kd.pair k0 k1).K W (un (mk a b)) cs
  rw [hun]
  refine ⟨_, _, ?_, ka, kb⟩
  rw [h0, h1, e0, e1, List.drop_zero]
  have : (cs.drop k0.sz).take k1.sz = cs.drop k0.sz := List.take_of_length_le (by rw [List.length_drop]; omega)
  rw [this, List.take_append_drop]
theorem Rdr.struct3 {α β γ δ : Type} {f0 f1 f2 : Field} {k0 : Kd α} {k1 : Kd β} {k2 : Kd γ} {g0 : α → Prop} {g1 : β → Prop} {g2 : γ → Prop} (mk : α → β → γ → δ) (un : δ → α × β × γ) (hun : ∀ a b c, un (mk a b c) = (a, b, c)) (ht : P.underlying t = some (.struct #[f0, f1, f2])) (hc : P.cellsOf t = k0.sz + (k1.sz + k2.sz)) (h0 : f0.offset = 0) (h1 : f1.offset = k0.sz) (h2 : f2.offset = k0.sz + k1.sz) (e0 : P.cellsOf f0.type = k0.sz) (e1 : P.cellsOf f1.type = k1.sz) (e2 : P.cellsOf f2.type = k2.sz) (r0 : Rdr P W f0.type k0 g0) (r1 : Rdr P W f1.type k1 g1) (r2 : Rdr P W f2.type k2 g2) :
    Rdr P W t (Kd.iso (Kd.pair k0 (Kd.pair k1 k2)) un) (fun x => g0 (un x).1 ∧ g1 (un x).2.1 ∧ g2 (un x).2.2) := by
  intro H enc fuel cs x h
  obtain ⟨y0, y1, y2, n, _, hl, ha, hb, hcc⟩ := trod_struct3 ht h
  obtain ⟨a, ka, ga⟩ := r0 H enc n _ _ ha
  obtain ⟨b, kb, gb⟩ := r1 H enc n _ _ hb
  obtain ⟨c, kc, gc⟩ := r2 H enc n _ _ hcc
  refine ⟨mk a b c, ?_, by show g0 (un (mk a b c)).1 ∧ g1 (un (mk a b c)).2.1 ∧ g2 (un (mk a b c)).2.2; rw [hun]; exact ⟨ga, gb, gc⟩⟩
  show (Kd.pair k0 (Kd.pair k1 k2)).K W (un (mk a b c)) cs
  rw [hun]
  refine ⟨_, _, ?_, ka, _, _, rfl, kb, kc⟩
  rw [h0, h1, h2, e0, e1, e2, List.drop_zero, ← List.drop_drop]
  have : ((cs.drop k0.sz).drop k1.sz).take k2.sz = (cs.drop k0.sz).drop k1.sz := List.take_of_length_le (by rw [List.length_drop, List.length_drop]; omega)
  rw [this, List.take_append_drop, List.take_append_drop]
end
instance : Inhabited S46 := ⟨z46⟩
def goodI (n : Int) : Prop := (Lit.int .i64 n).wf = true
def goodB (b : S46) : Prop := goodI b.f0 ∧ goodI b.f1 ∧ ∀ x ∈ b.f2, goodI x
def goodG (g : S25) : Prop := (∀ b ∈ g.f0, goodB b) ∧ ∀ l ∈ g.f1, ∀ x ∈ l, goodI x
theorem rdInts (W : World) : Rdr Try.prog W 29 (Kd.slice 3 (Kd.int .i64)) (fun l => ∀ x ∈ l, goodI x) := Rdr.slice Try.underlying29 (by kernel_rfl) (Rdr.int Try.underlying3)
theorem rdBlock (W : World) : Rdr Try.prog W 46 k46 goodB := Rdr.struct3 S46.mk (fun x : S46 => (x.f0, x.f1, x.f2)) (fun _ _ _ => rfl) Try.underlying46 (by kernel_rfl) rfl rfl rfl (by kernel_rfl) (by kernel_rfl) (by kernel_rfl) (Rdr.int Try.underlying3) (Rdr.int Try.underlying3) (rdInts W)
theorem rdGraph (W : World) : Rdr Try.prog W 25 k25 goodG := Rdr.struct2 S25.mk (fun x : S25 => (x.f0, x.f1)) (fun _ _ => rfl) Try.underlying25 (by kernel_rfl) rfl rfl (by kernel_rfl) (by kernel_rfl) (Rdr.slice Try.underlying22 (by kernel_rfl) (rdBlock W)) (Rdr.slice Try.underlying23 (by kernel_rfl) (rdInts W))
end Go.Proofs.Ytlnlamgnilmbjaa.Q

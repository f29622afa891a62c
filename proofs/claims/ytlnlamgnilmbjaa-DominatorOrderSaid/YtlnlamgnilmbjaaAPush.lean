/- One element of a row of rows is appended to and stored back. -/
import Derived.Test.YtlnlamgnilmbjaaARun
namespace Go.Proofs.Ytlnlamgnilmbjaa.Q
open Go.RowKit Go.Proofs.YtlnlamgnilmbjaaW.PrintWords Go.Proofs.YtlnlamgnilmbjaaW.PrintLast Go.Proofs.YtlnlamgnilmbjaaW.PrintMore
theorem S_push {W : World} {base g n cap : Nat} {ok : Nat → Prop} {xs : List (List Int)} (h : Kd.S (Kd.slice 3 (Kd.int .i64)) 29 W base ok (.slice (some ⟨g, 0, none⟩) n cap) xs) (i : Nat) (hi : i < n) :
    ∃ (A : Option Addr) (c : Nat) (oki : Nat → Prop), W.cell? ⟨g, i, none⟩ = some (.slice A (xs.getD i []).length c) ∧ W.frozen? ⟨g, i, none⟩ = false ∧ (∀ k, oki k → ok k ∧ k ≠ g) ∧
      (Kd.int .i64).R 3 W base oki (.slice A (xs.getD i []).length c) (xs.getD i []) ∧
      ∀ (v1 : Value) (w1 : World) (ys : List Int), W.grownBy w1 (Value.slice A (xs.getD i []).length c).ownBlock → (Kd.int .i64).R 3 w1 base (fun k => oki k ∨ ok k ∧ W.heap.size ≤ k) v1 ys →
        w1.cell? ⟨g, i, none⟩ = some (.slice A (xs.getD i []).length c) ∧ w1.frozen? ⟨g, i, none⟩ = false ∧
        Kd.S (Kd.slice 3 (Kd.int .i64)) 29 (w1.setCell ⟨g, i, none⟩ v1) base ok (.slice (some ⟨g, 0, none⟩) n cap) (xs.set i ys) ∧ w1.grownBy (w1.setCell ⟨g, i, none⟩ v1) (some g) ∧ (∃ cells, w1.heap[g]? = some (.cells cells 29 (0, 0))) := by
  obtain ⟨oki, cs, hcl, hM, hcc, hfr, hoki, hH⟩ := Kd.S_elem h [] (i : Int) (by omega) (by omega)
  obtain ⟨v, rfl, hR⟩ := hM
  obtain ⟨A, c, hv⟩ := Kd.R_slice hR
  rw [Int.toNat_natCast] at hv hR
  subst hv
  have hc0 := hcc 0 _ rfl
  have hf0 := hfr 0
  simp only [show (Kd.slice 3 (Kd.int .i64)).sz = 1 from rfl, Nat.mul_one, Nat.add_zero, Int.toNat_natCast] at hc0 hf0
  refine ⟨A, c, oki, hc0, hf0, hoki, hR, ?_⟩
  intro v1 w1 ys hg hR1
  have hH1 := Kd.H_grown (Kd.H_widen hH) hg (fun k e => .inl (hR.1 k e))
  obtain ⟨_, _, hraw, _, _, hcc1, _⟩ := Kd.H_raw hH1 (by omega) (by omega)
  obtain ⟨_, hfr1⟩ := Kd.H_at hH1 (by omega) (by omega)
  have hc1 := hcc1 0 _ rfl
  have hf1 := hfr1 0
  obtain ⟨Av, cv, rfl⟩ := Kd.R_slice hR1
  have hP := Kd.S_seg0 hH1 (by omega) (by omega) (seg := [.slice Av ys.length cv]) (j := 0) (show 1 ≤ 1 from by decide) (x' := ys) (Kd.M_row hR1) (fun _ hk => hk)
  simp only [show (Kd.slice 3 (Kd.int .i64)).sz = 1 from rfl, Nat.mul_one, Nat.add_zero, Int.toNat_natCast] at hc1 hf1 hP
  have hraw' := Kd.R_typed hraw g rfl
  exact ⟨hc1, hf1, hP.1, hP.2, hraw'⟩
section
variable {P : Program} {ops : Array Oper} {o : Oper} {a : Act} {Q : Exit → Act → World → Prop} {Kc : Act → World → Prop} {α : Type}
theorem append_step_drew (d : Kd α) {w0 W : World} (base : Nat) (hw : Region.wanted o (yielded ops a.tmps) = true) (s x : Operand) (t e : TypeId) (z : Value) (bytes : Nat)
    (ho : o.op = .call { callee := .builtin .append, args := #[s, x], argTypes := #[t, t] })
    (ht : P.underlying t = some (.slice e)) (hinfo : (P.info? e).map (fun i => (i.zero, i.size, i.bytes)) = some (some z, d.sz, bytes)) (hz : z.cells.size = d.sz) (hs0 : 0 < d.sz) (hb0 : 0 < bytes)
    (v : Value) (xs : List α) (p : α) (cs : List Value) (ok okp : Nat → Prop) (hs : a.eval s = v) (hx : a.eval x = .slice (some ⟨W.heap.size, 0, none⟩) 1 1) (hp : ∀ W : World, d.M W base okp p cs) (hokp : ∀ k, okp k → ok k ∧ some k ≠ v.ownBlock) (hfresh : ∀ k, W.heap.size ≤ k → ok k)
    (HO : d.R e W base ok v xs) (HB : Below base w0 W) (hbase : base ≤ W.heap.size) (hl : (xs.length + 1) * bytes ≤ 140737488355328)
    (h : ∀ v1 w1, d.R e w1 base ok v1 (xs ++ [p]) → Below base w0 w1 → W.grownBy w1 v.ownBlock → (v1.ownBlock = v.ownBlock ∨ ∃ b, v1.ownBlock = some b ∧ W.heap.size ≤ b) → Kc (a.put o.dst v1) w1) :
    if Region.wanted o (yielded ops a.tmps) = true then Oper.wp P o a ((W.alloc (.cells cs.toArray e)).drew) Kc Q else Kc (a.put o.dst undef) ((W.alloc (.cells cs.toArray e)).drew) :=
  Kd.R_append_step d (W := W.drew) base hw s x t e z bytes ho ht hinfo hz hs0 hb0 v xs p cs ok okp hs hx (hp _) hokp hfresh (Kd.R_drew HO) (below_drew1 HB) hbase hl
    (fun v1 w1 h1 h2 h3 h4 => h v1 w1 h1 h2 ⟨h3.os, h3.tape, h3.output, h3.size, h3.block⟩ h4)
end
end Go.Proofs.Ytlnlamgnilmbjaa.Q

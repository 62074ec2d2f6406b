/-
  Walks of the statements of layer 17: the trial that each of them makes first; BlossomSolves.
-/
import Derived.Test.YtmaeboaopebaiaaPkU
import Derived.Test.YtmaeboaopebaiaaPkM
import Derived.Test.YtmaeboaopebaiaaPkT
import Derived.Test.YtmaeboaopebaiaaGL17
set_option linter.unusedSimpArgs false
set_option linter.unusedVariables false
namespace Go.Mz

theorem mm_of {M n : Nat} {fr to : Nat → Nat} {b : Nat → Int} (h : ∀ v, v < M → b v = -1 ∨ (0 ≤ b v ∧ (b v).toNat < n ∧ fr (b v).toNat ≠ to (b v).toNat ∧ (v = fr (b v).toNat ∨ v = to (b v).toNat) ∧ ot fr to (b v).toNat v ≠ M ∧ b (ot fr to (b v).toNat v) = b v)) : MM M n fr to M b := fun v hv _ => by
  rcases h v hv with e | ⟨h0, h1, h2, h3, h4, h5⟩
  · exact .inl e
  · exact .inr ⟨(b v).toNat, by omega, ⟨h1, h2, h3⟩, h4, by rw [h5]; omega⟩

/-- a circle of five, and a sixth node -/
def fi17 : Nat → Edg
  | 0 => (0, 1, 0, 0)
  | 1 => (1, 2, 0, 0)
  | 2 => (2, 3, 0, 0)
  | 3 => (3, 4, 0, 0)
  | 4 => (4, 0, 0, 0)
  | _ => (0, 5, 0, 0)

/-- a star -/
def st17 : Nat → Edg
  | 0 => (0, 1, 0, 0)
  | 1 => (0, 2, 0, 0)
  | _ => (3, 0, 0, 0)

theorem fi17_right : Right ((6 : Nat) : Int) 6 fi17 := by
  refine ⟨by decide, by decide, by decide, fun i hi => ?_⟩
  have : i = 0 ∨ i = 1 ∨ i = 2 ∨ i = 3 ∨ i = 4 ∨ i = 5 := by omega
  rcases this with rfl | rfl | rfl | rfl | rfl | rfl <;> constructor <;> decide

theorem st17_right : Right ((4 : Nat) : Int) 3 st17 := by
  refine ⟨by decide, by decide, by decide, fun i hi => ?_⟩
  have : i = 0 ∨ i = 1 ∨ i = 2 := by omega
  rcases this with rfl | rfl | rfl <;> constructor <;> decide

def fiB : Nat → Int
  | 0 => 5
  | 5 => 5
  | 1 => 1
  | 2 => 1
  | 3 => 3
  | 4 => 3
  | _ => -1

theorem fi17_most {g cv : Nat → Int} {k q : Nat} (h : BlA 6 6 fi17 g k cv q) : k = 3 ∧ g 2 = 5 := by
  have h1 := h.mx fiB (mm_of (by decide))
  have e1 : cnt (fun u => decide (fiB u = -1)) 6 = 0 := by decide
  obtain ⟨b', _, h2⟩ := h.ex
  have hk : k = 3 := by omega
  subst hk
  refine ⟨rfl, ?_⟩
  have hris := h.lrg.tk.ris
  have r0 := hris 0 (by omega)
  have r1 := hris 1 (by omega)
  have r2 := hris 2 (by omega)
  have r01 : g 0 < g 1 := r1.2.2 (by decide)
  have r12 : g 1 < g 2 := r2.2.2 (by decide)
  -- all six nodes are matched, so the last one is
  have h5 := all_one fi17_right h.lrg.tk (by decide) 5 (by decide)
  refine Classical.byContradiction fun hne => ?_
  have hlt : ∀ i, i < 3 → g i ≤ 4 := fun i hi => by
    have : i = 0 ∨ i = 1 ∨ i = 2 := by omega
    rcases this with rfl | rfl | rfl <;> omega
  have h6 : dg fi17 g 3 ((5 : Nat) : Int) = 0 := dg_none fun i hi => by
    have h7 := (hris i hi).1
    have h8 := hlt i hi
    have : (g i).toNat = 0 ∨ (g i).toNat = 1 ∨ (g i).toNat = 2 ∨ (g i).toNat = 3 ∨ (g i).toNat = 4 := by omega
    rcases this with e' | e' | e' | e' | e' <;> rw [e'] <;> decide
  omega

def stB (w : Nat) (x : Int) : Nat → Int := fun v => if v = 0 ∨ v = w then x else -1

theorem st17_most {g cv : Nat → Int} {k q : Nat} (h : BlA 4 3 st17 g k cv q) : k = 1 ∧ q = 1 ∧ cv 0 = 0 := by
  have h1 := h.mx (stB 1 0) (mm_of (by decide))
  have e1 : cnt (fun u => decide (stB 1 0 u = -1)) 4 = 2 := by decide
  have hk1 : 1 ≤ k := by omega
  have hris := h.lrg.tk.ris
  have all0 : ∀ i, i < 3 → (st17 i).fr = 0 ∨ (st17 i).to = 0 := fun i hi => by
    have : i = 0 ∨ i = 1 ∨ i = 2 := by omega
    rcases this with rfl | rfl | rfl <;> decide
  have hk : k = 1 := by
    refine Classical.byContradiction fun hne => ?_
    have r0 := hris 0 (by omega)
    have r1 := hris 1 (by omega)
    have h2 : dg st17 g 2 0 ≤ dg st17 g k 0 := dg_mono (by omega)
    have h3 := h.lrg.tk.mst 0 (by decide) (by decide)
    have a0 := all0 (g 0).toNat (by omega)
    have a1 := all0 (g 1).toNat (by omega)
    have h4 : 2 ≤ dg st17 g 2 0 := by
      show 2 ≤ 0 + (if _ then 1 else 0) + (if _ then 1 else 0) + (if _ then 1 else 0) + (if _ then 1 else 0)
      rcases a0 with a0 | a0 <;> rcases a1 with a1 | a1 <;> rw [if_pos a0, if_pos a1] <;> omega
    omega
  subst hk
  have hend : ∀ i v, En 3 (ef st17) (et st17) i v → v = 0 ∨ ot (ef st17) (et st17) i v = 0 := fun i v hi => by
    have hin := hi.1
    have hv := hi.2.2
    have : i = 0 ∨ i = 1 ∨ i = 2 := by omega
    rcases this with rfl | rfl | rfl
    · have e1 : ef st17 0 = 0 := rfl
      have e2 : et st17 0 = 1 := rfl
      unfold ot; omega
    · have e1 : ef st17 1 = 0 := rfl
      have e2 : et st17 1 = 2 := rfl
      unfold ot; omega
    · have e1 : ef st17 2 = 3 := rfl
      have e2 : et st17 2 = 0 := rfl
      unfold ot; omega
  have n0 : ¬ Dv 4 3 (ef st17) (et st17) 1 0 := fun ⟨b', hb', hb0, hc⟩ => by
    have : ∀ v, v < 4 → decide (b' v = -1) = true := fun v hv => by
      refine decide_eq_true ?_
      rcases hb' v hv (by omega) with e' | ⟨i, e', hi, _, e2⟩
      · exact e'
      · rcases hend i v hi with hh | hh
        · rw [hh]; exact hb0
        · rw [hh] at e2; omega
    rw [cnt_all this] at hc
    omega
  have d1 : Dv 4 3 (ef st17) (et st17) 1 1 := ⟨stB 2 1, mm_of (by decide), by decide, by decide⟩
  have d2 : Dv 4 3 (ef st17) (et st17) 1 2 := ⟨stB 1 0, mm_of (by decide), by decide, by decide⟩
  have d3 : Dv 4 3 (ef st17) (et st17) 1 3 := ⟨stB 1 0, mm_of (by decide), by decide, by decide⟩
  have in0 : In cv q ((0 : Nat) : Int) := (h.set 0).2 ⟨by decide, n0, 0, ⟨by decide, by decide, .inl rfl⟩, d1⟩
  have only : ∀ j, j < q → cv j = 0 := fun j hj => by
    have hr := h.lrg.ris j hj
    obtain ⟨x, hx⟩ : ∃ x : Nat, cv j = x := ⟨(cv j).toNat, by omega⟩
    obtain ⟨hx4, hnd, _⟩ := (h.set x).1 ⟨j, hj, hx⟩
    have : x = 0 := by
      refine Classical.byContradiction fun hne => hnd ?_
      have : x = 1 ∨ x = 2 ∨ x = 3 := by omega
      rcases this with rfl | rfl | rfl
      · exact d1
      · exact d2
      · exact d3
    omega
  obtain ⟨i, hi, _⟩ := in0
  refine ⟨rfl, ?_, only 0 (by omega)⟩
  refine Classical.byContradiction fun hne => ?_
  have := (h.lrg.ris 1 (by omega)).2.2 (by decide)
  have a0 := only 0 (by omega)
  have a1 := only 1 (by omega)
  simp only [Nat.sub_self] at this
  omega

section
variable {E : Value → Hp → Prop}

theorem lfive17 {H : Hp} {K : Int → Option Addr → Nat → Nat → Hp → Prop} (kk : ∀ H' p, Step (fun _ => False) H H' → Rdr H' p 6 fi17 → K ((6 : Nat) : Int) p 6 6 H') : compasslaw17_five.call E H K := by
  refine compasslaw17_five.of (compasslaw17_five.run_eq ?_)
  unfold compasslaw17_five.run_t
  refine nwk fun b1 H1 hb1 e1 s1 => ?_
  refine nwk fun b2 H2 hb2 e2 s2 => ?_
  have e12 := s2.keep _ _ e1 fun h => h
  have d12 : b1 ≠ b2 := fun h => by rw [h] at e1; rw [e1] at hb2; cases hb2
  refine stk e12 rfl rfl fun H3 e3 s3 => ?_
  have e23 := s3.keep _ _ e2 fun h => d12 h.symm
  simp only [get_at e3, List.getElem?_cons_zero, List.getElem?_cons_succ, ldI_mk, ldS_mk]
  refine kk H3 _ ((s1.and s2).own s3 fun y hy => hy ▸ hb1) fun i hi => ⟨b2, 0, rfl, fun j hj => ?_⟩
  have hi' : i = 0 ∨ i = 1 ∨ i = 2 ∨ i = 3 ∨ i = 4 ∨ i = 5 := by omega
  have hj' : j = 0 ∨ j = 1 ∨ j = 2 ∨ j = 3 := by have : El.w Edg = 4 := rfl; omega
  rw [get_at e23]
  rcases hi' with rfl | rfl | rfl | rfl | rfl | rfl <;> rcases hj' with rfl | rfl | rfl | rfl <;> rfl

theorem lawake17 {H : Hp} {K : Bool → Hp → Prop} (kk : ∀ H', Step (fun _ => False) H H' → K true H') : compasslaw17_awake.call E H K := by
  refine compasslaw17_awake.of (compasslaw17_awake.run_eq ?_)
  unfold compasslaw17_awake.run_t
  refine lfive17 fun H1 p s1 he => ?_
  refine blsolve (M := 6) he fi17_right fun H2 mp mn mc g cp cn cc cv s2 r1 r2 f1 f2 f12 hA => ?_
  obtain ⟨rfl, g2⟩ := fi17_most hA
  refine nwk fun b1 H3 hb1 e1 s3 => ?_
  have he3 : Rdr H3 (some ⟨b1, 0, none⟩) 3 st17 := fun i hi => ⟨b1, 0, rfl, fun j hj => by
    have hi' : i = 0 ∨ i = 1 ∨ i = 2 := by omega
    have hj' : j = 0 ∨ j = 1 ∨ j = 2 ∨ j = 3 := by have : El.w Edg = 4 := rfl; omega
    rw [get_at e1]
    rcases hi' with rfl | rfl | rfl <;> rcases hj' with rfl | rfl | rfl | rfl <;> rfl⟩
  refine blsolve (M := 4) he3 st17_right fun H4 mp' mn' mc' g' cp' cn' cc' cv' s4 r1' r2' f1' f2' f12' hA' => ?_
  obtain ⟨rfl, rfl, c0⟩ := st17_most hA'
  have r14 := r1.keep (s3.and s4) fun _ _ h => h
  refine bct rfl ?_
  refine bct rfl ?_
  refine r14.ixI (by decide) (by decide) ?_
  refine bct g2 ?_
  refine bct rfl ?_
  refine bct rfl ?_
  refine bct rfl ?_
  refine r2'.ixI (by decide) (by decide) ?_
  have e0 : cv' (0 : Int).toNat = 0 := c0
  rw [e0]
  exact kk H4 (((s1.and s2).and s3).and s4)
end
end Go.Mz

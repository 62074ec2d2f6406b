/-
  The laws of layer 19: what they share: the star, the package's own trial, lists of numbers.
-/
import Derived.Test.YtbocpfdlfnodfaaPkQ
import Derived.Test.YtbocpfdlfnodfaaVouS4
import Derived.Test.YtbocpfdlfnodfaaPkM
import Derived.Test.YtbocpfdlfnodfaaGL19
set_option linter.unusedSimpArgs false
set_option linter.unusedVariables false
namespace Go.Mz

def st19 : Nat → Edg
  | 0 => (0, 1, 0, 0)
  | 1 => (2, 0, 0, 0)
  | _ => (0, 3, 0, 0)

def sb19 : Nat → Int
  | 0 => 2
  | _ => 1

theorem st19_right : Right ((4 : Nat) : Int) 3 st19 := by
  refine ⟨by decide, by decide, by decide, fun i hi => ?_⟩
  have : i = 0 ∨ i = 1 ∨ i = 2 := by omega
  rcases this with rfl | rfl | rfl <;> constructor <;> decide

theorem sb19_bnd : Bnd ((4 : Nat) : Int) sb19 4 := by
  refine ⟨rfl, fun v hv => ?_⟩
  have : v = 0 ∨ v = 1 ∨ v = 2 ∨ v = 3 := by omega
  rcases this with rfl | rfl | rfl | rfl <;> decide

theorem st19_gsz : Gsz st19 (cps st19 3 sb19) 4 3 := by
  constructor <;> decide

theorem st19_tkn : Tkn ((4 : Nat) : Int) 3 st19 (fun i => (i : Int)) 2 fun v => sb19 v.toNat := by
  refine ⟨fun i hi => ?_, fun i hi => ?_, fun v h0 h1 _ => ?_⟩
  · show (0 : Int) ≤ i ∧ (i : Int) < _ ∧ (0 < i → ((i - 1 : Nat) : Int) < (i : Int))
    omega
  · have : i = 0 ∨ i = 1 := by omega
    rcases this with rfl | rfl <;> decide
  · have : v = 0 ∨ v = 1 ∨ v = 2 ∨ v = 3 := by omega
    rcases this with rfl | rfl | rfl | rfl <;> decide

theorem st19_most {g cv : Nat → Int} {k q : Nat} (h : MnyP ((4 : Nat) : Int) 3 st19 sb19 g k cv q) : k = 2 := by
  have h1 : 2 ≤ k := many_bound st19_right sb19_bnd st19_gsz h st19_tkn
  refine Classical.byContradiction fun hne => ?_
  have all0 : ∀ i, i < 3 → (st19 i).fr = 0 ∨ (st19 i).to = 0 := fun i hi => by
    have : i = 0 ∨ i = 1 ∨ i = 2 := by omega
    rcases this with rfl | rfl | rfl <;> decide
  have r0 := h.tk.ris 0 (by omega)
  have r1 := h.tk.ris 1 (by omega)
  have r2 := h.tk.ris 2 (by omega)
  have h2 : dg st19 g 3 0 ≤ dg st19 g k 0 := dg_mono (by omega)
  have h3 := h.tk.mst 0 (by decide) (by decide)
  have a0 := all0 (g 0).toNat (by omega)
  have a1 := all0 (g 1).toNat (by omega)
  have a2 := all0 (g 2).toNat (by omega)
  have e0 : sb19 (0 : Int).toNat = 2 := rfl
  simp only [e0] at h3
  have h4 : 3 ≤ dg st19 g 3 0 := by
    show 3 ≤ 0 + (if _ then 1 else 0) + (if _ then 1 else 0) + (if _ then 1 else 0) + (if _ then 1 else 0) + (if _ then 1 else 0) + (if _ then 1 else 0)
    rcases a0 with a0 | a0 <;> rcases a1 with a1 | a1 <;> rcases a2 with a2 | a2 <;> rw [if_pos a0, if_pos a1, if_pos a2] <;> omega
  omega

section
variable {E : Value → Hp → Prop}

theorem lstar19 {H : Hp} {K : Int → Option Addr → Nat → Nat → Hp → Prop} (kk : ∀ H' p, Step (fun _ => False) H H' → Rdr H' p 3 st19 → K ((4 : Nat) : Int) p 3 3 H') : compasslaw19_star.call E H K := by
  refine compasslaw19_star.of (compasslaw19_star.run_eq ?_)
  unfold compasslaw19_star.run_t
  refine nwk fun b1 H1 hb1 e1 s1 => ?_
  refine nwk fun b2 H2 hb2 e2 s2 => ?_
  have e12 := s2.keep _ _ e1 fun h => h
  have d12 : b1 ≠ b2 := fun h => by rw [h] at e1; rw [e1] at hb2; cases hb2
  refine stk e12 rfl rfl fun H3 e3 s3 => ?_
  have e23 := s3.keep _ _ e2 fun h => d12 h.symm
  simp only [get_at e3, List.getElem?_cons_zero, List.getElem?_cons_succ, ldI_mk, ldS_mk]
  refine kk H3 _ ((s1.and s2).own s3 fun y hy => hy ▸ hb1) fun i hi => ⟨b2, 0, rfl, fun j hj => ?_⟩
  have hi' : i = 0 ∨ i = 1 ∨ i = 2 := by omega
  have hj' : j = 0 ∨ j = 1 ∨ j = 2 ∨ j = 3 := by have : El.w Edg = 4 := rfl; omega
  rw [get_at e23]
  rcases hi' with rfl | rfl | rfl <;> rcases hj' with rfl | rfl | rfl | rfl <;> rfl

theorem lawake19 {H : Hp} {K : Bool → Hp → Prop} (kk : ∀ H', Step (fun _ => False) H H' → K true H') : compasslaw19_awake.call E H K := by
  refine compasslaw19_awake.of (compasslaw19_awake.run_eq ?_)
  unfold compasslaw19_awake.run_t
  refine lstar19 fun H1 p s1 he => ?_
  refine nwk fun b1 H2 hb1 e1 s2 => ?_
  have rb : Rdr H2 (some ⟨b1, 0, none⟩) 4 sb19 := fun i hi => ⟨b1, 0, rfl, fun j hj => by
    have hi' : i = 0 ∨ i = 1 ∨ i = 2 ∨ i = 3 := by omega
    have hj' : j = 0 := by have : El.w Int = 1 := rfl; omega
    rw [get_at e1]
    rcases hi' with rfl | rfl | rfl | rfl <;> subst hj' <;> rfl⟩
  refine sMany (he.keep s2 fun _ _ _ h => h) (by decide) rb (by decide) fun H3 mp mn mc g cp cn cc cv c s3 r1 r2 f1 f2 f12 l1 l2 hF => ?_
  have hmn : c = 0 ∧ mn = 2 := by
    rcases hF with ⟨hb, _⟩ | ⟨hc, _, _, _, hP⟩
    · exfalso
      rcases hb with ⟨a1, a2⟩ | ⟨_, _, a⟩ | ⟨_, _, _, a⟩
      · exact a2 (by rw [a1]; exact chk_zero.2 st19_right)
      · exact a sb19_bnd
      · exact a st19_gsz
    · exact ⟨hc, st19_most hP⟩
  refine lstar19 fun H4 p4 s4 he4 => ?_
  refine nwk fun b2 H5 hb2 e2 s5 => ?_
  have rb2 : Rdr H5 (some ⟨b2, 0, none⟩) 3 sb19 := fun i hi => ⟨b2, 0, rfl, fun j hj => by
    have hi' : i = 0 ∨ i = 1 ∨ i = 2 := by omega
    have hj' : j = 0 := by have : El.w Int = 1 := rfl; omega
    rw [get_at e2]
    rcases hi' with rfl | rfl | rfl <;> subst hj' <;> rfl⟩
  refine sMany (he4.keep s5 fun _ _ _ h => h) (by decide) rb2 (by decide) fun H6 mp' mn' mc' g' cp' cn' cc' cv' c' s6 r1' r2' f1' f2' f12' l1' l2' hF' => ?_
  have hc' : c' = 130 := by
    have no : ¬ Bnd ((4 : Nat) : Int) sb19 3 := fun h => by have := h.len; omega
    rcases hF' with ⟨hb, _⟩ | ⟨_, _, hb, _⟩
    · rcases hb with ⟨a1, a2⟩ | ⟨a, _⟩ | ⟨_, _, a, _⟩
      · exact (a2 (by rw [a1]; exact chk_zero.2 st19_right)).elim
      · exact a
      · exact (no a).elim
    · exact (no hb).elim
  obtain ⟨rfl, rfl⟩ := hmn
  subst hc'
  refine bct rfl ?_
  refine bct rfl ?_
  exact kk H6 (((((s1.and s2).and s3).and s4).and s5).and s6)

theorem lints19 {p q : Option Addr} {n m c1 c2 : Nat} {f g : Nat → Int} {H : Hp} {K : Bool → Hp → Prop} (hp : Rdr H p n f) (hq : Rdr H q m g) (hn : n < 2 ^ 62) (hnm : n = m) (hfg : ∀ i, i < n → f i = g i) (kk : K true H) : compasslaw19_ints.call p n c1 q m c2 E H K := by
  subst hnm
  refine compasslaw19_ints.of (compasslaw19_ints.run_eq ?_)
  unfold compasslaw19_ints.run_t
  refine bcn (fun h => (h rfl).elim) fun _ => ?_
  refine compasslaw19_ints.l1_rule (fun ap an ac bp bn bc t12 t13 H' => ap = p ∧ an = n ∧ bp = q ∧ bn = n ∧ t12 = n ∧ H' = H ∧ ∃ i : Nat, t13 = i ∧ i ≤ n) (fun ap an ac bp bn bc t12 t13 H' => n - t13.toNat) ?_ ⟨rfl, rfl, rfl, rfl, rfl, rfl, 0, rfl, Nat.zero_le _⟩
  rintro ap an ac bp bn bc' t12 t13 H' ⟨rfl, rfl, rfl, rfl, rfl, rfl, i, rfl, hi⟩ X hX
  refine compasslaw19_ints.b1_eq ?_
  unfold compasslaw19_ints.b1_t
  refine bc (fun hlt => ?_) fun hge => kk
  refine hp.ixI (by omega) (by omega) ?_
  refine hq.ixI (by omega) (by omega) ?_
  refine bcn (fun h => (h (hfg _ (by omega))).elim) fun _ => ?_
  rw [i64w (by omega) (by omega)]
  exact hX _ _ _ _ _ _ _ _ _ ⟨rfl, rfl, rfl, rfl, rfl, rfl, i + 1, by omega, by omega⟩ (by omega)
end
end Go.Mz

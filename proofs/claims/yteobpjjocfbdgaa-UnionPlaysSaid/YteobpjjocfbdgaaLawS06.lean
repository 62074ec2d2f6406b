/-
  What the helpers of the layer's statements do: the names of all nodes, two rows compared, and the call that shows the program is awake.
-/
import Derived.Test.YteobpjjocfbdgaaUniP
import Derived.Test.YteobpjjocfbdgaaGLaw06
set_option linter.unusedSimpArgs false
set_option linter.unusedVariables false
namespace Go.Mz
section
variable {H : Hp} {s bp bz bl : Nat} {lp : Option Addr} {lc : Nat} {t : BT} {siz : Nat → Int} {σ : USt} {E : Value → Hp → Prop}

theorem lnames {K : Option Addr → Nat → Nat → Hp → Prop} {n : Nat} (h : USets H s bp bz bl lp lc t siz σ) (ok : σ.Ok) (hn : n = σ.n)
    (k : ∀ p c H', Row H' p n c (nmI σ) → Step (fun _ => False) H H' → (∀ b, fpS p b → H b = none) → K p n c H') : compasslaw06_names.call (some ⟨s, 0, none⟩) n E H K := by
  refine compasslaw06_names.of (compasslaw06_names.run_eq ?_)
  unfold compasslaw06_names.run_t
  have h1024 := ok.1
  refine compasslaw06_names.l1_rule (fun s0 n1 op on oc v6 H' => s0 = some ⟨s, 0, none⟩ ∧ n1 = n ∧ v6 = on ∧ on ≤ n ∧ Row H' op on oc (nmI σ) ∧ Step (fun _ => False) H H' ∧ ∀ b, fpS op b → H b = none)
    (fun s0 n1 op on oc v6 H' => n - on) ?_ ⟨rfl, rfl, rfl, by omega, .nil, .refl, fun b hb => by rw [fpS_none] at hb; exact hb.elim⟩
  rintro s0 n1 op on oc v6 H1 ⟨rfl, rfl, rfl, hon, hrow, hst, hfr⟩ X hX
  refine compasslaw06_names.b1_eq ?_
  unfold compasslaw06_names.b1_t
  refine bc (fun hlt => ?_) fun hge => ?_
  · have h1 := h.keep hst fun _ _ h => h
    refine ufind h1 ok (fun _ _ r hr hrn => ?_) fun hbad => (hbad (by omega)).elim
    refine bcn (fun e => (e rfl).elim) fun _ => ?_
    refine compasslaw06_names.j1_eq ?_
    unfold compasslaw06_names.j1_t
    refine hrow.appI _ (by omega) fun p' c' H2 hr2 hs2 hf2 => ?_
    rw [i64w (by omega) (by omega)]
    refine hX _ _ _ _ _ _ _ ⟨rfl, rfl, by omega, by omega, hr2.congr fun i hi => ?_, hst.trans hs2 fun b hb => .inr (hfr b hb), fun b hb => ?_⟩ (by omega)
    · unfold upf
      split
      · rename_i e; subst e
        simp only [Int.toNat_natCast] at hr
        simp [nmI, USt.nm, hr.of]
      · rfl
    · rcases hf2 b hb with h | h
      · exact hfr b h
      · exact hst.mono b h
  · have e : on = n := by omega
    subst e
    exact k _ _ _ hrow hst hfr

theorem lints {K : Bool → Hp → Prop} {ap bp' : Option Addr} {n m ac bc' : Nat} {f g : Nat → Int} (ha : Rdr H ap n f) (hb : Rdr H bp' m g) (hm : n = m) (hn : n < 2 ^ 62) (e : ∀ i, i < n → f i = g i)
    (k : K true H) : compasslaw06_ints.call ap n ac bp' m bc' E H K := by
  subst hm
  refine compasslaw06_ints.of (compasslaw06_ints.run_eq ?_)
  unfold compasslaw06_ints.run_t
  refine bcn (fun h => (h rfl).elim) fun _ => ?_
  refine compasslaw06_ints.l1_rule (fun a0p a0n a0c b1p b1n b1c t12 t13 H' => a0p = ap ∧ a0n = n ∧ b1p = bp' ∧ b1n = n ∧ t12 = n ∧ H' = H ∧ ∃ i : Nat, t13 = i)
    (fun a0p a0n a0c b1p b1n b1c t12 t13 H' => n - t13.toNat) ?_ ⟨rfl, rfl, rfl, rfl, rfl, rfl, 0, rfl⟩
  rintro a0p a0n a0c b1p b1n b1c t12 t13 H' ⟨rfl, rfl, rfl, rfl, rfl, rfl, i, rfl⟩ X hX
  refine compasslaw06_ints.b1_eq ?_
  unfold compasslaw06_ints.b1_t
  refine bc (fun hlt => ?_) fun hge => k
  refine ha.ixI (by omega) (by omega) ?_
  refine hb.ixI (by omega) (by omega) ?_
  refine bcn (fun h => (h (e _ (by omega))).elim) fun _ => ?_
  rw [i64w (by omega) (by omega)]
  exact hX _ _ _ _ _ _ _ _ _ ⟨rfl, rfl, rfl, rfl, rfl, rfl, i + 1, by omega⟩ (by omega)


theorem UFr.grow {H0 : Hp} {F : Nat → Prop} {lp' : Option Addr} (h : ∀ b, UFp s bp bz bl lp b → H0 b = none) (st : Step F H0 H) (hf : ∀ x, fpS lp' x → fpS lp x ∨ H x = none) :
    ∀ b, UFp s bp bz bl lp' b → H0 b = none := fun b hb => by
  rcases UFp.grow hf hb with h' | h'
  · exact h b h'
  · exact st.mono b h'

theorem Rt.fixed {par : Nat → Nat} {v r : Nat} (h : Rt par v r) (e : par v = v) : r = v := h.det (.here e)

theorem lawake {K : Bool → Hp → Prop} (k : ∀ H', Step (fun _ => False) H H' → K true H') : compasslaw06_awake.call E H K := by
  refine compasslaw06_awake.of (compasslaw06_awake.run_eq ?_)
  unfold compasslaw06_awake.run_t
  refine unew (fun h => (h (by omega)).elim) fun _ _ H1 s bp bz bl t siz h1 s1 f1 => ?_
  have hh : UHist (USt.init 3) := .base (by omega)
  refine bcb (fun e => by cases e) fun _ => ?_
  refine bcn (fun e => (e rfl).elim) fun _ => ?_
  refine ujoin h1 hh.ok hh.small (fun h => (h ⟨by decide, by decide⟩).elim) (fun _ _ _ _ r h h' => ?_) fun _ _ _ _ a b hab ha hb hor H2 lp' lc' siz' h2 s2 f2 => ?_
  · have e1 := h.fixed rfl
    have e2 := h'.fixed rfl
    rw [e1] at e2; exact absurd e2 (by decide)
  have hab' : (a = 2 ∧ b = 1) ∨ (b = 2 ∧ a = 1) := by
    rcases hor with ⟨x, y⟩ | ⟨x, y⟩
    · exact .inl ⟨x.fixed rfl, y.fixed rfl⟩
    · exact .inr ⟨x.fixed rfl, y.fixed rfl⟩
  have hj : UHist ((USt.init 3).join a b) := .join hh hab ha hb rfl rfl
  have s12 := s1.trans s2 fun b hb => .inr (f1 b hb)
  have f12 := UFr.grow f1 s1 f2
  refine ufind h2 hj.ok (fun _ _ r hr _ => ?_) fun h => (h ⟨by decide, (show (2 : Int) < 3 by decide)⟩).elim
  have hr' : r = a ∧ min a b = 1 := by
    rcases hab' with ⟨rfl, rfl⟩ | ⟨rfl, rfl⟩
    · exact ⟨hr.fixed rfl, rfl⟩
    · refine ⟨?_, rfl⟩
      cases hr with
      | here e => exact absurd e (by decide)
      | up _ k => exact k.fixed rfl
  have hl : (((USt.init 3).join a b).lst r : Int) = 1 := by
    rw [hr'.1]
    show ((upf (USt.init 3).lst a (min ((USt.init 3).lst a) ((USt.init 3).lst b)) a : Nat) : Int) = 1
    rw [upf_same]
    show ((min a b : Nat) : Int) = 1
    rw [hr'.2]; rfl
  refine bcb (fun e => by cases e) fun _ => ?_
  refine bcn (fun e => (e rfl).elim) fun _ => ?_
  refine bcn (fun e => (e hl).elim) fun _ => ?_
  refine bcn (fun e => (e rfl).elim) fun _ => ?_
  refine ucount h2 hj.ok hj.le ?_
  refine bcn (fun e => (e rfl).elim) fun _ => ?_
  refine uundo h2 hj.small (fun _ => by rw [join_log]; exact ⟨hb, ha⟩) (fun h => by cases h) fun _ H3 siz3 h3 s3 => ?_
  rw [join_log] at h3
  have h3 := h3.back rfl
  have s13 := s12.trans s3 fun b hb => .inr (f12 b hb)
  refine bcn (fun e => (e rfl).elim) fun _ => ?_
  refine ufind h3 hh.ok (fun _ _ r hr _ => ?_) fun h => (h ⟨by decide, by decide⟩).elim
  have e := hr.fixed rfl
  subst e
  refine bc (fun _ => ?_) fun e => (e rfl).elim
  refine ucount h3 hh.ok hh.le ?_
  exact k H3 s13

end
end Go.Mz

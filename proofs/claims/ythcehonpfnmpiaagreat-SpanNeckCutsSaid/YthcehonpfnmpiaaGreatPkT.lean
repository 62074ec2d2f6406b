/-
  Joined: PtA, SpL.
-/
import Derived.Test.YthcehonpfnmpiaaGreatPkG
import Derived.Test.YthcehonpfnmpiaaGreatPkU
import Derived.Test.YthcehonpfnmpiaaGreatGRec
import Derived.Test.YthcehonpfnmpiaaGreatPkS
import Derived.Test.YthcehonpfnmpiaaGreatPkM
import Derived.Test.YthcehonpfnmpiaaGreatMzS
import Derived.Test.YthcehonpfnmpiaaGreatGL10
set_option linter.unusedSimpArgs false
set_option linter.unusedVariables false
/-
  The document's Numbered and Parts, walked (with the document's Check of the layers of heaps).
-/
namespace Go.Mz
section
variable {E : Value → Hp → Prop}

theorem rnumbered4 {p : Option Addr} {M c : Nat} {L : Nat → Nat} {R : Nat → Nat → Prop} {H : Hp} {K : Option Addr → Nat → Nat → Hp → Prop} (hL : Lst R L) (hr : Rdr H p M (fun v => (L v : Int))) (hM : M ≤ 1024)
    (kk : ∀ b H', Step (fun _ => False) H H' → H b = none → Row H' (some ⟨b, 0, none⟩) M M (fun v => (pno L v : Int)) → K (some ⟨b, 0, none⟩) M M H') : compassref04_Numbered.call p M c E H K := by
  refine compassref04_Numbered.of (compassref04_Numbered.run_eq ?_)
  unfold compassref04_Numbered.run_t
  refine Row.mkI (by omega) (by omega) fun b H1 hb r1 s1 => ?_
  simp only [Int.toNat_natCast] at r1 ⊢
  refine compassref04_Numbered.l1_rule (fun tp tn tc op on oc ct v5 H' => p = tp ∧ M = tn ∧ op = some ⟨b, 0, none⟩ ∧ M = on ∧ M = oc ∧ ∃ v : Nat, v5 = v ∧ v ≤ M ∧ ct = (cnt (fun w => L w == w) v : Int) ∧ Step (fun _ => False) H H' ∧ ∃ f, Row H' (some ⟨b, 0, none⟩) M M f ∧ ∀ u, u < v → f u = (pno L u : Int))
    (fun tp tn tc op on oc ct v5 H' => M - v5.toNat) ?_ ⟨rfl, rfl, rfl, rfl, rfl, 0, rfl, by omega, rfl, s1, _, r1, fun u hu => by omega⟩
  clear r1 s1
  rintro tp tn tc op on oc ct v5 H2 ⟨rfl, rfl, rfl, rfl, rfl, v, rfl, hv, rfl, s2, f, r2, hf⟩ X hX
  have hr2 := hr.keep s2 fun _ _ _ h => h
  refine compassref04_Numbered.b1_eq ?_
  unfold compassref04_Numbered.b1_t
  refine bc (fun hlt => ?_) fun hge => ?_
  · have hself := hL.self (v := v)
    have hle := cnt_le (fun w => L w == w) v
    refine hr2.ixI (by omega) (by omega) ?_
    simp only [Int.toNat_natCast]
    have next : ∀ H' (x : Int) g, Step (fun _ => False) H H' → x = (cnt (fun w => L w == w) (v + 1) : Int) → Row H' (some ⟨b, 0, none⟩) M M (upf f v g) → g = (pno L v : Int) → compassref04_Numbered.j1 p M tc (some ⟨b, 0, none⟩) M M x (v : Int) X E H' K := fun H' x g s hx r hg => by
      refine compassref04_Numbered.j1_eq ?_
      unfold compassref04_Numbered.j1_t
      rw [i64w (by omega) (by omega)]
      refine hX _ _ _ _ _ _ _ _ _ ⟨rfl, rfl, rfl, rfl, rfl, v + 1, by omega, by omega, hx, s, _, r, fun u hu => ?_⟩ (by omega)
      by_cases eu : u = v
      · subst eu; rw [upf_same, hg]
      · rw [upf_ne eu]; exact hf u (by omega)
    have own : ∀ {H'}, Step (fpS (some ⟨b, 0, none⟩)) H2 H' → Step (fun _ => False) H H' := fun s => s2.own s fun y hy => by rw [fpS_mk] at hy; exact hy ▸ hb
    refine bc (fun h => ?_) fun h => ?_
    · have h' : L v = v := by omega
      refine r2.stI (by omega) (by omega) _ fun H3 r3 s3 => ?_
      simp only [Int.toNat_natCast] at r3
      rw [i64w (by omega) (by omega)]
      refine next _ _ _ (own s3) ?_ r3 (by unfold pno; rw [h'])
      simp only [cnt, h', beq_self_eq_true, if_true]; omega
    · have h' : L v ≠ v := fun h' => h (by omega)
      refine hr2.ixI (by omega) (by omega) ?_
      simp only [Int.toNat_natCast]
      refine r2.ixI (by omega) (by omega) ?_
      refine r2.stI (by omega) (by omega) _ fun H3 r3 s3 => ?_
      simp only [Int.toNat_natCast] at r3
      refine next _ _ _ (own s3) ?_ r3 (by rw [hf _ (by omega)]; unfold pno; rw [hL.idem])
      have : (L v == v) = false := by simpa using h'
      simp only [cnt, this, Bool.false_eq_true, if_false, Nat.add_zero]
  · have : v = M := by omega
    subst this
    exact kk b _ s2 hb (r2.congr hf)

theorem cast_stepN4 {g : Nat → Nat} {u v : Nat} : (fun i => ((stepN g u v i : Nat) : Int)) = if g u < g v then upf (fun i => (g i : Int)) v (g u : Int) else upf (fun i => (g i : Int)) u (g v : Int) := by
  unfold stepN
  split <;> funext i <;> unfold upf <;> split <;> rfl

theorem rparts4 {N : Int} {ep : Option Addr} {n ec : Nat} {e : Nat → Edg} {L : Nat → Nat} {H : Hp} {K : Option Addr → Nat → Nat → Int → Hp → Prop} (he : Rdr H ep n e) (hr : Right N n e) (hL : Lst (Prs (ePr e) n) L)
    (kk : ∀ b H', Step (fun _ => False) H H' → H b = none → Row H' (some ⟨b, 0, none⟩) N.toNat N.toNat (fun v => (pno L v : Int)) → K (some ⟨b, 0, none⟩) N.toNat N.toNat 0 H') : compassref04_Parts.call N ep n ec E H K := by
  have hN0 := hr.N0; have hN1 := hr.N1; have hn1 := hr.n1
  refine compassref04_Parts.of (compassref04_Parts.run_eq ?_)
  unfold compassref04_Parts.run_t
  refine nwk fun b1 H1 hb1 e1 s1 => ?_
  simp only [get_at e1, List.getElem?_cons_zero, List.getElem?_cons_succ, ldI_mk, ldS_mk]
  refine rcheck (he.keep s1 fun _ _ _ h => h) fun H2 a s2 => ?_
  refine bcn (fun h => (h (chk_zero.2 hr)).elim) fun _ => ?_
  have s02 := s1.and s2
  have e12 := s2.keep _ _ e1 fun h => h
  simp only [get_at e12, List.getElem?_cons_zero, List.getElem?_cons_succ, ldI_mk, ldS_mk]
  refine Row.mkI hN0 (by omega) fun b2 H3 hb2 r3 s3 => ?_
  have e13 := s3.keep _ _ e12 fun h => h
  have ne : b1 ≠ b2 := ne_of_live hb2 (by rw [e12]; exact fun h => by cases h)
  have f2 : H b2 = none := s02.mono _ hb2
  have own : ∀ {H' H''}, Step (fun _ => False) H H' → Step (fpS (some ⟨b2, 0, none⟩)) H' H'' → Step (fun _ => False) H H'' := fun s s' => s.own s' fun y hy => by rw [fpS_mk] at hy; exact hy ▸ f2
  have kb : ∀ {H' H''}, H' b1 = some ⟨[.int .i64 N, .slice ep n ec], 24⟩ → Step (fpS (some ⟨b2, 0, none⟩)) H' H'' → H'' b1 = some ⟨[.int .i64 N, .slice ep n ec], 24⟩ := fun e' s' => s'.keep _ _ e' (by rw [fpS_mk]; exact ne)
  have hrng : ∀ i, i < n → (ePr e i).1 < N.toNat ∧ (ePr e i).2 < N.toNat := fun i hi => by
    have hx := hr.ed i hi
    have hf0 := hx.f0; have hf1 := hx.f1; have ht0 := hx.t0; have ht1 := hx.t1
    unfold ePr
    exact ⟨by show (e i).fr.toNat < _; omega, by show (e i).to.toNat < _; omega⟩
  have hid : GInv (Prs (ePr e) n) N.toNat (fun v => v) := fun v _ => ⟨.refl v, Nat.le_refl _⟩
  refine compassref04_Parts.l1_rule (fun g1 lp ln lc v7 H' => b1 = g1 ∧ lp = some ⟨b2, 0, none⟩ ∧ ln = N.toNat ∧ lc = N.toNat ∧ ∃ v : Nat, v7 = v ∧ v ≤ N.toNat ∧ Step (fun _ => False) H H' ∧ H' b1 = some ⟨[.int .i64 N, .slice ep n ec], 24⟩ ∧ ∃ f, Row H' (some ⟨b2, 0, none⟩) N.toNat N.toNat f ∧ ∀ u, u < v → f u = (u : Int))
    (fun g1 lp ln lc v7 H' => N.toNat - v7.toNat) ?_ ⟨rfl, rfl, rfl, rfl, 0, rfl, by omega, s02.and s3, e13, _, r3, fun u hu => by omega⟩
  clear r3 e13 s3 hb2 e12 s2 e1 s1 s02
  rintro g1 lp ln lc v7 H4 ⟨rfl, rfl, rfl, rfl, v, rfl, hv, s4, e4, f, r4, hf⟩ X hX
  refine compassref04_Parts.b1_eq ?_
  unfold compassref04_Parts.b1_t
  simp only [get_at e4, List.getElem?_cons_zero, List.getElem?_cons_succ, ldI_mk, ldS_mk]
  refine bc (fun hlt => ?_) fun hge => ?_
  · refine r4.stI (by omega) (by omega) _ fun H5 r5 s5 => ?_
    simp only [Int.toNat_natCast] at r5
    rw [i64w (by omega) (by omega)]
    refine hX _ _ _ _ _ _ ⟨rfl, rfl, rfl, rfl, v + 1, by omega, by omega, own s4 s5, kb e4 s5, _, r5, fun u hu => ?_⟩ (by omega)
    by_cases eu : u = v
    · subst eu; rw [upf_same]
    · rw [upf_ne eu]; exact hf u (by omega)
  have : v = N.toNat := by omega
  subst this
  clear hX
  refine compassref04_Parts.j1_eq ?_
  unfold compassref04_Parts.j1_t
  refine compassref04_Parts.l2_rule (fun g1 lp ln lc r8 H' => b1 = g1 ∧ lp = some ⟨b2, 0, none⟩ ∧ ln = N.toNat ∧ lc = N.toNat ∧ ∃ r : Nat, r8 = r ∧ r ≤ N.toNat ∧ Step (fun _ => False) H H' ∧ H' b1 = some ⟨[.int .i64 N, .slice ep n ec], 24⟩ ∧ Row H' (some ⟨b2, 0, none⟩) N.toNat N.toNat (fun v => ((roundsN (fun v => v) (ePr e) n r v : Nat) : Int)))
    (fun g1 lp ln lc r8 H' => N.toNat - r8.toNat) ?_ ⟨rfl, rfl, rfl, rfl, 0, rfl, by omega, s4, e4, r4.congr fun u hu => hf u hu⟩
  clear r4 e4 s4 hf
  rintro g1 lp ln lc r8 H5 ⟨rfl, rfl, rfl, rfl, r, rfl, hr', s5, e5, r5⟩ X hX
  refine compassref04_Parts.b2_eq ?_
  unfold compassref04_Parts.b2_t
  simp only [get_at e5, List.getElem?_cons_zero, List.getElem?_cons_succ, ldI_mk, ldS_mk]
  refine bc (fun hlt => ?_) fun hge => ?_
  · refine compassref04_Parts.l3_rule (fun g1 lp ln lc r8 i9 H' => b1 = g1 ∧ lp = some ⟨b2, 0, none⟩ ∧ ln = N.toNat ∧ lc = N.toNat ∧ r8 = r ∧ ∃ i : Nat, i9 = i ∧ i ≤ n ∧ Step (fun _ => False) H H' ∧ H' b1 = some ⟨[.int .i64 N, .slice ep n ec], 24⟩ ∧ Row H' (some ⟨b2, 0, none⟩) N.toNat N.toNat (fun v => ((roundN (roundsN (fun v => v) (ePr e) n r) (ePr e) i v : Nat) : Int)))
      (fun g1 lp ln lc r8 i9 H' => n - i9.toNat) ?_ ⟨rfl, rfl, rfl, rfl, rfl, 0, rfl, by omega, s5, e5, r5⟩
    clear r5 e5 s5
    rintro g1 lp ln lc r8 i9 H6 ⟨rfl, rfl, rfl, rfl, rfl, i, rfl, hi, s6, e6, r6⟩ Y hY
    refine compassref04_Parts.b3_eq ?_
    unfold compassref04_Parts.b3_t
    simp only [get_at e6, List.getElem?_cons_zero, List.getElem?_cons_succ, ldI_mk, ldS_mk]
    refine bc (fun hlt2 => ?_) fun hge2 => ?_
    · have he6 := he.keep s6 fun _ _ _ h => h
      have hx := hr.ed i (by omega)
      have hf0 := hx.f0; have hf1 := hx.f1; have ht0 := hx.t0; have ht1 := hx.t1
      obtain ⟨a, ha⟩ : ∃ a : Nat, (e i).fr = a := ⟨(e i).fr.toNat, by omega⟩
      obtain ⟨d, hd⟩ : ∃ d : Nat, (e i).to = d := ⟨(e i).to.toNat, by omega⟩
      have ea : (ePr e i).1 = a := by show (e i).fr.toNat = a; omega
      have ed : (ePr e i).2 = d := by show (e i).to.toNat = d; omega
      have hG := roundN_inv hL hrng (roundsN_inv hL hrng hid r).1 i hi
      refine he6.edgeF (by omega) (by omega) ?_
      simp only [Int.toNat_natCast]
      refine he6.edgeT (by omega) (by omega) ?_
      simp only [Int.toNat_natCast]
      rw [ha, hd]
      have next : ∀ H', Row H' (some ⟨b2, 0, none⟩) N.toNat N.toNat (fun v => ((stepN (roundN (roundsN (fun v => v) (ePr e) n r) (ePr e) i) a d v : Nat) : Int)) → Step (fpS (some ⟨b2, 0, none⟩)) H6 H' → compassref04_Parts.j2 b1 (some ⟨b2, 0, none⟩) N.toNat N.toNat (r : Int) (i : Int) X Y E H' K := fun H' r' s' => by
        refine compassref04_Parts.j2_eq ?_
        unfold compassref04_Parts.j2_t
        rw [i64w (by omega) (by omega)]
        refine hY _ _ _ _ _ _ _ ⟨rfl, rfl, rfl, rfl, rfl, i + 1, by omega, by omega, own s6 s', kb e6 s', ?_⟩ (by omega)
        have : roundN (roundsN (fun v => v) (ePr e) n r) (ePr e) (i + 1) = stepN (roundN (roundsN (fun v => v) (ePr e) n r) (ePr e) i) a d := by
          show stepN _ (ePr e i).1 (ePr e i).2 = _
          rw [ea, ed]
        rw [this]; exact r'
      refine r6.ixI (by omega) (by omega) ?_
      refine r6.ixI (by omega) (by omega) ?_
      simp only [Int.toNat_natCast]
      refine bc (fun hc => ?_) fun hc => ?_
      · refine r6.ixI (by omega) (by omega) ?_
        refine r6.stI (by omega) (by omega) _ fun H7 r7 s7 => ?_
        simp only [Int.toNat_natCast] at r7
        refine next _ ?_ s7
        rw [cast_stepN4, if_pos (by omega)]; exact r7
      · refine r6.ixI (by omega) (by omega) ?_
        refine r6.stI (by omega) (by omega) _ fun H7 r7 s7 => ?_
        simp only [Int.toNat_natCast] at r7
        refine next _ ?_ s7
        rw [cast_stepN4, if_neg (by omega)]; exact r7
    · have : i = n := by omega
      subst this
      refine compassref04_Parts.j3_eq ?_
      unfold compassref04_Parts.j3_t
      rw [i64w (by omega) (by omega)]
      exact hX _ _ _ _ _ _ ⟨rfl, rfl, rfl, rfl, r + 1, by omega, by omega, s6, e6, r6⟩ (by omega)
  · have : r = N.toNat := by omega
    subst this
    refine compassref04_Parts.j4_eq ?_
    unfold compassref04_Parts.j4_t
    have hrow : Row H5 (some ⟨b2, 0, none⟩) N.toNat N.toNat (fun v => (L v : Int)) := r5.congr fun v hv => by rw [parts_done hL hrng hv]
    refine rnumbered4 hL hrow.rdr (by omega) fun b H6 s6 hb r6 => ?_
    exact kk b _ (s5.and s6) (s5.mono _ hb) r6

end
end Go.Mz

/-
  The statements of layer 10: what they share: the triangle, equal numbers, the graph with some edges alone.
-/
namespace Go.Mz

/-- the triangle's edges -/
def tri10 : Nat → Edg := fun i => if i = 0 then (0, 1, 0, 5) else if i = 1 then (1, 2, 0, 2) else (2, 0, 0, 3)

theorem tri_right : Right 3 3 tri10 := by
  refine ⟨by decide, by decide, by decide, fun i hi => ?_⟩
  rcases (by omega : i = 0 ∨ i = 1 ∨ i = 2) with rfl | rfl | rfl <;> exact ⟨by decide, by decide, by decide, by decide, by decide, by decide, by decide, by decide⟩

theorem tri_chk : chk 3 3 tri10 = 0 := chk_zero.2 tri_right

theorem tri_ahd {i j : Nat} (hi : i < 3) (hj : j < 3) : ahd tri10 i j ↔ (i = 1 ∧ j ≠ 1) ∨ (i = 2 ∧ j = 0) := by
  rcases (by omega : i = 0 ∨ i = 1 ∨ i = 2) with rfl | rfl | rfl <;> rcases (by omega : j = 0 ∨ j = 1 ∨ j = 2) with rfl | rfl | rfl <;> decide

theorem tri_one : InF tri10 3 1 := by
  refine InF.cut (C := fun u => u = 1) (by decide) (by decide) fun j hj ha => ?_
  have := (tri_ahd hj (by decide)).1 ha
  omega

theorem tri_two : InF tri10 3 2 := by
  refine InF.cut (C := fun u => u = 0) (by decide) (by decide) fun j hj ha => ?_
  have := (tri_ahd hj (by decide)).1 ha
  have : j = 1 := by omega
  subst this
  decide

theorem tri_way : Cn (Sel (ePr tri10) 3 fun i => ahd tri10 i 0) 0 1 := by
  have h1 : Cn (Sel (ePr tri10) 3 fun i => ahd tri10 i 0) 1 2 := .edge (Sel.of (pr := ePr tri10) (i := 1) (by decide) ((tri_ahd (by decide) (by decide)).2 (by decide)))
  have h2 : Cn (Sel (ePr tri10) 3 fun i => ahd tri10 i 0) 2 0 := .edge (Sel.of (pr := ePr tri10) (i := 2) (by decide) ((tri_ahd (by decide) (by decide)).2 (by decide)))
  exact (h1.trans h2).symm

theorem tri_zero : ¬ InF tri10 3 0 := fun h => h.2 tri_way

theorem tri_frs : frs tri10 3 = [1, 2] := by
  have h1 : frs tri10 3 = [1, 2] := by
    unfold frs
    have e : List.range 3 = [0, 1, 2] := rfl
    rw [e]
    simp [tri_zero, tri_one, tri_two]
  exact h1

theorem tri_neck : NkP tri10 3 0 1 2 := by
  refine ⟨by decide, fun c => ?_, ?_⟩
  · have : (0 : Nat) = 0 ↔ (1 : Nat) = 0 := c.iff (P := fun u => u = 0) fun u v ⟨j, hj, ha, e1, e2⟩ => by
      have := (tri_ahd hj (by decide)).1 ha
      have : j = 1 := by omega
      subst this
      rw [e1, e2]; decide
    omega
  · exact Sel.mono (fun t ht ha => by
      have := (tri_ahd ht (by decide)).1 ha
      rcases (by omega : t = 1 ∨ t = 2) with rfl | rfl
      · exact .inl ((tri_ahd (by decide) (by decide)).2 (by decide))
      · exact .inr rfl) tri_way

/-- the edges that a list of places names -/
def lsG (e : Nat → Edg) (l : List Nat) : Nat → Edg := fun i => e (l[i]?.getD 0)

theorem lsG_snoc {e : Nat → Edg} {l : List Nat} {x i : Nat} (hi : i < l.length + 1) : upf (lsG e l) l.length (e x) i = lsG e (l ++ [x]) i := by
  unfold upf lsG
  by_cases h : i = l.length
  · subst h; simp
  · rw [if_neg h, List.getElem?_append_left (by omega)]

section
variable {E : Value → Hp → Prop}

theorem lints10 {p q : Option Addr} {n m c1 c2 : Nat} {f g : Nat → Int} {H : Hp} {K : Bool → Hp → Prop} (hp : Rdr H p n f) (hq : Rdr H q m g) (hn : n < 2 ^ 62)
    (kk : ∀ b, (b = true ↔ n = m ∧ ∀ i, i < n → f i = g i) → K b H) : compasslaw10_ints.call p n c1 q m c2 E H K := by
  refine compasslaw10_ints.of (compasslaw10_ints.run_eq ?_)
  unfold compasslaw10_ints.run_t
  refine bcn (fun h => ?_) fun hnm => ?_
  · exact kk false ⟨(fun h => by cases h), fun h' => by omega⟩
  have hnm : n = m := by omega
  subst hnm
  refine compasslaw10_ints.l1_rule (fun ap an ac bp bn bc t12 t13 H' => ap = p ∧ an = n ∧ bp = q ∧ bn = n ∧ t12 = n ∧ H' = H ∧ ∃ i : Nat, t13 = i ∧ i ≤ n ∧ ∀ j, j < i → f j = g j) (fun ap an ac bp bn bc t12 t13 H' => n - t13.toNat) ?_ ⟨rfl, rfl, rfl, rfl, rfl, rfl, 0, rfl, Nat.zero_le _, fun j hj => by omega⟩
  rintro ap an ac bp bn bc' t12 t13 H' ⟨rfl, rfl, rfl, rfl, rfl, rfl, i, rfl, hi, hall⟩ X hX
  refine compasslaw10_ints.b1_eq ?_
  unfold compasslaw10_ints.b1_t
  refine bc (fun hlt => ?_) fun hge => ?_
  · refine hp.ixI (by omega) (by omega) ?_
    refine hq.ixI (by omega) (by omega) ?_
    rw [Int.toNat_natCast]
    refine bcn (fun h => ?_) fun h => ?_
    · exact kk false ⟨(fun h => by cases h), fun h' => (h (h'.2 i (by omega))).elim⟩
    · rw [i64w (by omega) (by omega)]
      refine hX _ _ _ _ _ _ _ _ _ ⟨rfl, rfl, rfl, rfl, rfl, rfl, i + 1, by omega, by omega, fun j hj => ?_⟩ (by omega)
      by_cases e : j = i
      · rw [e]; exact h
      · exact hall j (by omega)
  · exact kk true ⟨fun _ => ⟨rfl, fun j hj => hall j (by omega)⟩, fun _ => rfl⟩

theorem lawake10 {H : Hp} {K : Bool → Hp → Prop} (kk : ∀ H', Step (fun _ => False) H H' → K true H') : compasslaw10_awake.call E H K := by
  refine compasslaw10_awake.of (compasslaw10_awake.run_eq ?_)
  unfold compasslaw10_awake.run_t
  refine nwk fun b1 H1 hb1 e1 s1 => ?_
  refine nwst rfl rfl fun b2 H2 hb2 e2 s2 => ?_
  have he : Rdr H2 (some ⟨b1, 0, none⟩) 3 tri10 := fun i hi => ⟨b1, 0, rfl, fun j hj => by
    have hj' : j = 0 ∨ j = 1 ∨ j = 2 ∨ j = 3 := by have : El.w Edg = 4 := rfl; omega
    rw [get_at (s2.keep _ _ e1 fun h => h)]
    rcases (by omega : i = 0 ∨ i = 1 ∨ i = 2) with rfl | rfl | rfl <;> rcases hj' with rfl | rfl | rfl | rfl <;> rfl⟩
  refine compasslaw10_awake.l1_rule (fun g k2 H' => g = b2 ∧ ∃ i : Nat, k2 = i ∧ 1 ≤ i ∧ i ≤ 4 ∧ Step (fun _ => False) H2 H') (fun g k2 H' => 4 - k2.toNat) ?_ ⟨rfl, 1, rfl, by omega, by omega, .refl⟩
  rintro g k2 H3 ⟨rfl, i, rfl, hi1, hi, s3⟩ X hX
  have e23 := s3.keep _ _ e2 fun h => h
  have he3 := he.keep s3 fun _ _ _ h => h
  refine compasslaw10_awake.b1_eq ?_
  unfold compasslaw10_awake.b1_t
  refine bc (fun hlt => ?_) fun hge => ?_
  · simp only [get_at e23, List.getElem?_cons_zero, List.getElem?_cons_succ, ldI_mk, ldS_mk]
    refine sforest he3 (by decide) fun H4 p m c f cost s4 r4 f4 hor hm => ?_
    have hz : spC 3 3 tri10 (i : Int) = 0 := by unfold spC; rw [if_neg (fun h => h tri_chk), if_neg (by omega)]
    obtain ⟨_, _, hF, hcost⟩ := hor.resolve_left fun h => h.1 hz
    refine bcn (fun h => (h hz).elim) fun _ => ?_
    have hl := hF.len
    rw [tri_frs] at hl
    have hl : m = 2 := hl
    subst hl
    have f0 : f 0 = 1 := by rw [hF.at' 0 (by decide), tri_frs]; rfl
    have f1 : f 1 = 2 := by rw [hF.at' 1 (by decide), tri_frs]; rfl
    refine nwk fun b5 H5 hb5 e5 s5 => ?_
    refine lints10 (r4.rdr.keep s5 fun _ _ _ h => h) (row2 e5) (by decide) fun b hb => ?_
    have hbt : b = true := hb.2 ⟨rfl, fun j hj => by
      rcases (by omega : j = 0 ∨ j = 1) with rfl | rfl
      · rw [f0]; rfl
      · rw [f1]; rfl⟩
    subst hbt
    refine bcb (fun h => by cases h) fun _ => ?_
    have hc5 : cost = 5 := by
      rw [hcost]
      show 0 + (tri10 (f 0).toNat).co + (tri10 (f 1).toNat).co = 5
      rw [f0, f1]; decide
    refine bcn (fun h => (h hc5).elim) fun _ => ?_
    rw [i64w (by omega) (by omega)]
    exact hX _ _ _ ⟨rfl, i + 1, by omega, by omega, by omega, (s3.and s4).and s5⟩ (by omega)
  · refine compasslaw10_awake.j1_eq ?_
    unfold compasslaw10_awake.j1_t
    simp only [get_at e23, List.getElem?_cons_zero, List.getElem?_cons_succ, ldI_mk, ldS_mk]
    refine sneck (u := 0) (v := 1) he3 (by decide) fun H4 x code s4 hR => ?_
    have hz : nkC 3 3 tri10 0 1 = 0 := by unfold nkC; rw [if_neg (fun h => h tri_chk), if_neg (by decide), if_neg (by decide)]
    have hR2 : NkR 3 3 tri10 0 1 2 0 := .inr ⟨hz, tri_right, .inr ⟨rfl, 2, rfl, tri_neck⟩⟩
    obtain ⟨rfl, rfl⟩ := hR.uniq hR2
    refine bct rfl ?_
    refine bct rfl ?_
    exact kk H4 (((s1.and s2).and s3).and s4)

end
end Go.Mz

/-
  ShortAlike, walked: whatever the graph and the nodes, it answers true and leaves what was there as it was.
-/
import Derived.Test.YtajgpmohnbjpcaaShA
import Derived.Test.YtajgpmohnbjpcaaMzS
import Derived.Test.YtajgpmohnbjpcaaPkD
import Derived.Test.YtajgpmohnbjpcaaGShL
set_option linter.unusedSimpArgs false
set_option linter.unusedVariables false
namespace Go.Mz

/-- by way of another node it is no nearer -/
theorem tri {N : Int} {n s u : Nat} {e : Nat → Edg} {d via z zvia : Nat → Int} (hr : Right N n e) (hc : ∀ i, i < n → 0 ≤ gc e i) (hS : SolG N n e (dz s) d via) (hZ : SolG N n e (dz u) z zvia) (hd : ∀ v, v < N.toNat → d v ≤ Far) (hu : u < N.toNat) (h0 : 0 ≤ d u) : ∀ v, v < N.toNat → d v - d u ≤ z v := by
  have hF : Far = 4611686018427387904 := rfl
  refine hZ.low (fun v => d v - d u) (fun v hv => ?_) fun i hi => ?_
  · show d v - d u ≤ dz u v
    unfold dz
    split
    · rename_i e; subst e; omega
    · have := hd v hv; omega
  · show d (gb e i) - d u ≤ d (ga e i) - d u + gc e i
    have hc0 := hc i hi
    have h1 := hd (gb e i) (hr.gr.rb i hi)
    by_cases hf : d (ga e i) < Far
    · have := hS.feas i hi hf; omega
    · omega

theorem DjF.top {N : Int} {n m : Nat} {e : Nat → Edg} {s : Int} {d via : Nat → Int} (h : DjF N n e s m d via) : ∀ v, v < m → 0 ≤ d v ∧ d v ≤ Far := by
  have hF : Far = 4611686018427387904 := rfl
  rcases h with ⟨_, rfl⟩ | ⟨h, rfl, hS⟩
  · intro v hv; omega
  · obtain ⟨hr, _, hc⟩ := dj0_zero.1 h
    intro v hv
    have h1 := hS.bnd v hv
    refine ⟨?_, by omega⟩
    exact hS.low (fun _ => 0) (fun v hv => by show (0 : Int) ≤ dz _ v; rcases dz_or (s := s.toNat) v with h | h <;> omega) (fun i hi => by have := hc i hi; show (0 : Int) ≤ 0 + _; omega) v hv

section
variable {E : Value → Hp → Prop}

theorem lalike8 {N s u : Int} {ep : Option Addr} {n ec : Nat} {e : Nat → Edg} {H : Hp} {K : Bool → Hp → Prop} (he : Rdr H ep n e) (hn : n < 2 ^ 63)
    (kk : ∀ H', Step (fun _ => False) H H' → K true H') : compasslaw08_ShortAlike.call N ep n ec s u E H K := by
  have hF : Far = 4611686018427387904 := rfl
  refine compasslaw08_ShortAlike.of (compasslaw08_ShortAlike.run_eq ?_)
  unfold compasslaw08_ShortAlike.run_t
  refine nwk fun b1 H1 hb1 e1 s1 => ?_
  refine lawake8 fun H2 s2 => ?_
  have e12 := s2.keep _ _ e1 fun h => h
  have s02 := s1.and s2
  refine bcb (fun h => by cases h) fun _ => ?_
  simp only [get_at e12, List.getElem?_cons_zero, List.getElem?_cons_succ, ldI_mk, ldS_mk]
  refine sdij (he.keep s02 fun _ _ _ h => h) hn (by decide) (by decide) fun H3 dp m vp dist via s3 rD rV fd fv dv hF1 => ?_
  refine nwst rfl rfl fun b2 H5 hb2 e2 s5 => ?_
  have e15 := (s3.and s5).keep _ _ e12 fun h => h
  have s05 := s02.and (s3.and s5)
  have rD5 := rD.keep s5 fun _ _ h => h
  have rV5 := rV.keep s5 fun _ _ h => h
  refine compasslaw08_ShortAlike.l1_rule (fun s' u' g3 t7 e8 kind9 H' => s' = s ∧ u' = u ∧ g3 = b1 ∧ t7 = b2 ∧ e8 = dj0 N n e s ∧ 2 ≤ kind9 ∧ kind9 ≤ 5 ∧ Step (fun _ => False) H5 H') (fun s' u' g3 t7 e8 kind9 H' => (5 - kind9).toNat) ?_ ⟨rfl, rfl, rfl, rfl, rfl, by decide, by decide, .refl⟩
  rintro s' u' g3 t7 e8 kind H6 ⟨rfl, rfl, rfl, rfl, rfl, hk2, hk5, s6⟩ X hX
  have e16 := s6.keep _ _ e15 fun h => h
  have e26 := s6.keep _ _ e2 fun h => h
  have s06 := s05.and s6
  have rD6 := rD5.keep s6 fun _ _ h => h
  have rV6 := rV5.keep s6 fun _ _ h => h
  refine compasslaw08_ShortAlike.b1_eq ?_
  unfold compasslaw08_ShortAlike.b1_t
  refine bc (fun h4 => ?_) fun h4 => ?_
  · simp only [get_at e16, get_at e26, List.getElem?_cons_zero, List.getElem?_cons_succ, ldI_mk, ldS_mk]
    refine sdij (he.keep s06 fun _ _ _ h => h) hn (by omega) h4 fun H7 dp' m' vp' dist' via' s7 rD' rV' fd' fv' dv' hF2 => ?_
    refine nwst rfl rfl fun b3 H8 hb3 e3 s8 => ?_
    refine bcn (fun h => (h rfl).elim) fun _ => ?_
    have e28 := (s7.and s8).keep _ _ e26 fun h => h
    simp only [get_at e28, get_at e3, List.getElem?_cons_zero, List.getElem?_cons_succ, ldI_mk, ldS_mk]
    obtain ⟨hmm, hdd⟩ := hF1.uniq hF2
    refine llongs (rD6.keep (s7.and s8) fun _ _ h => h).rdr (rD'.keep s8 fun _ _ h => h).rdr hF1.small hmm hdd ?_
    refine bcb (fun h => by cases h) fun _ => ?_
    rw [i64w (by omega) (by omega)]
    exact hX _ _ _ _ _ _ _ ⟨rfl, rfl, rfl, rfl, rfl, by omega, by omega, s6.and (s7.and s8)⟩ (by omega)
  · clear hX
    refine compasslaw08_ShortAlike.j1_eq ?_
    unfold compasslaw08_ShortAlike.j1_t
    refine bcn (fun _ => kk H6 s06) fun h0 => ?_
    replace h0 : dj0 N n e s' = 0 := h0
    obtain ⟨hr, hs, hc⟩ := dj0_zero.1 h0
    have hN0 := hr.N0; have hN1 := hr.N1
    rcases hF1 with ⟨h, _⟩ | ⟨_, rfl, hS⟩
    · exact (h h0).elim
    have hF1 : DjF N n e s' N.toNat dist via := .inr ⟨h0, rfl, hS⟩
    simp only [get_at e16, get_at e26, List.getElem?_cons_zero, List.getElem?_cons_succ, ldI_mk, ldS_mk]
    refine sbellman (he.keep s06 fun _ _ _ h => h) hn (fun hw H7 s7 => (hw (wrg_zero.2 ⟨hr, hs⟩)).elim) (fun _ _ _ H7 bd bv dB vB s7 fbd fbv dbv rB rvB hB => ?_) fun _ _ _ H7 p m c f s7 rf ff hC => ?_
    · refine nwst rfl rfl fun b3 H8 hb3 e3 s8 => ?_
      have s78 := s7.and s8
      have e18 := s78.keep _ _ e16 fun h => h
      have e28 := s78.keep _ _ e26 fun h => h
      have s08 := s06.and s78
      have rD8 := rD6.keep s78 fun _ _ h => h
      have rB8 := rB.keep s8 fun _ _ h => h
      simp only [get_at e18, get_at e28, get_at e3, List.getElem?_cons_zero, List.getElem?_cons_succ, ldI_mk, ldS_mk]
      refine sdij (he.keep s08 fun _ _ _ h => h) hn (by decide) (by decide) fun H9 zp mz zvp z zvia s9 rZ rzV fz fzv dzv hFz => ?_
      refine nwst rfl rfl fun b4 H10 hb4 e4 s10 => ?_
      have s910 := s9.and s10
      have e2a := s910.keep _ _ e28 fun h => h
      have e3a := s910.keep _ _ e3 fun h => h
      have s0a := s08.and s910
      have rDa := rD8.keep s910 fun _ _ h => h
      have rBa := rB8.keep s910 fun _ _ h => h
      have rZa := rZ.keep s10 fun _ _ h => h
      refine bcn (fun h => (h trivial).elim) fun _ => ?_
      simp only [get_at e2a, get_at e3a, List.getElem?_cons_zero, List.getElem?_cons_succ, ldI_mk, ldS_mk]
      refine llongs rDa.rdr rBa.rdr (by omega) rfl (fun i hi => hS.uniq hr hB i hi) ?_
      refine bcb (fun h => by cases h) fun _ => ?_
      refine bcn (fun hz => ?_) fun hz => ?_
      · replace hz : dj0 N n e u' ≠ 0 := hz
        have e30 : dj0 N n e u' = 30 := by
          have hw : wrg N n e u' ≠ 0 := fun hw => hz (dj0_zero.2 ⟨hr, (wrg_zero.1 hw).2, hc⟩)
          have e1 : dj0 N n e u' = wrg N n e u' := if_pos hw
          rw [e1]
          unfold wrg at hw ⊢
          rw [chk_zero.2 hr] at hw ⊢
          simp only [if_true] at hw ⊢
          split
          · rfl
          · rename_i h; rw [if_neg h] at hw; exact (hw rfl).elim
        rw [e30]
        exact kk H10 s0a
      · replace hz : dj0 N n e u' = 0 := hz
        obtain ⟨_, hu, _⟩ := dj0_zero.1 hz
        rcases hFz with ⟨h, _⟩ | ⟨_, rfl, hZ⟩
        · exact (h hz).elim
        have hFz : DjF N n e u' N.toNat z zvia := .inr ⟨hz, rfl, hZ⟩
        have hdt := hF1.top
        have hzt := hFz.top
        have htri := tri hr hc hS hZ (fun v hv => (hdt v hv).2) (by omega) (hdt _ (by omega)).1
        simp only [get_at e2a, List.getElem?_cons_zero, List.getElem?_cons_succ, ldI_mk, ldS_mk]
        refine compasslaw08_ShortAlike.l2_rule (fun u'' t7' z15 t79 t80 H' => u'' = u' ∧ t7' = t7 ∧ z15 = b4 ∧ t79 = (N.toNat : Int) ∧ H' = H10 ∧ ∃ v : Nat, t80 = v ∧ v ≤ N.toNat) (fun u'' t7' z15 t79 t80 H' => N.toNat - t80.toNat) ?_ ⟨rfl, rfl, rfl, rfl, rfl, 0, rfl, Nat.zero_le _⟩
        rintro u'' t7' z15 t79 t80 H11 ⟨rfl, rfl, rfl, rfl, rfl, v, rfl, hv⟩ X2 hX2
        refine compasslaw08_ShortAlike.b2_eq ?_
        unfold compasslaw08_ShortAlike.b2_t
        refine bc (fun hlt => ?_) fun hge => kk H11 s0a
        have next : compasslaw08_ShortAlike.j2 u'' t7' z15 (N.toNat : Int) (v : Int) X2 E H11 K := by
          refine compasslaw08_ShortAlike.j2_eq ?_
          unfold compasslaw08_ShortAlike.j2_t
          rw [i64w (by omega) (by omega)]
          exact hX2 _ _ _ _ _ _ ⟨rfl, rfl, rfl, rfl, rfl, v + 1, by omega, by omega⟩ (by omega)
        simp only [get_at e2a, get_at e4, List.getElem?_cons_zero, List.getElem?_cons_succ, ldI_mk, ldS_mk]
        refine rDa.ixI (by omega) (by omega) ?_
        refine bc (fun h1 => ?_) fun _ => next
        refine rZa.ixI (by omega) (by omega) ?_
        refine bc (fun h2 => ?_) fun _ => next
        refine rDa.ixI (by omega) (by omega) ?_
        refine rDa.ixI (by omega) (by omega) ?_
        refine rZa.ixI (by omega) (by omega) ?_
        refine bc (fun h => ?_) fun _ => next
        exfalso
        have t1 := htri v (by omega)
        have t2 := hdt u''.toNat (by omega)
        have t3 := hzt v (by omega)
        simp only [Int.toNat_natCast] at h h2
        rw [i64w (by omega) (by omega)] at h
        omega
    · exfalso
      exact hC.ns (hS.stl hr.gr fun v _ => dz_or v)
end
end Go.Mz

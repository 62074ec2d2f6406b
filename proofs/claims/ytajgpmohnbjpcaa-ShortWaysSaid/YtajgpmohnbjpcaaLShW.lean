/-
  ShortWays, walked: whatever the graph and the nodes, it answers true and leaves what was there as it was.
-/
import Derived.Test.YtajgpmohnbjpcaaShA
import Derived.Test.YtajgpmohnbjpcaaMzS
import Derived.Test.YtajgpmohnbjpcaaGShW
set_option linter.unusedSimpArgs false
set_option linter.unusedVariables false
namespace Go.Mz
section
variable {E : Value → Hp → Prop}

theorem lways {N s v : Int} {ep : Option Addr} {n ec : Nat} {e : Nat → Edg} {H : Hp} {K : Bool → Hp → Prop} (he : Rdr H ep n e) (hn : n < 2 ^ 63)
    (kk : ∀ H', Step (fun _ => False) H H' → K true H') : compasslaw08_ShortWays.call N ep n ec s v E H K := by
  refine compasslaw08_ShortWays.of (compasslaw08_ShortWays.run_eq ?_)
  unfold compasslaw08_ShortWays.run_t
  refine nwk fun b1 H1 hb1 e1 s1 => ?_
  refine lawake8 fun H2 s2 => ?_
  have e12 := s2.keep _ _ e1 fun h => h
  have s02 := s1.and s2
  refine bcb (fun h => by cases h) fun _ => ?_
  simp only [get_at e12, List.getElem?_cons_zero, List.getElem?_cons_succ, ldI_mk, ldS_mk]
  -- what is refused
  have bad : ∀ (c : Int) (dp : Option Addr) (dn dc : Nat) H', Step (fun _ => False) H H' → c ≠ 0 → compasslaw08_ShortWays.j2 s v b1 none 0 0 0 c dp dn dc c E H' K := fun c dp dn dc H' s' hc => by
    refine compasslaw08_ShortWays.j2_eq ?_
    unfold compasslaw08_ShortWays.j2_t
    refine bcn (fun _ => ?_) fun h => (hc h).elim
    refine bc (fun _ => ?_) fun h => (h rfl).elim
    refine bc (fun _ => kk H' s') fun h => (h rfl).elim
  have bad1 : ∀ (c : Int) (dp : Option Addr) (dn dc : Nat) H', Step (fun _ => False) H H' → c ≠ 0 → compasslaw08_ShortWays.j1 s v b1 none 0 0 0 c dp dn dc c E H' K := fun c dp dn dc H' s' hc => by
    refine compasslaw08_ShortWays.j1_eq ?_
    unfold compasslaw08_ShortWays.j1_t
    refine bc (fun h => (hc h).elim) fun _ => bad c dp dn dc H' s' hc
  refine sway (he.keep s02 fun _ _ _ h => h) hn (fun hw H3 s3 => ?_) (fun hr hs0 hs1 hns H3 s3 => ?_) (fun hr hs0 hs1 dist via hS hv H3 s3 => ?_) (fun hr hs0 hs1 dist via hS hv0 hv1 hfar H3 s3 => ?_) fun hr hs0 hs1 dist via hS hv0 hv1 hlt H3 p m c f s3 rf ff hW hcost hm => ?_
  · have e13 := s3.keep _ _ e12 fun h => h
    have s03 := s02.and s3
    simp only [get_at e13, List.getElem?_cons_zero, List.getElem?_cons_succ, ldI_mk, ldS_mk]
    refine rdist (he.keep s03 fun _ _ _ h => h) (fun _ H6 s6 => ?_) (fun hr h1 h2 => (hw (wrg_zero.2 ⟨hr, h1, h2⟩)).elim) fun hr h1 h2 => (hw (wrg_zero.2 ⟨hr, h1, h2⟩)).elim
    refine bc (fun h => (hw h).elim) fun _ => ?_
    exact bad1 _ _ _ _ H6 (s03.and s6) hw
  · have e13 := s3.keep _ _ e12 fun h => h
    have s03 := s02.and s3
    simp only [get_at e13, List.getElem?_cons_zero, List.getElem?_cons_succ, ldI_mk, ldS_mk]
    refine rdist (he.keep s03 fun _ _ _ h => h) (fun hw => (hw (wrg_zero.2 ⟨hr, hs0, hs1⟩)).elim) (fun _ _ _ _ H6 s6 => ?_) fun _ _ _ h => (hns h).elim
    refine bc (fun h => absurd h (by decide)) fun _ => ?_
    exact bad1 _ _ _ _ H6 (s03.and s6) (by decide)
  · have hG := hr.gr
    have hst := hS.stl hG fun v _ => dz_or v
    have e13 := s3.keep _ _ e12 fun h => h
    have s03 := s02.and s3
    simp only [get_at e13, List.getElem?_cons_zero, List.getElem?_cons_succ, ldI_mk, ldS_mk]
    refine rdist (he.keep s03 fun _ _ _ h => h) (fun hw => (hw (wrg_zero.2 ⟨hr, hs0, hs1⟩)).elim) (fun _ _ _ h => (h hst).elim) fun _ _ _ _ H6 p c s6 r6 f6 => ?_
    have e16 := s6.keep _ _ e13 fun h => h
    refine bc (fun _ => ?_) fun h => (h (by trivial)).elim
    refine bc (fun _ => bad1 30 _ _ _ H6 (s03.and s6) (by decide)) fun h0 => ?_
    simp only [get_at e16, List.getElem?_cons_zero, List.getElem?_cons_succ, ldI_mk, ldS_mk]
    refine bc (fun _ => bad1 30 _ _ _ H6 (s03.and s6) (by decide)) fun h1 => ?_
    exact (hv.elim h0 h1).elim
  · have hG := hr.gr
    have hst := hS.stl hG fun v _ => dz_or v
    have e13 := s3.keep _ _ e12 fun h => h
    have s03 := s02.and s3
    have hN1 := hr.N1
    simp only [get_at e13, List.getElem?_cons_zero, List.getElem?_cons_succ, ldI_mk, ldS_mk]
    refine rdist (he.keep s03 fun _ _ _ h => h) (fun hw => (hw (wrg_zero.2 ⟨hr, hs0, hs1⟩)).elim) (fun _ _ _ h => (h hst).elim) fun _ _ _ _ H6 p c s6 r6 f6 => ?_
    have e16 := s6.keep _ _ e13 fun h => h
    refine bc (fun _ => ?_) fun h => (h (by trivial)).elim
    refine bc (fun h => by omega) fun h0 => ?_
    simp only [get_at e16, List.getElem?_cons_zero, List.getElem?_cons_succ, ldI_mk, ldS_mk]
    refine bc (fun h => by omega) fun h1 => ?_
    refine compasslaw08_ShortWays.j1_eq ?_
    unfold compasslaw08_ShortWays.j1_t
    refine bc (fun _ => ?_) fun h => (h rfl).elim
    refine r6.ixI (by omega) (by omega) ?_
    refine bc (fun _ => bad 5 _ _ _ H6 (s03.and s6) (by decide)) fun h => (h ?_).elim
    rw [hS.jacM hG (fun v _ => dz_or v) _ (by omega), hfar]
  · have hG := hr.gr
    have hst := hS.stl hG fun v _ => dz_or v
    have e13 := s3.keep _ _ e12 fun h => h
    have s03 := s02.and s3
    have hN1 := hr.N1
    have hjd := hS.jacM hG (fun v _ => dz_or v) v.toNat (by omega)
    simp only [get_at e13, List.getElem?_cons_zero, List.getElem?_cons_succ, ldI_mk, ldS_mk]
    refine rdist (he.keep s03 fun _ _ _ h => h) (fun hw => (hw (wrg_zero.2 ⟨hr, hs0, hs1⟩)).elim) (fun _ _ _ h => (h hst).elim) fun _ _ _ _ H6 p' c' s6 r6 f6 => ?_
    have e16 := s6.keep _ _ e13 fun h => h
    have s06 := s03.and s6
    have rf6 := rf.keep s6 fun _ _ h => h
    refine bc (fun _ => ?_) fun h => (h (by trivial)).elim
    refine bc (fun h => by omega) fun h0 => ?_
    simp only [get_at e16, List.getElem?_cons_zero, List.getElem?_cons_succ, ldI_mk, ldS_mk]
    refine bc (fun h => by omega) fun h1 => ?_
    refine compasslaw08_ShortWays.j1_eq ?_
    unfold compasslaw08_ShortWays.j1_t
    refine bc (fun _ => ?_) fun h => (h rfl).elim
    refine r6.ixI (by omega) (by omega) ?_
    refine bc (fun h => ?_) fun _ => ?_
    · rw [hjd] at h
      have hF : Far = 4611686018427387904 := rfl
      omega
    · refine compasslaw08_ShortWays.j2_eq ?_
      unfold compasslaw08_ShortWays.j2_t
      refine bcn (fun h => (h rfl).elim) fun _ => ?_
      refine bc (fun _ => ?_) fun h => (h rfl).elim
      refine r6.ixI (by omega) (by omega) ?_
      refine bc (fun _ => ?_) fun h => (h hjd.symm).elim
      simp only [get_at e16, List.getElem?_cons_zero, List.getElem?_cons_succ, ldI_mk, ldS_mk]
      have es : s = (s.toNat : Int) := by omega
      have ev : v = (v.toNat : Int) := by omega
      have hway : ∀ K', (∀ H', Step (fun _ => False) H6 H' → K' true H') → compassref08_Way.call N ep n ec s v p m c E H6 K' := fun K' hk => by
        rw [es, ev]
        exact rway8 (he.keep s06 fun _ _ _ h => h) hr rf6.rdr (by omega) hW hk
      refine hway _ fun H7 s7 => ?_
      have e17 := s7.keep _ _ e16 fun h => h
      refine bcb (fun _ => ?_) fun h => by cases h
      simp only [get_at e17, List.getElem?_cons_zero, List.getElem?_cons_succ, ldI_mk, ldS_mk]
      refine rcost8 (he.keep (s06.and s7) fun _ _ _ h => h) hr (rf6.keep s7 fun _ _ h => h).rdr hW.rg (by omega) fun H8 s8 => ?_
      rw [decide_eq_true hcost]
      exact kk H8 ((s06.and s7).and s8)
end
end Go.Mz

/-
  ShortBellmans, walked: whatever the graph and the node, it answers true and leaves what was there as it was.
-/
import Derived.Test.YtajgpmohnbjpcaaShA
import Derived.Test.YtajgpmohnbjpcaaMzS
import Derived.Test.YtajgpmohnbjpcaaGShB
set_option linter.unusedSimpArgs false
set_option linter.unusedVariables false
namespace Go.Mz
section
variable {E : Value → Hp → Prop}

theorem lbellmans {N s : Int} {ep : Option Addr} {n ec : Nat} {e : Nat → Edg} {H : Hp} {K : Bool → Hp → Prop} (he : Rdr H ep n e) (hn : n < 2 ^ 63)
    (kk : ∀ H', Step (fun _ => False) H H' → K true H') : compasslaw08_ShortBellmans.call N ep n ec s E H K := by
  refine compasslaw08_ShortBellmans.of (compasslaw08_ShortBellmans.run_eq ?_)
  unfold compasslaw08_ShortBellmans.run_t
  refine nwk fun b1 H1 hb1 e1 s1 => ?_
  refine lawake8 fun H2 s2 => ?_
  have e12 := s2.keep _ _ e1 fun h => h
  have s02 := s1.and s2
  refine bcb (fun h => by cases h) fun _ => ?_
  simp only [get_at e12, List.getElem?_cons_zero, List.getElem?_cons_succ, ldI_mk, ldS_mk]
  refine sbellman (he.keep s02 fun _ _ _ h => h) hn (fun hw H3 s3 => ?_) (fun hr hs0 hs1 H3 bd bv dist via s3 fd fv dv rD rV hS => ?_) fun hr hs0 hs1 H3 p m c f s3 rf ff hC => ?_
  · refine nwst rfl rfl fun b2 H5 hb2 e2 s5 => ?_
    have s35 := s3.and s5
    have e15 := s35.keep _ _ e12 fun h => h
    have s05 := s02.and s35
    simp only [get_at e15, List.getElem?_cons_zero, List.getElem?_cons_succ, ldI_mk, ldS_mk]
    refine rdist (he.keep s05 fun _ _ _ h => h) (fun _ H6 s6 => ?_) (fun hr h1 h2 => (hw (wrg_zero.2 ⟨hr, h1, h2⟩)).elim) fun hr h1 h2 => (hw (wrg_zero.2 ⟨hr, h1, h2⟩)).elim
    refine bcn (fun h => (h rfl).elim) fun _ => ?_
    refine bc (fun h => (hw h).elim) fun _ => ?_
    have e26 := s6.keep _ _ e2 fun h => h
    simp only [get_at e26, List.getElem?_cons_zero, List.getElem?_cons_succ, ldI_mk, ldS_mk]
    refine bcn (fun h => (h (by trivial)).elim) fun _ => ?_
    try simp only [get_at e26, List.getElem?_cons_zero, List.getElem?_cons_succ, ldI_mk, ldS_mk]
    refine bcn (fun h => (h (by trivial)).elim) fun _ => ?_
    refine bcn (fun _ => ?_) fun h => ?_
    · exact kk H6 (s05.and s6)
    · exfalso
      have h1 := chk_range N n e
      unfold wrg at h
      split at h
      · split at h <;> cases h
      · omega
  · have hG := hr.gr
    have hN0 := hr.N0; have hN1 := hr.N1
    have hst := hS.stl hG fun v _ => dz_or v
    refine nwst rfl rfl fun b2 H5 hb2 e2 s5 => ?_
    have s35 := s3.and s5
    have e15 := s35.keep _ _ e12 fun h => h
    have s05 := s02.and s35
    have rD5 := rD.keep s5 fun _ _ h => h
    have rV5 := rV.keep s5 fun _ _ h => h
    simp only [get_at e15, List.getElem?_cons_zero, List.getElem?_cons_succ, ldI_mk, ldS_mk]
    refine rdist (he.keep s05 fun _ _ _ h => h) (fun hw => (hw (wrg_zero.2 ⟨hr, hs0, hs1⟩)).elim) (fun _ _ _ h => (h hst).elim) fun _ _ _ _ H6 p c s6 r6 f6 => ?_
    have e16 := s6.keep _ _ e15 fun h => h
    have e26 := s6.keep _ _ e2 fun h => h
    have s06 := s05.and s6
    have rD6 := rD5.keep s6 fun _ _ h => h
    have rV6 := rV5.keep s6 fun _ _ h => h
    refine bcn (fun h => (h (by trivial)).elim) fun _ => ?_
    refine bc (fun _ => ?_) fun h => (h (by trivial)).elim
    simp only [get_at e26, List.getElem?_cons_zero, List.getElem?_cons_succ, ldI_mk, ldS_mk]
    refine llongs rD6.rdr r6.rdr (by omega) rfl (fun i hi => (hS.jacM hG (fun v _ => dz_or v) i hi).symm) ?_
    refine bcb (fun _ => ?_) fun h => by cases h
    simp only [get_at e16, get_at e26, List.getElem?_cons_zero, List.getElem?_cons_succ, ldI_mk, ldS_mk]
    have es : s = (s.toNat : Int) := by omega
    rw [es]
    refine rtree (he.keep s06 fun _ _ _ h => h) hr (by omega) rD6.rdr rV6.rdr hS fun H7 s7 => ?_
    refine bcb (fun _ => ?_) fun h => by cases h
    exact kk H7 (s06.and s7)
  · have hG := hr.gr
    have hN0 := hr.N0; have hN1 := hr.N1; have hn1 := hr.n1
    have hm0 := hC.cyc.m0
    have hmn := hC.cyc.mn
    refine nwst rfl rfl fun b2 H5 hb2 e2 s5 => ?_
    have s35 := s3.and s5
    have e15 := s35.keep _ _ e12 fun h => h
    have s05 := s02.and s35
    have rf5 := rf.keep s5 fun _ _ h => h
    simp only [get_at e15, List.getElem?_cons_zero, List.getElem?_cons_succ, ldI_mk, ldS_mk]
    refine rdist (he.keep s05 fun _ _ _ h => h) (fun hw => (hw (wrg_zero.2 ⟨hr, hs0, hs1⟩)).elim) (fun _ _ _ _ H6 s6 => ?_) fun _ _ _ h => (hC.ns h).elim
    have e16 := s6.keep _ _ e15 fun h => h
    have e26 := s6.keep _ _ e2 fun h => h
    have s06 := s05.and s6
    refine bcn (fun h => (h (by trivial)).elim) fun _ => ?_
    refine bc (fun h => absurd h (by decide)) fun _ => ?_
    simp only [get_at e26, List.getElem?_cons_zero, List.getElem?_cons_succ, ldI_mk, ldS_mk]
    refine bcn (fun h => (h (by trivial)).elim) fun _ => ?_
    try simp only [get_at e26, List.getElem?_cons_zero, List.getElem?_cons_succ, ldI_mk, ldS_mk]
    refine bcn (fun h => (h (by trivial)).elim) fun _ => ?_
    refine bcn (fun h => (h (by trivial)).elim) fun _ => ?_
    simp only [get_at e16, List.getElem?_cons_zero, List.getElem?_cons_succ, ldI_mk, ldS_mk]
    refine rlevels (he.keep s06 fun _ _ _ h => h) hr hs0 hs1 fun H7 bl lv s7 fl rl hl0 hlc => ?_
    have e17 := s7.keep _ _ e16 fun h => h
    have s07 := s06.and s7
    have rf7 := rf5.keep (s6.and s7) fun _ _ h => h
    simp only [get_at e17, List.getElem?_cons_zero, List.getElem?_cons_succ, ldI_mk, ldS_mk]
    refine lbelow (he.keep s07 fun _ _ _ h => h) hr rf7.rdr hC.cyc fun H8 s8 => ?_
    have e18 := s8.keep _ _ e17 fun h => h
    have s08 := s07.and s8
    have rf8 := rf7.keep s8 fun _ _ h => h
    have rl8 := rl.keep s8 fun _ _ h => h
    refine bcb (fun _ => ?_) fun h => by cases h
    simp only [get_at e18, List.getElem?_cons_zero, List.getElem?_cons_succ, ldI_mk, ldS_mk]
    obtain ⟨q0, q1⟩ := hC.cyc.rg 0 hm0
    obtain ⟨u, w, hu, hw, hun, hwn⟩ := (hr.ed (f 0).toNat (by omega)).nat
    have eu : ga e (f 0).toNat = u := by unfold ga; omega
    refine rf8.ixI (by omega) (by omega) ?_
    rw [show (0 : Int).toNat = 0 from rfl]
    refine (he.keep s08 fun _ _ _ h => h).edgeF (by omega) (by omega) ?_
    rw [hu]
    refine rl8.ixI (by omega) (by omega) ?_
    have hpos : 0 ≤ lv u := by
      have := hC.rch (fun v => 0 ≤ lv v) (fun v hv hf => by
        have : v = s.toNat := by
          unfold dz at hf
          split at hf
          · assumption
          · omega
        rw [this, hl0]; decide) hlc
      rwa [eu] at this
    rw [Int.toNat_natCast, decide_eq_true hpos]
    exact kk H8 s08
end
end Go.Mz

/-
  BlossomBeats, walked: whatever the graph and the edges, it answers true and leaves what was there as it was.
-/
import Derived.Test.YtmaeboaopebaiaaLBlA
import Derived.Test.YtmaeboaopebaiaaBlK
import Derived.Test.YtmaeboaopebaiaaRefA
import Derived.Test.YtmaeboaopebaiaaGLBB
set_option linter.unusedSimpArgs false
set_option linter.unusedVariables false
namespace Go.Mz
section
variable {E : Value → Hp → Prop}

theorem lbbeats {N : Int} {ep : Option Addr} {n ec : Nat} {e : Nat → Edg} {op : Option Addr} {k oc : Nat} {o : Nat → Int} {H : Hp} {K : Bool → Hp → Prop} (he : Rdr H ep n e) (hn : n < 2 ^ 62) (ho : Rdr H op k o) (hk : k < 2 ^ 62)
    (kk : ∀ H', Step (fun _ => False) H H' → K true H') : compasslaw17_BlossomBeats.call N ep n ec op k oc E H K := by
  refine compasslaw17_BlossomBeats.of (compasslaw17_BlossomBeats.run_eq ?_)
  unfold compasslaw17_BlossomBeats.run_t
  refine nwk fun b1 H1 hb1 e1 s1 => ?_
  refine lawake17 fun H2 s2 => ?_
  have e12 := s2.keep _ _ e1 fun h => h
  have s02 := s1.and s2
  refine bcb (fun h => by cases h) fun _ => ?_
  simp only [get_at e12, List.getElem?_cons_zero, List.getElem?_cons_succ, ldI_mk, ldS_mk]
  refine sBlo (he.keep s02 fun _ _ _ h => h) (by omega) fun H3 mp mn mc g cp cn cc cv s3 r1 r2 f1 f2 f12 l1 l2 hF => ?_
  have e13 := s3.keep _ _ e12 fun h => h
  have s03 := s02.and s3
  rcases hF with ⟨h0, rfl, rfl⟩ | ⟨h0, hr, hA⟩
  · refine bcn (fun _ => ?_) fun h => (h0 h).elim
    refine compasslaw17_BlossomBeats.j1_eq ?_
    unfold compasslaw17_BlossomBeats.j1_t
    exact bc (fun h => (h0 h).elim) fun _ => kk H3 s03
  · refine bcn (fun h => (h h0).elim) fun _ => ?_
    have hN0 := hr.N0; have hN1 := hr.N1; have hn1 := hr.n1
    obtain ⟨M, rfl⟩ : ∃ M : Nat, N = M := ⟨N.toNat, by omega⟩
    rw [Int.toNat_natCast] at hA
    simp only [get_at e13, List.getElem?_cons_zero, List.getElem?_cons_succ, ldI_mk, ldS_mk]
    refine rmatches (he.keep s03 fun _ _ _ h => h) hr (ho.keep s03 fun _ _ _ h => h) (by omega) (fun H4 s4 ht => ?_) fun H4 s4 _ => ?_
    · have e14 := s4.keep _ _ e13 fun h => h
      have s04 := s03.and s4
      refine bcb (fun h => by cases h) fun _ => ?_
      obtain ⟨b', hb', hcnt, hzero⟩ := ht.mm hr
      have hle : k ≤ mn := by
        have := hA.mx b' hb'
        omega
      refine bc (fun h => by omega) fun _ => ?_
      have rs := r2.keep s4 fun _ _ h => h
      refine compasslaw17_BlossomBeats.l1_rule (fun op' on' oc' g2 ap an ac tp tn tc t39 t40 H' => op' = op ∧ on' = k ∧ g2 = b1 ∧ an = mn ∧ tp = cp ∧ tn = cn ∧ t39 = (cn : Int) ∧ ∃ i : Nat, t40 = i ∧ i ≤ cn ∧ Step (fun _ => False) H4 H')
        (fun op' on' oc' g2 ap an ac tp tn tc t39 t40 H' => cn - t40.toNat) ?_ ⟨rfl, rfl, rfl, rfl, rfl, rfl, rfl, 0, rfl, Nat.zero_le _, .refl⟩
      rintro op' on' oc' g2 ap an ac tp tn tc t39 t40 H5 ⟨rfl, rfl, rfl, rfl, rfl, rfl, rfl, i, rfl, hi, s5⟩ X hX
      have s05 := s04.and s5
      have e15 := s5.keep _ _ e14 fun h => h
      refine compasslaw17_BlossomBeats.b1_eq ?_
      unfold compasslaw17_BlossomBeats.b1_t
      refine bc (fun hlt => ?_) fun _ => kk H5 s05
      refine (rs.keep s5 fun _ _ h => h).ixI (by omega) (by omega) ?_
      rw [Int.toNat_natCast]
      simp only [get_at e15, List.getElem?_cons_zero, List.getElem?_cons_succ, ldI_mk, ldS_mk]
      refine rat (he.keep s05 fun _ _ _ h => h) hn1 (ho.keep s05 fun _ _ _ h => h) ht.ris fun H6 s6 => ?_
      have next : compasslaw17_BlossomBeats.j2 op' on' oc' g2 ap an ac tp tn tc (tn : Int) (i : Int) X E H6 K := by
        refine compasslaw17_BlossomBeats.j2_eq ?_
        unfold compasslaw17_BlossomBeats.j2_t
        rw [i64w (by omega) (by omega)]
        exact hX _ _ _ _ _ _ _ _ _ _ _ _ _ ⟨rfl, rfl, rfl, rfl, rfl, rfl, rfl, i + 1, by omega, by omega, s5.and s6⟩ (by omega)
      refine bc (fun hz => ?_) fun _ => next
      refine bc (fun heq => ?_) fun _ => next
      -- a node of the set is left out by no largest matching
      exfalso
      have hri := hA.lrg.ris i (by omega)
      obtain ⟨x, hx⟩ : ∃ x : Nat, cv i = x := ⟨(cv i).toNat, by omega⟩
      obtain ⟨hxM, hnd, _⟩ := (hA.set x).1 ⟨i, by omega, hx⟩
      rw [hx] at hz
      exact hnd ⟨b', hb', (hzero x hxM).2 (by omega), by omega⟩
    · refine bcb (fun _ => ?_) fun h => by cases h
      refine compasslaw17_BlossomBeats.j1_eq ?_
      unfold compasslaw17_BlossomBeats.j1_t
      exact bc (fun _ => kk H4 (s03.and s4)) fun h => (h h0).elim
end
end Go.Mz

/-
  BlossomProved, walked: whatever the graph and the side, it answers true and leaves what was there as it was.
-/
import Derived.Test.YtmaeboaopebaiaaLBlA
import Derived.Test.YtmaeboaopebaiaaPkZ
import Derived.Test.YtmaeboaopebaiaaGLBP
set_option linter.unusedSimpArgs false
set_option linter.unusedVariables false
namespace Go.Mz
section
variable {E : Value → Hp → Prop}

theorem lbproved {N left : Int} {ep : Option Addr} {n ec : Nat} {e : Nat → Edg} {H : Hp} {K : Bool → Hp → Prop} (he : Rdr H ep n e) (hn : n < 2 ^ 62)
    (kk : ∀ H', Step (fun _ => False) H H' → K true H') : compasslaw17_BlossomProved.call N ep n ec left E H K := by
  refine compasslaw17_BlossomProved.of (compasslaw17_BlossomProved.run_eq ?_)
  unfold compasslaw17_BlossomProved.run_t
  refine nwk fun b1 H1 hb1 e1 s1 => ?_
  refine lawake17 fun H2 s2 => ?_
  have e12 := s2.keep _ _ e1 fun h => h
  have s02 := s1.and s2
  refine bcb (fun h => by cases h) fun _ => ?_
  simp only [get_at e12, List.getElem?_cons_zero, List.getElem?_cons_succ, ldI_mk, ldS_mk]
  refine sBlo (he.keep s02 fun _ _ _ h => h) (by omega) fun H3 mp mn mc g cp cn cc cv s3 r1 r2 f1 f2 f12 l1 l2 hF => ?_
  have e13 := s3.keep _ _ e12 fun h => h
  have s03 := s02.and s3
  rcases hF with ⟨h0, rfl, rfl⟩ | ⟨h0, hr, hA⟩
  · refine bcn (fun _ => ?_) fun h => (h0 h).elim
    refine bct rfl ?_
    exact kk H3 s03
  · refine bcn (fun h => (h h0).elim) fun _ => ?_
    have hN0 := hr.N0; have hN1 := hr.N1; have hn1 := hr.n1
    have hl := hA.lrgN hr
    have hlen := hl.tk.ris.len
    simp only [get_at e13, List.getElem?_cons_zero, List.getElem?_cons_succ, ldI_mk, ldS_mk]
    refine vLargest (he.keep s03 fun _ _ _ h => h) (by omega) r1.rdr (by omega) r2.rdr (by omega) fun H4 c s4 ho => ?_
    have e14 := s4.keep _ _ e13 fun h => h
    have s04 := s03.and s4
    have hc := ho.good hr hl
    subst hc
    refine bcn (fun h => (h rfl).elim) fun _ => ?_
    simp only [if_true]
    refine bcn (fun h => (h (by trivial)).elim) fun _ => ?_
    simp only [get_at e14, List.getElem?_cons_zero, List.getElem?_cons_succ, ldI_mk, ldS_mk]
    refine vNoPerfect (he.keep s04 fun _ _ _ h => h) (by omega) (r2.keep s4 fun _ _ h => h).rdr (by omega) fun H5 c s5 hno => ?_
    have e15 := s5.keep _ _ e14 fun h => h
    have s05 := s04.and s5
    simp only [get_at e15, List.getElem?_cons_zero, List.getElem?_cons_succ, ldI_mk, ldS_mk]
    refine ⟨trivial, ?_⟩
    have hz : c = 0 ↔ 2 * (mn : Int) < N := by
      have heq := hl.eq
      constructor
      · intro hc
        have := (hno.ok hc).2.lt
        omega
      · intro hlt
        exact hno.good hr ⟨hl.ris, by omega⟩
    rw [i64w (by omega) (by omega)]
    refine bcb (fun h => ?_) fun _ => ?_
    · have e9 : decide (c = 0) = decide (2 * (mn : Int) < N) := by rw [decide_eq_decide]; exact hz
      rw [e9] at h; simp at h
    · refine sPair (he.keep s05 fun _ _ _ h => h) (by omega) fun H6 mp' mn' mc' g' cp' cn' cc' cv' s6 r1' r2' f1' f2' f12' l1' l2' hF' => ?_
      refine bcn (fun _ => kk H6 (s05.and s6)) fun hz' => ?_
      rcases hF' with ⟨h, _⟩ | ⟨_, _, _, hC⟩
      · exact (h hz').elim
      · have h1 := cover_bound hr hl.tk hC.cvr
        have h2 := barrier_bound (set := cv) (q := cn) hr hC.tk
        have h3 := hl.eq
        have h4 := hC.eq
        rw [decide_eq_true (by omega)]
        exact kk H6 (s05.and s6)
end
end Go.Mz

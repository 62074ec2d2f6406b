/-
  BlossomSmall, walked: on a small graph the answer is the one that the document's own words give; true whatever the graph.
-/
import Derived.Test.YtmaeboaopebaiaaPkQ
import Derived.Test.YtmaeboaopebaiaaRefS
import Derived.Test.YtmaeboaopebaiaaGLBM
set_option linter.unusedSimpArgs false
set_option linter.unusedVariables false
namespace Go.Mz
section
variable {E : Value → Hp → Prop}

theorem lbsmall {N : Int} {ep : Option Addr} {n ec : Nat} {e : Nat → Edg} {H : Hp} {K : Bool → Hp → Prop} (he : Rdr H ep n e) (hn : n < 2 ^ 62)
    (kk : ∀ H', Step (fun _ => False) H H' → K true H') : compasslaw17_BlossomSmall.call N ep n ec E H K := by
  refine compasslaw17_BlossomSmall.of (compasslaw17_BlossomSmall.run_eq ?_)
  unfold compasslaw17_BlossomSmall.run_t
  refine nwk fun b1 H1 hb1 e1 s1 => ?_
  refine lawake17 fun H2 s2 => ?_
  have e12 := s2.keep _ _ e1 fun h => h
  have s02 := s1.and s2
  refine bcb (fun h => by cases h) fun _ => ?_
  simp only [get_at e12, List.getElem?_cons_zero, List.getElem?_cons_succ, ldI_mk, ldS_mk]
  refine sBlo (he.keep s02 fun _ _ _ h => h) (by omega) fun H3 mp mn mc g cp cn cc cv s3 r1 r2 f1 f2 f12 l1 l2 hF => ?_
  have e13 := s3.keep _ _ e12 fun h => h
  have s03 := s02.and s3
  have out : ∀ {a : Int}, (a ≠ 0 → mn = 0) → compasslaw17_BlossomSmall.j1 mp mn mc a E H3 K := fun {a} h => by
    refine compasslaw17_BlossomSmall.j1_eq ?_
    unfold compasslaw17_BlossomSmall.j1_t
    refine bc (fun _ => kk H3 s03) fun hne => ?_
    rw [decide_eq_true (by have := h hne; omega)]
    exact kk H3 s03
  rcases hF with ⟨h0, rfl, rfl⟩ | ⟨h0, hr, hA⟩
  · exact bcn (fun _ => out fun _ => rfl) fun h => (h0 h).elim
  · refine bcn (fun h => (h h0).elim) fun _ => ?_
    simp only [get_at e13, List.getElem?_cons_zero, List.getElem?_cons_succ, ldI_mk, ldS_mk]
    refine bc (fun _ => out fun h => (h h0).elim) fun hN => ?_
    try simp only [get_at e13, List.getElem?_cons_zero, List.getElem?_cons_succ, ldI_mk, ldS_mk]
    refine bc (fun _ => out fun h => (h h0).elim) fun hn11 => ?_
    have hN0 := hr.N0; have hN1 := hr.N1; have hn1 := hr.n1
    try simp only [get_at e13, List.getElem?_cons_zero, List.getElem?_cons_succ, ldI_mk, ldS_mk]
    have hM : ((N.toNat : Nat) : Int) = N := by omega
    generalize N.toNat = M at hA hM
    subst hM
    refine rmost n hn1 (he.keep s03 fun _ _ _ h => h) fun H4 p4 c4 L s4 hL r4 => ?_
    have e14 := s4.keep _ _ e13 fun h => h
    have s04 := s03.and s4
    have hk : mn = L.length := by
      obtain ⟨⟨b1, hb1, hc1⟩, hm1⟩ := hL.len hr
      obtain ⟨b2, hb2, hc2⟩ := hA.ex
      have h1 := hm1 b2 hb2 mn hc2
      have h2 := hA.mx b1 hb1
      omega
    refine bct (by rw [hk]) ?_
    simp only [get_at e14, List.getElem?_cons_zero, List.getElem?_cons_succ, ldI_mk, ldS_mk]
    refine rset (he.keep s04 fun _ _ _ h => h) hr hA.mx hA.ex fun H5 p5 q c5 gs s5 r5 hq hris hin => ?_
    have hset := ris_same hA.lrg.ris hris fun x => by
      constructor
      · rintro ⟨i, hi, ei⟩
        have hri := hA.lrg.ris i hi
        obtain ⟨y, hy⟩ : ∃ y : Nat, x = y := ⟨x.toNat, by omega⟩
        rw [hy]
        exact (hin y).2 ((hA.set y).1 ⟨i, hi, by omega⟩)
      · rintro ⟨i, hi, ei⟩
        have hri := hris i hi
        obtain ⟨y, hy⟩ : ∃ y : Nat, x = y := ⟨x.toNat, by omega⟩
        rw [hy]
        exact (hA.set y).2 ((hin y).1 ⟨i, hi, by omega⟩)
    refine lints17 (r2.keep (s4.and s5) fun _ _ h => h).rdr r5.rdr (by omega) hset.1 hset.2 ?_
    exact kk H5 (s04.and s5)
end
end Go.Mz

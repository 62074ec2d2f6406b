/-
  The document's functions of layer 12, walked, more: Many, and Same of layer 03.
-/
import Derived.Test.YtbocpfdlfnodfaaRefC
import Derived.Test.YtbocpfdlfnodfaaRefD
set_option linter.unusedSimpArgs false
set_option linter.unusedVariables false
namespace Go.Mz
section
variable {E : Value → Hp → Prop}

theorem GadB.right {N : Int} {n : Nat} {e : Nat → Edg} {b : Nat → Int} {bn : Nat} {c : Int} (h : GadB N n e b bn c) : ¬ (Right N n e ∧ Bnd N b bn ∧ Gsz e (cps e n b) N.toNat n) := by
  rintro ⟨h1, h2, h3⟩
  rcases h with ⟨hc, h⟩ | ⟨_, _, h⟩ | ⟨_, _, _, h⟩
  · exact h (by rw [hc]; exact chk_zero.2 h1)
  · exact h h2
  · exact h h3

theorem GadB.det {N : Int} {n : Nat} {e : Nat → Edg} {b : Nat → Int} {bn : Nat} {c c' : Int} (h : GadB N n e b bn c) (h' : GadB N n e b bn c') : c = c' := by
  have hz : chk N n e = 0 ↔ Right N n e := chk_zero
  rcases h with ⟨a1, a2⟩ | ⟨a1, a2, a3⟩ | ⟨a1, a2, a3, a4⟩ <;> rcases h' with ⟨d1, d2⟩ | ⟨d1, d2, d3⟩ | ⟨d1, d2, d3, d4⟩
  · rw [a1, d1]
  · exact absurd (by rw [a1]; exact hz.2 d2) a2
  · exact absurd (by rw [a1]; exact hz.2 d2) a2
  · exact absurd (by rw [d1]; exact hz.2 a2) d2
  · rw [a1, d1]
  · exact absurd d3 a3
  · exact absurd (by rw [d1]; exact hz.2 a2) d2
  · exact absurd a3 d3
  · rw [a1, d1]

theorem MnyO.det {N : Int} {n : Nat} {e : Nat → Edg} {b : Nat → Int} {bn : Nat} {m : Nat → Int} {k : Nat} {set : Nat → Int} {q : Nat} {c c' : Int} (h : MnyO N n e b bn m k set q c) (h' : MnyO N n e b bn m k set q c') : c = c' := by
  rcases h with ⟨a1, a2, a3, a4, a5⟩ | a | ⟨a1, a2, a3, a4, a5⟩ <;> rcases h' with ⟨d1, d2, d3, d4, d5⟩ | d | ⟨d1, d2, d3, d4, d5⟩
  · rw [a1, d1]
  · exact absurd ⟨a2, a3, a4⟩ d.right
  · exact absurd a5 d5
  · exact absurd ⟨d2, d3, d4⟩ a.right
  · exact a.det d
  · exact absurd ⟨d2, d3, d4⟩ a.right
  · exact absurd d5 a5
  · exact absurd ⟨a2, a3, a4⟩ d.right
  · rw [a1, d1]

theorem rmany {N : Int} {ep : Option Addr} {n ec : Nat} {e : Nat → Edg} {bp : Option Addr} {bn bk : Nat} {b : Nat → Int} {p : Option Addr} {k c : Nat} {m : Nat → Int} {vp : Option Addr} {q vc : Nat} {set : Nat → Int} {H : Hp} {K : Int → Int → Hp → Prop}
    (he : Rdr H ep n e) (hb : Rdr H bp bn b) (hbn : bn < 2 ^ 63) (hm : Rdr H p k m) (hk : k < 2 ^ 63) (hv : Rdr H vp q set) (hq : q < 2 ^ 63)
    (kk : ∀ H' c, Step (fun _ => False) H H' → MnyO N n e b bn m k set q c → K (if c = 0 then (k : Int) else 0) c H') : compassref12_Many.call N ep n ec bp bn bk p k c vp q vc E H K := by
  refine compassref12_Many.of (compassref12_Many.run_eq ?_)
  unfold compassref12_Many.run_t
  refine nwk fun b1 H1 hb1 e1 s1 => ?_
  simp only [get_at e1, List.getElem?_cons_zero, List.getElem?_cons_succ, ldI_mk, ldS_mk]
  refine rgadget (he.keep s1 fun _ _ _ h => h) (hb.keep s1 fun _ _ _ h => h) hbn (fun H2 op oc s2 hr hbd hsz ro hnew => ?_) fun H2 cd s2 hg => ?_
  · refine nwst rfl rfl fun gb H3 hgb e3 s3 => ?_
    have s02 := s1.and s2
    have s03 := s02.and s3
    refine bcn (fun h => (h rfl).elim) fun _ => ?_
    have e13 := (s2.and s3).keep _ _ e1 fun h => h
    simp only [get_at e13, List.getElem?_cons_zero, List.getElem?_cons_succ, ldI_mk, ldS_mk]
    have hno : ∀ H', Step (fun _ => False) H H' → ¬ MnyP N n e b m k set q → K 0 221 H' := fun H' s h => by
      have := kk H' 221 s (.inr (.inr ⟨rfl, hr, hbd, hsz, h⟩))
      rwa [if_neg (by decide)] at this
    have hN0 := hr.N0; have hN1 := hr.N1; have hn1 := hr.n1
    have hcb : ∀ v, v < N.toNat → 0 ≤ cps e n b v := fun v hv => (cps_bound (e := e) (n := n) hbd (v := v) (by have := hbd.len; omega)).1
    have hgr := gad_right hr hcb hsz
    have hG0 := hgr.N0; have hG1 := hgr.N1; have hG2 := hgr.n1
    refine rtaken (he.keep s03 fun _ _ _ h => h) hr (hm.keep s03 fun _ _ _ h => h) hk (hb.keep s03 fun _ _ _ h => h) (by have := hbd.len; omega) (fun v hv => (hbd.bnd v (by have := hbd.len; omega)).1) (fun H4 s4 ht => ?_) fun H4 s4 ht => bcb (fun _ => hno _ (s03.and s4) fun h => ht h.tk) fun h => by cases h
    refine bcb (fun h => by cases h) fun _ => ?_
    have s04 := s03.and s4
    have e4 := s4.keep _ _ e3 fun h => h
    simp only [get_at e4, List.getElem?_cons_zero, List.getElem?_cons_succ, ldI_mk, ldS_mk]
    refine rrising (hv.keep s04 fun _ _ _ h => h) hq (fun hs => ?_) fun hs => bcb (fun _ => hno _ s04 fun hh => hs hh.ris) fun h => by cases h
    refine bcb (fun h => by cases h) fun _ => ?_
    try simp only [get_at e4, List.getElem?_cons_zero, List.getElem?_cons_succ, ldI_mk, ldS_mk]
    have ro4 := ro.keep (s3.and s4) fun _ _ h => h
    refine rodd ro4.rdr hgr (hv.keep s04 fun _ _ _ h => h) hq fun H5 s5 => ?_
    have s05 := s04.and s5
    have e5 := s5.keep _ _ e4 fun h => h
    simp only [get_at e5, List.getElem?_cons_zero, List.getElem?_cons_succ, ldI_mk, ldS_mk, true_and]
    have ho := oddS_le (N := gnn e (cps e n b) N.toNat n) (n := (gel e (cps e n b) N.toNat n).length) (e := lsE (gel e (cps e n b) N.toNat n)) (set := set) (q := q)
    have hkn := ht.ris.len
    have hqn := hs.len
    have hnl := nol_le (e := e) n
    rw [i64w (n := (nol e n : Int) + (k : Int)) (by omega) (by omega), i64w (n := 2 * ((nol e n : Int) + (k : Int))) (by omega) (by omega), i64w (n := gnn e (cps e n b) N.toNat n + (q : Int)) (by omega) (by omega), i64w (by omega) (by omega)]
    refine bcn (fun h => hno _ s05 fun hh => h (by have := hh.eq; omega)) fun h => ?_
    have := kk H5 0 s05 (.inl ⟨rfl, hr, hbd, hsz, ht, hs, by omega⟩)
    rwa [if_pos rfl] at this
  · refine nwst rfl rfl fun gb H3 hgb e3 s3 => ?_
    refine bcn (fun _ => ?_) fun h => (hg.ne h).elim
    have := kk H3 cd ((s1.and s2).and s3) (.inr (.inl hg))
    rwa [if_neg hg.ne] at this
end
end Go.Mz

/-
  Walks of layer 12, more: Largest, NoPerfect.
-/
import Derived.Test.YtjdhhepphbhjgaaVouF
import Derived.Test.YtjdhhepphbhjgaaVouE
set_option linter.unusedSimpArgs false
set_option linter.unusedVariables false
namespace Go.Mz
section
variable {E : Value → Hp → Prop}

open Classical in
/-- so many parts with an odd number of nodes are left without these nodes -/
noncomputable def oddS (N : Int) (n : Nat) (e : Nat → Edg) (set : Nat → Int) (q : Nat) : Nat := oddN N n e fun v => decide (In set q v)

theorem oddS_le {N : Int} {n : Nat} {e : Nat → Edg} {set : Nat → Int} {q : Nat} : oddS N n e set q ≤ N.toNat := oddB_le _

structure LrgP (N : Int) (n : Nat) (e : Nat → Edg) (m : Nat → Int) (k : Nat) (set : Nat → Int) (q : Nat) : Prop where
  tk : Tkn N n e m k fun _ => 1
  ris : Ris set q N
  eq : 2 * (k : Int) = N + q - oddS N n e set q

structure NopP (N : Int) (n : Nat) (e : Nat → Edg) (set : Nat → Int) (q : Nat) : Prop where
  ris : Ris set q N
  lt : q < oddS N n e set q

theorem vlargest1 {N : Int} {ep : Option Addr} {n ec : Nat} {e : Nat → Edg} {p : Option Addr} {k c : Nat} {m : Nat → Int} {vp : Option Addr} {q vc : Nat} {set : Nat → Int} {c0 c1 c2 c3 : Nat} {H : Hp} {K : Hp → Prop}
    (h0 : H c0 = some ⟨[.int .i64 N, .slice ep n ec], 24⟩) (h1 : H c1 = some ⟨[.slice p k c], 25⟩) (h2 : H c2 = some ⟨[.slice vp q vc], 25⟩) (h3 : H c3 = some ⟨[.int .i64 0], 3⟩)
    (he : Rdr H ep n e) (hn : n < 2 ^ 63) (hm : Rdr H p k m) (hk : k < 2 ^ 63) (hv : Rdr H vp q set) (hq : q < 2 ^ 63)
    (kk : ∀ H', Step (· = c3) H H' → H' c3 = some ⟨[.int .i64 k], 3⟩ → Right N n e → LrgP N n e m k set q → K H')
    (bad : ∀ H' c, Step (fun _ => False) H H' → c ≠ 0 → Out N n e (LrgP N n e m k set q) c → E (pv c) H') : vouch_Largest_1.call c0 0 c1 0 c2 0 c3 0 E H K := by
  refine vouch_Largest_1.of (vouch_Largest_1.run_eq ?_)
  unfold vouch_Largest_1.run_t
  simp only [get_at h0, List.getElem?_cons_zero, List.getElem?_cons_succ, ldI_mk, ldS_mk, Nat.zero_add]
  refine vright he hn (fun H1 s1 hr => ?_) fun H1 s1 hc => bad _ _ s1 hc (.inr (.inl ⟨rfl, hc⟩))
  have h01 := s1.keep _ _ h0 fun h => h
  have h11 := s1.keep _ _ h1 fun h => h
  simp only [get_at h01, get_at h11, List.getElem?_cons_zero, List.getElem?_cons_succ, ldI_mk, ldS_mk]
  have hno : ∀ H', Step (fun _ => False) H H' → ¬ LrgP N n e m k set q → E (pv 221) H' := fun H' s h => bad _ _ s (by decide) (.inr (.inr ⟨rfl, hr, h⟩))
  refine vmatched (he.keep s1 fun _ _ _ h => h) hr (hm.keep s1 fun _ _ _ h => h) hk fun1_one (fun H2 s2 ht => ?_) fun H2 s2 ht => hno _ (s1.and s2) fun h => ht h.tk
  have s02 := s1.and s2
  have h02 := s02.keep _ _ h0 fun h => h
  have h12 := s02.keep _ _ h1 fun h => h
  have h22 := s02.keep _ _ h2 fun h => h
  simp only [get_at h02, get_at h12, get_at h22, List.getElem?_cons_zero, List.getElem?_cons_succ, ldI_mk, ldS_mk]
  have hN0 := hr.N0; have hN1 := hr.N1; have hn1 := hr.n1
  refine vmarked (hv.keep s02 fun _ _ _ h => h) hq hN0 (by omega) (fun b H3 hs s3 hb r3 => ?_) fun h => hno _ s02 fun hh => h hh.ris
  have s03 := s02.and s3
  have h03 := s03.keep _ _ h0 fun h => h
  have h13 := s03.keep _ _ h1 fun h => h
  have h23 := s03.keep _ _ h2 fun h => h
  simp only [get_at h03, get_at h13, get_at h23, List.getElem?_cons_zero, List.getElem?_cons_succ, ldI_mk, ldS_mk, true_and]
  refine vodd (he.keep s03 fun _ _ _ h => h) hr r3 fun H4 s4 => ?_
  have s04 := s03.and s4
  have h04 := s04.keep _ _ h0 fun h => h
  have h14 := s04.keep _ _ h1 fun h => h
  have h24 := s04.keep _ _ h2 fun h => h
  have h34 := s04.keep _ _ h3 fun h => h
  simp only [get_at h04, get_at h14, get_at h24, List.getElem?_cons_zero, List.getElem?_cons_succ, ldI_mk, ldS_mk, true_and]
  have hod : oddN N n e _ = oddS N n e set q := rfl
  rw [hod]
  have ho := oddS_le (N := N) (n := n) (e := e) (set := set) (q := q)
  have hkn := ht.ris.len
  have hqn := hs.len
  rw [i64w (n := 2 * (k : Int)) (by omega) (by omega), i64w (n := N + (q : Int)) (by omega) (by omega), i64w (by omega) (by omega)]
  refine vneedD (fun hh => ?_) fun hh => hno _ s04 fun h => hh h.eq
  simp only [get_at h14, List.getElem?_cons_zero, List.getElem?_cons_succ, ldI_mk, ldS_mk]
  refine stk h34 rfl rfl fun H5 e5 s5 => ?_
  exact kk _ ((s04.weak fun _ h => h.elim).trans s5 fun _ h => .inl h) e5 hr ⟨ht, hs, hh⟩

theorem vLargest {N : Int} {ep : Option Addr} {n ec : Nat} {e : Nat → Edg} {p : Option Addr} {k c : Nat} {m : Nat → Int} {vp : Option Addr} {q vc : Nat} {set : Nat → Int} {H : Hp} {K : Int → Int → Hp → Prop}
    (he : Rdr H ep n e) (hn : n < 2 ^ 63) (hm : Rdr H p k m) (hk : k < 2 ^ 63) (hv : Rdr H vp q set) (hq : q < 2 ^ 63)
    (kk : ∀ H' c, Step (fun _ => False) H H' → Out N n e (LrgP N n e m k set q) c → K (if c = 0 then (k : Int) else 0) c H') : vouch_Largest.call N ep n ec p k c vp q vc E H K := by
  refine vouch_Largest.of (vouch_Largest.run_eq ?_)
  unfold vouch_Largest.run_t
  refine nwk fun b1 H1 hb1 e1 s1 => ?_
  refine nwk fun b2 H2 hb2 e2 s2 => ?_
  refine nwk fun b3 H3 hb3 e3 s3 => ?_
  refine nwst rfl rfl fun b4 H4 hb4 e4 s4 => ?_
  have s04 := ((s1.and s2).and s3).and s4
  refine vlook rfl fun b H5 hb e5 s5 => ?_
  have s05 := s04.and s5
  have e1 := (((s2.and s3).and s4).and s5).keep _ _ e1 fun h => h
  have e2 := ((s3.and s4).and s5).keep _ _ e2 fun h => h
  have e3 := (s4.and s5).keep _ _ e3 fun h => h
  have e45 := s5.keep _ _ e4 fun h => h
  have fb : H b = none := s04.mono _ hb
  have f4 : H b4 = none := ((s1.and s2).and s3).mono _ hb4
  have ne : b4 ≠ b := ne_of_live hb (by rw [e4]; exact fun h => by cases h)
  refine callW_mono (fun v H' h => ldR_spec h) (fun _ _ h => h) (vlargest1 (K := fun H2 => H2 b = some ⟨[.int .i64 0], 27⟩ ∧ ∀ H3, Step (· = b) H2 H3 → ldI .i64 (H3.get b4 0) fun x => K x 0 H3) e1 e2 e3 e45 (he.keep s05 fun _ _ _ h => h) hn (hm.keep s05 fun _ _ _ h => h) hk (hv.keep s05 fun _ _ _ h => h) hq (fun H6 s6 e6 hr hP => ?_) fun H6 cd s6 hc ho => ?_)
  · refine ⟨s6.keep _ _ e5 fun h => ne h.symm, fun H7 s7 => ?_⟩
    have e7 := s7.keep _ _ e6 ne
    simp only [get_at e7, List.getElem?_cons_zero, ldI_mk]
    have := kk H7 0 ((s05.own s6 fun b' hb' => hb' ▸ f4).own s7 fun b' hb' => hb' ▸ fb) (.inl ⟨rfl, hr, hP⟩)
    rwa [if_pos rfl] at this
  · refine ⟨cd, rfl, s6.keep _ _ e5 fun h => h, fun H7 s7 => ?_⟩
    have e7 := s7.keep _ _ (s6.keep _ _ e45 fun h => h) ne
    simp only [get_at e7, List.getElem?_cons_zero, ldI_mk]
    have := kk H7 cd ((s05.and s6).own s7 fun b' hb' => hb' ▸ fb) ho
    rwa [if_neg hc] at this

theorem vnoperfect1 {N : Int} {ep : Option Addr} {n ec : Nat} {e : Nat → Edg} {vp : Option Addr} {q vc : Nat} {set : Nat → Int} {c0 c1 : Nat} {H : Hp} {K : Hp → Prop}
    (h0 : H c0 = some ⟨[.int .i64 N, .slice ep n ec], 24⟩) (h1 : H c1 = some ⟨[.slice vp q vc], 25⟩)
    (he : Rdr H ep n e) (hn : n < 2 ^ 63) (hv : Rdr H vp q set) (hq : q < 2 ^ 63)
    (kk : ∀ H', Step (fun _ => False) H H' → Right N n e → NopP N n e set q → K H')
    (bad : ∀ H' c, Step (fun _ => False) H H' → c ≠ 0 → Out N n e (NopP N n e set q) c → E (pv c) H') : vouch_NoPerfect_1.call c0 0 c1 0 E H K := by
  refine vouch_NoPerfect_1.of (vouch_NoPerfect_1.run_eq ?_)
  unfold vouch_NoPerfect_1.run_t
  simp only [get_at h0, List.getElem?_cons_zero, List.getElem?_cons_succ, ldI_mk, ldS_mk, Nat.zero_add]
  refine vright he hn (fun H1 s1 hr => ?_) fun H1 s1 hc => bad _ _ s1 hc (.inr (.inl ⟨rfl, hc⟩))
  have h01 := s1.keep _ _ h0 fun h => h
  have h11 := s1.keep _ _ h1 fun h => h
  simp only [get_at h01, get_at h11, List.getElem?_cons_zero, List.getElem?_cons_succ, ldI_mk, ldS_mk]
  have hno : ∀ H', Step (fun _ => False) H H' → ¬ NopP N n e set q → E (pv 221) H' := fun H' s h => bad _ _ s (by decide) (.inr (.inr ⟨rfl, hr, h⟩))
  have hN0 := hr.N0; have hN1 := hr.N1; have hn1 := hr.n1
  refine vmarked (hv.keep s1 fun _ _ _ h => h) hq hN0 (by omega) (fun b H3 hs s3 hb r3 => ?_) fun h => hno _ s1 fun hh => h hh.ris
  have s03 := s1.and s3
  have h03 := s03.keep _ _ h0 fun h => h
  have h13 := s03.keep _ _ h1 fun h => h
  simp only [get_at h03, get_at h13, List.getElem?_cons_zero, List.getElem?_cons_succ, ldI_mk, ldS_mk, true_and]
  refine vodd (he.keep s03 fun _ _ _ h => h) hr r3 fun H4 s4 => ?_
  have s04 := s03.and s4
  have h14 := s04.keep _ _ h1 fun h => h
  simp only [get_at h14, List.getElem?_cons_zero, List.getElem?_cons_succ, ldI_mk, ldS_mk, true_and]
  have hod : oddN N n e _ = oddS N n e set q := rfl
  rw [hod]
  refine vneedD (fun hh => ?_) fun hh => hno _ s04 fun h => hh (by have := h.lt; omega)
  exact kk _ s04 hr ⟨hs, by omega⟩

theorem vNoPerfect {N : Int} {ep : Option Addr} {n ec : Nat} {e : Nat → Edg} {vp : Option Addr} {q vc : Nat} {set : Nat → Int} {H : Hp} {K : Int → Hp → Prop} (he : Rdr H ep n e) (hn : n < 2 ^ 63) (hv : Rdr H vp q set) (hq : q < 2 ^ 63)
    (kk : ∀ H' c, Step (fun _ => False) H H' → Out N n e (NopP N n e set q) c → K c H') : vouch_NoPerfect.call N ep n ec vp q vc E H K := by
  refine vouch_NoPerfect.of (vouch_NoPerfect.run_eq ?_)
  unfold vouch_NoPerfect.run_t
  refine nwk fun b1 H1 hb1 e1 s1 => ?_
  refine nwk fun b2 H2 hb2 e2 s2 => ?_
  have s02 := s1.and s2
  refine vlook rfl fun b H3 hb e3 s3 => ?_
  have s03 := s02.and s3
  have e1 := (s2.and s3).keep _ _ e1 fun h => h
  have e2 := s3.keep _ _ e2 fun h => h
  have fb : H b = none := s02.mono _ hb
  refine callW_mono (fun v H' h => ldR_spec h) (fun _ _ h => h) (vnoperfect1 (K := fun H2 => H2 b = some ⟨[.int .i64 0], 27⟩ ∧ ∀ H3, Step (· = b) H2 H3 → K 0 H3) e1 e2 (he.keep s03 fun _ _ _ h => h) hn (hv.keep s03 fun _ _ _ h => h) hq (fun H4 s4 hr ht => ?_) fun H4 cd s4 hc ho => ?_)
  · exact ⟨s4.keep _ _ e3 fun h => h, fun H5 s5 => kk _ _ ((s03.and s4).own s5 fun b' hb' => hb' ▸ fb) (.inl ⟨rfl, hr, ht⟩)⟩
  · exact ⟨cd, rfl, s4.keep _ _ e3 fun h => h, fun H5 s5 => kk _ _ ((s03.and s4).own s5 fun b' hb' => hb' ▸ fb) ho⟩
end
end Go.Mz

/-
  The document's functions of layer 12, walked, more: Weights, Worth, Pair, Cheapest.
-/
import Derived.Test.YtjdhhepphbhjgaaRefB
import Derived.Test.YtjdhhepphbhjgaaPkW
import Derived.Test.YtjdhhepphbhjgaaGRed
set_option linter.unusedSimpArgs false
set_option linter.unusedVariables false
namespace Go.Mz
section
variable {E : Value → Hp → Prop}

theorem Rdr.slzS {H : Hp} {p : Option Addr} {n : Nat} {f : Nat → Sl × Int} (h : Rdr H p n f) {i : Int} (h0 : 0 ≤ i) (h1 : i < (n : Int)) {G : Option Addr → Nat → Nat → Prop}
    (k : G (f i.toNat).1.p (f i.toNat).1.n (f i.toNat).1.c) : Mz.ix p n i 2 fun b o => ldS (H.get b o) G := by
  refine h.ix (α := Sl × Int) h0 h1 fun b o _ hg => ?_
  have g0 := hg 0 (by decide)
  simp only [El.enc, Nat.add_zero] at g0
  simp at g0
  rw [g0]
  exact k

theorem Rdr.slzZ {H : Hp} {p : Option Addr} {n : Nat} {f : Nat → Sl × Int} (h : Rdr H p n f) {i : Int} (h0 : 0 ≤ i) (h1 : i < (n : Int)) {G : Int → Prop}
    (k : G (f i.toNat).2) : Mz.ix p n i 2 fun b o => ldI .i64 (H.get b (o + 1)) G := by
  refine h.ix (α := Sl × Int) h0 h1 fun b o _ hg => ?_
  have g1 := hg 1 (by decide)
  simp only [El.enc] at g1
  simp at g1
  rw [g1]
  exact k

theorem rweights {n : Int} {yp : Option Addr} {yn yc : Nat} {sp : Option Addr} {sn sc : Nat} {Y : Nat → Int} {z : Nat → Int} {sl : Nat → Sl} {nd : Nat → Nat → Int} {H : Hp} {K : Bool → Hp → Prop}
    (hdu : DualR H yp yn sp sn Y z sl nd) (hyn : yn < 2 ^ 63) (hsn : sn < 2 ^ 62)
    (kt : ∀ H', Step (fun _ => False) H H' → Wt n Y yn z (fun i => (sl i).n) nd sn → K true H') (kf : ∀ H', Step (fun _ => False) H H' → ¬ Wt n Y yn z (fun i => (sl i).n) nd sn → K false H') :
    compassref12_Weights.call n yp yn yc sp sn sc E H K := by
  refine compassref12_Weights.of (compassref12_Weights.run_eq ?_)
  unfold compassref12_Weights.run_t
  refine nwk fun db H1 hb1 e1 s1 => ?_
  simp only [get_at e1, List.getElem?_cons_zero, List.getElem?_cons_succ, ldI_mk, ldS_mk]
  refine rpots (hdu.keep s1).y hyn (fun H2 s2 hp => ?_) fun H2 s2 hp => bcb (fun _ => kf _ (s1.and s2) fun hh => hp ⟨hh.ylen, hh.ybnd⟩) fun h => by cases h
  refine bcb (fun h => by cases h) fun _ => ?_
  have s02 := s1.and s2
  have e12 := s2.keep _ _ e1 fun h => h
  simp only [get_at e12, List.getElem?_cons_zero, List.getElem?_cons_succ, ldI_mk, ldS_mk]
  refine bc (fun h => kf _ s02 fun hh => by have := hh.slen; omega) fun hsl => ?_
  refine compassref12_Weights.l1_rule (fun m d3 i5 H' => n = m ∧ db = d3 ∧ Step (fun _ => False) H2 H' ∧ ∃ i : Nat, i5 = i ∧ i ≤ sn ∧ ∀ a, a < i → (3 ≤ (sl a).n ∧ (sl a).n % 2 = 1) ∧ (0 ≤ z a ∧ z a ≤ 4398046511104) ∧ Ris (nd a) (sl a).n n)
    (fun m d3 i5 H' => sn - i5.toNat) ?_ ⟨rfl, rfl, .refl, 0, rfl, by omega, fun a ha => by omega⟩
  rintro m d3 i5 H3 ⟨rfl, rfl, s3, i, rfl, hi, hs⟩ X hX
  have s03 := s02.and s3
  have e13 := s3.keep _ _ e12 fun h => h
  have hd3 := hdu.keep s03
  refine compassref12_Weights.b1_eq ?_
  unfold compassref12_Weights.b1_t
  simp only [get_at e13, List.getElem?_cons_zero, List.getElem?_cons_succ, ldI_mk, ldS_mk]
  refine bc (fun hlt => ?_) fun hge => ?_
  · refine hd3.s.slz (by omega) (by omega) ?_
    simp only [Int.toNat_natCast]
    refine nwst rfl rfl fun b4 H4 hb4 e4 s4 => ?_
    have s04 := s03.and s4
    obtain ⟨hnr, hnl⟩ := hd3.nd i (by omega)
    simp only [get_at e4, List.getElem?_cons_zero, List.getElem?_cons_succ, ldI_mk, ldS_mk]
    refine bc (fun h => kf _ s04 fun hh => by have := (hh.sets i (by omega)).1.1; omega) fun g1 => ?_
    try simp only [get_at e4, List.getElem?_cons_zero, List.getElem?_cons_succ, ldI_mk, ldS_mk]
    refine ⟨by decide, ?_⟩
    have hmd : Int.tmod (((sl i).n : Nat) : Int) 2 = (((sl i).n % 2 : Nat) : Int) := by
      rw [Int.tmod_eq_emod_of_nonneg (by omega)]; omega
    rw [hmd]
    refine bc (fun h => kf _ s04 fun hh => by have := (hh.sets i (by omega)).1.2; omega) fun g2 => ?_
    try simp only [get_at e4, List.getElem?_cons_zero, List.getElem?_cons_succ, ldI_mk, ldS_mk]
    refine rrising (hnr.keep s4 fun _ _ _ h => h) hnl (fun hris => ?_) fun h => bcb (fun _ => kf _ s04 fun hh => h (hh.sets i (by omega)).2.2) fun h => by cases h
    refine bcb (fun h => by cases h) fun _ => ?_
    try simp only [get_at e4, List.getElem?_cons_zero, List.getElem?_cons_succ, ldI_mk, ldS_mk]
    refine bc (fun h => kf _ s04 fun hh => by have := (hh.sets i (by omega)).2.1.1; omega) fun g3 => ?_
    try simp only [get_at e4, List.getElem?_cons_zero, List.getElem?_cons_succ, ldI_mk, ldS_mk]
    refine bc (fun h => kf _ s04 fun hh => by have := (hh.sets i (by omega)).2.1.2; omega) fun g4 => ?_
    rw [i64w (by omega) (by omega)]
    refine hX _ _ _ _ ⟨rfl, rfl, s3.and s4, i + 1, by omega, by omega, fun a ha => ?_⟩ (by omega)
    by_cases ea : a = i
    · subst ea; exact ⟨⟨by omega, by omega⟩, ⟨by omega, by omega⟩, hris⟩
    · exact hs a (by omega)
  · have : i = sn := by omega
    subst this
    exact kt _ s03 ⟨hp.1, by omega, hp.2, hs⟩

theorem Wt.zb {n : Int} {Y : Nat → Int} {yn : Nat} {z : Nat → Int} {ln : Nat → Nat} {nd : Nat → Nat → Int} {sn : Nat} (h : Wt n Y yn z ln nd sn) (hn : n ≤ 1024) {a : Nat} (ha : a < sn) :
    0 ≤ z a * ((ln a / 2 : Nat) : Int) ∧ z a * ((ln a / 2 : Nat) : Int) ≤ 4398046511104 * 512 := by
  obtain ⟨h1, h2, h3⟩ := h.sets a ha
  have hl := h3.len
  exact ⟨Int.mul_nonneg h2.1 (by omega), Int.mul_le_mul h2.2 (by omega) (by omega) (by omega)⟩

theorem Wt.zt {n : Int} {Y : Nat → Int} {yn : Nat} {z : Nat → Int} {ln : Nat → Nat} {nd : Nat → Nat → Int} {sn : Nat} (h : Wt n Y yn z ln nd sn) (hn : n ≤ 1024) {a : Nat} (ha : a < sn) {t : Nat} (ht : t ≤ ln a / 2) :
    0 ≤ z a * (t : Int) ∧ z a * (t : Int) ≤ 4398046511104 * 512 := by
  obtain ⟨h1, h2, h3⟩ := h.sets a ha
  have hl := h3.len
  exact ⟨Int.mul_nonneg h2.1 (by omega), Int.mul_le_mul h2.2 (by omega) (by omega) (by omega)⟩

theorem rworth {n : Int} {yp : Option Addr} {yn yc : Nat} {sp : Option Addr} {sn sc : Nat} {Y : Nat → Int} {z : Nat → Int} {sl : Nat → Sl} {nd : Nat → Nat → Int} {H : Hp} {K : Int → Hp → Prop}
    (hdu : DualR H yp yn sp sn Y z sl nd) (hw : Wt n Y yn z (fun i => (sl i).n) nd sn) (hn : n ≤ 1024)
    (kk : ∀ H', Step (fun _ => False) H H' → K (wsum Y yn z (fun i => (sl i).n) sn) H') : compassref12_Worth.call yp yn yc sp sn sc E H K := by
  have hyl := hw.ylen
  have hsl := hw.slen
  refine compassref12_Worth.of (compassref12_Worth.run_eq ?_)
  unfold compassref12_Worth.run_t
  refine nwk fun db H1 hb1 e1 s1 => ?_
  have hd1 := hdu.keep s1
  refine compassref12_Worth.l1_rule (fun d x i4 H' => db = d ∧ H1 = H' ∧ ∃ i : Nat, i4 = i ∧ i ≤ yn ∧ x = psum Y i) (fun d x i4 H' => yn - i4.toNat) ?_ ⟨rfl, rfl, 0, rfl, by omega, rfl⟩
  rintro d x i4 H' ⟨rfl, rfl, i, rfl, hi, rfl⟩ X hX
  refine compassref12_Worth.b1_eq ?_
  unfold compassref12_Worth.b1_t
  simp only [get_at e1, List.getElem?_cons_zero, List.getElem?_cons_succ, ldI_mk, ldS_mk]
  have hp := psum_bound (f := Y) (a := -4398046511104) (b := 4398046511104) (i := i) fun v hv => hw.ybnd v (by omega)
  refine bc (fun hlt => ?_) fun hge => ?_
  · have hy := hw.ybnd i (by omega)
    refine hd1.y.ixI (by omega) (by omega) ?_
    simp only [Int.toNat_natCast]
    rw [i64w (n := psum Y i + Y i) (by omega) (by omega), i64w (by omega) (by omega)]
    exact hX _ _ _ _ ⟨rfl, rfl, i + 1, by omega, by omega, rfl⟩ (by omega)
  have : i = yn := by omega
  subst this
  clear hX
  refine compassref12_Worth.j1_eq ?_
  unfold compassref12_Worth.j1_t
  refine compassref12_Worth.l2_rule (fun d x i5 H' => db = d ∧ H1 = H' ∧ ∃ j : Nat, i5 = j ∧ j ≤ sn ∧ x = psum Y i - psum (fun a => z a * (((sl a).n / 2 : Nat) : Int)) j) (fun d x i5 H' => sn - i5.toNat) ?_ ⟨rfl, rfl, 0, rfl, by omega, by simp [psum]⟩
  rintro d x i5 H' ⟨rfl, rfl, j, rfl, hj, rfl⟩ X hX
  refine compassref12_Worth.b2_eq ?_
  unfold compassref12_Worth.b2_t
  simp only [get_at e1, List.getElem?_cons_zero, List.getElem?_cons_succ, ldI_mk, ldS_mk]
  have hpw := psum_bound (f := fun a => z a * (((sl a).n / 2 : Nat) : Int)) (a := 0) (b := 4398046511104 * 512) (i := j) fun a ha => hw.zb hn (by omega)
  refine bc (fun hlt => ?_) fun hge => ?_
  · refine compassref12_Worth.l3_rule (fun d x i5 k6 H' => db = d ∧ i5 = j ∧ H1 = H' ∧ ∃ t : Nat, k6 = 2 + 2 * (t : Int) ∧ t ≤ (sl j).n / 2 ∧ x = psum Y i - psum (fun a => z a * (((sl a).n / 2 : Nat) : Int)) j - z j * (t : Int))
      (fun d x i5 k6 H' => ((sl j).n + 2 - k6).toNat) ?_ ⟨rfl, rfl, rfl, 0, rfl, by omega, by simp⟩
    rintro d x i5 k6 H' ⟨rfl, rfl, rfl, t, rfl, ht, rfl⟩ X' hX'
    have hzt := hw.zt hn (a := j) (by omega) ht
    obtain ⟨hnr, hnl⟩ := hd1.nd j (by omega)
    have hodd := (hw.sets j (by omega)).1.2
    have hz := (hw.sets j (by omega)).2.1
    have hln := (hw.sets j (by omega)).2.2.len
    try simp only at hodd hln
    refine compassref12_Worth.b3_eq ?_
    unfold compassref12_Worth.b3_t
    simp only [get_at e1, List.getElem?_cons_zero, List.getElem?_cons_succ, ldI_mk, ldS_mk]
    refine hd1.s.slzS (by omega) (by omega) ?_
    simp only [Int.toNat_natCast]
    refine bc (fun hlt2 => ?_) fun hge2 => ?_
    · refine hd1.s.slzZ (by omega) (by omega) ?_
      simp only [Int.toNat_natCast]
      rw [i64w (n := _ - z j) (by omega) (by omega), i64w (by omega) (by omega)]
      refine hX' _ _ _ _ _ ⟨rfl, rfl, rfl, t + 1, by omega, by omega, ?_⟩ (by omega)
      rw [Int.natCast_add, Int.mul_add]
      omega
    · have et : t = (sl j).n / 2 := by omega
      subst et
      clear hX'
      refine compassref12_Worth.j2_eq ?_
      unfold compassref12_Worth.j2_t
      rw [i64w (by omega) (by omega)]
      refine hX _ _ _ _ ⟨rfl, rfl, j + 1, by omega, by omega, ?_⟩ (by omega)
      simp only [psum]
      omega
  · have : j = sn := by omega
    subst this
    exact kk _ s1

open Classical in
theorem rpair {n : Int} {yp : Option Addr} {yn yc : Nat} {sp : Option Addr} {sn sc : Nat} {Y : Nat → Int} {z : Nat → Int} {sl : Nat → Sl} {nd : Nat → Nat → Int} {u v : Int} {H : Hp} {K : Int → Hp → Prop}
    (hdu : DualR H yp yn sp sn Y z sl nd) (hw : Wt n Y yn z (fun i => (sl i).n) nd sn) (hn : n ≤ 1024) (u0 : 0 ≤ u) (u1 : u < n) (v0 : 0 ≤ v) (v1 : v < n)
    (kk : ∀ H', Step (fun _ => False) H H' → K (prW Y z (fun i => (sl i).n) nd sn u v) H') : compassref12_Pair.call yp yn yc sp sn sc u v E H K := by
  have hyl := hw.ylen
  have hsl := hw.slen
  refine compassref12_Pair.of (compassref12_Pair.run_eq ?_)
  unfold compassref12_Pair.run_t
  refine nwk fun db H1 hb1 e1 s1 => ?_
  have hd1 := hdu.keep s1
  simp only [get_at e1, List.getElem?_cons_zero, List.getElem?_cons_succ, ldI_mk, ldS_mk]
  refine hd1.y.ixI (by omega) (by omega) ?_
  try simp only [get_at e1, List.getElem?_cons_zero, List.getElem?_cons_succ, ldI_mk, ldS_mk]
  refine hd1.y.ixI (by omega) (by omega) ?_
  have b1 := hw.ybnd u.toNat (by omega)
  have b2 := hw.ybnd v.toNat (by omega)
  rw [i64w (by omega) (by omega)]
  refine compassref12_Pair.l1_rule (fun u' v' d x i8 H' => u = u' ∧ v = v' ∧ db = d ∧ H1 = H' ∧ ∃ i : Nat, i8 = i ∧ i ≤ sn ∧ x = Y u.toNat + Y v.toNat - psum (fun i => if In (nd i) (sl i).n u ∧ In (nd i) (sl i).n v then z i else 0) i)
    (fun u' v' d x i8 H' => sn - i8.toNat) ?_ ⟨rfl, rfl, rfl, rfl, 0, rfl, by omega, by simp [psum]⟩
  rintro u' v' d x i8 H' ⟨rfl, rfl, rfl, rfl, i, rfl, hi, rfl⟩ X hX
  have hpb := psum_bound (f := fun i => if In (nd i) (sl i).n u ∧ In (nd i) (sl i).n v then z i else 0) (a := 0) (b := 4398046511104) (i := i) fun j hj => by
    have := (hw.sets j (by omega)).2.1
    split <;> omega
  refine compassref12_Pair.b1_eq ?_
  unfold compassref12_Pair.b1_t
  simp only [get_at e1, List.getElem?_cons_zero, List.getElem?_cons_succ, ldI_mk, ldS_mk]
  refine bc (fun hlt => ?_) fun hge => ?_
  · have hz := (hw.sets i (by omega)).2.1
    obtain ⟨hnr, hnl⟩ := hd1.nd i (by omega)
    have next : ∀ x, x = (if In (nd i) (sl i).n u ∧ In (nd i) (sl i).n v then z i else 0) → compassref12_Pair.j1 u v db (Y u.toNat + Y v.toNat - psum (fun i => if In (nd i) (sl i).n u ∧ In (nd i) (sl i).n v then z i else 0) i - x) (i : Int) X E H1 K := fun x hx => by
      refine compassref12_Pair.j1_eq ?_
      unfold compassref12_Pair.j1_t
      rw [i64w (by omega) (by omega)]
      refine hX _ _ _ _ _ _ ⟨rfl, rfl, rfl, rfl, i + 1, by omega, by omega, ?_⟩ (by omega)
      rw [hx]
      simp only [psum]
      omega
    refine hd1.s.slzS (by omega) (by omega) ?_
    simp only [Int.toNat_natCast]
    refine rhas hnr hnl (fun hu => ?_) fun hu => bcb (fun h => by cases h) fun _ => ?_
    · refine bcb (fun _ => ?_) fun h => by cases h
      simp only [get_at e1, List.getElem?_cons_zero, List.getElem?_cons_succ, ldI_mk, ldS_mk]
      refine hd1.s.slzS (by omega) (by omega) ?_
      simp only [Int.toNat_natCast]
      refine rhas hnr hnl (fun hv => ?_) fun hv => bcb (fun h => by cases h) fun _ => ?_
      · refine bcb (fun _ => ?_) fun h => by cases h
        simp only [get_at e1, List.getElem?_cons_zero, List.getElem?_cons_succ, ldI_mk, ldS_mk]
        refine hd1.s.slzZ (by omega) (by omega) ?_
        simp only [Int.toNat_natCast]
        rw [i64w (n := _ - z i) (by omega) (by omega)]
        exact next (z i) (by rw [if_pos ⟨hu, hv⟩])
      · have := next 0 (by rw [if_neg fun h => hv h.2])
        rwa [Int.sub_zero] at this
    · have := next 0 (by rw [if_neg fun h => hu h.1])
      rwa [Int.sub_zero] at this
  · have : i = sn := by omega
    subst this
    exact kk _ s1

end
end Go.Mz

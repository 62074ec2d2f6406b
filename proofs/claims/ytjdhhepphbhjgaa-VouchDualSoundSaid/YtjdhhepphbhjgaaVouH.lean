/-
  Walks of layer 12, more: weigh, and the function of pairs that it makes.
-/
import Derived.Test.YtjdhhepphbhjgaaVouE
set_option linter.unusedSimpArgs false
set_option linter.unusedVariables false
namespace Go.Mz
section
variable {E : Value → Hp → Prop}

/-- a function of two nodes, called as a value -/
def Fun2 (E : Value → Hp → Prop) (H : Hp) (g : Nat) (gk : List Value) (N : Int) (f : Int → Int → Int) : Prop :=
  T0.fok g = true ∧ ∀ (u v : Int) (H1 : Hp) (K : Value → Hp → Prop), 0 ≤ u → u < N → 0 ≤ v → v < N → Step (fun _ => False) H H1 → (∀ H2, Step (fun _ => False) H1 H2 → K (.int .i64 (f u v)) H2) → callW P0 g (.int .i64 u :: .int .i64 v :: gk) K E H1

theorem Fun2.step {H H' : Hp} {g : Nat} {gk : List Value} {N : Int} {f : Int → Int → Int} (h : Fun2 E H g gk N f) (s : Step (fun _ => False) H H') : Fun2 E H' g gk N f :=
  ⟨h.1, fun u v H1 K u0 u1 v0 v1 s1 => h.2 u v H1 K u0 u1 v0 v1 (s.and s1)⟩

/-- weights of nodes and of sets of nodes -/
structure Wt (n : Int) (Y : Nat → Int) (yn : Nat) (z : Nat → Int) (ln : Nat → Nat) (nd : Nat → Nat → Int) (sn : Nat) : Prop where
  ylen : (yn : Int) = n
  slen : (sn : Int) ≤ n
  ybnd : ∀ v, v < yn → -4398046511104 ≤ Y v ∧ Y v ≤ 4398046511104
  sets : ∀ i, i < sn → (3 ≤ ln i ∧ ln i % 2 = 1) ∧ (0 ≤ z i ∧ z i ≤ 4398046511104) ∧ Ris (nd i) (ln i) n

def wsum (Y : Nat → Int) (yn : Nat) (z : Nat → Int) (ln : Nat → Nat) (sn : Nat) : Int := psum Y yn - psum (fun i => z i * ((ln i / 2 : Nat) : Int)) sn

open Classical in
noncomputable def prW (Y : Nat → Int) (z : Nat → Int) (ln : Nat → Nat) (nd : Nat → Nat → Int) (sn : Nat) (u v : Int) : Int :=
  Y u.toNat + Y v.toNat - psum (fun i => if In (nd i) (ln i) u ∧ In (nd i) (ln i) v then z i else 0) sn

/-- duals, as they lie in memory, read only -/
structure DualR (H : Hp) (yp : Option Addr) (yn : Nat) (sp : Option Addr) (sn : Nat) (Y : Nat → Int) (z : Nat → Int) (sl : Nat → Sl) (nd : Nat → Nat → Int) : Prop where
  y : Rdr H yp yn Y
  s : Rdr H sp sn (fun i => (sl i, z i))
  nd : ∀ i, i < sn → Rdr H (sl i).p (sl i).n (nd i) ∧ (sl i).n < 2 ^ 63

theorem DualR.keep {H H' : Hp} {yp : Option Addr} {yn : Nat} {sp : Option Addr} {sn : Nat} {Y : Nat → Int} {z : Nat → Int} {sl : Nat → Sl} {nd : Nat → Nat → Int} (h : DualR H yp yn sp sn Y z sl nd) (s : Step (fun _ => False) H H') : DualR H' yp yn sp sn Y z sl nd :=
  ⟨h.y.keep s fun _ _ _ h => h, h.s.keep s fun _ _ _ h => h, fun i hi => ⟨(h.nd i hi).1.keep s fun _ _ _ h => h, (h.nd i hi).2⟩⟩

theorem Rdr.slz {H : Hp} {p : Option Addr} {n : Nat} {f : Nat → Sl × Int} (h : Rdr H p n f) {i : Int} (h0 : 0 ≤ i) (h1 : i < (n : Int)) {G : Option Addr → Nat → Nat → Int → Prop}
    (k : G (f i.toNat).1.p (f i.toNat).1.n (f i.toNat).1.c (f i.toNat).2) : Mz.ix p n i 2 fun b o => ldS (H.get b o) fun xp xn xc => ldI .i64 (H.get b (o + 1)) fun x => G xp xn xc x := by
  refine h.ix (α := Sl × Int) h0 h1 fun b o _ hg => ?_
  have g0 := hg 0 (by decide)
  have g1 := hg 1 (by decide)
  simp only [El.enc, Nat.add_zero] at g0 g1
  simp at g0 g1
  rw [g0, g1]
  exact k

open Classical in
/-- which nodes are in which set, as it lies in memory -/
structure Ins (H1 H : Hp) (nb : Nat) (ip : Option Addr) (i ic N : Nat) (rows : Nat → Sl) (ln : Nat → Nat) (nd : Nat → Nat → Int) : Prop where
  cell : H nb = some ⟨[.slice ip i ic], 132⟩
  new : H1 nb = none
  row : Row H ip i ic rows
  rnew : ∀ y, fpS ip y → H1 y = none ∧ y ≠ nb
  each : ∀ j, j < i → (rows j).n = N ∧ Rdr H (rows j).p N (fun v => decide (In (nd j) (ln j) v)) ∧ ∀ y, fpS (rows j).p y → H1 y = none ∧ y ≠ nb ∧ ¬ fpS ip y

theorem Ins.keep {H1 H H' : Hp} {nb : Nat} {ip : Option Addr} {i ic N : Nat} {rows : Nat → Sl} {ln : Nat → Nat} {nd : Nat → Nat → Int} (h : Ins H1 H nb ip i ic N rows ln nd) (s : Step (fun _ => False) H H') : Ins H1 H' nb ip i ic N rows ln nd :=
  ⟨s.keep _ _ h.cell fun h => h, h.new, h.row.keep s fun _ _ h => h, h.rnew, fun j hj => ⟨(h.each j hj).1, (h.each j hj).2.1.keep s fun _ _ _ h => h, (h.each j hj).2.2⟩⟩

open Classical in
theorem vpair {n : Int} {yp : Option Addr} {yn yc : Nat} {sp : Option Addr} {sn sc : Nat} {Y : Nat → Int} {z : Nat → Int} {sl : Nat → Sl} {nd : Nat → Nat → Int} {db nb : Nat} {H0 H1 : Hp} {ip : Option Addr} {ic : Nat} {rows : Nat → Sl} {u v : Int} {K : Int → Hp → Prop}
    (hd : H1 db = some ⟨[.slice yp yn yc, .slice sp sn sc], 38⟩) (hdu : DualR H1 yp yn sp sn Y z sl nd) (hw : Wt n Y yn z (fun i => (sl i).n) nd sn) (hn : n ≤ 1024) (hi : Ins H0 H1 nb ip sn ic n.toNat rows (fun i => (sl i).n) nd)
    (u0 : 0 ≤ u) (u1 : u < n) (v0 : 0 ≤ v) (v1 : v < n) (k : ∀ H2, Step (fun _ => False) H1 H2 → K (prW Y z (fun i => (sl i).n) nd sn u v) H2) : vouch_weigh_1.call u v db 0 nb 0 E H1 K := by
  have hy := hw.ylen
  have hs := hw.slen
  refine vouch_weigh_1.of (vouch_weigh_1.run_eq ?_)
  unfold vouch_weigh_1.run_t
  simp only [get_at hd, List.getElem?_cons_zero, List.getElem?_cons_succ, ldI_mk, ldS_mk, Nat.zero_add]
  refine hdu.y.ixI (by omega) (by omega) ?_
  refine hdu.y.ixI (by omega) (by omega) ?_
  have b1 := hw.ybnd u.toNat (by omega)
  have b2 := hw.ybnd v.toNat (by omega)
  rw [i64w (by omega) (by omega)]
  refine vouch_weigh_1.l1_rule (fun u' v' tb tbo x tp tn tc t23 t24 H' => u = u' ∧ v = v' ∧ nb = tb ∧ tbo = 0 ∧ sp = tp ∧ sn = tn ∧ t23 = sn ∧ ∃ i : Nat, t24 = i ∧ i ≤ sn ∧ Step (fun _ => False) H1 H' ∧ x = Y u.toNat + Y v.toNat - psum (fun i => if In (nd i) (sl i).n u ∧ In (nd i) (sl i).n v then z i else 0) i)
    (fun u' v' tb tbo x tp tn tc t23 t24 H' => sn - t24.toNat) ?_ ⟨rfl, rfl, rfl, rfl, rfl, rfl, rfl, 0, rfl, by omega, .refl, by simp [psum]⟩
  rintro u' v' tb tbo x tp tn tc t23 t24 H2 ⟨rfl, rfl, rfl, rfl, rfl, rfl, rfl, i, rfl, hil, s2, rfl⟩ X hX
  have hpb := psum_bound (f := fun i => if In (nd i) (sl i).n u ∧ In (nd i) (sl i).n v then z i else 0) (a := 0) (b := 4398046511104) (i := i) fun j hj => by
    have := (hw.sets j (by omega)).2.1
    split <;> omega
  refine vouch_weigh_1.b1_eq ?_
  unfold vouch_weigh_1.b1_t
  refine bc (fun hlt => ?_) fun hge => ?_
  · have hz := (hw.sets i (by omega)).2.1
    refine (hdu.s.keep s2 fun _ _ _ h => h).slz (by omega) (by omega) ?_
    simp only [Int.toNat_natCast]
    refine nwst rfl rfl fun b3 H3 hb3 e3 s3 => ?_
    have s13 := s2.and s3
    have hi3 := hi.keep s13
    simp only [get_at e3, get_at hi3.cell, List.getElem?_cons_zero, List.getElem?_cons_succ, ldI_mk, ldS_mk, Nat.zero_add]
    have next : ∀ x, x = (if In (nd i) (sl i).n u ∧ In (nd i) (sl i).n v then z i else 0) → vouch_weigh_1.j1 u v nb 0 (Y u.toNat + Y v.toNat - psum (fun i => if In (nd i) (sl i).n u ∧ In (nd i) (sl i).n v then z i else 0) i - x) sp sn tc (sn : Int) (i : Int) X E H3 K := fun x hx => by
      refine vouch_weigh_1.j1_eq ?_
      unfold vouch_weigh_1.j1_t
      rw [i64w (by omega) (by omega)]
      refine hX _ _ _ _ _ _ _ _ _ _ _ ⟨rfl, rfl, rfl, rfl, rfl, rfl, rfl, i + 1, by omega, by omega, s13, ?_⟩ (by omega)
      rw [hx]
      simp only [psum]
      omega
    obtain ⟨rn, rr, _⟩ := hi3.each i (by omega)
    refine hi3.row.rdr.ixS (by omega) (by omega) ?_
    simp only [Int.toNat_natCast]
    rw [rn]
    refine rr.ixB (by omega) (by omega) ?_
    rw [show ((u.toNat : Nat) : Int) = u by omega]
    refine bc (fun hu => ?_) fun hu => ?_
    · refine hi3.row.rdr.ixS (by omega) (by omega) ?_
      simp only [Int.toNat_natCast]
      rw [rn]
      refine rr.ixB (by omega) (by omega) ?_
      rw [show ((v.toNat : Nat) : Int) = v by omega]
      refine bc (fun hv => ?_) fun hv => ?_
      · rw [i64w (n := _ - z i) (by omega) (by omega)]
        exact next (z i) (by rw [if_pos ⟨hu, hv⟩])
      · have := next 0 (by rw [if_neg fun h => hv h.2])
        rwa [Int.sub_zero] at this
    · have := next 0 (by rw [if_neg fun h => hu h.1])
      rwa [Int.sub_zero] at this
  · have : i = sn := by omega
    subst this
    exact k _ s2

theorem vweigh {n : Int} {yp : Option Addr} {yn yc : Nat} {sp : Option Addr} {sn sc : Nat} {Y : Nat → Int} {z : Nat → Int} {sl : Nat → Sl} {nd : Nat → Nat → Int} {H : Hp} {K : Int → Nat → List Value → Hp → Prop}
    (hdu : DualR H yp yn sp sn Y z sl nd) (hyn : yn < 2 ^ 63) (hsn : sn < 2 ^ 63) (n0 : 0 ≤ n) (n1 : n ≤ 1024)
    (kk : ∀ H' g gk, Step (fun _ => False) H H' → Wt n Y yn z (fun i => (sl i).n) nd sn → Fun2 E H' g gk n (prW Y z (fun i => (sl i).n) nd sn) → K (wsum Y yn z (fun i => (sl i).n) sn) g gk H')
    (bad : ∀ H', Step (fun _ => False) H H' → ¬ Wt n Y yn z (fun i => (sl i).n) nd sn → E (pv 221) H') : vouch_weigh.call n yp yn yc sp sn sc E H K := by
  refine vouch_weigh.of (vouch_weigh.run_eq ?_)
  unfold vouch_weigh.run_t
  refine nwk fun db H1 hb1 e1 s1 => ?_
  try simp only [get_at e1, List.getElem?_cons_zero, List.getElem?_cons_succ, ldI_mk, ldS_mk]
  refine bc (fun hyl => ?_) fun h => vneed (fun h => by cases h) fun _ => bad _ s1 fun hh => h hh.ylen
  try simp only [get_at e1, List.getElem?_cons_zero, List.getElem?_cons_succ, ldI_mk, ldS_mk]
  refine vneedD (fun hsl => ?_) fun h => bad _ s1 fun hh => h hh.slen
  refine vouch_weigh.j1_eq ?_
  unfold vouch_weigh.j1_t
  try simp only [get_at e1, List.getElem?_cons_zero, List.getElem?_cons_succ, ldI_mk, ldS_mk]
  have hd1 := hdu.keep s1
  refine vouch_weigh.l1_rule (fun m d3 sm tp tn tc t27 t28 H' => n = m ∧ db = d3 ∧ yp = tp ∧ yn = tn ∧ t27 = yn ∧ H1 = H' ∧ ∃ i : Nat, t28 = i ∧ i ≤ yn ∧ sm = psum Y i ∧ ∀ v, v < i → -4398046511104 ≤ Y v ∧ Y v ≤ 4398046511104)
    (fun m d3 sm tp tn tc t27 t28 H' => yn - t28.toNat) ?_ ⟨rfl, rfl, rfl, rfl, rfl, rfl, 0, rfl, by omega, rfl, fun v hv => by omega⟩
  rintro m d3 sm tp tn tc t27 t28 H' ⟨rfl, rfl, rfl, rfl, rfl, rfl, i, rfl, hi, rfl, hb⟩ X hX
  refine vouch_weigh.b1_eq ?_
  unfold vouch_weigh.b1_t
  have hp := psum_bound hb
  refine bc (fun hlt => ?_) fun hge => ?_
  · refine hd1.y.ixI (by omega) (by omega) ?_
    simp only [Int.toNat_natCast]
    refine bc (fun g1 => ?_) fun g1 => vneed (fun h => by cases h) fun _ => bad _ s1 fun hh => g1 (hh.ybnd i (by omega)).1
    refine vneedD (fun g2 => ?_) fun g2 => bad _ s1 fun hh => g2 (hh.ybnd i (by omega)).2
    refine vouch_weigh.j2_eq ?_
    unfold vouch_weigh.j2_t
    rw [i64w (n := psum Y i + Y i) (by omega) (by omega), i64w (by omega) (by omega)]
    refine hX _ _ _ _ _ _ _ _ _ ⟨rfl, rfl, rfl, rfl, rfl, rfl, i + 1, by omega, by omega, rfl, fun v hv => ?_⟩ (by omega)
    by_cases ev : v = i
    · subst ev; exact ⟨g1, g2⟩
    · exact hb v (by omega)
  have : i = yn := by omega
  subst this
  clear hX
  refine vouch_weigh.j3_eq ?_
  unfold vouch_weigh.j3_t
  try simp only [get_at e1, List.getElem?_cons_zero, List.getElem?_cons_succ, ldI_mk, ldS_mk]
  refine Row.make0 (⟨none, 0, 0⟩ : Sl) rfl (by omega) (by omega) (by decide) fun b2 H2 hb2 r2 s2 => ?_
  refine nwst rfl rfl fun nb H3 hb3 e3 s3 => ?_
  have e13 := (s2.and s3).keep _ _ e1 fun h => h
  try simp only [get_at e13, List.getElem?_cons_zero, List.getElem?_cons_succ, ldI_mk, ldS_mk]
  have f2 : H b2 = none := s1.mono _ hb2
  have s03 := (s1.and s2).and s3
  have fnb : H nb = none := (s1.and s2).mono _ hb3
  have l1 : H1 db ≠ none := by rw [e1]; exact fun h => by cases h
  have h1nb : H1 nb = none := s2.mono _ hb3
  have ins0 : Ins H1 H3 nb (some ⟨b2, 0, none⟩) 0 ((sn : Int).toNat) n.toNat (fun _ => ⟨none, 0, 0⟩) (fun i => (sl i).n) nd :=
    ⟨e3, h1nb, r2.keep s3 fun _ _ h => h, fun y hy => by rw [fpS_mk] at hy; subst hy; exact ⟨hb2, fun h => r2.live (b := y) ⟨_, rfl⟩ (h ▸ hb3)⟩, fun j hj => by omega⟩
  refine vouch_weigh.l2_rule (fun m d3 sm in9 tp tn tc t49 t50 H' => n = m ∧ db = d3 ∧ nb = in9 ∧ sp = tp ∧ sn = tn ∧ t49 = sn ∧
      ∃ j : Nat, t50 = j ∧ j ≤ sn ∧ sm = psum Y i - psum (fun a => z a * (((sl a).n / 2 : Nat) : Int)) j ∧ Step (fun _ => False) H1 H' ∧ (∃ ip ic rows, Ins H1 H' nb ip j ic n.toNat rows (fun i => (sl i).n) nd) ∧ ∀ a, a < j → (3 ≤ (sl a).n ∧ (sl a).n % 2 = 1) ∧ (0 ≤ z a ∧ z a ≤ 4398046511104) ∧ Ris (nd a) (sl a).n n)
    (fun m d3 sm in9 tp tn tc t49 t50 H' => sn - t50.toNat) ?_ ⟨rfl, rfl, rfl, rfl, rfl, rfl, 0, rfl, by omega, by simp [psum], s2.and s3, ⟨_, _, _, ins0⟩, fun a ha => by omega⟩
  clear ins0 e3 hb3 r2 s2 s3 s03 f2 e13 hb2
  rintro m d3 sm in9 tp tn tc t49 t50 H4 ⟨rfl, rfl, rfl, rfl, rfl, rfl, j, rfl, hj, rfl, s4, ⟨ip, ic, rows, ins⟩, hs⟩ X hX
  have s04 := s1.and s4
  have hd4 := hd1.keep s4
  have hwb : ∀ a, a < j → 0 ≤ z a * (((sl a).n / 2 : Nat) : Int) ∧ z a * (((sl a).n / 2 : Nat) : Int) ≤ 4398046511104 * 512 := fun a ha => by
    obtain ⟨h1, h2, h3⟩ := hs a ha
    have hl := h3.len
    constructor
    · exact Int.mul_nonneg h2.1 (by omega)
    · exact Int.mul_le_mul h2.2 (by omega) (by omega) (by omega)
  have hpw := psum_bound hwb
  refine vouch_weigh.b2_eq ?_
  unfold vouch_weigh.b2_t
  refine bc (fun hlt => ?_) fun hge => ?_
  · refine hd4.s.slz (by omega) (by omega) ?_
    simp only [Int.toNat_natCast]
    refine nwst rfl rfl fun b5 H5 hb5 e5 s5 => ?_
    have s05 := s04.and s5
    obtain ⟨hnr, hnl⟩ := hd4.nd j (by omega)
    try simp only [get_at e5, List.getElem?_cons_zero, List.getElem?_cons_succ, ldI_mk, ldS_mk]
    refine bc (fun g1 => ?_) fun g1 => vneed (fun h => by cases h) fun _ => bad _ s05 fun hh => g1 (by have := (hh.sets j (by omega)).1.1; omega)
    try simp only [get_at e5, List.getElem?_cons_zero, List.getElem?_cons_succ, ldI_mk, ldS_mk]
    have hand := and1 (x := ((sl j).n : Int)) (by omega) (by omega)
    refine bc (fun g2 => ?_) fun g2 => vneed (fun h => by cases h) fun _ => bad _ s05 fun hh => g2 (by have := (hh.sets j (by omega)).1.2; rw [hand]; omega)
    rw [hand] at g2
    try simp only [get_at e5, List.getElem?_cons_zero, List.getElem?_cons_succ, ldI_mk, ldS_mk]
    refine bc (fun g3 => ?_) fun g3 => vneed (fun h => by cases h) fun _ => bad _ s05 fun hh => g3 (hh.sets j (by omega)).2.1.1
    try simp only [get_at e5, List.getElem?_cons_zero, List.getElem?_cons_succ, ldI_mk, ldS_mk]
    refine vneedD (fun g4 => ?_) fun g4 => bad _ s05 fun hh => g4 (hh.sets j (by omega)).2.1.2
    refine vouch_weigh.j4_eq ?_
    unfold vouch_weigh.j4_t
    have ins5 := ins.keep s5
    try simp only [get_at e5, get_at ins5.cell, List.getElem?_cons_zero, List.getElem?_cons_succ, ldI_mk, ldS_mk]
    refine vmarked (hnr.keep s5 fun _ _ _ h => h) hnl n0 (by omega) (fun b H6 hris s6 hb r6 => ?_) fun h => bad _ s05 fun hh => h (hh.sets j (by omega)).2.2
    have ins6 := ins5.keep s6
    try simp only [get_at ins6.cell, List.getElem?_cons_zero, List.getElem?_cons_succ, ldI_mk, ldS_mk, true_and]
    have s46 := s5.and s6
    have s06 := s05.and s6
    have s16 := s4.and s46
    have hH1b : H1 b = none := s4.mono _ (s5.mono _ hb)
    have bnb : b ≠ nb := fun h => by rw [h, ins5.cell] at hb; cases hb
    have bip : ¬ fpS ip b := fun h => ins5.row.live h hb
    refine ins6.row.app (α := Sl) ⟨some ⟨b, 0, none⟩, n.toNat, n.toNat⟩ rfl (by omega) (by decide) fun ip' ic' H7 r7 s7 f7 => ?_
    have hnb6 : ¬ fpS ip nb := fun h => (ins6.rnew _ h).2 rfl
    have c7 := s7.keep _ _ ins6.cell hnb6
    have s17 := s16.own s7 fun y hy => (ins6.rnew y hy).1
    have e7 := s7.keep _ _ (s6.keep _ _ e5 fun h => h) fun h => ins.row.live h hb5
    refine stk c7 rfl rfl fun H8 e8 s8 => ?_
    have s18 := s17.own s8 fun y hy => hy ▸ ins.new
    have b5nb : b5 ≠ nb := fun h => by rw [h, ins.cell] at hb5; cases hb5
    have e58 := s8.keep _ _ e7 fun h => b5nb h
    try simp only [get_at e58, List.getElem?_cons_zero, List.getElem?_cons_succ, ldI_mk, ldS_mk]
    refine ⟨by decide, ?_⟩
    have hlen := hris.len
    have hdv : Int.tdiv (((sl j).n : Nat) : Int) 2 = (((sl j).n / 2 : Nat) : Int) := by
      rw [Int.tdiv_eq_ediv_of_nonneg (by omega)]; omega
    have hzb : 0 ≤ z j * (((sl j).n / 2 : Nat) : Int) ∧ z j * (((sl j).n / 2 : Nat) : Int) ≤ 4398046511104 * 512 :=
      ⟨Int.mul_nonneg g3 (by omega), Int.mul_le_mul g4 (by omega) (by omega) (by omega)⟩
    rw [hdv, i64w (n := (((sl j).n / 2 : Nat) : Int)) (by omega) (by omega), i64w (n := z j * (((sl j).n / 2 : Nat) : Int)) (by omega) (by omega), i64w (n := _ - z j * (((sl j).n / 2 : Nat) : Int)) (by omega) (by omega), i64w (by omega) (by omega)]
    have f8 : ∀ y, fpS ip' y → H1 y = none ∧ y ≠ nb := fun y hy => by
      rcases f7 y hy with h | h
      · exact ins6.rnew y h
      · exact ⟨s16.mono _ h, fun e => by rw [e, ins6.cell] at h; cases h⟩
    refine hX _ _ _ _ _ _ _ _ _ _ ⟨rfl, rfl, rfl, rfl, rfl, rfl, j + 1, by omega, by omega, ?_, s18, ⟨ip', ic', upf rows j ⟨some ⟨b, 0, none⟩, n.toNat, n.toNat⟩, e8, ins.new, r7.keep s8 fun y hy h => (f8 y hy).2 h, f8, fun a ha => ?_⟩, fun a ha => ?_⟩ (by omega)
    · simp only [psum]; omega
    · by_cases ea : a = j
      · subst ea
        rw [upf_same]
        refine ⟨rfl, ((r6.rdr).keep s7 fun y hy _ => by rw [fpS_mk] at hy; exact hy ▸ bip).keep s8 fun y hy _ h => by rw [fpS_mk] at hy; exact bnb (hy ▸ h), fun y hy => ?_⟩
        rw [fpS_mk] at hy
        subst hy
        refine ⟨hH1b, bnb, fun h => ?_⟩
        rcases f7 _ h with h | h
        · exact bip h
        · exact r6.live (b := y) ⟨_, rfl⟩ h
      · rw [upf_ne ea]
        obtain ⟨q1, q2, q3⟩ := ins6.each a (by omega)
        refine ⟨q1, (q2.keep s7 fun y hy _ => (q3 y hy).2.2).keep s8 fun y hy _ h => (q3 y hy).2.1 h, fun y hy => ⟨(q3 y hy).1, (q3 y hy).2.1, fun h => ?_⟩⟩
        rcases f7 _ h with h | h
        · exact (q3 y hy).2.2 h
        · by_cases hn0 : 0 < n.toNat
          · exact q2.live hy hn0 h
          · omega
    · by_cases ea : a = j
      · subst ea; exact ⟨⟨by omega, by omega⟩, ⟨g3, g4⟩, hris⟩
      · exact hs a (by omega)
  · have : j = sn := by omega
    subst this
    refine vouch_weigh.j5_eq ?_
    unfold vouch_weigh.j5_t
    have hw : Wt n Y i z (fun i => (sl i).n) nd j := ⟨hyl, hsl, hb, hs⟩
    refine kk _ _ _ s04 hw ⟨rfl, fun u v H5 K' u0 u1 v0 v1 s5 hk => ?_⟩
    have hd5 := (s4.and s5).keep _ _ e1 fun h => h
    have hp : vouch_weigh_1.call u v db 0 nb 0 E H5 (fun x H' => x = prW Y z (fun i => (sl i).n) nd j u v ∧ K' (.int .i64 (prW Y z (fun i => (sl i).n) nd j u v)) H') :=
      vpair hd5 (hd4.keep s5) hw n1 (ins.keep s5) u0 u1 v0 v1 fun H6 s6 => ⟨rfl, hk _ s6⟩
    refine callW_mono (fun r H' hr => ?_) (fun _ _ h => h) hp
    obtain ⟨x, rfl, hx, hk'⟩ := asR_int (K := fun x => x = prW Y z (fun i => (sl i).n) nd j u v ∧ K' (.int .i64 (prW Y z (fun i => (sl i).n) nd j u v)) H') hr
    rw [hx]; exact hk'
end
end Go.Mz

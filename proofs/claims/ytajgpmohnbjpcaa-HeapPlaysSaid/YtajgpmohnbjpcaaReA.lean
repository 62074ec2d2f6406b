/-
  The document's functions of layer 5, walked: a queue is the list of what it holds.
-/
import Derived.Test.YtajgpmohnbjpcaaHpL
import Derived.Test.YtajgpmohnbjpcaaGRfa
set_option linter.unusedSimpArgs false
set_option linter.unusedVariables false
namespace Go.Mz

/-- a list of handles, with their keys -/
def itF (key : Nat → Int) (l : List Nat) : Nat → Int × Int := fun i => (((l[i]?.getD 0 : Nat) : Int), key (l[i]?.getD 0))

theorem itF_app {key : Nat → Int} {l : List Nat} {x : Nat} : ∀ i, i < l.length + 1 → upf (itF key l) l.length ((x : Int), key x) i = itF key (l ++ [x]) i := by
  intro i hi
  unfold upf itF
  by_cases h : i = l.length
  · subst h; simp
  · rw [if_neg h, List.getElem?_append_left (by omega)]

theorem itF_cg {key key' : Nat → Int} {l : List Nat} (h : ∀ v ∈ l, key v = key' v) : ∀ i, i < l.length → itF key l i = itF key' l i := by
  intro i hi
  unfold itF
  rw [List.getElem?_eq_getElem hi, Option.getD_some, h _ (List.getElem_mem hi)]

theorem itF_apps {key : Nat → Int} {l r : List Nat} : ∀ i, i < l.length + r.length → (if i < l.length then itF key l i else itF key r (i - l.length)) = itF key (l ++ r) i := by
  intro i hi
  unfold itF
  split
  · rename_i h; rw [List.getElem?_append_left h]
  · rename_i h; rw [List.getElem?_append_right (by omega)]

theorem itF_left {key : Nat → Int} {l1 l2 : List Nat} {i : Nat} (h : i < l1.length) : itF key (l1 ++ l2) i = itF key l1 i := by
  unfold itF; rw [List.getElem?_append_left h]
theorem itF_right {key : Nat → Int} {l1 l2 : List Nat} {i : Nat} : itF key (l1 ++ l2) (i + l1.length) = itF key l2 i := by
  unfold itF; rw [List.getElem?_append_right (by omega), Nat.add_sub_cancel]

/-- an item, read whole, or one part of it -/
theorem Rdr.it2 {H : Hp} {p : Option Addr} {n : Nat} {f : Nat → Int × Int} (h : Rdr H p n f) {i : Int} (h0 : 0 ≤ i) (h1 : i < (n : Int)) {G : Int → Int → Prop}
    (k : G (f i.toNat).1 (f i.toNat).2) : Mz.ix p n i 2 fun b o => ldI .i64 (H.get b o) fun x1 => ldI .i64 (H.get b (o + 1)) fun x2 => G x1 x2 := by
  refine h.ix (α := Int × Int) h0 h1 fun b o _ hg => ?_
  have g0 : H.get b o = some (.int .i64 (f i.toNat).1) := hg 0 (by decide)
  have g1 : H.get b (o + 1) = some (.int .i64 (f i.toNat).2) := hg 1 (by decide)
  rw [g0, g1]
  exact k
theorem Rdr.it0 {H : Hp} {p : Option Addr} {n : Nat} {f : Nat → Int × Int} (h : Rdr H p n f) {i : Int} (h0 : 0 ≤ i) (h1 : i < (n : Int)) {G : Int → Prop}
    (k : G (f i.toNat).1) : Mz.ix p n i 2 fun b o => ldI .i64 (H.get b o) G := by
  refine h.ix (α := Int × Int) h0 h1 fun b o _ hg => ?_
  have g0 : H.get b o = some (.int .i64 (f i.toNat).1) := hg 0 (by decide)
  rw [g0]
  exact k
theorem Rdr.it1 {H : Hp} {p : Option Addr} {n : Nat} {f : Nat → Int × Int} (h : Rdr H p n f) {i : Int} (h0 : 0 ≤ i) (h1 : i < (n : Int)) {G : Int → Prop}
    (k : G (f i.toNat).2) : Mz.ix p n i 2 fun b o => ldI .i64 (H.get b (o + 1)) G := by
  refine h.ix (α := Int × Int) h0 h1 fun b o _ hg => ?_
  have g1 : H.get b (o + 1) = some (.int .i64 (f i.toNat).2) := hg 1 (by decide)
  rw [g1]
  exact k

section
variable {E : Value → Hp → Prop} {H : Hp} {kd N last : Int} {p : Option Addr} {c : Nat} {key : Nat → Int} {l : List Nat}

/-- what is held, as it lies in memory -/
abbrev Itm (H : Hp) (p : Option Addr) (c : Nat) (key : Nat → Int) (l : List Nat) : Prop := Row H p l.length c (itF key l)

theorem itF_at {i : Nat} (hi : i < l.length) : itF key l (i : Int).toNat = (((l[i] : Nat) : Int), key l[i]) := by
  rw [Int.toNat_natCast]; unfold itF; rw [List.getElem?_eq_getElem hi, Option.getD_some]

theorem rfind {h : Int} {K : Int → Hp → Prop} (hI : Itm H p c key l) (hl : l.length ≤ 1024) (hit : ∀ l1 v l2, h = (v : Nat) → l = l1 ++ v :: l2 → ∀ H', Step (fun _ => False) H H' → K l1.length H')
    (miss : (∀ v ∈ l, h ≠ (v : Nat)) → ∀ H', Step (fun _ => False) H H' → K (-1) H') : compassref05_Find.call kd N p l.length c last h E H K := by
  refine compassref05_Find.of (compassref05_Find.run_eq ?_)
  unfold compassref05_Find.run_t
  refine nwk fun b1 H1 hb1 e1 s1 => ?_
  have I1 := hI.keep s1 fun _ _ h => h
  refine compassref05_Find.l1_rule (fun h' q2 i5 H' => h' = h ∧ q2 = b1 ∧ H' = H1 ∧ ∃ l1 l2 : List Nat, i5 = l1.length ∧ l = l1 ++ l2 ∧ ∀ v ∈ l1, h ≠ (v : Nat)) (fun h' q2 i5 H' => l.length - i5.toNat) ?_ ⟨rfl, rfl, rfl, [], l, rfl, rfl, fun v hv => by cases hv⟩
  rintro h' q2 i5 H2 ⟨rfl, rfl, rfl, l1, l2, rfl, hsp, hno⟩ X hX
  refine compassref05_Find.b1_eq ?_
  unfold compassref05_Find.b1_t
  simp only [get_at e1, List.getElem?_cons_zero, List.getElem?_cons_succ, ldI_mk, ldS_mk]
  have hlen : l.length = l1.length + l2.length := by rw [hsp]; simp
  refine bc (fun hlt => ?_) fun hge => ?_
  · cases l2 with
    | nil => simp at hlen; omega
    | cons u l2 =>
      simp only [List.length_cons] at hlen
      try simp only [get_at e1, List.getElem?_cons_zero, List.getElem?_cons_succ, ldI_mk, ldS_mk]
      refine I1.rdr.it0 (by omega) (by omega) ?_
      rw [itF_at (key := key) (l := l) (i := l1.length) (by omega)]
      have eu : l[l1.length]'(by omega) = u := by
        have : l[l1.length]? = some u := by rw [hsp]; simp
        rw [List.getElem?_eq_getElem (by omega)] at this
        exact Option.some.inj this
      simp only [eu]
      refine bc (fun he => ?_) fun hne => ?_
      · exact hit l1 u l2 he.symm hsp H2 s1
      · rw [i64w (by omega) (by omega)]
        exact hX _ _ _ _ ⟨rfl, rfl, rfl, l1 ++ [u], l2, by simp, by rw [hsp]; simp, fun v hv => by
          simp at hv
          rcases hv with hv | rfl
          · exact hno v hv
          · exact fun e => hne e.symm⟩ (by omega)
  · have hnil : l2 = [] := List.length_eq_zero_iff.1 (by omega)
    exact miss (fun v hv => hno v (by rw [hsp, hnil] at hv; simpa using hv)) H2 s1

theorem rwith {v : Nat} {K : Int → Int → Option Addr → Nat → Nat → Int → Hp → Prop} (hI : Itm H p c key l) (hl : l.length ≤ 1024)
    (k : ∀ H' p' c', Step (fun _ => False) H H' → Itm H' p' c' key (l ++ [v]) → (∀ y, fpS p' y → H y = none) → K kd N p' (l ++ [v]).length c' last H') : compassref05_with.call kd N p l.length c last v (key v) E H K := by
  refine compassref05_with.of (compassref05_with.run_eq ?_)
  unfold compassref05_with.run_t
  refine nwk fun b1 H1 hb1 e1 s1 => ?_
  refine nwk fun b2 H2 hb2 e2 s2 => ?_
  refine nwk fun b3 H3 hb3 e3 s3 => ?_
  have e13 := (s2.and s3).keep _ _ e1 fun h => h
  have e23 := s3.keep _ _ e2 fun h => h
  have s03 := (s1.and s2).and s3
  have fb1 := hb1
  have fb3 : H b3 = none := (s1.and s2).mono _ hb3
  simp only [get_at e13, List.getElem?_cons_zero, List.getElem?_cons_succ, ldI_mk, ldS_mk]
  rw [i64w (by omega) (by omega)]
  refine Row.make0 ((0, 0) : Int × Int) rfl (by omega) (by omega) (by decide) fun b4 H4 hb4 r4 s4 => ?_
  have e14 := s4.keep _ _ e13 fun h => h
  have e24 := s4.keep _ _ e23 fun h => h
  have e34 := s4.keep _ _ e3 fun h => h
  have s04 := s03.and s4
  simp only [get_at e14, List.getElem?_cons_zero, List.getElem?_cons_succ, ldI_mk, ldS_mk]
  refine Row.appR (α := Int × Int) r4 (hI.keep s04 fun _ _ h => h) rfl (by omega) (by decide) fun p5 c5 H5 r5 s5 f5 => ?_
  have fb4 : H b4 = none := s03.mono _ hb4
  have n51 : ∀ {b : Nat} {x : Blk}, H4 b = some x → b ≠ b4 → ¬ fpS p5 b := fun hx hne h => by
    rcases f5 _ h with h | h
    · rw [fpS_mk] at h; exact hne h
    · rw [hx] at h; cases h
  have d14 : b1 ≠ b4 := fun h => by rw [← h, e13] at hb4; cases hb4
  have d24 : b2 ≠ b4 := fun h => by rw [← h, e23] at hb4; cases hb4
  have d34 : b3 ≠ b4 := fun h => by rw [← h, e3] at hb4; cases hb4
  have e15 := s5.keep _ _ e14 fun h => by rw [fpS_mk] at h; exact d14 h
  have e25 := s5.keep _ _ e24 fun h => by rw [fpS_mk] at h; exact d24 h
  have e35 := s5.keep _ _ e34 fun h => by rw [fpS_mk] at h; exact d34 h
  have s05 := s04.own s5 fun y hy => by rw [fpS_mk] at hy; exact hy ▸ fb4
  have f5' : ∀ y, fpS p5 y → H y = none := fun y hy => (f5 y hy).elim (fun h => by rw [fpS_mk] at h; exact h ▸ fb4) (s04.mono y)
  have r5' : Row H5 p5 l.length c5 (itF key l) := by
    rw [Nat.zero_add] at r5
    exact r5.congr fun i hi => by simp
  simp only [get_at e25, List.getElem?_cons_zero, List.getElem?_cons_succ, ldI_mk, ldS_mk]
  rw [Nat.zero_add]
  refine r5'.app (α := Int × Int) ((v : Int), key v) rfl (by omega) (by decide) fun p6 c6 H6 r6 s6 f6 => ?_
  have e16 := s6.keep _ _ e15 (n51 e14 d14)
  have e36 := s6.keep _ _ e35 (n51 e34 d34)
  have s06 := s05.own s6 f5'
  have f6' : ∀ y, fpS p6 y → H y = none := fun y hy => (f6 y hy).elim (f5' y) (s05.mono y)
  have n61 : ¬ fpS p6 b1 := fun h => (f6 _ h).elim (n51 e14 d14) fun h => by rw [e15] at h; cases h
  have n63 : ¬ fpS p6 b3 := fun h => (f6 _ h).elim (n51 e34 d34) fun h => by rw [e35] at h; cases h
  refine stp e16 (by simp) rfl fun H7 e17 s7 => ?_
  replace e17 : H7 b1 = some ⟨[.int .i64 kd, .int .i64 N, .slice p6 (l.length + 1) c6, .int .i64 last], 40⟩ := e17
  have d13 : b3 ≠ b1 := fun h => by rw [h, s2.keep _ _ e1 fun h => h] at hb3; cases hb3
  have e37 := s7.keep _ _ e36 d13
  simp only [get_at e17, List.getElem?_cons_zero, List.getElem?_cons_succ, ldI_mk, ldS_mk]
  refine stk e37 rfl rfl fun H8 e38 s8 => ?_
  simp only [get_at e38, List.getElem?_cons_zero, List.getElem?_cons_succ, ldI_mk, ldS_mk]
  have hlen : (l ++ [v]).length = l.length + 1 := by simp
  have I8 : Itm H8 p6 c6 key (l ++ [v]) := by
    have := ((r6.keep s7 fun y hy h => n61 (h ▸ hy)).keep s8 fun y hy h => n63 (h ▸ hy)).congr fun i hi => itF_app i hi
    show Row H8 p6 (l ++ [v]).length c6 _
    rw [hlen]; exact this
  have := k H8 p6 c6 ((s06.own s7 fun y hy => hy ▸ fb1).own s8 fun y hy => hy ▸ fb3) I8 f6'
  rw [hlen] at this
  exact this

theorem rwithout {v : Nat} {l1 l2 : List Nat} {K : Int → Int → Option Addr → Nat → Nat → Int → Hp → Prop} (hI : Itm H p c key l) (hl : l.length ≤ 1024) (hsp : l = l1 ++ v :: l2)
    (k : ∀ H' p' c', Step (fun _ => False) H H' → Itm H' p' c' key (l1 ++ l2) → (∀ y, fpS p' y → H y = none) → K kd N p' (l1 ++ l2).length c' last H') : compassref05_without.call kd N p l.length c last l1.length E H K := by
  have hlen : l.length = l1.length + 1 + l2.length := by rw [hsp]; simp; omega
  refine compassref05_without.of (compassref05_without.run_eq ?_)
  unfold compassref05_without.run_t
  refine nwk fun b1 H1 hb1 e1 s1 => ?_
  refine nwk fun b3 H3 hb3 e3 s3 => ?_
  have e13 := s3.keep _ _ e1 fun h => h
  have s03 := s1.and s3
  have fb1 := hb1
  have fb3 : H b3 = none := s1.mono _ hb3
  simp only [get_at e13, List.getElem?_cons_zero, List.getElem?_cons_succ, ldI_mk, ldS_mk]
  refine Row.make0 ((0, 0) : Int × Int) rfl (by omega) (by omega) (by decide) fun b4 H4 hb4 r4 s4 => ?_
  have e14 := s4.keep _ _ e13 fun h => h
  have e34 := s4.keep _ _ e3 fun h => h
  have s04 := s03.and s4
  have I4 := hI.keep s04 fun _ _ h => h
  have hcap := I4.le
  have hcap2 := I4.cap
  simp only [get_at e14, List.getElem?_cons_zero, List.getElem?_cons_succ, ldI_mk, ldS_mk]
  refine ⟨⟨by omega, by omega⟩, ?_⟩
  have q1 : ∀ {H' : Hp}, Itm H' p c key l → Row H' p l1.length c (itF key l1) := fun I => (I.cut (m := l1.length) (by omega)).congr fun i hi => by rw [hsp]; exact itF_left hi
  have q2 : ∀ {H' : Hp}, Itm H' p c key l → Row H' (slp p (l1.length + 1) c 2) l2.length (c - (l1.length + 1)) (itF key l2) := fun I => by
    have h2 := I.drop (l := l1.length + 1) (by omega)
    have e : l.length - (l1.length + 1) = l2.length := by omega
    rw [e] at h2
    refine h2.congr fun i hi => ?_
    rw [hsp]
    have : l1 ++ v :: l2 = (l1 ++ [v]) ++ l2 := by simp
    rw [this]
    have : i + (l1.length + 1) = i + (l1 ++ [v]).length := by simp
    rw [this]
    exact itF_right
  rw [Int.toNat_natCast, I4.slp0]
  refine Row.appR (α := Int × Int) r4 (q1 I4) rfl (by omega) (by decide) fun p5 c5 H5 r5 s5 f5 => ?_
  have fb4 : H b4 = none := s03.mono _ hb4
  have d14 : b1 ≠ b4 := fun h => by rw [← h, e13] at hb4; cases hb4
  have d34 : b3 ≠ b4 := fun h => by rw [← h, e3] at hb4; cases hb4
  have n5 : ∀ {b : Nat} {x : Blk}, H4 b = some x → b ≠ b4 → ¬ fpS p5 b := fun hx hne h => by
    rcases f5 _ h with h | h
    · rw [fpS_mk] at h; exact hne h
    · rw [hx] at h; cases h
  have e15 := s5.keep _ _ e14 fun h => by rw [fpS_mk] at h; exact d14 h
  have e35 := s5.keep _ _ e34 fun h => by rw [fpS_mk] at h; exact d34 h
  have s05 := s04.own s5 fun y hy => by rw [fpS_mk] at hy; exact hy ▸ fb4
  have f5' : ∀ y, fpS p5 y → H y = none := fun y hy => (f5 y hy).elim (fun h => by rw [fpS_mk] at h; exact h ▸ fb4) (s04.mono y)
  have r5' : Row H5 p5 l1.length c5 (itF key l1) := by
    rw [Nat.zero_add] at r5
    exact r5.congr fun i hi => by simp
  have I5 := hI.keep s05 fun _ _ h => h
  simp only [get_at e15, List.getElem?_cons_zero, List.getElem?_cons_succ, ldI_mk, ldS_mk]
  rw [i64w (by omega) (by omega)]
  refine ⟨⟨by omega, by omega⟩, ?_⟩
  have et1 : ((l1.length : Int) + 1).toNat = l1.length + 1 := by omega
  have et2 : l.length - (l1.length + 1) = l2.length := by omega
  rw [et1, et2, Nat.zero_add]
  refine Row.appR (α := Int × Int) r5' (q2 I5) rfl (by omega) (by decide) fun p6 c6 H6 r6 s6 f6 => ?_
  have e16 := s6.keep _ _ e15 (n5 e14 d14)
  have e36 := s6.keep _ _ e35 (n5 e34 d34)
  have s06 := s05.own s6 f5'
  have f6' : ∀ y, fpS p6 y → H y = none := fun y hy => (f6 y hy).elim (f5' y) (s05.mono y)
  have n61 : ¬ fpS p6 b1 := fun h => (f6 _ h).elim (n5 e14 d14) fun h => by rw [e15] at h; cases h
  have n63 : ¬ fpS p6 b3 := fun h => (f6 _ h).elim (n5 e34 d34) fun h => by rw [e35] at h; cases h
  refine stp e16 (by simp) rfl fun H7 e17 s7 => ?_
  replace e17 : H7 b1 = some ⟨[.int .i64 kd, .int .i64 N, .slice p6 (l1.length + l2.length) c6, .int .i64 last], 40⟩ := e17
  have d13 : b3 ≠ b1 := fun h => by rw [h, e1] at hb3; cases hb3
  have e37 := s7.keep _ _ e36 d13
  simp only [get_at e17, List.getElem?_cons_zero, List.getElem?_cons_succ, ldI_mk, ldS_mk]
  refine stk e37 rfl rfl fun H8 e38 s8 => ?_
  simp only [get_at e38, List.getElem?_cons_zero, List.getElem?_cons_succ, ldI_mk, ldS_mk]
  have hl12 : (l1 ++ l2).length = l1.length + l2.length := by simp
  have I8 : Itm H8 p6 c6 key (l1 ++ l2) := by
    have := ((r6.keep s7 fun y hy h => n61 (h ▸ hy)).keep s8 fun y hy h => n63 (h ▸ hy)).congr fun i hi => itF_apps i hi
    show Row H8 p6 (l1 ++ l2).length c6 _
    rw [hl12]; exact this
  have := k H8 p6 c6 ((s06.own s7 fun y hy => hy ▸ fb1).own s8 fun y hy => hy ▸ fb3) I8 f6'
  rw [hl12] at this
  exact this

theorem rtop5 {K : Int → Int → Int → Hp → Prop} (hI : Itm H p c key l) (hl : l.length ≤ 1024) (k0 : l = [] → ∀ H', Step (fun _ => False) H H' → K 0 0 4 H')
    (k : ∀ w ∈ l, (∀ u ∈ l, ¬ lk key u w) → ∀ H', Step (fun _ => False) H H' → K (w : Nat) (key w) 0 H') : compassref05_Top.call kd N p l.length c last E H K := by
  refine compassref05_Top.of (compassref05_Top.run_eq ?_)
  unfold compassref05_Top.run_t
  refine nwk fun b1 H1 hb1 e1 s1 => ?_
  refine nwk fun b2 H2 hb2 e2 s2 => ?_
  have e12 := s2.keep _ _ e1 fun h => h
  have s02 := s1.and s2
  have fb2 : H b2 = none := s1.mono _ hb2
  simp only [get_at e12, List.getElem?_cons_zero, List.getElem?_cons_succ, ldI_mk, ldS_mk]
  refine bc (fun h => ?_) fun h => ?_
  · refine stk e2 rfl rfl fun H3 e3 s3 => ?_
    simp only [get_at e3, List.getElem?_cons_zero, List.getElem?_cons_succ, ldI_mk, ldS_mk]
    exact k0 (List.length_eq_zero_iff.1 (by omega)) H3 (s02.own s3 fun y hy => hy ▸ fb2)
  · have hpos : 0 < l.length := by omega
    try simp only [get_at e12, List.getElem?_cons_zero, List.getElem?_cons_succ, ldI_mk, ldS_mk]
    have I2 := hI.keep s02 fun _ _ h => h
    refine I2.rdr.it2 (by omega) (by omega) ?_
    have e0 := itF_at (key := key) hpos
    rw [show ((0 : Int).toNat) = ((0 : Nat) : Int).toNat from rfl, e0]
    refine nwst rfl rfl fun b4 H4 hb4 e4 s4 => ?_
    have e14 := s4.keep _ _ e12 fun h => h
    have e24 := s4.keep _ _ e2 fun h => h
    have s04 := s02.and s4
    have fb4 : H b4 = none := s02.mono _ hb4
    have d14 : b1 ≠ b4 := fun h => by rw [← h, e12] at hb4; cases hb4
    have d24 : b2 ≠ b4 := fun h => by rw [← h, e2] at hb4; cases hb4
    refine compassref05_Top.l1_rule (fun q1 t2 best4 i5 H' => q1 = b1 ∧ t2 = b2 ∧ best4 = b4 ∧ ∃ (i : Nat) (w : Nat), i5 = i ∧ 1 ≤ i ∧ i ≤ l.length ∧ Step (fun _ => False) H H' ∧ H' b1 = some ⟨[.int .i64 kd, .int .i64 N, .slice p l.length c, .int .i64 last], 40⟩ ∧ H' b2 = some ⟨[.int .i64 0, .int .i64 0], 107⟩ ∧ H' b4 = some ⟨[.int .i64 (w : Nat), .int .i64 (key w)], 107⟩ ∧
        w ∈ l ∧ ∀ j (hj : j < i) (hjl : j < l.length), ¬ lk key l[j] w)
      (fun q1 t2 best4 i5 H' => l.length - i5.toNat) ?_ ⟨rfl, rfl, rfl, 1, l[0], rfl, by decide, hpos, s04, e14, e24, e4, List.getElem_mem hpos, fun j hj hjl => by
        have : j = 0 := by omega
        subst this; exact nlk_self⟩
    rintro q1 t2 best4 i5 H5 ⟨rfl, rfl, rfl, i, w, rfl, hi1, hil, s5, q1', q2', q4', hw, hleast⟩ X hX
    refine compassref05_Top.b1_eq ?_
    unfold compassref05_Top.b1_t
    simp only [get_at q1', List.getElem?_cons_zero, List.getElem?_cons_succ, ldI_mk, ldS_mk]
    refine bc (fun hlt => ?_) fun hge => ?_
    · have hit : i < l.length := by omega
      try simp only [get_at q1', List.getElem?_cons_zero, List.getElem?_cons_succ, ldI_mk, ldS_mk]
      have I5 := hI.keep s5 fun _ _ h => h
      refine I5.rdr.it2 (by omega) (by omega) ?_
      rw [itF_at (key := key) hit]
      refine nwst rfl rfl fun b6 H6 hb6 e6 s6 => ?_
      have e16 := s6.keep _ _ q1' fun h => h
      have e26 := s6.keep _ _ q2' fun h => h
      have e46 := s6.keep _ _ q4' fun h => h
      have s06 := s5.and s6
      -- on, with the best so far
      have next : ∀ {H7 : Hp} {w7 : Nat}, Step (fun _ => False) H H7 → H7 q1 = some ⟨[.int .i64 kd, .int .i64 N, .slice p l.length c, .int .i64 last], 40⟩ → H7 t2 = some ⟨[.int .i64 0, .int .i64 0], 107⟩ → H7 best4 = some ⟨[.int .i64 (w7 : Nat), .int .i64 (key w7)], 107⟩ →
          w7 ∈ l → (∀ j (hj : j < i + 1) (hjl : j < l.length), ¬ lk key l[j] w7) → compassref05_Top.j2 q1 t2 best4 i X E H7 K := by
        intro H7 w7 s7 a1 a2 a4 hw7 hl7
        refine compassref05_Top.j2_eq ?_
        unfold compassref05_Top.j2_t
        rw [i64w (by omega) (by omega)]
        exact hX _ _ _ _ _ ⟨rfl, rfl, rfl, i + 1, w7, by omega, by omega, by omega, s7, a1, a2, a4, hw7, hl7⟩ (by omega)
      have take : lk key l[i] w → compassref05_Top.j1 q1 t2 best4 i b6 X E H6 K := by
        intro hlk
        refine compassref05_Top.j1_eq ?_
        unfold compassref05_Top.j1_t
        simp only [get_at e6, List.getElem?_cons_zero, List.getElem?_cons_succ, ldI_mk, ldS_mk]
        refine stk e46 rfl rfl fun H7 e47 s7 => ?_
        refine next (s06.own s7 fun y hy => hy ▸ fb4) (s7.keep _ _ e16 d14) (s7.keep _ _ e26 d24) e47 (List.getElem_mem hit) fun j hj hjl => ?_
        by_cases ej : j = i
        · subst ej; exact nlk_self
        · exact nlk_trans (hleast j (by omega) hjl) hlk.asymm
      have leave : ¬ lk key l[i] w → compassref05_Top.j2 q1 t2 best4 i X E H6 K := by
        intro hlk
        refine next s06 e16 e26 e46 hw fun j hj hjl => ?_
        by_cases ej : j = i
        · subst ej; exact hlk
        · exact hleast j (by omega) hjl
      simp only [get_at e6, get_at e46, List.getElem?_cons_zero, List.getElem?_cons_succ, ldI_mk, ldS_mk]
      refine bc (fun h1 => take (.inl h1)) fun h1 => ?_
      try simp only [get_at e6, get_at e46, List.getElem?_cons_zero, List.getElem?_cons_succ, ldI_mk, ldS_mk]
      refine bc (fun h2 => ?_) fun h2 => leave (by unfold lk; omega)
      try simp only [get_at e6, get_at e46, List.getElem?_cons_zero, List.getElem?_cons_succ, ldI_mk, ldS_mk]
      exact bc (fun h3 => take (by unfold lk; omega)) fun h3 => leave (by unfold lk; omega)
    · have hin : i = l.length := by omega
      refine compassref05_Top.j3_eq ?_
      unfold compassref05_Top.j3_t
      simp only [get_at q4', List.getElem?_cons_zero, List.getElem?_cons_succ, ldI_mk, ldS_mk]
      refine stk q2' rfl rfl fun H6 e6 s6 => ?_
      simp only [get_at e6, List.getElem?_cons_zero, List.getElem?_cons_succ, ldI_mk, ldS_mk]
      refine k w hw (fun u hu => ?_) H6 (s5.own s6 fun y hy => hy ▸ fb2)
      obtain ⟨j, hj, rfl⟩ := List.mem_iff_getElem.1 hu
      exact hleast j (by omega) hj
end
end Go.Mz

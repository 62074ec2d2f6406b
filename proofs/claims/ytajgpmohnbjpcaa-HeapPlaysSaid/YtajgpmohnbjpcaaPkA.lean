/-
  Joined: RaP, RaW, RaX, RaY, RaE.
-/
import Derived.Test.YtajgpmohnbjpcaaPkH
import Derived.Test.YtajgpmohnbjpcaaGRad
import Derived.Test.YtajgpmohnbjpcaaPkP
set_option linter.unusedSimpArgs false
set_option linter.unusedVariables false
/-
  Radix heaps in plain words: how many bits a number has, and where a key stands against the last one taken.
-/
namespace Go.Mz

/-- so many bits -/
def bl (n : Nat) : Nat := if n = 0 then 0 else n.log2 + 1

theorem bl_lt (n : Nat) : n < 2 ^ bl n := by
  unfold bl
  split
  · rename_i h; subst h; decide
  · exact Nat.lt_log2_self
theorem bl_ge {n : Nat} (h : 0 < bl n) : 2 ^ (bl n - 1) ≤ n := by
  unfold bl at *
  split at h
  · omega
  · rename_i h0
    rw [if_neg h0, Nat.add_sub_cancel]
    exact Nat.log2_self_le h0

theorem bl_pos {n : Nat} (h : 0 < n) : 0 < bl n := by unfold bl; rw [if_neg (by omega)]; omega

theorem bl_uniq {n i : Nat} (h1 : n < 2 ^ i) (h2 : 0 < i → 2 ^ (i - 1) ≤ n) : bl n = i := by
  have a := bl_lt n
  rcases Nat.lt_trichotomy (bl n) i with h | h | h
  · have b := h2 (by omega)
    have : 2 ^ bl n ≤ 2 ^ (i - 1) := Nat.pow_le_pow_right (by decide) (by omega)
    omega
  · exact h
  · have b := bl_ge (n := n) (by omega)
    have : 2 ^ i ≤ 2 ^ (bl n - 1) := Nat.pow_le_pow_right (by decide) (by omega)
    omega

theorem bl_le {n k : Nat} (h : n < 2 ^ k) : bl n ≤ k := by
  rcases Nat.lt_or_ge k (bl n) with h' | h'
  · have b := bl_ge (n := n) (by omega)
    have : 2 ^ k ≤ 2 ^ (bl n - 1) := Nat.pow_le_pow_right (by decide) (by omega)
    omega
  · exact h'

/-- the upper part alone, when there is one -/
theorem bl_hi {n k : Nat} (h : 2 ^ k ≤ n) : bl n = bl (n / 2 ^ k) + k := by
  have hk : 0 < 2 ^ k := Nat.pow_pos (by decide)
  have hq : 0 < n / 2 ^ k := Nat.div_pos h hk
  have hb := bl_pos hq
  have h1 := bl_lt (n / 2 ^ k)
  have h2 := bl_ge hb
  refine bl_uniq ?_ fun _ => ?_
  · rw [Nat.pow_add]; exact (Nat.div_lt_iff_lt_mul hk).1 h1
  · have : bl (n / 2 ^ k) + k - 1 = (bl (n / 2 ^ k) - 1) + k := by omega
    rw [this, Nat.pow_add]; exact (Nat.le_div_iff_mul_le hk).1 h2

/-- where a key stands, of the last one taken -/
def pl8 (x y : Nat) : Nat := bl (x ^^^ y)

theorem pl8_le {x y : Nat} (hx : x < 2 ^ 63) (hy : y < 2 ^ 63) : pl8 x y ≤ 63 := bl_le (Nat.xor_lt_two_pow hx hy)

/-- the upper parts are the same above its place -/
theorem pl8_hi {x y i : Nat} (h : pl8 x y ≤ i) : x / 2 ^ i = y / 2 ^ i := by
  have h1 : x ^^^ y < 2 ^ i := Nat.lt_of_lt_of_le (bl_lt _) (Nat.pow_le_pow_right (by decide) h)
  have h2 : (x ^^^ y) / 2 ^ i = 0 := Nat.div_eq_of_lt h1
  rw [Nat.xor_div_two_pow] at h2
  have h3 : x / 2 ^ i = (x / 2 ^ i ^^^ y / 2 ^ i) ^^^ y / 2 ^ i := by rw [Nat.xor_assoc, Nat.xor_self, Nat.xor_zero]
  rw [h2, Nat.zero_xor] at h3
  exact h3

/-- a key of a lower place is less -/
theorem pl8_lt {x x' y : Nat} (hy : y ≤ x') (h : pl8 x y < pl8 x' y) : x < x' := by
  have hk : 0 < 2 ^ (pl8 x' y - 1) := Nat.pow_pos (by decide)
  have h1 : x / 2 ^ (pl8 x' y - 1) = y / 2 ^ (pl8 x' y - 1) := pl8_hi (by omega)
  have h2 : x' / 2 ^ (pl8 x' y - 1) ≠ y / 2 ^ (pl8 x' y - 1) := by
    intro e
    have h3 : (x' ^^^ y) / 2 ^ (pl8 x' y - 1) = 0 := by rw [Nat.xor_div_two_pow, e, Nat.xor_self]
    have h4 : 2 ^ (pl8 x' y - 1) ≤ x' ^^^ y := bl_ge (n := x' ^^^ y) (by unfold pl8 at h; omega)
    have := Nat.div_pos h4 hk
    omega
  have h3 : y / 2 ^ (pl8 x' y - 1) ≤ x' / 2 ^ (pl8 x' y - 1) := Nat.div_le_div_right hy
  refine Nat.lt_of_not_le fun h4 => ?_
  have h5 : x' / 2 ^ (pl8 x' y - 1) ≤ x / 2 ^ (pl8 x' y - 1) := Nat.div_le_div_right h4
  omega

/-- a key of a higher place stays there when one of a lower place is taken -/
theorem pl8_stay {x y z : Nat} (h : pl8 z y < pl8 x y) : pl8 x z = pl8 x y := by
  have e : x ^^^ z = (x ^^^ y) ^^^ (z ^^^ y) := by
    rw [Nat.xor_comm z y, Nat.xor_assoc x y, ← Nat.xor_assoc y y z, Nat.xor_self, Nat.zero_xor]
  have h1 : z ^^^ y < 2 ^ (pl8 x y - 1) := Nat.lt_of_lt_of_le (bl_lt _) (Nat.pow_le_pow_right (by decide) (by show pl8 z y ≤ _; omega))
  have hx := bl_lt (x ^^^ y)
  have hg := bl_ge (n := x ^^^ y) (by show 0 < pl8 x y; omega)
  show bl (x ^^^ z) = pl8 x y
  rw [e]
  refine bl_uniq (Nat.xor_lt_two_pow hx (Nat.lt_of_lt_of_le h1 (Nat.pow_le_pow_right (by decide) (by omega)))) fun _ => ?_
  refine Nat.ge_two_pow_of_testBit ?_
  rw [Nat.testBit_xor, Nat.testBit_lt_two_pow h1]
  have : (x ^^^ y).testBit (pl8 x y - 1) = true := Nat.testBit_of_two_pow_le_and_two_pow_add_one_gt hg (by
    have : pl8 x y - 1 + 1 = bl (x ^^^ y) := by show _ = pl8 x y; omega
    rw [this]; exact hx)
  rw [this]; rfl

/-! ### What lies in which place -/

structure Rdx (key : Nat → Int) (base : Int) (S : Nat → Bool) (n : Nat) (L : Nat → List Nat) : Prop where
  b0 : 0 ≤ base
  b1 : base ≤ 9223372036854775807
  lo : ∀ v, S v = true → base ≤ key v
  hi : ∀ v, S v = true → key v ≤ 9223372036854775807
  mem : ∀ i v, i < 65 → (v ∈ L i ↔ S v = true ∧ pl8 (key v).toNat base.toNat = i)
  nd : ∀ i, i < 65 → (L i).Nodup
  sub : ∀ v, S v = true → v < n

theorem Rdx.at {key : Nat → Int} {base : Int} {S : Nat → Bool} {n : Nat} {L : Nat → List Nat} (h : Rdx key base S n L) {v : Nat} (hv : S v = true) : pl8 (key v).toNat base.toNat < 65 := by
  have := pl8_le (x := (key v).toNat) (y := base.toNat) (by have := h.hi v hv; omega) (by have := h.b1; omega)
  omega

/-- a list without two of the same, all below `n` -/
theorem nd_len : ∀ {n : Nat} {l : List Nat}, l.Nodup → (∀ v ∈ l, v < n) → l.length ≤ n
  | 0, [], _, _ => Nat.le_refl _
  | 0, x :: l, _, h => absurd (h x (by simp)) (by omega)
  | n + 1, l, hn, h => by
    have h1 := nd_len (n := n) (l := l.erase n) (hn.erase n) (fun v hv => by
      have := h v (List.mem_of_mem_erase hv)
      have : v ≠ n := fun e => by subst e; exact (List.Nodup.not_mem_erase hn) hv
      omega)
    have h2 : l.length ≤ (l.erase n).length + 1 := by
      rw [List.length_erase]
      split <;> omega
    omega

/-- the least of the first place that has any is the least of all -/
theorem Rdx.least {key : Nat → Int} {base : Int} {S : Nat → Bool} {n b w : Nat} {L : Nat → List Nat} (h : Rdx key base S n L) (hb : b < 65) (he : ∀ i, i < b → L i = []) (hw : w ∈ L b) (hl : ∀ u ∈ L b, ¬ lk key u w) : ∀ u, S u = true → ¬ lk key u w := by
  intro u hu
  have hpu := h.at hu
  have hmu := (h.mem _ u hpu).2 ⟨hu, rfl⟩
  have ⟨hsw, hpw⟩ := (h.mem b w hb).1 hw
  rcases Nat.lt_trichotomy (pl8 (key u).toNat base.toNat) b with e | e | e
  · rw [he _ e] at hmu; cases hmu
  · rw [e] at hmu; exact hl u hmu
  · have := pl8_lt (x := (key w).toNat) (x' := (key u).toNat) (y := base.toNat) (by have := h.lo u hu; omega) (by omega)
    unfold lk; omega

/-- one more is put in its place -/
theorem Rdx.put {key : Nat → Int} {base : Int} {S : Nat → Bool} {n v : Nat} {L : Nat → List Nat} (h : Rdx key base S n L) (hv : S v = false) (hn : v < n) (h1 : base ≤ key v) (h2 : key v ≤ 9223372036854775807) :
    Rdx key base (upf S v true) n (upf L (pl8 (key v).toNat base.toNat) (L (pl8 (key v).toNat base.toNat) ++ [v])) := by
  have hp : pl8 (key v).toNat base.toNat < 65 := by
    have := pl8_le (x := (key v).toNat) (y := base.toNat) (by omega) (by have := h.b1; omega)
    omega
  have hS : ∀ u, upf S v true u = true ↔ u = v ∨ S u = true := fun u => by
    by_cases e : u = v
    · subst e; simp [upf_same]
    · simp [upf_ne e, e]
  have hvL : ∀ i, i < 65 → v ∉ L i := fun i hi hm => by have := ((h.mem i v hi).1 hm).1; rw [hv] at this; cases this
  refine ⟨h.b0, h.b1, fun u hu => ?_, fun u hu => ?_, fun i u hi => ?_, fun i hi => ?_, fun u hu => ?_⟩
  · rcases (hS u).1 hu with rfl | hu
    · exact h1
    · exact h.lo u hu
  · rcases (hS u).1 hu with rfl | hu
    · exact h2
    · exact h.hi u hu
  · rw [hS]
    by_cases ei : i = pl8 (key v).toNat base.toNat
    · subst ei
      rw [upf_same, List.mem_append, List.mem_singleton, h.mem _ u hi]
      constructor
      · rintro (⟨h1, h2⟩ | rfl)
        · exact ⟨.inr h1, h2⟩
        · exact ⟨.inl rfl, rfl⟩
      · rintro ⟨rfl | h1, h2⟩
        · exact .inr rfl
        · exact .inl ⟨h1, h2⟩
    · rw [upf_ne ei, h.mem i u hi]
      constructor
      · rintro ⟨q1, q2⟩; exact ⟨.inr q1, q2⟩
      · rintro ⟨rfl | q1, q2⟩
        · exact absurd q2.symm ei
        · exact ⟨q1, q2⟩
  · by_cases ei : i = pl8 (key v).toNat base.toNat
    · subst ei
      rw [upf_same, List.nodup_append]
      exact ⟨h.nd _ hi, by simp, fun x hx y hy => by simp at hy; subst hy; exact fun e => hvL _ hi (e ▸ hx)⟩
    · rw [upf_ne ei]; exact h.nd i hi
  · rcases (hS u).1 hu with rfl | hu
    · exact hn
    · exact h.sub u hu

/-- one is taken out of its place -/
theorem Rdx.out {key : Nat → Int} {base : Int} {S : Nat → Bool} {n v b : Nat} {l1 l2 : List Nat} {L : Nat → List Nat} (h : Rdx key base S n L) (hb : b < 65) (e : L b = l1 ++ v :: l2) :
    Rdx key base (upf S v false) n (upf L b (l1 ++ l2)) := by
  have hvb : v ∈ L b := by rw [e]; simp
  have hS : ∀ u, upf S v false u = true ↔ u ≠ v ∧ S u = true := fun u => by
    by_cases e : u = v
    · subst e; simp [upf_same]
    · simp [upf_ne e, e]
  have hnd := h.nd b hb
  rw [e] at hnd
  have hnd2 : (v :: (l1 ++ l2)).Nodup := (List.perm_middle.nodup_iff).1 hnd
  refine ⟨h.b0, h.b1, fun u hu => h.lo u ((hS u).1 hu).2, fun u hu => h.hi u ((hS u).1 hu).2, fun i u hi => ?_, fun i hi => ?_, fun u hu => h.sub u ((hS u).1 hu).2⟩
  · rw [hS]
    by_cases ei : i = b
    · subst ei
      rw [upf_same]
      have hm := h.mem i u hi
      rw [e] at hm
      constructor
      · intro hu
        have h1 := hm.1 (by simp at hu ⊢; rcases hu with h | h <;> simp [h])
        exact ⟨⟨fun e => (List.nodup_cons.1 hnd2).1 (e ▸ hu), h1.1⟩, h1.2⟩
      · rintro ⟨⟨h1, h2⟩, h3⟩
        have := hm.2 ⟨h2, h3⟩
        simp at this ⊢
        rcases this with h | h | h
        · exact .inl h
        · exact absurd h h1
        · exact .inr h
    · rw [upf_ne ei, h.mem i u hi]
      constructor
      · rintro ⟨h1, h2⟩
        refine ⟨⟨fun e' => ?_, h1⟩, h2⟩
        subst e'
        exact ei (h2.symm.trans ((h.mem b u hb).1 hvb).2)
      · rintro ⟨⟨_, h1⟩, h2⟩; exact ⟨h1, h2⟩
  · by_cases ei : i = b
    · subst ei; rw [upf_same]; exact (List.nodup_cons.1 hnd2).2
    · rw [upf_ne ei]; exact h.nd i hi

/-- the least is the new last one; all others of its place are to be put anew -/
theorem Rdx.last {key : Nat → Int} {base : Int} {S : Nat → Bool} {n w b : Nat} {L : Nat → List Nat} (h : Rdx key base S n L) (hb : b < 65) (he : ∀ i, i < b → L i = []) (hw : w ∈ L b) (hl : ∀ u ∈ L b, ¬ lk key u w) :
    Rdx key (key w) (fun u => S u && !decide (u ∈ L b)) n (upf L b []) := by
  have ⟨hsw, hpw⟩ := (h.mem b w hb).1 hw
  have hall := h.least hb he hw hl
  have hS : ∀ u, (S u && !decide (u ∈ L b)) = true ↔ S u = true ∧ u ∉ L b := fun u => by simp
  refine ⟨by have := h.lo w hsw; have := h.b0; omega, h.hi w hsw, fun u hu => ?_, fun u hu => h.hi u ((hS u).1 hu).1, fun i u hi => ?_, fun i hi => ?_, fun u hu => h.sub u ((hS u).1 hu).1⟩
  · have := hall u ((hS u).1 hu).1
    unfold lk at this
    omega
  · rw [hS]
    have hup : ∀ u, S u = true → u ∉ L b → b < pl8 (key u).toNat base.toNat := by
      intro u hu hub
      have hmu := (h.mem _ u (h.at hu)).2 ⟨hu, rfl⟩
      rcases Nat.lt_trichotomy (pl8 (key u).toNat base.toNat) b with e | e | e
      · rw [he _ e] at hmu; cases hmu
      · rw [e] at hmu; exact absurd hmu hub
      · exact e
    have hst : ∀ u, S u = true → u ∉ L b → pl8 (key u).toNat (key w).toNat = pl8 (key u).toNat base.toNat := fun u hu hub => pl8_stay (by rw [hpw]; exact hup u hu hub)
    by_cases ei : i = b
    · subst ei
      rw [upf_same]
      constructor
      · intro h; cases h
      · rintro ⟨⟨h1, h2⟩, h3⟩
        rw [hst u h1 h2] at h3
        have := hup u h1 h2
        omega
    · rw [upf_ne ei, h.mem i u hi]
      constructor
      · rintro ⟨h1, h2⟩
        have hub : u ∉ L b := fun hm => ei (h2.symm.trans ((h.mem b u hb).1 hm).2)
        exact ⟨⟨h1, hub⟩, by rw [hst u h1 hub]; exact h2⟩
      · rintro ⟨⟨h1, h2⟩, h3⟩
        exact ⟨h1, by rw [← hst u h1 h2]; exact h3⟩
  · by_cases ei : i = b
    · subst ei; rw [upf_same]; exact List.nodup_nil
    · rw [upf_ne ei]; exact h.nd i hi

/-- a key becomes less, its node out of the heap -/
theorem Rdx.cg {key key' : Nat → Int} {base : Int} {S : Nat → Bool} {n : Nat} {L : Nat → List Nat} (h : Rdx key base S n L) (hk : ∀ v, S v = true → key v = key' v) : Rdx key' base S n L := by
  refine ⟨h.b0, h.b1, fun v hv => hk v hv ▸ h.lo v hv, fun v hv => hk v hv ▸ h.hi v hv, fun i v hi => ?_, h.nd, h.sub⟩
  rw [h.mem i v hi]
  constructor
  · rintro ⟨h1, h2⟩; exact ⟨h1, by rw [← hk v h1]; exact h2⟩
  · rintro ⟨h1, h2⟩; exact ⟨h1, by rw [hk v h1]; exact h2⟩
end Go.Mz

/-
  Walks of layer 5: the radix heap: how many bits a number has, where a key belongs, and the buckets as they lie in memory.
-/
set_option maxRecDepth 100000
namespace Go.Mz

/-! ### Bits -/

def tab8 : ByteArray := ByteArray.mk #[0, 1, 2, 2, 3, 3, 3, 3, 4, 4, 4, 4, 4, 4, 4, 4, 5, 5, 5, 5, 5, 5, 5, 5, 5, 5, 5, 5, 5, 5, 5, 5, 6, 6, 6, 6, 6, 6, 6, 6, 6, 6, 6, 6, 6, 6, 6, 6, 6, 6, 6, 6, 6, 6, 6, 6, 6, 6, 6, 6, 6, 6, 6, 6, 7, 7, 7, 7, 7, 7, 7, 7, 7, 7, 7, 7, 7, 7, 7, 7, 7, 7, 7, 7, 7, 7, 7, 7, 7, 7, 7, 7, 7, 7, 7, 7, 7, 7, 7, 7, 7, 7, 7, 7, 7, 7, 7, 7, 7, 7, 7, 7, 7, 7, 7, 7, 7, 7, 7, 7, 7, 7, 7, 7, 7, 7, 7, 7, 8, 8, 8, 8, 8, 8, 8, 8, 8, 8, 8, 8, 8, 8, 8, 8, 8, 8, 8, 8, 8, 8, 8, 8, 8, 8, 8, 8, 8, 8, 8, 8, 8, 8, 8, 8, 8, 8, 8, 8, 8, 8, 8, 8, 8, 8, 8, 8, 8, 8, 8, 8, 8, 8, 8, 8, 8, 8, 8, 8, 8, 8, 8, 8, 8, 8, 8, 8, 8, 8, 8, 8, 8, 8, 8, 8, 8, 8, 8, 8, 8, 8, 8, 8, 8, 8, 8, 8, 8, 8, 8, 8, 8, 8, 8, 8, 8, 8, 8, 8, 8, 8, 8, 8, 8, 8, 8, 8, 8, 8, 8, 8, 8, 8, 8, 8, 8, 8, 8, 8, 8, 8, 8, 8, 8, 8, 8, 8]

theorem tab8_all : (List.range 256).all (fun x => Nat.beq ((tab8[x]?.getD 0).toNat) (bl x)) = true := by decide +kernel

theorem tab8_at {x : Nat} (h : x < 256) : (tab8[x]?.getD 0).toNat = bl x := by
  have := List.all_eq_true.1 tab8_all x (List.mem_range.2 h)
  exact Nat.eq_of_beq_eq_true this

section
variable {E : Value → Hp → Prop}

theorem len3 {x m : Nat} {H : Hp} {K : Int → Hp → Prop} (hx : x < 256) (hm : m ≤ 100) (k : K ((m + bl x : Nat) : Int) H) : bits_Len64.j3 (x : Int) (m : Int) E H K := by
  refine bits_Len64.j3_eq ?_
  unfold bits_Len64.j3_t
  have h8 : bl x ≤ 8 := bl_le (k := 8) (by omega)
  rw [IntWalk.u8_in x ⟨by omega, by omega⟩, Int.toNat_natCast]
  have e : IntKind.wrap .i64 ((m : Int) + IntKind.wrap .i64 (((tab8[x]?.getD 0).toNat : Nat) : Int)) = ((m + bl x : Nat) : Int) := by
    have e1 : IntKind.wrap .i64 ((bl x : Nat) : Int) = (bl x : Nat) := i64w (by omega) (by omega)
    rw [tab8_at hx, e1, i64w (by omega) (by omega)]; omega
  rw [← e] at k
  have hs : tab8.size = 256 := by rfl
  have h0 : (x : Int) < (tab8.size : Int) := by rw [hs]; omega
  exact ⟨⟨by omega, h0⟩, k⟩

theorem fdiv_nat {x k : Nat} : Int.fdiv (x : Int) (2 ^ k) = ((x / 2 ^ k : Nat) : Int) := by
  rw [Int.fdiv_eq_ediv_of_nonneg _ (Int.le_of_lt (Int.pow_pos (by decide)))]
  simp

theorem len2 {x m : Nat} {H : Hp} {K : Int → Hp → Prop} (hx : x < 65536) (hm : m ≤ 60) (k : K ((m + bl x : Nat) : Int) H) : bits_Len64.j2 (x : Int) (m : Int) E H K := by
  refine bits_Len64.j2_eq ?_
  unfold bits_Len64.j2_t
  refine bc (fun h => ?_) fun h => ?_
  · refine ⟨by omega, ?_⟩
    have e : min 8 (IntKind.bits .u64) = 8 := rfl
    rw [e, fdiv_nat, i64w (by omega) (by omega)]
    have hm8 : (m : Int) + 8 = ((m + 8 : Nat) : Int) := by omega
    rw [hm8]
    have hb := bl_hi (n := x) (k := 8) (by omega)
    refine len3 (by omega) (by omega) ?_
    have : m + 8 + bl (x / 2 ^ 8) = m + bl x := by omega
    rw [this]; exact k
  · exact len3 (by omega) (by omega) k

theorem len1 {x m : Nat} {H : Hp} {K : Int → Hp → Prop} (hx : x < 4294967296) (hm : m ≤ 40) (k : K ((m + bl x : Nat) : Int) H) : bits_Len64.j1 (x : Int) (m : Int) E H K := by
  refine bits_Len64.j1_eq ?_
  unfold bits_Len64.j1_t
  refine bc (fun h => ?_) fun h => ?_
  · refine ⟨by omega, ?_⟩
    have e : min 16 (IntKind.bits .u64) = 16 := rfl
    rw [e, fdiv_nat, i64w (by omega) (by omega)]
    have hm8 : (m : Int) + 16 = ((m + 16 : Nat) : Int) := by omega
    rw [hm8]
    have hb := bl_hi (n := x) (k := 16) (by omega)
    refine len2 (by omega) (by omega) ?_
    have : m + 16 + bl (x / 2 ^ 16) = m + bl x := by omega
    rw [this]; exact k
  · exact len2 (by omega) (by omega) k

theorem len64 {x : Nat} {H : Hp} {K : Int → Hp → Prop} (hx : x < 18446744073709551616) (k : K ((bl x : Nat) : Int) H) : bits_Len64.call (x : Int) E H K := by
  refine bits_Len64.of (bits_Len64.run_eq ?_)
  unfold bits_Len64.run_t
  refine bc (fun h => ?_) fun h => ?_
  · refine ⟨by omega, ?_⟩
    have e : min 32 (IntKind.bits .u64) = 32 := rfl
    rw [e, fdiv_nat]
    have hb := bl_hi (n := x) (k := 32) (by omega)
    refine len1 (m := 32) (by omega) (by omega) ?_
    have : 32 + bl (x / 2 ^ 32) = bl x := by omega
    rw [this]; exact k
  · refine len1 (m := 0) (by omega) (by omega) ?_
    rw [Nat.zero_add]; exact k

/-! ### The buckets -/

structure RadM (H : Hp) (eb q : Nat) (base : Int) (sl : Nat → Sl) (L : Nat → List Nat) : Prop where
  ptr : H.get eb 0 = some (.pointer (some ⟨q, 0, none⟩))
  bs : H.get eb 1 = some (.int .i64 base)
  row : Row H (some ⟨eb, 2, none⟩) 65 65 sl
  len : ∀ v, v < 65 → (sl v).n = (L v).length
  each : ∀ v, v < 65 → Row H (sl v).p (L v).length (sl v).c (lsF (L v))
  sep : ∀ u v, u < 65 → v < 65 → u ≠ v → ∀ x, fpS (sl u).p x → ¬ fpS (sl v).p x
  out : ∀ v, v < 65 → ∀ x, fpS (sl v).p x → x ≠ eb

/-- the blocks that are the heap's own -/
def RFP (eb : Nat) (sl : Nat → Sl) (y : Nat) : Prop := y = eb ∨ ∃ v, v < 65 ∧ fpS (sl v).p y

variable {H : Hp} {eb q n : Nat} {base : Int} {sl : Nat → Sl} {L : Nat → List Nat}

theorem RadM.live (h : RadM H eb q base sl L) {y : Nat} (hy : RFP eb sl y) : H y ≠ none := by
  rcases hy with rfl | ⟨v, hv, hy⟩
  · exact h.row.live ⟨_, rfl⟩
  · exact (h.each v hv).live hy

theorem RadM.keep {H' : Hp} {F : Nat → Prop} (h : RadM H eb q base sl L) (s : Step F H H') (d : ∀ y, RFP eb sl y → ¬ F y) : RadM H' eb q base sl L :=
  ⟨s.get h.ptr (d _ (.inl rfl)), s.get h.bs (d _ (.inl rfl)), h.row.keep s fun y hy => by rw [fpS_mk] at hy; exact hy ▸ d _ (.inl rfl), h.len, fun v hv => (h.each v hv).keep s fun y hy => d y (.inr ⟨v, hv, hy⟩), h.sep, h.out⟩

/-- a bucket is read -/
theorem RadM.ld (h : RadM H eb q base sl L) {i : Nat} (hi : i < 65) {K : Option Addr → Nat → Nat → Prop} (k : K (sl i).p (L i).length (sl i).c) : ix (some ⟨eb, 2, none⟩) 65 (i : Int) 1 fun b o => ldS (H.get b o) K := by
  refine h.row.rdr.ixS (by omega) (by omega) ?_
  rw [Int.toNat_natCast, h.len i hi]; exact k

/-- the last one taken is written -/
theorem RadM.stB (h : RadM H eb q base sl L) (x : Int) {K : Hp → Prop} (k : ∀ H', RadM H' eb q x sl L → Step (· = eb) H H' → K H') : stC H eb 1 [.int .i64 x] K := by
  have hrow := h.row
  rcases hrow.cells with ⟨e, _⟩ | ⟨b, o, y, e, hy, ⟨hl, hz⟩, ha⟩
  · cases e
  · cases e
    have hl' : 67 ≤ y.cells.length := hl
    have s : Step (· = eb) H (H.upd eb ⟨putL y.cells 1 [.int .i64 x], y.ty⟩) := Step.wr hy rfl
    have hp := h.ptr
    simp only [Hp.get, hy, Option.bind_some] at hp
    refine ⟨y, hy, ⟨by simp; omega, hz⟩, k _ ⟨?_, ?_, ⟨hrow.le, hrow.cap, .inr ⟨eb, 2, _, rfl, upd_same, ⟨by rw [putL_length]; exact hl, hz⟩, ?_⟩⟩, h.len, fun v hv => (h.each v hv).keep s fun y hy e => h.out v hv y hy e, h.sep, h.out⟩ s⟩
    · simp only [Hp.get, upd_same, Option.bind_some]
      rw [putL_get _ _ _ _ (by simp; omega), if_neg (by simp)]; exact hp
    · simp only [Hp.get, upd_same, Option.bind_some]
      rw [putL_get _ _ _ _ (by simp; omega), if_pos (by simp)]; rfl
    · intro i hi j hj
      rw [putL_get _ _ _ _ (by simp; omega), if_neg (by simp; omega)]
      exact ha i hi j hj

/-- a bucket's row is another, and is told -/
theorem RadM.put {H4 : Hp} {F4 : Nat → Prop} (h : RadM H eb q base sl L) {i : Nat} (hi : i < 65) {p' : Option Addr} {c' : Nat} {l' : List Nat} (r4 : Row H4 p' l'.length c' (lsF l')) (s4 : Step F4 H H4) (hF : ∀ y, F4 y → fpS (sl i).p y) (f4 : ∀ y, fpS p' y → fpS (sl i).p y ∨ H y = none) {m : Nat} (hm : m = l'.length)
    {K : Hp → Prop} (k : ∀ H5, RadM H5 eb q base (upf sl i ⟨p', l'.length, c'⟩) (upf L i l') → Step (RFP eb sl) H H5 → (∀ y, RFP eb (upf sl i ⟨p', l'.length, c'⟩) y → RFP eb sl y ∨ H y = none) → K H5) :
    ix (some ⟨eb, 2, none⟩) 65 (i : Int) 1 fun b o => stC H4 b o [.slice p' m c'] K := by
  subst hm
  have leb : H eb ≠ none := h.row.live ⟨_, rfl⟩
  have deb : ¬ F4 eb := fun hh => h.out i hi _ (hF _ hh) rfl
  have p'b : ∀ y, fpS p' y → y ≠ eb := fun y hy e => by
    rcases f4 y hy with h' | h'
    · exact h.out i hi y h' e
    · exact leb (e ▸ h')
  have p'v : ∀ v, v < 65 → v ≠ i → ∀ y, fpS p' y → ¬ fpS (sl v).p y := fun v hv hne y hy hy' => by
    rcases f4 y hy with h' | h'
    · exact h.sep i v hi hv (Ne.symm hne) y h' hy'
    · exact (h.each v hv).live hy' h'
  have hrow := h.row.keep s4 fun y hy => by rw [fpS_mk] at hy; exact hy ▸ deb
  have hptr := s4.get h.ptr deb
  have hbs := s4.get h.bs deb
  rcases hrow.cells with ⟨e, _⟩ | ⟨b, o, y, e, hy, ⟨hl, hz⟩, ha⟩
  · cases e
  · cases e
    have hl' : 67 ≤ y.cells.length := hl
    simp only [Hp.get, hy, Option.bind_some] at hptr hbs
    have s5 : Step (· = eb) H4 (H4.upd eb ⟨putL y.cells (2 + i * 1) [.slice p' l'.length c'], y.ty⟩) := Step.wr hy rfl
    refine ⟨⟨by omega, by omega⟩, ?_⟩
    rw [Int.toNat_natCast]
    refine ⟨y, hy, ⟨by simp; omega, hz⟩, k _ ⟨?_, ?_, ⟨hrow.le, hrow.cap, .inr ⟨eb, 2, _, rfl, upd_same, ⟨by rw [putL_length]; exact hl, hz⟩, ?_⟩⟩, fun v hv => ?_, fun v hv => ?_, fun v w hv hw hne y => ?_, fun v hv y => ?_⟩ ?_ fun y hy => ?_⟩
    · simp only [Hp.get, upd_same, Option.bind_some]
      rw [putL_get _ _ _ _ (by simp; omega), if_neg (by simp)]; exact hptr
    · simp only [Hp.get, upd_same, Option.bind_some]
      rw [putL_get _ _ _ _ (by simp; omega), if_neg (by simp; omega)]; exact hbs
    · exact ha.put (x := (⟨p', l'.length, c'⟩ : Sl)) hi hl
    · by_cases e : v = i
      · subst e; simp [upf_same]
      · rw [upf_ne e, upf_ne e]; exact h.len v hv
    · by_cases e : v = i
      · subst e
        rw [upf_same, upf_same]
        exact r4.keep s5 fun y hy hy' => p'b y hy hy'
      · rw [upf_ne e, upf_ne e]
        exact ((h.each v hv).keep s4 fun y hy hh => h.sep v i hv hi e y hy (hF y hh)).keep s5 fun y hy hy' => h.out v hv y hy hy'
    · by_cases ev : v = i
      · subst ev
        rw [upf_same, upf_ne (Ne.symm hne)]
        exact p'v w hw (Ne.symm hne) y
      · rw [upf_ne ev]
        by_cases ew : w = i
        · subst ew
          rw [upf_same]
          exact fun hy hy' => p'v v hv ev y hy' hy
        · rw [upf_ne ew]; exact h.sep v w hv hw hne y
    · by_cases ev : v = i
      · subst ev; rw [upf_same]; exact p'b y
      · rw [upf_ne ev]; exact h.out v hv y
    · exact (s4.weak fun y hy => .inl (.inr ⟨i, hi, hF y hy⟩)).trans s5 fun y hy => .inl (.inl hy)
    · rcases hy with rfl | ⟨v, hv, hy⟩
      · exact .inl (.inl rfl)
      · by_cases ev : v = i
        · subst ev
          rw [upf_same] at hy
          exact (f4 y hy).imp (fun h' => .inr ⟨v, hv, h'⟩) id
        · rw [upf_ne ev] at hy
          exact .inl (.inr ⟨v, hv, hy⟩)

theorem row1 {b x : Nat} {t : BT} (e : H b = some ⟨[.int .i64 (x : Int)], t⟩) (ht : t.fz = (0, 0)) : Row H (some ⟨b, 0, none⟩) 1 1 (lsF [x]) :=
  ⟨Nat.le_refl _, by decide, .inr ⟨b, 0, _, rfl, e, ⟨Nat.le_refl 1, ht⟩, fun i hi j hj => by
    have : i = 0 := by omega
    subst this
    have : j = 0 := by have : El.w Int = 1 := rfl; omega
    subst this; rfl⟩⟩

/-- where a key belongs -/
theorem rplace {v : Nat} {kp : Option Addr} {key : Nat → Int} {K : Int → Hp → Prop} (hM : RadM H eb q base sl L) (hk : KeyM H q n kp key) (hv : v < n) (b0 : 0 ≤ base) (b1 : base ≤ 9223372036854775807) (k0 : 0 ≤ key v) (k1 : key v ≤ 9223372036854775807)
    (k : K ((pl8 (key v).toNat base.toNat : Nat) : Int) H) : heaps_radix_place.call (some ⟨eb, 0, none⟩) v E H K := by
  obtain ⟨c, hc⟩ := hk.cell
  refine heaps_radix_place.of (heaps_radix_place.run_eq ?_)
  unfold heaps_radix_place.run_t
  simp only [nn_mk, hM.ptr, hM.bs, hc, ldP_mk, ldS_mk, ldI_mk, Nat.zero_add]
  refine hk.row.ixI (by omega) (by omega) ?_
  rw [Int.toNat_natCast]
  have e1 : (BitVec.ofInt (IntKind.bits .i64) (key v)).toNat = (key v).toNat := by
    have : (BitVec.ofInt 64 (key v)).toNat = (key v % (2 ^ 64 : Int)).toNat := by simp [BitVec.toNat_ofInt]
    show (BitVec.ofInt 64 (key v)).toNat = _
    rw [this, Int.emod_eq_of_lt k0 (by omega)]
  have e2 : (BitVec.ofInt (IntKind.bits .i64) base).toNat = base.toNat := by
    have : (BitVec.ofInt 64 base).toNat = (base % (2 ^ 64 : Int)).toNat := by simp [BitVec.toNat_ofInt]
    show (BitVec.ofInt 64 base).toNat = _
    rw [this, Int.emod_eq_of_lt b0 (by omega)]
  rw [BitVec.toNat_xor, e1, e2]
  have hx : (key v).toNat ^^^ base.toNat < 2 ^ 63 := Nat.xor_lt_two_pow (by omega) (by omega)
  rw [i64w (by omega) (by omega), IntWalk.u64_in _ ⟨by omega, by omega⟩]
  exact len64 (by omega) k
end
end Go.Mz

/-
  Walks of layer 5: the radix heap's methods.
-/
namespace Go.Mz

section
variable {E : Value → Hp → Prop}
variable {H : Hp} {eb q n : Nat} {base : Int} {sl : Nat → Sl} {L : Nat → List Nat} {kp : Option Addr} {key : Nat → Int} {S : Nat → Bool}

theorem RadM.get (h : RadM H eb q base sl L) {i : Nat} (hi : i < 65) : H.get eb (2 + i * 1) = some (.slice (sl i).p (L i).length (sl i).c) := by
  obtain ⟨b, o, e, hg⟩ := h.row.rdr i hi
  cases e
  have := hg 0 (by decide)
  rw [← h.len i hi]
  exact this

theorem ixk {b o m i : Nat} {sz : Nat} {G : Nat → Nat → Prop} (hi : i < m) (k : G b (o + i * sz)) : ix (some ⟨b, o, none⟩) m (i : Int) sz G := ⟨⟨by omega, by omega⟩, by rw [Int.toNat_natCast]; exact k⟩

theorem Rdx.short (h : Rdx key base S n L) {i : Nat} (hi : i < 65) : (L i).length ≤ n := nd_len (h.nd i hi) fun v hv => h.sub v ((h.mem i v hi).1 hv).1

/-- one is put at a bucket's end -/
theorem rtail {b b3 v : Nat} {t : BT} (hM : RadM H eb q base sl L) (hb : b < 65) (e3 : H b3 = some ⟨[.int .i64 (v : Int)], t⟩) (ht : t.fz = (0, 0)) (hl : (L b).length ≤ 1024) {K : Hp → Prop}
    (k : ∀ H' sl', RadM H' eb q base sl' (upf L b (L b ++ [v])) → Step (RFP eb sl) H H' → (∀ y, RFP eb sl' y → RFP eb sl y ∨ H y = none) → K H') :
    appM 3 [.i .i64] 8 (sl b).p (L b).length (sl b).c (some ⟨b3, 0, none⟩) 1 H fun p m c H4 => ix (some ⟨eb, 2, none⟩) 65 (b : Int) 1 fun bb o => stC H4 bb o [.slice p m c] K := by
  refine Row.appR (α := Int) (hM.each b hb) (row1 e3 ht) rfl (by omega) (by decide) fun p' c' H4 r4 s4 f4 => ?_
  have e := lsF_apps (l := L b) (r := [v])
  rw [e] at r4
  have hlen : (L b).length + 1 = (L b ++ [v]).length := by simp
  rw [hlen] at r4
  exact hM.put hb r4 s4 (fun y h => h) f4 hlen fun H5 hM5 s5 f5 => k H5 _ hM5 s5 f5

theorem rpush {v : Nat} {K : Hp → Prop} (hM : RadM H eb q base sl L) (hk : KeyM H q n kp key) (hn : n ≤ 1024) (hv : v < n) (b0 : 0 ≤ base) (b1 : base ≤ 9223372036854775807) (k0 : 0 ≤ key v) (k1 : key v ≤ 9223372036854775807) (hl : ∀ i, i < 65 → (L i).length ≤ n)
    (k : ∀ H' sl', RadM H' eb q base sl' (upf L (pl8 (key v).toNat base.toNat) (L (pl8 (key v).toNat base.toNat) ++ [v])) → Step (RFP eb sl) H H' → (∀ y, RFP eb sl' y → RFP eb sl y ∨ H y = none) → K H') : heaps_radix_push.call (some ⟨eb, 0, none⟩) v E H K := by
  have hp : pl8 (key v).toNat base.toNat < 65 := by
    have := pl8_le (x := (key v).toNat) (y := base.toNat) (by omega) (by omega)
    omega
  refine heaps_radix_push.of (heaps_radix_push.run_eq ?_)
  unfold heaps_radix_push.run_t
  simp only [nn_mk, Nat.zero_add]
  have hlp := hl _ hp
  generalize hpe : pl8 (key v).toNat base.toNat = p at *
  have fin : ∀ {H1 : Hp} {b3 : Nat}, Step (fun _ => False) H H1 → H1 b3 = some ⟨[.int .i64 (v : Int)], 3⟩ → appM 3 [.i .i64] 8 (sl p).p (L p).length (sl p).c (some ⟨b3, 0, none⟩) 1 H1 fun p' m c H4 => ix (some ⟨eb, 2, none⟩) 65 (p : Int) 1 fun bb o => stC H4 bb o [.slice p' m c] K := by
    intro H1 b3 s1 e3
    refine rtail (hM.keep s1 fun _ _ h => h) hp e3 rfl (by omega) fun H' sl' hM' s' f' => ?_
    exact k H' sl' hM' ((s1.weak fun _ h => h.elim).trans s' fun y hy => .inl hy) fun y hy => (f' y hy).imp id (s1.mono y)
  refine ⟨?_, ?_⟩
  · refine nwk fun b3 H1 hb3 e3 s1 => ?_
    have hM1 := hM.keep s1 fun _ _ h => h
    have hk1 := hk.keep s1 (fun h => h) fun _ _ h => h
    refine rplace hM1 hk1 hv b0 b1 k0 k1 ?_
    refine rplace hM1 hk1 hv b0 b1 k0 k1 ?_
    rw [hpe]
    exact hM1.ld hp (fin s1 e3)
  · refine rplace hM hk hv b0 b1 k0 k1 ?_
    refine ⟨?_, ?_⟩
    · refine nwk fun b3 H1 hb3 e3 s1 => ?_
      have hM1 := hM.keep s1 fun _ _ h => h
      have hk1 := hk.keep s1 (fun h => h) fun _ _ h => h
      refine rplace hM1 hk1 hv b0 b1 k0 k1 ?_
      rw [hpe]
      exact hM1.ld hp (fin s1 e3)
    · refine rplace hM hk hv b0 b1 k0 k1 ?_
      rw [hpe]
      refine hM.ld hp ?_
      exact nwk fun b3 H1 hb3 e3 s1 => fin s1 e3

/-- the least of the first bucket that has any -/
theorem rbest {K : Int → Int → Hp → Prop} (hM : RadM H eb q base sl L) (hk : KeyM H q n kp key) (hR : Rdx key base S n L) (hn : n ≤ 1024) (hS : ∃ v, S v = true)
    (k : ∀ (b w : Nat) (l1 l2 : List Nat), b < 65 → (∀ i, i < b → L i = []) → L b = l1 ++ w :: l2 → (∀ u ∈ L b, ¬ lk key u w) → K b l1.length H) : heaps_radix_best.call (some ⟨eb, 0, none⟩) E H K := by
  refine heaps_radix_best.of (heaps_radix_best.run_eq ?_)
  unfold heaps_radix_best.run_t
  refine heaps_radix_best.l1_rule (fun r0 b4 H' => r0 = some ⟨eb, 0, none⟩ ∧ H' = H ∧ ∃ b : Nat, b4 = b ∧ b < 65 ∧ ∀ i, i < b → L i = []) (fun r0 b4 H' => 65 - b4.toNat) ?_ ⟨rfl, rfl, 0, rfl, by decide, fun i hi => by omega⟩
  rintro r0 b4 H1 ⟨rfl, rfl, b, rfl, hb, he⟩ X hX
  refine heaps_radix_best.b1_eq ?_
  unfold heaps_radix_best.b1_t
  simp only [nn_mk, Nat.zero_add]
  refine hM.ld hb ?_
  refine bc (fun h => ?_) fun h => ?_
  · have hnil : L b = [] := List.length_eq_zero_iff.1 (by omega)
    obtain ⟨v, hv⟩ := hS
    have hp := hR.at hv
    have hm := (hR.mem _ v hp).2 ⟨hv, rfl⟩
    have h1 : ¬ pl8 (key v).toNat base.toNat < b := fun h => by rw [he _ h] at hm; cases hm
    have h2 : pl8 (key v).toNat base.toNat ≠ b := fun h => by rw [h, hnil] at hm; cases hm
    rw [i64w (by omega) (by omega)]
    exact hX _ _ _ ⟨rfl, rfl, b + 1, by omega, by omega, fun i hi => by
      by_cases e : i = b
      · subst e; exact hnil
      · exact he i (by omega)⟩ (by omega)
  · have hpos : 0 < (L b).length := by omega
    have hbl := hR.short hb
    refine heaps_radix_best.j1_eq ?_
    unfold heaps_radix_best.j1_t
    simp only [nn_mk, Nat.zero_add]
    refine hM.ld hb ?_
    refine heaps_radix_best.l2_rule (fun r0 b4 at5 t23p t23n t23c t24 t25 H' => r0 = some ⟨eb, 0, none⟩ ∧ H' = H1 ∧ b4 = b ∧ t23p = (sl b).p ∧ t23n = (L b).length ∧ t23c = (sl b).c ∧ t24 = ((L b).length : Int) ∧
        ∃ t a : Nat, t25 = t ∧ at5 = a ∧ t ≤ (L b).length ∧ a < (L b).length ∧ ∀ j, j < t → ¬ lk key ((L b)[j]?.getD 0) ((L b)[a]?.getD 0))
      (fun r0 b4 at5 t23p t23n t23c t24 t25 H' => (t24 - t25).toNat) ?_ ⟨rfl, rfl, rfl, rfl, rfl, rfl, rfl, 0, 0, rfl, rfl, Nat.zero_le _, hpos, fun j hj => by omega⟩
    rintro r0 b4 at5 p m c t24 t25 H2 ⟨rfl, rfl, rfl, rfl, rfl, rfl, rfl, t, a, rfl, rfl, ht, ha, hlk⟩ X2 hX2
    refine heaps_radix_best.b2_eq ?_
    unfold heaps_radix_best.b2_t
    have hin : ∀ j, j < (L b).length → (L b)[j]?.getD 0 < n := fun j hj => by
      rw [List.getElem?_eq_getElem hj, Option.getD_some]
      exact hR.sub _ ((hR.mem b _ hb).1 (List.getElem_mem hj)).1
    refine bc (fun h => ?_) fun h => ?_
    · have htl : t < (L b).length := by omega
      refine (hM.each b hb).rdr.ixI (by omega) (by omega) ?_
      simp only [nn_mk, hM.ptr, ldP_mk, Nat.zero_add]
      refine hM.ld hb ?_
      refine (hM.each b hb).rdr.ixI (by omega) (by omega) ?_
      simp only [Int.toNat_natCast]
      have nxt : ∀ a' : Nat, a' < (L b).length → (∀ j, j < t + 1 → ¬ lk key ((L b)[j]?.getD 0) ((L b)[a']?.getD 0)) → heaps_radix_best.j2 (some ⟨eb, 0, none⟩) b a' (sl b).p (L b).length (sl b).c (L b).length t X2 E H2 K := by
        intro a' ha' hlk'
        refine heaps_radix_best.j2_eq ?_
        unfold heaps_radix_best.j2_t
        rw [i64w (by omega) (by omega)]
        exact hX2 _ _ _ _ _ _ _ _ _ ⟨rfl, rfl, rfl, rfl, rfl, rfl, rfl, t + 1, a', by omega, rfl, htl, ha', hlk'⟩ (by omega)
      refine hahead (a := (L b)[t]?.getD 0) (b := (L b)[a]?.getD 0) hk (hin t htl) (hin a ha) ?_
      refine bc (fun h' => ?_) fun h' => ?_
      · refine nxt t htl fun j hj => ?_
        by_cases e : j = t
        · subst e; exact nlk_self
        · exact nlk_trans (hlk j (by omega)) h'.asymm
      · refine nxt a ha fun j hj => ?_
        by_cases e : j = t
        · subst e; exact h'
        · exact hlk j (by omega)
    · have hta : t = (L b).length := by omega
      have hsp : L b = (L b).take a ++ (L b)[a]?.getD 0 :: (L b).drop (a + 1) := by
        rw [List.getElem?_eq_getElem ha, Option.getD_some, List.getElem_cons_drop, List.take_append_drop]
      have := k b ((L b)[a]?.getD 0) ((L b).take a) ((L b).drop (a + 1)) hb he hsp (fun u hu => by
        obtain ⟨j, hj, rfl⟩ := List.mem_iff_getElem.1 hu
        have := hlk j (by omega)
        rwa [List.getElem?_eq_getElem hj, Option.getD_some] at this)
      rw [List.length_take, Nat.min_eq_left (by omega)] at this
      exact this

theorem rtop {K : Int → Hp → Prop} (hM : RadM H eb q base sl L) (hk : KeyM H q n kp key) (hR : Rdx key base S n L) (hn : n ≤ 1024) (hS : ∃ v, S v = true)
    (k : ∀ w : Nat, S w = true → (∀ u, S u = true → ¬ lk key u w) → K w H) : heaps_radix_top.call (some ⟨eb, 0, none⟩) E H K := by
  refine heaps_radix_top.of (heaps_radix_top.run_eq ?_)
  unfold heaps_radix_top.run_t
  refine rbest hM hk hR hn hS fun b w l1 l2 hb he hL hl => ?_
  simp only [nn_mk, Nat.zero_add]
  refine hM.ld hb ?_
  have hlen : l1.length < (L b).length := by rw [hL]; simp
  refine (hM.each b hb).rdr.ixI (by omega) (by omega) ?_
  have hw : w ∈ L b := by rw [hL]; simp
  have e : lsF (L b) (l1.length : Int).toNat = (w : Int) := by
    rw [Int.toNat_natCast, hL]
    simp [lsF]
  rw [e]
  exact k w ((hR.mem b w hb).1 hw).1 (hR.least hb he hw hl)
end
end Go.Mz

/-
  Walks of layer 5: the radix heap's lower and pop.
-/
namespace Go.Mz

section
variable {E : Value → Hp → Prop}
variable {H : Hp} {eb q n : Nat} {base : Int} {sl : Nat → Sl} {L : Nat → List Nat} {kp : Option Addr} {key : Nat → Int} {S : Nat → Bool}

theorem lsF_left {l1 l2 : List Nat} {i : Nat} (h : i < l1.length) : lsF (l1 ++ l2) i = lsF l1 i := by
  unfold lsF; rw [List.getElem?_append_left h]
theorem lsF_right {l1 l2 : List Nat} {i : Nat} : lsF (l1 ++ l2) (i + l1.length) = lsF l2 i := by
  unfold lsF; rw [List.getElem?_append_right (by omega), Nat.add_sub_cancel]

/-- a bucket's front, and what stands behind one of it -/
theorem RadM.parts (hM : RadM H eb q base sl L) {b w : Nat} {l1 l2 : List Nat} (hb : b < 65) (hL : L b = l1 ++ w :: l2) :
    Row H (sl b).p l1.length (sl b).c (lsF l1) ∧ Row H (slp (sl b).p (l1.length + 1) (sl b).c 1) l2.length ((sl b).c - (l1.length + 1)) (lsF l2) := by
  have h := hM.each b hb
  have hlen : (L b).length = l1.length + 1 + l2.length := by rw [hL]; simp; omega
  refine ⟨(h.cut (m := l1.length) (by omega)).congr fun i hi => by rw [hL]; exact lsF_left hi, ?_⟩
  have h2 := h.drop (l := l1.length + 1) (by omega)
  have e : (L b).length - (l1.length + 1) = l2.length := by omega
  rw [e] at h2
  refine h2.congr fun i hi => ?_
  rw [hL]
  have : l1 ++ w :: l2 = (l1 ++ [w]) ++ l2 := by simp
  rw [this]
  have : i + (l1.length + 1) = i + (l1 ++ [w]).length := by simp
  rw [this]
  exact lsF_right

theorem rlower {v : Nat} {key' : Nat → Int} {K : Hp → Prop} (hM : RadM H eb q base sl L) (hk : KeyM H q n kp key') (hR : Rdx key base S n L) (hdq : ¬ RFP eb sl q) (hdk : ∀ y, fpS kp y → ¬ RFP eb sl y) (hn : n ≤ 1024) (hS : S v = true) (hkk : ∀ u, u ≠ v → key u = key' u)
    (k0 : base ≤ key' v) (k1 : key' v ≤ 9223372036854775807)
    (k : ∀ H' sl' L', RadM H' eb q base sl' L' → Rdx key' base S n L' → Step (RFP eb sl) H H' → (∀ y, RFP eb sl' y → RFP eb sl y ∨ H y = none) → K H') : heaps_radix_lower.call (some ⟨eb, 0, none⟩) v E H K := by
  have hp := hR.at hS
  have hmv := (hR.mem _ v hp).2 ⟨hS, rfl⟩
  have hvn := hR.sub v hS
  refine heaps_radix_lower.of (heaps_radix_lower.run_eq ?_)
  unfold heaps_radix_lower.run_t
  refine heaps_radix_lower.l1_rule (fun r0 h1 t7 H' => r0 = some ⟨eb, 0, none⟩ ∧ h1 = v ∧ H' = H ∧ ∃ b : Nat, t7 = b ∧ b ≤ 65 ∧ ∀ i, i < b → v ∉ L i) (fun r0 h1 t7 H' => (65 - t7).toNat) ?_ ⟨rfl, rfl, rfl, 0, rfl, by decide, fun i hi => by omega⟩
  rintro r0 h1 t7 H1 ⟨rfl, rfl, rfl, b, rfl, hb, hno⟩ X hX
  refine heaps_radix_lower.b1_eq ?_
  unfold heaps_radix_lower.b1_t
  refine bc (fun h => ?_) fun h => by exact absurd hmv (hno _ (by omega))
  have hb : b < 65 := by omega
  have hbl := hR.short hb
  simp only [nn_mk, Nat.zero_add]
  refine hM.ld hb ?_
  refine heaps_radix_lower.l2_rule (fun r0 h1 b4 t7 t15p t15n t15c t16 t17 H' => r0 = some ⟨eb, 0, none⟩ ∧ h1 = v ∧ b4 = b ∧ t7 = b ∧ t15p = (sl b).p ∧ t15n = (L b).length ∧ t15c = (sl b).c ∧ t16 = ((L b).length : Int) ∧ H' = H1 ∧
      ∃ l1 l2 : List Nat, t17 = l1.length ∧ L b = l1 ++ l2 ∧ v ∉ l1)
    (fun r0 h1 b4 t7 t15p t15n t15c t16 t17 H' => (t16 - t17).toNat) ?_ ⟨rfl, rfl, rfl, rfl, rfl, rfl, rfl, rfl, rfl, [], L b, rfl, rfl, by simp⟩
  rintro r0 h1 b4 t7 p m c t16 t17 H2 ⟨rfl, rfl, rfl, rfl, rfl, rfl, rfl, rfl, rfl, l1, l2, rfl, hL, hv1⟩ X2 hX2
  refine heaps_radix_lower.b2_eq ?_
  unfold heaps_radix_lower.b2_t
  have hlen : (L b).length = l1.length + l2.length := by rw [hL]; simp
  refine bc (fun h => ?_) fun h => ?_
  · cases l2 with
    | nil => simp at hlen; omega
    | cons u l2 =>
      simp only [List.length_cons] at hlen
      refine (hM.each b hb).rdr.ixI (by omega) (by omega) ?_
      have eu : lsF (L b) (l1.length : Int).toNat = (u : Int) := by rw [Int.toNat_natCast, hL]; simp [lsF]
      rw [eu]
      refine bc (fun h' => ?_) fun h' => ?_
      · have huv : u = v := by omega
        subst huv
        simp only [nn_mk, Nat.zero_add]
        have hcap := (hM.each b hb).le
        have hcap2 := (hM.each b hb).cap
        refine hM.ld hb ⟨⟨by omega, by omega⟩, ?_⟩
        rw [i64w (by omega) (by omega)]
        refine hM.ld hb ⟨⟨by omega, by omega⟩, ?_⟩
        obtain ⟨r1, r2⟩ := hM.parts hb hL
        have e1 : ((l1.length : Int) + 1).toNat = l1.length + 1 := by omega
        have e2 : (L b).length - (l1.length + 1) = l2.length := by omega
        rw [e1, e2, Int.toNat_natCast, (hM.each b hb).slp0]
        refine Row.appR (α := Int) r1 r2 rfl (by omega) (by decide) fun p' c' H4 r4 s4 f4 => ?_
        rw [lsF_apps] at r4
        have hl12 : l1.length + l2.length = (l1 ++ l2).length := by simp
        rw [hl12] at r4
        refine hM.put hb r4 s4 (fun y h => h) f4 hl12 fun H5 hM5 s5 f5 => ?_
        refine heaps_radix_lower.j2_eq ?_
        unfold heaps_radix_lower.j2_t
        have hR5 : Rdx key' base (upf S u false) n (upf L b (l1 ++ l2)) := (hR.out hb hL).cg fun x hx => hkk x fun e => by subst e; rw [upf_same] at hx; cases hx
        have hk5 := hk.keep s5 hdq hdk
        have hb0 := hR.b0
        refine rpush hM5 hk5 hn hvn hR.b0 hR.b1 (by omega) k1 (fun i hi => hR5.short hi) fun H6 sl6 hM6 s6 f6 => ?_
        have hR6 := hR5.put (v := u) upf_same hvn k0 k1
        have eS : upf (upf S u false) u true = S := by rw [upf_twice, ← hS, upf_self]
        rw [eS] at hR6
        refine k H6 _ _ hM6 hR6 (s5.trans s6 fun y hy => f5 y hy) fun y hy => ?_
        rcases f6 y hy with h | h
        · exact f5 y h
        · exact .inr (s5.mono y h)
      · rw [i64w (by omega) (by omega)]
        exact hX2 _ _ _ _ _ _ _ _ _ _ ⟨rfl, rfl, rfl, rfl, rfl, rfl, rfl, rfl, rfl, l1 ++ [u], l2, by simp, by rw [hL]; simp, by simp; exact ⟨hv1, fun e => h' (by omega)⟩⟩ (by omega)
  · refine heaps_radix_lower.j1_eq ?_
    unfold heaps_radix_lower.j1_t
    rw [i64w (by omega) (by omega)]
    have hnil : l2 = [] := List.length_eq_zero_iff.1 (by omega)
    exact hX _ _ _ _ ⟨rfl, rfl, rfl, b + 1, by omega, by omega, fun i hi => by
      by_cases e : i = b
      · subst e; rw [hL, hnil]; simpa using hv1
      · exact hno i (by omega)⟩ (by omega)

theorem rpop {w : Nat} {K : Hp → Prop} (hM : RadM H eb q base sl L) (hk : KeyM H q n kp key) (hR : Rdx key base S n L) (hdq : ¬ RFP eb sl q) (hdk : ∀ y, fpS kp y → ¬ RFP eb sl y) (hn : n ≤ 1024) (hw : S w = true) (hleast : ∀ u, S u = true → ¬ lk key u w)
    (k : ∀ H' sl' L', RadM H' eb q (key w) sl' L' → Rdx key (key w) (upf S w false) n L' → Step (RFP eb sl) H H' → (∀ y, RFP eb sl' y → RFP eb sl y ∨ H y = none) → K H') : heaps_radix_pop.call (some ⟨eb, 0, none⟩) E H K := by
  refine heaps_radix_pop.of (heaps_radix_pop.run_eq ?_)
  unfold heaps_radix_pop.run_t
  refine rbest hM hk hR hn ⟨w, hw⟩ fun b w' l1 l2 hb he hL hl => ?_
  have hw'L : w' ∈ L b := by rw [hL]; simp
  have ew : w' = w := least_uniq ((hR.mem b w' hb).1 hw'L).1 hw (hR.least hb he hw'L hl) hleast
  subst ew
  have hwn := hR.sub w' hw
  have hbl := hR.short hb
  have hlen : (L b).length = l1.length + 1 + l2.length := by rw [hL]; simp; omega
  refine nwk fun b1 H2 hb1 e1 s1 => ?_
  have hM2 := hM.keep s1 fun _ _ h => h
  have r0 : Row H2 (some ⟨b1, 0, none⟩) 0 0 (lsF []) := ⟨Nat.le_refl _, by decide, .inr ⟨b1, 0, _, rfl, e1, ⟨Nat.le_refl _, rfl⟩, fun i hi => by omega⟩⟩
  have hcap := (hM2.each b hb).le
  have hcap2 := (hM2.each b hb).cap
  simp only [nn_mk, Nat.zero_add]
  refine hM2.ld hb ⟨⟨by omega, by omega⟩, ?_⟩
  refine ixk hb ?_
  rw [hM2.get hb, ldS_mk]
  rw [i64w (by omega) (by omega)]
  refine ⟨⟨by omega, by omega⟩, ?_⟩
  have et1 : ((l1.length : Int) + 1).toNat = l1.length + 1 := by omega
  have et2 : (L b).length - (l1.length + 1) = l2.length := by omega
  rw [et1, et2, Int.toNat_natCast, (hM2.each b hb).slp0]
  obtain ⟨q1, q2⟩ := hM2.parts hb hL
  refine Row.appR (α := Int) r0 q1 rfl (by omega) (by decide) fun p3 c3 H3 r3 s3 f3 => ?_
  have d3 : ∀ y, RFP eb sl y → ¬ fpS (some ⟨b1, 0, none⟩) y := fun y hy h => by
    rw [fpS_mk] at h
    exact hM.live hy (h ▸ hb1)
  have hM3 := hM2.keep s3 d3
  have r3' : Row H3 p3 l1.length c3 (lsF l1) := by
    rw [Nat.zero_add] at r3
    exact r3.congr fun i hi => rfl
  have f3' : ∀ y, fpS p3 y → H y = none := fun y hy => by
    rcases f3 y hy with h | h
    · rw [fpS_mk] at h; exact h ▸ hb1
    · exact s1.mono y h
  refine ⟨by rw [hM3.get hb, ldS_mk], ?_⟩
  have q2' : Row H3 (slp (sl b).p (l1.length + 1) (sl b).c 1) l2.length ((sl b).c - (l1.length + 1)) (lsF l2) := (hM3.parts hb hL).2
  rw [Nat.zero_add]
  refine Row.appR (α := Int) r3' q2' rfl (by omega) (by decide) fun p4 c4 H4 r4 s4 f4 => ?_
  rw [lsF_apps] at r4
  have f4' : ∀ y, fpS p4 y → H y = none := fun y hy => by
    rcases f4 y hy with h | h
    · exact f3' y h
    · exact s1.mono y (s3.mono y h)
  have hM4 := hM3.keep s4 fun y hy h => hM.live hy (f3' y h)
  have s04 : Step (fun _ => False) H H4 := by
    have t1 : Step (fun _ => False) H H3 := s1.own s3 fun y hy => by rw [fpS_mk] at hy; exact hy ▸ hb1
    exact t1.own s4 f3'
  have hk4 := hk.keep s04 (fun h => h) fun _ _ h => h
  obtain ⟨kc, hkc⟩ := hk4.cell
  simp only [hM4.ptr, ldP_mk, nn_mk, hkc, ldS_mk]
  refine hM4.ld hb ?_
  refine (hM4.each b hb).rdr.ixI (by omega) (by omega) ?_
  have eu : lsF (L b) (l1.length : Int).toNat = (w' : Int) := by rw [Int.toNat_natCast, hL]; simp [lsF]
  rw [eu]
  refine hk4.row.ixI (by omega) (by omega) ?_
  rw [Int.toNat_natCast]
  refine hM4.stB (key w') fun H5 hM5 s5 => ?_
  refine hM5.put hb (l' := []) (Row.nil) (Step.refl (F := fun _ => False)) (fun y h => h.elim) (fun y h => by rw [fpS_none] at h; exact h.elim) rfl fun H6 hM6 s6 f6 => ?_
  have s56 : Step (RFP eb sl) H H6 := ((s04.weak fun _ h => h.elim).trans s5 fun y hy => .inl (.inl hy)).trans s6 fun y hy => .inl hy
  have f06 : ∀ y, RFP eb (upf sl b ⟨none, ([] : List Nat).length, 0⟩) y → RFP eb sl y ∨ H y = none := fun y hy => (f6 y hy).imp id fun h => s04.mono y (s5.mono y h)
  have hR6 := hR.last hb he hw'L hl
  have hlen2 : l1.length + l2.length = (l1 ++ l2).length := by simp
  have dr : ∀ y, fpS p4 y → ¬ RFP eb sl y := fun y hy h => hM.live h (f4' y hy)
  have r6 : Row H6 p4 (l1 ++ l2).length c4 (lsF (l1 ++ l2)) := by
    rw [hlen2] at r4
    exact (r4.keep s5 fun y hy e => dr y hy (.inl e)).keep s6 fun y hy h => dr y hy h
  have hnd : (l1 ++ l2).Nodup := by
    have := hR.nd b hb
    rw [hL] at this
    exact (List.nodup_cons.1 ((List.perm_middle.nodup_iff).1 this)).2
  have hwnot : w' ∉ l1 ++ l2 := by
    have := hR.nd b hb
    rw [hL] at this
    exact (List.nodup_cons.1 ((List.perm_middle.nodup_iff).1 this)).1
  have hmemL : ∀ u, u ∈ L b ↔ u = w' ∨ u ∈ l1 ++ l2 := fun u => by rw [hL]; simp; constructor <;> (intro h; rcases h with h | h | h <;> simp [h])
  have hmn : (l1 ++ l2).length ≤ 1024 := by omega
  rw [hlen2]
  generalize hrest : l1 ++ l2 = rest at *
  refine heaps_radix_pop.l1_rule (fun r0 t59p t59n t59c t60 t61 H' => r0 = some ⟨eb, 0, none⟩ ∧ t59p = p4 ∧ t59n = rest.length ∧ t59c = c4 ∧ t60 = (rest.length : Int) ∧ ∃ (t : Nat) (sl' : Nat → Sl) (L' : Nat → List Nat), t61 = t ∧ t ≤ rest.length ∧
      RadM H' eb q (key w') sl' L' ∧ Rdx key (key w') (fun u => (S u && !decide (u ∈ L b)) || decide (u ∈ rest.take t)) n L' ∧ Row H' p4 rest.length c4 (lsF rest) ∧ Step (RFP eb sl) H H' ∧ (∀ y, RFP eb sl' y → RFP eb sl y ∨ H y = none) ∧ (∀ y, fpS p4 y → ¬ RFP eb sl' y))
    (fun r0 t59p t59n t59c t60 t61 H' => (t60 - t61).toNat) ?_ ⟨rfl, rfl, rfl, rfl, rfl, 0, _, _, rfl, Nat.zero_le _, hM6, ?_, r6, s56, f06, fun y hy h => ?_⟩
  · rintro r0 p m c t60 t61 H7 ⟨rfl, rfl, rfl, rfl, rfl, t, sl7, L7, rfl, ht, hM7, hR7, r7, s7, f7, d7⟩ X hX
    refine heaps_radix_pop.b1_eq ?_
    unfold heaps_radix_pop.b1_t
    have hk7 := hk.keep s7 hdq hdk
    refine bc (fun h => ?_) fun h => ?_
    · have htl : t < rest.length := by omega
      refine r7.rdr.ixI (by omega) (by omega) ?_
      have hut : lsF rest (t : Int).toNat = ((rest[t] : Nat) : Int) := by
        rw [Int.toNat_natCast]; unfold lsF; rw [List.getElem?_eq_getElem htl, Option.getD_some]
      rw [hut]
      have hum : rest[t] ∈ rest := List.getElem_mem htl
      have huL : rest[t] ∈ L b := (hmemL _).2 (.inr hum)
      have huS := ((hR.mem b _ hb).1 huL).1
      have hlow : key w' ≤ key rest[t] := by have := hleast _ huS; unfold lk at this; omega
      have hb0 := hR7.b0
      have hhi := hR.hi _ huS
      have hfalse : (fun u => (S u && !decide (u ∈ L b)) || decide (u ∈ rest.take t)) rest[t] = false := by
        have hnt : rest[t] ∉ rest.take t := fun hm => by
          obtain ⟨j, hj, e⟩ := List.mem_iff_getElem.1 hm
          rw [List.length_take] at hj
          rw [List.getElem_take] at e
          have := (List.nodup_iff_pairwise_ne.1 hnd)
          exact (List.pairwise_iff_getElem.1 this) j t (by omega) htl (by omega) e
        simp [huL, hnt]
      refine rpush hM7 hk7 hn (hR.sub _ huS) hR7.b0 hR7.b1 (by omega) hhi (fun i hi => hR7.short hi) fun H8 sl8 hM8 s8 f8 => ?_
      rw [i64w (by omega) (by omega)]
      have hR8 := hR7.put (v := rest[t]) hfalse (hR.sub _ huS) hlow hhi
      refine hX _ _ _ _ _ _ _ ⟨rfl, rfl, rfl, rfl, rfl, t + 1, sl8, _, by omega, by omega, hM8, ?_, r7.keep s8 fun y hy h => d7 y hy h, s7.trans s8 f7, fun y hy => ?_, fun y hy h => ?_⟩ (by omega)
      · have eS : upf (fun u => (S u && !decide (u ∈ L b)) || decide (u ∈ rest.take t)) rest[t] true = fun u => (S u && !decide (u ∈ L b)) || decide (u ∈ rest.take (t + 1)) := by
          funext u
          have hm : u ∈ rest.take (t + 1) ↔ u ∈ rest.take t ∨ u = rest[t] := by
            rw [List.take_succ_eq_append_getElem htl, List.mem_append, List.mem_singleton]
          by_cases e : u = rest[t]
          · have hm1 : u ∈ rest.take (t + 1) := hm.2 (.inr e)
            have : decide (u ∈ rest.take (t + 1)) = true := decide_eq_true hm1
            rw [this, Bool.or_true, e, upf_same]
          · rw [upf_ne e]
            have : decide (u ∈ rest.take (t + 1)) = decide (u ∈ rest.take t) := decide_eq_decide.2 (by rw [hm]; simp [e])
            rw [this]
        rw [eS] at hR8
        exact hR8
      · rcases f8 y hy with h | h
        · exact f7 y h
        · exact .inr (s7.mono y h)
      · rcases f8 y h with h' | h'
        · exact d7 y hy h'
        · exact r7.live hy h'
    · have hte : t = rest.length := by omega
      refine k H7 sl7 L7 hM7 ?_ s7 f7
      have eS : (fun u => (S u && !decide (u ∈ L b)) || decide (u ∈ rest.take t)) = upf S w' false := by
        funext u
        rw [hte, List.take_length]
        by_cases e : u = w'
        · subst e; rw [upf_same]; simp [hwnot, hw'L]
        · rw [upf_ne e]
          by_cases hr : u ∈ rest
          · have huL := (hmemL u).2 (.inr hr)
            simp [hr, ((hR.mem b u hb).1 huL).1]
          · have : u ∉ L b := fun h => by rcases (hmemL u).1 h with h | h <;> contradiction
            simp [hr, this]
      rw [← eS]; exact hR7
  · have eS : (fun u => (S u && !decide (u ∈ L b)) || decide (u ∈ rest.take 0)) = fun u => S u && !decide (u ∈ L b) := by funext u; simp
    rw [eS]; exact hR6
  · rcases f06 y h with h' | h'
    · exact dr y hy h'
    · rcases h with rfl | ⟨v, hv, h⟩
      · exact hM.live (.inl rfl) h'
      · by_cases ev : v = b
        · subst ev; rw [upf_same, fpS_none] at h; exact h
        · rw [upf_ne ev] at h; exact hM.live (.inr ⟨v, hv, h⟩) h'
end
end Go.Mz

/-
  Layer 5: the radix heap does what a kind of heap must do; New of that kind.
-/
set_option maxRecDepth 100000
namespace Go.Mz
section
variable {E : Value → Hp → Prop}

def RadI (H : Hp) (eb q n : Nat) (key : Nat → Int) (last : Int) (S : Nat → Bool) (FP : Nat → Prop) : Prop :=
  ∃ sl L, RadM H eb q last sl L ∧ Rdx key last S n L ∧ ∀ y, FP y ↔ RFP eb sl y

def radEng (E : Value → Hp → Prop) : Engine E where
  t := 99
  rad := True
  Inv := fun H eb q n key last S FP => RadI H eb q n key last S FP
  keep := fun ⟨sl, L, hM, hR, fp⟩ s hF => ⟨sl, L, hM.keep s fun y hy => hF y ((fp y).2 hy), hR, fp⟩
  live := fun ⟨sl, L, hM, hR, fp⟩ y hy => hM.live ((fp y).1 hy)
  cg := fun ⟨sl, L, hM, hR, fp⟩ hk => ⟨sl, L, hM, hR.cg hk, fp⟩
  push := fun {H eb q n v key last S FP kp K} ⟨sl, L, hM, hR, fp⟩ hk hq hkp hn hS hv hSv hrad kk => by
    obtain ⟨k0, k1⟩ := hrad trivial
    have hb0 := hR.b0
    refine ⟨102, by kernel_rfl, rpush hM hk hn hv hR.b0 hR.b1 (by omega) k1 (fun i hi => hR.short hi) fun H' sl' hM' s f => ?_⟩
    exact kk H' (RFP eb sl') ⟨sl', _, hM', hR.put hSv hv k0 k1, fun y => Iff.rfl⟩ (s.weak fun y hy => .inl ((fp y).2 hy)) fun y hy => (f y hy).imp (fun h => (fp y).2 h) id
  lower := fun {H eb q n v key x last S FP kp K} ⟨sl, L, hM, hR, fp⟩ hk hq hkp hn hS hSv hx hrad kk => by
    have hhi := hR.hi v hSv
    refine ⟨100, by kernel_rfl, rlower hM hk hR (fun h => hq ((fp _).2 h)) (fun y hy h => hkp y hy ((fp y).2 h)) hn hSv (fun u hu => by rw [upf_ne hu]) (by rw [upf_same]; exact hrad trivial) (by rw [upf_same]; omega) fun H' sl' L' hM' hR' s f => ?_⟩
    exact kk H' (RFP eb sl') ⟨sl', L', hM', hR', fun y => Iff.rfl⟩ (s.weak fun y hy => .inl ((fp y).2 hy)) fun y hy => (f y hy).imp (fun h => (fp y).2 h) id
  top := fun {H eb q n key last S FP kp K} ⟨sl, L, hM, hR, fp⟩ hk hn hS hv kk => by
    have hc : heaps_radix_top.call (some ⟨eb, 0, none⟩) E H fun u H' => K u H' := rtop hM hk hR hn hv fun w hw hl => kk w H .refl hw hl
    exact ⟨103, by kernel_rfl, hc⟩
  pop := fun {H eb q n w key last S FP kp K} ⟨sl, L, hM, hR, fp⟩ hk hq hkp hn hS hw hleast kk => by
    refine ⟨101, by kernel_rfl, rpop hM hk hR (fun h => hq ((fp _).2 h)) (fun y hy h => hkp y hy ((fp y).2 h)) hn hw hleast fun H' sl' L' hM' hR' s f => ?_⟩
    exact kk H' (RFP eb sl') ⟨sl', L', hM', hR', fun y => Iff.rfl⟩ (s.weak fun y hy => .inl ((fp y).2 hy)) fun y hy => (f y hy).imp (fun h => (fp y).2 h) id

theorem qnew4 {n : Int} {H : Hp} {K : Option Addr → Int → Hp → Prop} (h0 : 0 ≤ n) (h1 : n ≤ 1024) (k : ∀ H' q FP, Qu (radEng E) H' q n.toNat 4 (fun _ => 0) 0 (fun _ => false) FP → Step (fun _ => False) H H' → (∀ y, FP y → H y = none) → K (some ⟨q, 0, none⟩) 0 H') : heaps_New.call 4 n E H K := by
  refine heaps_New.of (heaps_New.run_eq ?_)
  unfold heaps_New.run_t
  refine bc (fun h => by omega) fun _ => ?_
  refine bc (fun h => by omega) fun _ => ?_
  refine bc (fun h => by omega) fun _ => ?_
  refine bc (fun h => by omega) fun _ => ?_
  refine Row.mkI h0 (by omega) fun kb H1 hkb rk s1 => ?_
  refine Row.mkB h0 (by omega) fun hb H2 hhb rh s2 => ?_
  refine ⟨trivial, ?_⟩
  refine nwk fun q H3 hq e3 s3 => ?_
  have hN : New0 H H3 n.toNat 4 q kb hb := ⟨e3, rk.keep (s2.and s3) fun _ _ h => h, rh.keep s3 fun _ _ h => h, (s1.and s2).mono _ hq, hkb, s1.mono _ hhb,
    ne_of_live hq ((rk.keep s2 fun _ _ h => h).live ⟨0, rfl⟩), ne_of_live hq (rh.live ⟨0, rfl⟩), ne_of_live hhb (rk.live ⟨0, rfl⟩), (s1.and s2).and s3⟩
  refine bc (fun h => absurd h (by decide)) fun _ => ?_
  refine bc (fun h => absurd h (by decide)) fun _ => ?_
  refine bc (fun h => absurd h (by decide)) fun _ => ?_
  refine bc (fun _ => ?_) fun h => absurd rfl h
  refine nwk fun eb H5 heb e5 s5 => ?_
  refine ⟨trivial, ?_⟩
  refine hN.fin (g := radEng E) (FE := RFP eb fun _ => ⟨none, 0, 0⟩) (by omega) ⟨fun _ => rfl, fun _ => trivial⟩ s5 ⟨fun _ => ⟨none, 0, 0⟩, fun _ => [], ⟨?_, ?_, ?_, fun v hv => rfl, fun v hv => Row.nil, fun u v hu hv hne x hx => by rw [fpS_none] at hx; exact hx.elim, fun v hv x hx => by rw [fpS_none] at hx; exact hx.elim⟩,
    ⟨by decide, by decide, fun v hv => (by cases hv), fun v hv => (by cases hv), fun i v hi => ⟨fun h => (by cases h), fun h => (by cases h.1)⟩, fun i hi => List.nodup_nil, fun v hv => (by cases hv)⟩, fun y => Iff.rfl⟩ (fun y hy => ?_) fun H' FP => k H' q FP
  · rw [get_at e5]; rfl
  · rw [get_at e5]; rfl
  · refine ⟨Nat.le_refl _, by decide, .inr ⟨eb, 2, _, rfl, e5, ⟨Nat.le_refl 67, rfl⟩, fun i hi j hj => ?_⟩⟩
    have : j = 0 := by have : El.w Sl = 1 := rfl; omega
    subst this
    have hall : (List.range 65).all (fun i => match (([.pointer (some ⟨q, 0, none⟩), .int .i64 0] ++ List.replicate 65 (Value.slice none 0 0))[2 + i]? : Option Value) with | some (.slice none 0 0) => true | _ => false) = true := by rfl
    have := List.all_eq_true.1 hall i (List.mem_range.2 hi)
    have hget : (([.pointer (some ⟨q, 0, none⟩), .int .i64 0] ++ List.replicate 65 (Value.slice none 0 0))[2 + i]? : Option Value) = some (.slice none 0 0) := by
      split at this
      · assumption
      · cases this
    have e1 : 2 + i * El.w Sl + 0 = 2 + i := by rw [show El.w Sl = 1 from rfl]; omega
    rw [e1]
    exact hget
  · rcases hy with rfl | ⟨v, hv, hy⟩
    · exact heb
    · rw [fpS_none] at hy; exact hy.elim
end
end Go.Mz

/-
  More lemmas on rows: read whole, copied, grown by many; rows of rows. It proves nothing of the program by itself.
-/
import Derived.Test.YtjdhhepphbhjgaaMzV
set_option linter.unusedSimpArgs false
set_option linter.unusedVariables false
namespace Go.Mz
section
variable {α : Type} [El α]

/-- a row, read whole -/
theorem Row.rdN {H : Hp} {p : Option Addr} {m c : Nat} {g : Nat → α} (h : Row H p m c g) {G : List Value → Prop}
    (hG : ∀ src : List Value, src.length = m * El.w α → (∀ i, i < m → ∀ j, j < El.w α → src[i * El.w α + j]? = (El.enc (g i))[j]?) → G src) : Mz.rdN H p (m * El.w α) G := by
  rcases h.cells with ⟨rfl, rfl⟩ | ⟨b, o, x, rfl, hx, ⟨hl, hz⟩, ha⟩
  · have := h.le
    have : m = 0 := by omega
    subst this
    exact ⟨by simp, hG [] (by simp) fun i hi => by omega⟩
  · have hmc : m * El.w α ≤ c * El.w α := Nat.mul_le_mul_right _ h.le
    refine ⟨x, hx, by omega, hG _ (by simp; omega) fun i hi j hj => ?_⟩
    have : (i + 1) * El.w α ≤ m * El.w α := Nat.mul_le_mul_right _ hi
    rw [Nat.add_mul] at this
    rw [List.getElem?_take_of_lt (by omega), List.getElem?_drop, ← Nat.add_assoc]
    exact ha i hi j hj

theorem src_one {src : List Value} {m : Nat} {g : Nat → α} (hsl : src.length = m * El.w α) (hsg : ∀ i, i < m → ∀ j, j < El.w α → src[i * El.w α + j]? = (El.enc (g i))[j]?) : ∀ v ∈ src, v.oneC = true := by
  have hw := El.pos (α := α)
  intro v hv
  obtain ⟨q, hq⟩ := List.getElem?_of_mem hv
  have hql := (List.getElem?_eq_some_iff.1 hq).1
  have h1 := hsg (q / El.w α) (Nat.div_lt_of_lt_mul (by rw [Nat.mul_comm]; omega)) (q % El.w α) (Nat.mod_lt _ hw)
  rw [Nat.mul_comm, Nat.div_add_mod, hq] at h1
  exact El.one _ v (List.mem_of_getElem? h1.symm)

/-- one row copied over another of the same length -/
theorem Row.cpy {H : Hp} {p p2 : Option Addr} {n c c2 : Nat} {f g : Nat → α} (h : Row H p n c f) (h2 : Row H p2 n c2 g) {K : Int → Hp → Prop}
    (k : ∀ H', Row H' p n c g → Step (fpS p) H H' → K n H') : cpyM (El.w α) p n p2 n H K := by
  have hw := El.pos (α := α)
  unfold cpyM
  rw [Nat.min_self]
  refine h2.rdN fun src hsl hsg => ⟨src_one hsl hsg, ?_⟩
  rcases h.cells with ⟨rfl, rfl⟩ | ⟨b, o, x, rfl, hx, ⟨hl, hz⟩, ha⟩
  · have := h.le
    have hn : n = 0 := by omega
    subst hn
    exact k H (h.congr fun i hi => by omega) .refl
  · have hmc : n * El.w α ≤ c * El.w α := Nat.mul_le_mul_right _ h.le
    refine ⟨x, hx, ⟨by omega, hz⟩, k _ ⟨h.le, h.cap, .inr ⟨b, o, _, rfl, upd_same, ⟨by rw [putL_length]; exact hl, hz⟩, fun i hi j hj => ?_⟩⟩ (Step.wr hx ⟨_, rfl⟩)⟩
    have : (i + 1) * El.w α ≤ n * El.w α := Nat.mul_le_mul_right _ hi
    rw [Nat.add_mul] at this
    rw [putL_get _ _ _ _ (by omega), if_pos (by omega), show o + i * El.w α + j - o = i * El.w α + j by omega]
    exact hsg i hi j hj

theorem Row.cpyB {H : Hp} {p p2 : Option Addr} {n c c2 : Nat} {f g : Nat → Bool} (h : Row H p n c f) (h2 : Row H p2 n c2 g) {K : Int → Hp → Prop}
    (k : ∀ H', Row H' p n c g → Step (fpS p) H H' → K n H') : cpyM 1 p n p2 n H K := Row.cpy h h2 k

/-- so many more at the end -/
theorem Row.appR {H : Hp} {p p2 : Option Addr} {n c m c2 : Nat} {f g : Nat → α} (h : Row H p n c f) (h2 : Row H p2 m c2 g) {e : TypeId} {ks : List CK} {bytes : Nat} {K : Option Addr → Nat → Nat → Hp → Prop}
    (hk : ks.length = El.w α) (hn : n + m ≤ 1048576) (hb : bytes ≤ 1024)
    (k : ∀ p' c' H', Row H' p' (n + m) c' (fun i => if i < n then f i else g (i - n)) → Step (fpS p) H H' → (∀ b, fpS p' b → fpS p b ∨ H b = none) → K p' (n + m) c' H') :
    appM e ks bytes p n c p2 m H K := by
  have hw := El.pos (α := α)
  unfold appM
  rw [hk]
  refine h2.rdN fun src hsl hsg => ⟨src_one hsl hsg, ?_⟩
  split
  · rename_i hc
    rcases h.cells with ⟨rfl, rfl⟩ | ⟨b', o, y, rfl, hx, ⟨hl, hz⟩, ha⟩
    · have hn : n = 0 := by omega
      have hm : m = 0 := by omega
      subst hn hm
      exact k _ _ H (h.congr fun i hi => by omega) .refl fun _ h => .inl h
    · have hcw : (n + m) * El.w α ≤ c * El.w α := Nat.mul_le_mul_right _ hc
      rw [Nat.add_mul] at hcw
      refine ⟨y, hx, ⟨by rw [hsl]; omega, hz⟩, k _ _ _ ⟨hc, h.cap, .inr ⟨b', o, _, rfl, upd_same, ⟨by rw [putL_length]; exact hl, hz⟩, ?_⟩⟩ (Step.wr hx ⟨_, rfl⟩) fun _ h => .inl h⟩
      intro i hi j hj
      rw [putL_get _ _ _ _ (by rw [hsl]; omega), hsl]
      by_cases ei : i < n
      · have : (i + 1) * El.w α ≤ n * El.w α := Nat.mul_le_mul_right _ ei
        rw [Nat.add_mul] at this
        rw [if_neg (by omega)]
        simp only [ei, if_true]
        exact ha i ei j hj
      · obtain ⟨i', rfl⟩ : ∃ i', i = n + i' := ⟨i - n, by omega⟩
        have : (i' + 1) * El.w α ≤ m * El.w α := Nat.mul_le_mul_right _ (by omega)
        rw [Nat.add_mul] at this
        rw [if_pos (by rw [Nat.add_mul]; omega)]
        simp only [ei, if_false, Nat.add_sub_cancel_left]
        rw [← hsg i' (by omega) j hj]
        congr 1
        rw [Nat.add_mul]; omega
  · rename_i hc
    have hcap : c < n + m := by omega
    refine ⟨⟨by omega, ?_⟩, ?_⟩
    · have h1 := room_le (n + m) c hcap
      have h2 : Builtin.nextslicecap (n + m) c * bytes ≤ (2 * (n + m) + 256) * 1024 := Nat.mul_le_mul h1 hb
      have h3 : (2 * (n + m) + 256) * 1024 ≤ 2 ^ 48 := by omega
      exact Nat.le_trans h2 h3
    · refine h.rdN fun old hol hoa c' b' hc1 hc2 hb' => ?_
      refine k _ _ _ ⟨hc1, hc2, .inr ⟨b', 0, _, rfl, upd_same, ⟨?_, rfl⟩, ?_⟩⟩ (Step.new hb') fun b1 h1 => by rw [fpS_mk] at h1; subst h1; exact .inr hb'
      · simp only [List.length_append, hol, hsl, zr_length, hk, Nat.sub_mul, Nat.add_mul]
        have : (n + m) * El.w α ≤ c' * El.w α := Nat.mul_le_mul_right _ hc1
        rw [Nat.add_mul] at this
        omega
      · intro i hi j hj
        rw [List.append_assoc]
        by_cases ei : i < n
        · have : (i + 1) * El.w α ≤ n * El.w α := Nat.mul_le_mul_right _ ei
          rw [Nat.add_mul] at this
          rw [List.getElem?_append_left (by omega)]
          simp only [ei, if_true, Nat.zero_add]
          exact hoa i ei j hj
        · obtain ⟨i', rfl⟩ : ∃ i', i = n + i' := ⟨i - n, by omega⟩
          have : (i' + 1) * El.w α ≤ m * El.w α := Nat.mul_le_mul_right _ (by omega)
          rw [Nat.add_mul] at this
          rw [List.getElem?_append_right (by rw [Nat.add_mul]; omega), List.getElem?_append_left (by rw [Nat.add_mul, hol, hsl]; omega)]
          simp only [ei, if_false, Nat.add_sub_cancel_left]
          rw [← hsg i' (by omega) j hj]
          congr 1
          rw [Nat.add_mul, hol]; omega
end

/-- a list as a function -/
def lsF (l : List Nat) : Nat → Int := fun i => (l[i]?.getD 0 : Nat)

theorem lsF_app {l : List Nat} {x : Nat} : upf (lsF l) l.length (x : Int) = lsF (l ++ [x]) := by
  funext i
  unfold upf lsF
  by_cases h : i = l.length
  · subst h; simp
  · rw [if_neg h]
    by_cases h2 : i < l.length
    · rw [List.getElem?_append_left h2]
    · rw [List.getElem?_eq_none (by omega), List.getElem?_eq_none (by simp; omega)]

theorem lsF_apps {l r : List Nat} : (fun i => if i < l.length then lsF l i else lsF r (i - l.length)) = lsF (l ++ r) := by
  funext i
  unfold lsF
  split
  · rename_i h; rw [List.getElem?_append_left h]
  · rename_i h; rw [List.getElem?_append_right (by omega)]

/-- rows of numbers, held by one row -/
structure Rows2 (H0 H : Hp) (b n : Nat) (sl : Nat → Sl) (f : Nat → List Nat) : Prop where
  row : Row H (some ⟨b, 0, none⟩) n n sl
  b0 : H0 b = none
  len : ∀ v, v < n → (sl v).n = (f v).length
  each : ∀ v, v < n → Row H (sl v).p (f v).length (sl v).c (lsF (f v))
  sep : ∀ u v, u < n → v < n → u ≠ v → ∀ x, fpS (sl u).p x → ¬ fpS (sl v).p x
  out : ∀ v, v < n → ∀ x, fpS (sl v).p x → x ≠ b
  new : ∀ v, v < n → ∀ x, fpS (sl v).p x → H0 x = none

theorem Rows2.keep {H0 H H' : Hp} {b n : Nat} {sl : Nat → Sl} {f : Nat → List Nat} {F : Nat → Prop} (h : Rows2 H0 H b n sl f) (s : Step F H H') (hb : ¬ F b) (hv : ∀ v, v < n → ∀ x, fpS (sl v).p x → ¬ F x) : Rows2 H0 H' b n sl f :=
  ⟨h.row.keep s fun x hx => by rw [fpS_mk] at hx; exact hx ▸ hb, h.b0, h.len, fun v hv' => (h.each v hv').keep s (hv v hv'), h.sep, h.out, h.new⟩

theorem Rows2.keep0 {H0 H H' : Hp} {b n : Nat} {sl : Nat → Sl} {f : Nat → List Nat} (h : Rows2 H0 H b n sl f) (s : Step (fun _ => False) H H') : Rows2 H0 H' b n sl f := h.keep s (fun h => h) fun _ _ _ _ h => h

/-- one row grown by one, and told by the outer row -/
theorem Rows2.push {H0 H H4 H5 : Hp} {b n u x : Nat} {sl : Nat → Sl} {f : Nat → List Nat} {p' : Option Addr} {c' : Nat} (h : Rows2 H0 H b n sl f) (hu : u < n) (s0 : Step (fun _ => False) H0 H)
    (r4 : Row H4 p' ((f u).length + 1) c' (upf (lsF (f u)) (f u).length (x : Int))) (s4 : Step (fpS (sl u).p) H H4) (f4 : ∀ y, fpS p' y → fpS (sl u).p y ∨ H y = none)
    (r5 : Row H5 (some ⟨b, 0, none⟩) n n (upf sl u ⟨p', (f u).length + 1, c'⟩)) (s5 : Step (fpS (some ⟨b, 0, none⟩)) H4 H5) :
    Rows2 H0 H5 b n (upf sl u ⟨p', (f u).length + 1, c'⟩) (upf f u (f u ++ [x])) := by
  have lb : H b ≠ none := h.row.live ⟨_, rfl⟩
  have p'b : ∀ y, fpS p' y → y ≠ b := fun y hy e => by
    rcases f4 y hy with h' | h'
    · exact h.out u hu y h' e
    · exact lb (e ▸ h')
  have p'v : ∀ v, v < n → v ≠ u → ∀ y, fpS p' y → ¬ fpS (sl v).p y := fun v hv hne y hy hy' => by
    rcases f4 y hy with h' | h'
    · exact h.sep u v hu hv (Ne.symm hne) y h' hy'
    · exact (h.each v hv).live hy' h'
  refine ⟨r5, h.b0, fun v hv => ?_, fun v hv => ?_, fun v w hv hw hne y => ?_, fun v hv y => ?_, fun v hv y => ?_⟩
  · by_cases e : v = u
    · subst e; simp [upf_same]
    · rw [upf_ne e, upf_ne e]; exact h.len v hv
  · by_cases e : v = u
    · subst e
      rw [upf_same, upf_same, ← lsF_app]
      simp only [List.length_append, List.length_singleton]
      exact r4.keep s5 fun y hy hy' => by rw [fpS_mk] at hy'; exact p'b y hy hy'
    · rw [upf_ne e, upf_ne e]
      exact ((h.each v hv).keep s4 fun y hy => h.sep v u hv hu e y hy).keep s5 fun y hy hy' => by rw [fpS_mk] at hy'; exact h.out v hv y hy hy'
  · by_cases ev : v = u
    · subst ev
      rw [upf_same, upf_ne (Ne.symm hne)]
      exact p'v w hw (Ne.symm hne) y
    · rw [upf_ne ev]
      by_cases ew : w = u
      · subst ew
        rw [upf_same]
        exact fun hy hy' => p'v v hv ev y hy' hy
      · rw [upf_ne ew]; exact h.sep v w hv hw hne y
  · by_cases ev : v = u
    · subst ev; rw [upf_same]; exact p'b y
    · rw [upf_ne ev]; exact h.out v hv y
  · by_cases ev : v = u
    · subst ev; rw [upf_same]
      exact fun hy => (f4 y hy).elim (h.new v hv y) fun h' => s0.mono y h'
    · rw [upf_ne ev]; exact h.new v hv y

theorem Rows2.own {H0 H : Hp} {b n u : Nat} {sl : Nat → Sl} {f : Nat → List Nat} (h : Rows2 H0 H b n sl f) (hu : u < n) : ∀ y, fpS (sl u).p y → H0 y = none := h.new u hu
end Go.Mz

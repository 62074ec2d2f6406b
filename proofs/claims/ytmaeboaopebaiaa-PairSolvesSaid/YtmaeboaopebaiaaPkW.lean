/-
  Joined: VouO, VouF, VouG, VouH, VouI.
-/
import Derived.Test.YtmaeboaopebaiaaPkM
import Derived.Test.YtmaeboaopebaiaaPkV
set_option linter.unusedSimpArgs false
set_option linter.unusedVariables false
/-
  The plain law of parts with an odd number of nodes: neighbours, and a search that goes through a part. No program in sight.
-/
namespace Go.Mz

/-- both ends are left -/
def okE (W : Nat → Bool) (x : Edg) : Bool := !W x.fr.toNat && !W x.to.toNat

/-- joined by an edge, both ends left -/
def Adj (e : Nat → Edg) (n : Nat) (W : Nat → Bool) (u v : Nat) : Prop := ∃ j, j < n ∧ okE W (e j) = true ∧ (((e j).fr.toNat = u ∧ (e j).to.toNat = v) ∨ ((e j).to.toNat = u ∧ (e j).fr.toNat = v))

theorem Adj.symm {e : Nat → Edg} {n : Nat} {W : Nat → Bool} {u v : Nat} (h : Adj e n W u v) : Adj e n W v u := by
  obtain ⟨j, hj, hk, h⟩ := h
  exact ⟨j, hj, hk, by rcases h with ⟨h1, h2⟩ | ⟨h1, h2⟩ <;> simp [h1, h2]⟩

theorem Adj.left {e : Nat → Edg} {n : Nat} {W : Nat → Bool} {u v : Nat} (h : Adj e n W u v) : W u = false ∧ W v = false := by
  obtain ⟨j, hj, hk, h⟩ := h
  simp only [okE, Bool.and_eq_true, Bool.not_eq_true'] at hk
  rcases h with ⟨rfl, rfl⟩ | ⟨rfl, rfl⟩
  · exact hk
  · exact ⟨hk.2, hk.1⟩

/-! ### Going through a part -/

structure Dfs (R : Nat → Nat → Prop) (S0 : Nat → Bool) (N s : Nat) (seen : Nat → Bool) (st : List Nat) (size : Nat) : Prop where
  sub : ∀ v, v < N → S0 v = true → seen v = true
  con : ∀ v, v < N → seen v = true → S0 v = true ∨ Cn R s v
  stc : ∀ v ∈ st, v < N ∧ Cn R s v
  cls : ∀ v, v < N → seen v = true → S0 v = false → ∀ w, R v w → seen w = true ∨ w ∈ st
  src : seen s = true ∨ s ∈ st
  cnt : size = cnt (fun v => seen v && !S0 v) N

theorem Dfs.start {R : Nat → Nat → Prop} {S0 : Nat → Bool} {N s : Nat} (hs : s < N) : Dfs R S0 N s S0 [s] 0 :=
  ⟨fun _ _ h => h, fun _ _ h => .inl h, fun v hv => by simp at hv; subst hv; exact ⟨hs, .refl _⟩, fun v _ h h' => (by rw [h] at h'; cases h'), .inr (by simp), by rw [cnt_none fun i hi => by simp]⟩

/-- one seen already is laid aside -/
theorem Dfs.skip {R : Nat → Nat → Prop} {S0 seen : Nat → Bool} {N s size x : Nat} {st : List Nat} (h : Dfs R S0 N s seen (st ++ [x]) size) (hx : seen x = true) : Dfs R S0 N s seen st size := by
  refine ⟨h.sub, h.con, fun v hv => h.stc v (by simp [hv]), fun v hv h1 h2 w hw => ?_, ?_, h.cnt⟩
  · rcases h.cls v hv h1 h2 w hw with h' | h'
    · exact .inl h'
    · rcases List.mem_append.1 h' with h' | h'
      · exact .inr h'
      · simp at h'; subst h'; exact .inl hx
  · rcases h.src with h' | h'
    · exact .inl h'
    · rcases List.mem_append.1 h' with h' | h'
      · exact .inr h'
      · simp at h'; subst h'; exact .inl hx

/-- one that is new is seen, and its neighbours are to be gone to -/
theorem Dfs.take {R : Nat → Nat → Prop} {S0 seen : Nat → Bool} {N s size x : Nat} {st l : List Nat} (h : Dfs R S0 N s seen (st ++ [x]) size) (hx : seen x = false) (hl : ∀ w, w ∈ l ↔ R x w) (hR : ∀ u v, R u v → u < N → v < N) :
    Dfs R S0 N s (upf seen x true) (st ++ l) (size + 1) := by
  have hxN := h.stc x (by simp)
  have hS0 : S0 x = false := by
    cases hs : S0 x with
    | false => rfl
    | true => rw [h.sub x hxN.1 hs] at hx; cases hx
  refine ⟨fun v hv hs => ?_, fun v hv hs => ?_, fun v hv => ?_, fun v hv h1 h2 w hw => ?_, ?_, ?_⟩
  · by_cases e : v = x
    · subst e; exact upf_same
    · rw [upf_ne e]; exact h.sub v hv hs
  · by_cases e : v = x
    · subst e; exact .inr hxN.2
    · rw [upf_ne e] at hs; exact h.con v hv hs
  · rcases List.mem_append.1 hv with hv | hv
    · exact h.stc v (by simp [hv])
    · have hr := (hl v).1 hv
      exact ⟨hR _ _ hr hxN.1, hxN.2.trans (.edge hr)⟩
  · by_cases e : v = x
    · subst e; exact .inr (by simp [(hl w).2 hw])
    · rw [upf_ne e] at h1
      rcases h.cls v hv h1 h2 w hw with h' | h'
      · left
        by_cases ew : w = x
        · subst ew; exact upf_same
        · rw [upf_ne ew]; exact h'
      · rcases List.mem_append.1 h' with h' | h'
        · exact .inr (by simp [h'])
        · simp at h'; subst h'; exact .inl upf_same
  · rcases h.src with h' | h'
    · left
      by_cases ew : s = x
      · subst ew; exact upf_same
      · rw [upf_ne ew]; exact h'
    · rcases List.mem_append.1 h' with h' | h'
      · exact .inr (by simp [h'])
      · simp at h'; subst h'; exact .inl upf_same
  · rw [h.cnt]
    symm
    refine cnt_less hxN.1 (by simp [upf_same, hS0]) (by simp [hx]) fun i hi hne => by simp only [upf_ne hne]

/-- when none is left to go to, the part is seen -/
theorem Dfs.done {R : Nat → Nat → Prop} {S0 seen : Nat → Bool} {N s size : Nat} (h : Dfs R S0 N s seen [] size) (hs : s < N) (hR : ∀ u v, R u v → u < N ∧ v < N) (hsym : ∀ u v, R u v → R v u) (hS : ∀ u v, R u v → S0 u = S0 v) :
    ∀ v, v < N → (seen v = true ↔ S0 v = true ∨ Cn R s v) := by
  intro v hv
  refine ⟨h.con v hv, fun hh => ?_⟩
  rcases hh with hh | hh
  · exact h.sub v hv hh
  · cases hS0s : S0 s with
    | true =>
      have : S0 s = S0 v := hh.resp S0 hS
      exact h.sub v hv (by rw [← this]; exact hS0s)
    | false =>
      have hsrc : seen s = true := by
        rcases h.src with h' | h'
        · exact h'
        · cases h'
      have step : ∀ a b, R a b → (seen a = true ∧ S0 a = false) → (seen b = true ∧ S0 b = false) := fun a b hab hh => by
        rcases h.cls a (hR a b hab).1 hh.1 hh.2 b hab with h' | h'
        · exact ⟨h', by rw [← hS a b hab]; exact hh.2⟩
        · cases h'
      have := (hh.iff (P := fun a => seen a = true ∧ S0 a = false) fun a b hab => ⟨step a b hab, step b a (hsym a b hab)⟩).1 ⟨hsrc, hS0s⟩
      exact this.1

open Classical in
/-- how many nodes hang together with one -/
noncomputable def csz (R : Nat → Nat → Prop) (N s : Nat) : Nat := cnt (fun v => decide (Cn R s v)) N

/-- a node that is left, the first of its part -/
def Fst (R : Nat → Nat → Prop) (W : Nat → Bool) (s : Nat) : Prop := W s = false ∧ ∀ u, u < s → ¬ Cn R u s

open Classical in
theorem Dfs.size {R : Nat → Nat → Prop} {W S0 seen : Nat → Bool} {N s size : Nat} (h : Dfs R S0 N s seen [] size) (hs : s < N) (hR : ∀ u v, R u v → u < N ∧ v < N) (hsym : ∀ u v, R u v → R v u) (hS : ∀ u v, R u v → S0 u = S0 v)
    (hW : ∀ v, v < N → (S0 v = true ↔ W v = true ∨ ∃ u, u < s ∧ Cn R u v)) : size % 2 = if Fst R W s then csz R N s % 2 else 0 := by
  have hd := h.done hs hR hsym hS
  have hf : Fst R W s ↔ S0 s = false := by
    have := hW s hs
    unfold Fst
    constructor
    · rintro ⟨h1, h2⟩
      cases hS0 : S0 s with
      | false => rfl
      | true =>
        rcases this.1 hS0 with h' | ⟨u, hu, h'⟩
        · rw [h'] at h1; cases h1
        · exact absurd h' (h2 u hu)
    · intro h0
      refine ⟨?_, fun u hu hc => ?_⟩
      · cases hw : W s with
        | false => rfl
        | true => rw [this.2 (.inl hw)] at h0; cases h0
      · rw [this.2 (.inr ⟨u, hu, hc⟩)] at h0; cases h0
  rw [h.cnt]
  split
  · rename_i hF
    have h0 := hf.1 hF
    congr 1
    refine cnt_congr fun v hv => ?_
    by_cases hc : Cn R s v
    · have h1 := (hd v hv).2 (.inr hc)
      have h2 : S0 v = false := by rw [← hc.resp S0 hS]; exact h0
      simp [h1, h2, hc]
    · have : ¬ (seen v = true ∧ S0 v = false) := fun ⟨h1, h2⟩ => by
        rcases (hd v hv).1 h1 with h' | h'
        · rw [h'] at h2; cases h2
        · exact hc h'
      simp only [hc, decide_false]
      cases hsv : seen v <;> cases hS0v : S0 v <;> simp_all
  · rename_i hF
    have h0 : S0 s = true := by
      cases h' : S0 s with
      | true => rfl
      | false => exact absurd (hf.2 h') hF
    rw [cnt_none fun v hv => ?_]
    cases hS0v : S0 v with
    | true => simp
    | false =>
      have : ¬ seen v = true := fun h1 => by
        rcases (hd v hv).1 h1 with h' | h'
        · rw [h'] at hS0v; cases hS0v
        · rw [← h'.resp S0 hS, h0] at hS0v; cases hS0v
      simp [this]

end Go.Mz

/-
  Walks of layer 12, more: odd.
-/
namespace Go.Mz
section
variable {E : Value → Hp → Prop}

end
end Go.Mz

/-
  Walks of layer 12, more: Largest, NoPerfect.
-/
namespace Go.Mz
section
variable {E : Value → Hp → Prop}

end
end Go.Mz

/-
  Walks of layer 12, more: weigh, and the function of pairs that it makes.
-/
namespace Go.Mz
section
variable {E : Value → Hp → Prop}

/-- a function of two nodes, called as a value -/
def Fun2 (E : Value → Hp → Prop) (H : Hp) (g : Nat) (gk : List Value) (N : Int) (f : Int → Int → Int) : Prop :=
  T0.fok g = true ∧ ∀ (u v : Int) (H1 : Hp) (K : Value → Hp → Prop), 0 ≤ u → u < N → 0 ≤ v → v < N → Step (fun _ => False) H H1 → (∀ H2, Step (fun _ => False) H1 H2 → K (.int .i64 (f u v)) H2) → callW P0 g (.int .i64 u :: .int .i64 v :: gk) K E H1

theorem Fun2.step {H H' : Hp} {g : Nat} {gk : List Value} {N : Int} {f : Int → Int → Int} (h : Fun2 E H g gk N f) (s : Step (fun _ => False) H H') : Fun2 E H' g gk N f :=
  ⟨h.1, fun u v H1 K u0 u1 v0 v1 s1 => h.2 u v H1 K u0 u1 v0 v1 (s.and s1)⟩

/-- duals, as they lie in memory, read only -/
structure DualR (H : Hp) (yp : Option Addr) (yn : Nat) (sp : Option Addr) (sn : Nat) (Y : Nat → Int) (z : Nat → Int) (sl : Nat → Sl) (nd : Nat → Nat → Int) : Prop where
  y : Rdr H yp yn Y
  s : Rdr H sp sn (fun i => (sl i, z i))
  nd : ∀ i, i < sn → Rdr H (sl i).p (sl i).n (nd i) ∧ (sl i).n < 2 ^ 63

theorem DualR.keep {H H' : Hp} {yp : Option Addr} {yn : Nat} {sp : Option Addr} {sn : Nat} {Y : Nat → Int} {z : Nat → Int} {sl : Nat → Sl} {nd : Nat → Nat → Int} (h : DualR H yp yn sp sn Y z sl nd) (s : Step (fun _ => False) H H') : DualR H' yp yn sp sn Y z sl nd :=
  ⟨h.y.keep s fun _ _ _ h => h, h.s.keep s fun _ _ _ h => h, fun i hi => ⟨(h.nd i hi).1.keep s fun _ _ _ h => h, (h.nd i hi).2⟩⟩

open Classical in
/-- which nodes are in which set, as it lies in memory -/
structure Ins (H1 H : Hp) (nb : Nat) (ip : Option Addr) (i ic N : Nat) (rows : Nat → Sl) (ln : Nat → Nat) (nd : Nat → Nat → Int) : Prop where
  cell : H nb = some ⟨[.slice ip i ic], 132⟩
  new : H1 nb = none
  row : Row H ip i ic rows
  rnew : ∀ y, fpS ip y → H1 y = none ∧ y ≠ nb
  each : ∀ j, j < i → (rows j).n = N ∧ Rdr H (rows j).p N (fun v => decide (In (nd j) (ln j) v)) ∧ ∀ y, fpS (rows j).p y → H1 y = none ∧ y ≠ nb ∧ ¬ fpS ip y

theorem Ins.keep {H1 H H' : Hp} {nb : Nat} {ip : Option Addr} {i ic N : Nat} {rows : Nat → Sl} {ln : Nat → Nat} {nd : Nat → Nat → Int} (h : Ins H1 H nb ip i ic N rows ln nd) (s : Step (fun _ => False) H H') : Ins H1 H' nb ip i ic N rows ln nd :=
  ⟨s.keep _ _ h.cell fun h => h, h.new, h.row.keep s fun _ _ h => h, h.rnew, fun j hj => ⟨(h.each j hj).1, (h.each j hj).2.1.keep s fun _ _ _ h => h, (h.each j hj).2.2⟩⟩

end
end Go.Mz

/-
  Walks of layer 12, more: Cheapest.
-/
namespace Go.Mz
section
variable {E : Value → Hp → Prop}

end
end Go.Mz

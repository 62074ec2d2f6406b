/-
  Joined: KuP, OutP, KuS, KuC, KuT.
-/
import Derived.Test.YtmaeboaopebaiaaPkM
import Derived.Test.YtmaeboaopebaiaaMzU
import Derived.Test.YtmaeboaopebaiaaGBip
import Derived.Test.YtmaeboaopebaiaaPkV
set_option linter.unusedSimpArgs false
set_option linter.unusedVariables false
/-
  Matchings between two sides in plain words: which edge matches each node; ways that start at a node of the left side.
-/
namespace Go.Mz

/-- edges join a node below `L` with one from `L` on -/
structure Bip (M L n : Nat) (lo hi : Nat → Nat) : Prop where
  lt : ∀ i, i < n → lo i < L
  ge : ∀ i, i < n → L ≤ hi i
  hm : ∀ i, i < n → hi i < M
  lm : L ≤ M

/-- which edge matches each node, but for one that is left out -/
structure MX (M n : Nat) (lo hi : Nat → Nat) (x : Nat) (by' : Nat → Int) : Prop where
  rg : ∀ v, v < M → v ≠ x → by' v = -1 ∨ ∃ i : Nat, i < n ∧ by' v = i ∧ (v = lo i ∨ v = hi i)
  cn : ∀ v, v < M → v ≠ x → ∀ i : Nat, i < n → by' v = i → by' (lo i) = i ∧ by' (hi i) = i

/-- all of them -/
abbrev MB (M n : Nat) (lo hi : Nat → Nat) (by' : Nat → Int) : Prop := MX M n lo hi M by'

variable {M L n : Nat} {lo hi : Nat → Nat} {by' : Nat → Int}

theorem MX.all (h : MX M n lo hi M by') {v : Nat} (hv : v < M) : by' v = -1 ∨ ∃ i : Nat, i < n ∧ by' v = i ∧ (v = lo i ∨ v = hi i) := h.rg v hv (by omega)
theorem MX.both (h : MX M n lo hi M by') {v : Nat} (hv : v < M) {i : Nat} (hi' : i < n) (e : by' v = i) : by' (lo i) = i ∧ by' (hi i) = i := h.cn v hv (by omega) i hi' e

theorem MX.left (hB : Bip M L n lo hi) (h : MX M n lo hi M by') {v : Nat} (hv : v < L) {i : Nat} (hn : i < n) (e : by' v = i) : lo i = v := by
  rcases h.all (v := v) (by have := hB.lm; omega) with e' | ⟨j, hj, ej, e'⟩
  · omega
  · have : j = i := by omega
    subst this
    rcases e' with e' | e'
    · exact e'.symm
    · have := hB.ge j hj; omega
theorem MX.right (hB : Bip M L n lo hi) (h : MX M n lo hi M by') {v : Nat} (hv : L ≤ v) (hv2 : v < M) {i : Nat} (hn : i < n) (e : by' v = i) : hi i = v := by
  rcases h.all hv2 with e' | ⟨j, hj, ej, e'⟩
  · omega
  · have : j = i := by omega
    subst this
    rcases e' with e' | e'
    · have := hB.lt j hj; omega
    · exact e'.symm

/-- nothing is matched -/
theorem MB.none : MB M n lo hi (fun _ => -1) := ⟨fun v hv _ => .inl rfl, fun v hv _ i hi' e => by have e' : (-1 : Int) = (i : Int) := e; omega⟩

/-- the old match of a node of the left side -/
def exm (M : Nat) (hi : Nat → Nat) (x : Int) : Nat := if x < 0 then M else hi x.toNat

/-- a set of nodes of the right side, all matched, that their mates don't lead out of -/
def Cl (M L n : Nat) (lo hi : Nat → Nat) (by' : Nat → Int) (W : Nat → Prop) : Prop :=
  ∀ w, W w → L ≤ w ∧ w < M ∧ 0 ≤ by' w ∧ ∀ j, j < n → lo j = lo (by' w).toNat → W (hi j)

/-- what a try that found a way has done -/
structure Won (M L n : Nat) (lo hi : Nat → Nat) (seen : Nat → Bool) (v : Nat) (b0 b1 : Nat → Int) : Prop where
  mx : MX M n lo hi (exm M hi (b0 v)) b1
  new : ∃ i : Nat, i < n ∧ b1 v = i ∧ lo i = v ∧ seen (hi i) = false
  kept : ∀ w, L ≤ w → w < M → seen w = true → b1 w = b0 w
  free : ∀ t, t < L → t ≠ v → b0 t = -1 → b1 t = -1
  old : ∀ t, t < L → t ≠ v → 0 ≤ b0 t → seen (hi (b0 t).toNat) = true → b1 t = b0 t
  lft : ∀ t, t < L → 0 ≤ b0 t → 0 ≤ b1 t
  rgt : ∀ w, L ≤ w → w < M → 0 ≤ b0 w → 0 ≤ b1 w
  cls : ∀ W, Cl M L n lo hi b0 W → ∀ w, W w → b1 w = b0 w

/-- what a try that found none has seen -/
structure Lost (M L n : Nat) (lo hi : Nat → Nat) (b0 : Nat → Int) (seen seen' : Nat → Bool) (v : Nat) : Prop where
  sub : ∀ w, seen w = true → seen' w = true
  nb : ∀ j, j < n → lo j = v → seen' (hi j) = true
  new : ∀ w, seen' w = true → seen w = true ∨ (L ≤ w ∧ w < M ∧ 0 ≤ b0 w ∧ ∀ j, j < n → lo j = lo (b0 w).toNat → seen' (hi j) = true)

theorem take_at {i v w : Nat} (hvw : v ≠ w) {t : Nat} : upf (upf by' v (i : Int)) w (i : Int) t = if t = w ∨ t = v then (i : Int) else by' t := by
  by_cases e : t = w
  · subst e; simp [upf_same]
  · rw [upf_ne e]
    by_cases e' : t = v
    · subst e'; simp [upf_same]
    · rw [upf_ne e']; simp [e, e']

/-- an edge to a node that isn't matched -/
theorem Won.end (hB : Bip M L n lo hi) (h : MB M n lo hi by') {seen : Nat → Bool} {v i : Nat} (hn : i < n) (hv : lo i = v) (hf : by' (hi i) < 0) (hs : seen (hi i) = false) (hse : 0 ≤ by' v → seen (hi (by' v).toNat) = true) :
    Won M L n lo hi seen v by' (upf (upf by' v (i : Int)) (hi i) (i : Int)) := by
  have hvL : v < L := hv ▸ hB.lt i hn
  have hwL := hB.ge i hn
  have hwM := hB.hm i hn
  have hvw : v ≠ hi i := by omega
  have ff : by' (hi i) = -1 := by
    rcases h.all hwM with e | ⟨j, _, e, _⟩ <;> omega
  refine ⟨⟨fun t ht hx => ?_, fun t ht hx j hj e => ?_⟩, ⟨i, hn, by rw [take_at hvw]; simp, hv, hs⟩, fun w hw hwM' hsw => ?_, fun t ht hne e => ?_, fun t ht hne e hst => ?_, fun t ht e => ?_, fun w hw hwM' e => ?_, fun W hW w hw => ?_⟩
  · rw [take_at hvw]
    by_cases c : t = hi i ∨ t = v
    · rw [if_pos c]; exact .inr ⟨i, hn, rfl, by rcases c with c | c <;> simp [c, hv]⟩
    · rw [if_neg c]; exact h.all ht
  · rw [take_at hvw] at e
    by_cases c : t = hi i ∨ t = v
    · rw [if_pos c] at e
      have : i = j := by omega
      subst this
      rw [take_at hvw, take_at hvw]; simp [hv]
    · rw [if_neg c] at e
      obtain ⟨e1, e2⟩ := h.both ht hj e
      have n1 : hi j ≠ hi i := fun hh => by rw [hh, ff] at e2; omega
      have n2 : lo j ≠ v := fun hh => by
        rw [hh] at e1
        have : exm M hi (by' v) = hi j := by unfold exm; rw [e1, if_neg (by omega), Int.toNat_natCast]
        rw [this] at hx
        rcases h.all ht with e' | ⟨j', hj', e', hor⟩
        · omega
        · have : j' = j := by omega
          subst this
          rcases hor with hor | hor
          · exact c (.inr (by omega))
          · exact hx hor
      have hlj := hB.lt j hj
      have hhj := hB.ge j hj
      rw [take_at hvw, take_at hvw, if_neg (by omega), if_neg (by omega)]
      exact ⟨e1, e2⟩
  · rw [take_at hvw, if_neg]
    rintro (c | c)
    · rw [c, hs] at hsw; cases hsw
    · omega
  · rw [take_at hvw, if_neg (by omega)]; exact e
  · rw [take_at hvw, if_neg (by omega)]
  · rw [take_at hvw]; split <;> omega
  · rw [take_at hvw]; split <;> omega
  · obtain ⟨h1, h2, h3, _⟩ := hW w hw
    rw [take_at hvw, if_neg]
    rintro (c | c)
    · rw [c] at h3; omega
    · omega

/-- an edge to a node whose mate found another -/
theorem Won.step (hB : Bip M L n lo hi) {b0 b1 : Nat → Int} (h : MB M n lo hi b0) {seen s2 : Nat → Bool} {v i u k : Nat} (hn : i < n) (hv : lo i = v) (hk : k < n) (hbk : b0 (hi i) = (k : Int)) (hu : lo k = u) (hs : seen (hi i) = false) (hse : 0 ≤ b0 v → seen (hi (b0 v).toNat) = true)
    (hsub : ∀ w, seen w = true → s2 w = true) (hs2 : s2 (hi i) = true) (hw : Won M L n lo hi s2 u b0 b1) : Won M L n lo hi seen v b0 (upf (upf b1 v (i : Int)) (hi i) (i : Int)) := by
  have hvL : v < L := hv ▸ hB.lt i hn
  have huL : u < L := hu ▸ hB.lt k hk
  have hwL := hB.ge i hn
  have hwM := hB.hm i hn
  have hvw : v ≠ hi i := by omega
  have hLM := hB.lm
  -- the node's mate was `u`
  have hki : hi k = hi i := MX.right hB h hwL hwM hk hbk
  have hbu : b0 u = (k : Int) := by have := (h.both hwM hk hbk).1; rwa [hu] at this
  have hexu : exm M hi (b0 u) = hi i := by unfold exm; rw [hbu, if_neg (by omega), Int.toNat_natCast, hki]
  have hmx := hw.mx
  rw [hexu] at hmx
  have hvu : v ≠ u := fun e => by
    have := hse (by rw [e, hbu]; omega)
    rw [e, hbu, Int.toNat_natCast, hki, hs] at this; cases this
  -- this node's own match hasn't changed
  have hbv : b1 v = b0 v := by
    rcases h.all (v := v) (by omega) with e | ⟨k0, hk0, e, _⟩
    · rw [e]; exact hw.free v hvL hvu e
    · exact hw.old v hvL hvu (by omega) (hsub _ (hse (by omega)))
  have hbw : b1 (hi i) = (k : Int) := by rw [hw.kept (hi i) hwL hwM hs2, hbk]
  obtain ⟨iu, hiu, e1u, e2u, e3u⟩ := hw.new
  refine ⟨⟨fun t ht hx => ?_, fun t ht hx j hj e => ?_⟩, ⟨i, hn, by rw [take_at hvw]; simp, hv, hs⟩, fun w hwl hwm hsw => ?_, fun t ht hne e => ?_, fun t ht hne e hst => ?_, fun t ht e => ?_, fun w hwl hwm e => ?_, fun W hW w hw' => ?_⟩
  · rw [take_at hvw]
    by_cases c : t = hi i ∨ t = v
    · rw [if_pos c]; exact .inr ⟨i, hn, rfl, by rcases c with c | c <;> simp [c, hv]⟩
    · rw [if_neg c]; exact hmx.rg t ht fun e => c (.inl e)
  · rw [take_at hvw] at e
    by_cases c : t = hi i ∨ t = v
    · rw [if_pos c] at e
      have : i = j := by omega
      subst this
      rw [take_at hvw, take_at hvw]; simp [hv]
    · rw [if_neg c] at e
      have htx : t ≠ hi i := fun e => c (.inl e)
      obtain ⟨q1, q2⟩ := hmx.cn t ht htx j hj e
      have hlj := hB.lt j hj
      have hhj := hB.ge j hj
      have hor : t = lo j ∨ t = hi j := by
        rcases hmx.rg t ht htx with e' | ⟨j', hj', e', hor⟩
        · omega
        · have : j' = j := by omega
          subst this; exact hor
      have n1 : hi j ≠ hi i := fun hh => by
        rw [hh, hbw] at q2
        have ejk : j = k := by omega
        subst ejk
        rcases hor with hor | hor
        · rw [hor, hu, e1u] at e
          have : iu = j := by omega
          rw [this, hki, hs2] at e3u; cases e3u
        · exact htx (hor.trans hh)
      have n2 : lo j ≠ v := fun hh => by
        rw [hh, hbv] at q1
        have : exm M hi (b0 v) = hi j := by unfold exm; rw [q1, if_neg (by omega), Int.toNat_natCast]
        rw [this] at hx
        rcases hor with hor | hor
        · exact c (.inr (by omega))
        · exact hx hor
      rw [take_at hvw, take_at hvw, if_neg (by omega), if_neg (by omega)]
      exact ⟨q1, q2⟩
  · rw [take_at hvw, if_neg]
    · exact hw.kept w hwl hwm (hsub w hsw)
    · rintro (c | c)
      · rw [c, hs] at hsw; cases hsw
      · omega
  · rw [take_at hvw, if_neg (by omega)]
    refine hw.free t ht (fun e' => ?_) e
    rw [e', hbu] at e; omega
  · rw [take_at hvw, if_neg (by omega)]
    refine hw.old t ht (fun e' => ?_) e (hsub _ hst)
    rw [e', hbu, Int.toNat_natCast, hki, hs] at hst; cases hst
  · rw [take_at hvw]
    split
    · omega
    · exact hw.lft t ht e
  · rw [take_at hvw]
    split
    · omega
    · exact hw.rgt w hwl hwm e
  · have hWc := hw.cls W hW
    obtain ⟨h1, h2, h3, _⟩ := hW w hw'
    rw [take_at hvw, if_neg]
    · exact hWc w hw'
    · rintro (c | c)
      · -- the node can't be in such a set: its mate would have stayed in it
        rw [c] at hw'
        obtain ⟨_, _, _, h4⟩ := hW _ hw'
        rw [hbk, Int.toNat_natCast, hu] at h4
        have hin := h4 iu hiu e2u
        have hsame := hWc _ hin
        obtain ⟨_, q2⟩ := hmx.cn u (by omega) (by omega) iu hiu e1u
        rw [q2] at hsame
        obtain ⟨q3, _⟩ := h.both (hB.hm iu hiu) hiu hsame.symm
        rw [e2u, hbu] at q3
        have : iu = k := by omega
        rw [this, hki, hs2] at e3u; cases e3u
      · omega

/-- a lost try, from nothing seen, has seen a set that is closed -/
theorem Lost.closed {b0 : Nat → Int} {seen' : Nat → Bool} {v : Nat} (h : Lost M L n lo hi b0 (fun _ => false) seen' v) : Cl M L n lo hi b0 (fun w => seen' w = true) := fun w hw => by
  rcases h.new w hw with h | h
  · cases h
  · exact h

/-- closed sets stay closed when a way was found -/
theorem Won.cl {b0 b1 : Nat → Int} {seen : Nat → Bool} {v : Nat} (h : Won M L n lo hi seen v b0 b1) {W : Nat → Prop} (hW : Cl M L n lo hi b0 W) : Cl M L n lo hi b1 W := fun w hw => by
  obtain ⟨h1, h2, h3, h4⟩ := hW w hw
  rw [h.cls W hW w hw]
  exact ⟨h1, h2, h3, h4⟩

/-- each node of the left side that isn't matched stands before a set that is closed -/
def Shut (M L n : Nat) (lo hi : Nat → Nat) (by' : Nat → Int) (v : Nat) : Prop :=
  ∃ W : Nat → Prop, Cl M L n lo hi by' W ∧ ∀ j, j < n → lo j = v → W (hi j)
end Go.Mz

/-
  The edges at each node, as lists.
-/
namespace Go.Mz

/-- the edges that go out of each node, among so many -/
def outs (a : Nat → Nat) : Nat → Nat → List Nat
  | 0 => fun _ => []
  | i + 1 => upf (outs a i) (a i) (outs a i (a i) ++ [i])

theorem mem_outs {a : Nat → Nat} : ∀ {i j v : Nat}, j ∈ outs a i v ↔ j < i ∧ a j = v
  | 0, j, v => ⟨fun h => (by cases h), fun h => by omega⟩
  | i + 1, j, v => by
    show j ∈ upf (outs a i) (a i) (outs a i (a i) ++ [i]) v ↔ _
    by_cases e : v = a i
    · subst e
      rw [upf_same]
      simp only [List.mem_append, List.mem_singleton, mem_outs]
      constructor
      · rintro (⟨h1, h2⟩ | rfl)
        · exact ⟨by omega, h2⟩
        · exact ⟨by omega, rfl⟩
      · rintro ⟨h1, h2⟩
        by_cases e' : j = i
        · exact .inr e'
        · exact .inl ⟨by omega, h2⟩
    · rw [upf_ne e, mem_outs]
      constructor
      · rintro ⟨h1, h2⟩; exact ⟨by omega, h2⟩
      · rintro ⟨h1, h2⟩
        refine ⟨?_, h2⟩
        by_cases e' : j = i
        · subst e'; exact (e h2.symm).elim
        · omega

theorem outs_len {a : Nat → Nat} : ∀ {i v : Nat}, (outs a i v).length ≤ i
  | 0, v => Nat.le_refl _
  | i + 1, v => by
    show (upf (outs a i) (a i) (outs a i (a i) ++ [i]) v).length ≤ _
    by_cases e : v = a i
    · subst e; rw [upf_same]; have := outs_len (a := a) (i := i) (v := a i); simp; omega
    · rw [upf_ne e]; have := outs_len (a := a) (i := i) (v := v); omega
end Go.Mz

/-
  Walks of layer 15: the pairs as they lie in memory; other, take; try.
-/
namespace Go.Mz

/-- an edge's ends, the lower and the higher -/
def elo (e : Nat → Edg) (i : Nat) : Nat := (min (e i).fr (e i).to).toNat
def ehi (e : Nat → Edg) (i : Nat) : Nat := (max (e i).fr (e i).to).toNat

/-- the pairs, as they lie in memory; all but the edges is new since `H0` -/
structure PrM (H0 H : Hp) (pb M L : Nat) (ep : Option Addr) (n ec : Nat) (e : Nat → Edg) (bo bb : Nat) (sl : Nat → Sl) (out : Nat → List Nat) (by' : Nat → Int) : Prop where
  st : Step (fun _ => False) H0 H
  he : Rdr H0 ep n e
  cell : H pb = some ⟨[.int .i64 (M : Int), .slice ep n ec, .int .i64 (L : Int), .slice (some ⟨bo, 0, none⟩) L L, .slice (some ⟨bb, 0, none⟩) M M], 80⟩
  out : Rows2 H0 H bo L sl out
  rb : Row H (some ⟨bb, 0, none⟩) M M by'
  fp : H0 pb = none
  fb : H0 bb = none
  d1 : pb ≠ bb
  d2 : pb ≠ bo
  d3 : bo ≠ bb
  d4 : ∀ v, v < L → ∀ x, fpS (sl v).p x → x ≠ pb ∧ x ≠ bb

section
variable {E : Value → Hp → Prop}
variable {H0 H : Hp} {pb M L n ec bo bb : Nat} {ep : Option Addr} {e : Nat → Edg} {sl : Nat → Sl} {out : Nat → List Nat} {by' : Nat → Int}

/-- what is not the pairs' own -/
structure PrAway (pb bo bb L : Nat) (sl : Nat → Sl) (y : Nat) : Prop where
  a : y ≠ pb
  b : y ≠ bo
  c : y ≠ bb
  d : ∀ v, v < L → ¬ fpS (sl v).p y

theorem PrM.keep {H' : Hp} {F : Nat → Prop} (h : PrM H0 H pb M L ep n ec e bo bb sl out by') (s : Step F H H') (hF : ∀ y, F y → H0 y = none ∧ PrAway pb bo bb L sl y) : PrM H0 H' pb M L ep n ec e bo bb sl out by' :=
  ⟨h.st.own s fun y hy => (hF y hy).1, h.he, s.keep _ _ h.cell fun hh => (hF _ hh).2.a rfl, h.out.keep s (fun hh => (hF _ hh).2.b rfl) fun v hv x hx hh => (hF _ hh).2.d v hv hx, h.rb.keep s fun y hy hh => by rw [fpS_mk] at hy; exact (hF _ hh).2.c hy, h.fp, h.fb, h.d1, h.d2, h.d3, h.d4⟩

theorem PrM.keep0 {H' : Hp} (h : PrM H0 H pb M L ep n ec e bo bb sl out by') (s : Step (fun _ => False) H H') : PrM H0 H' pb M L ep n ec e bo bb sl out by' := h.keep s fun _ h => h.elim

theorem PrM.ed (h : PrM H0 H pb M L ep n ec e bo bb sl out by') : Rdr H ep n e := h.he.keep h.st fun _ _ _ h => h

theorem PrM.fresh (h : PrM H0 H pb M L ep n ec e bo bb sl out by') {y : Nat} (hy : H y = none) : PrAway pb bo bb L sl y :=
  ⟨fun hh => (by rw [hh, h.cell] at hy; cases hy), fun hh => h.out.row.live ⟨0, rfl⟩ (hh ▸ hy), fun hh => h.rb.live ⟨0, rfl⟩ (hh ▸ hy), fun v hv hh => (h.out.each v hv).live hh hy⟩

/-- the matches are others -/
theorem PrM.setB {H' : Hp} {b' : Nat → Int} (h : PrM H0 H pb M L ep n ec e bo bb sl out by') (s : Step (fpS (some ⟨bb, 0, none⟩)) H H') (r : Row H' (some ⟨bb, 0, none⟩) M M b') : PrM H0 H' pb M L ep n ec e bo bb sl out b' := by
  have hF : ∀ y, fpS (some ⟨bb, 0, none⟩) y → y = bb := fun y hy => by rwa [fpS_mk] at hy
  exact ⟨h.st.own s fun y hy => hF y hy ▸ h.fb, h.he, s.keep _ _ h.cell fun hh => h.d1 (hF _ hh), h.out.keep s (fun hh => h.d3 (hF _ hh)) fun v hv x hx hh => (h.d4 v hv x hx).2 (hF _ hh), r, h.fp, h.fb, h.d1, h.d2, h.d3, h.d4⟩

theorem bother {i : Nat} {v : Int} {K : Int → Hp → Prop} (h : PrM H0 H pb M L ep n ec e bo bb sl out by') (hr : Right (M : Int) n e) (hi : i < n) (hv : -1048576 ≤ v) (hv2 : v ≤ 1048576) (k : K ((e i).fr + (e i).to - v) H) : bimatch_pairs_other.call (some ⟨pb, 0, none⟩) i v E H K := by
  have hx := hr.ed i hi
  have h0 := hx.f0; have h1 := hx.f1; have h2 := hx.t0; have h3 := hx.t1
  have hN := hr.N1
  refine bimatch_pairs_other.of (bimatch_pairs_other.run_eq ?_)
  unfold bimatch_pairs_other.run_t
  simp only [nn_mk, get_at h.cell, List.getElem?_cons_zero, List.getElem?_cons_succ, ldS_mk, Nat.zero_add]
  refine h.ed.edgeF (by omega) (by omega) ?_
  refine h.ed.edgeT (by omega) (by omega) ?_
  rw [Int.toNat_natCast, i64w (n := (e i).fr + (e i).to) (by omega) (by omega), i64w (by omega) (by omega)]
  exact k

/-- from one end to the other -/
theorem both_ends (hr : Right (M : Int) n e) {i : Nat} (hi : i < n) : ((e i).fr + (e i).to : Int) = ((elo e i + ehi e i : Nat) : Int) ∧ elo e i < M ∧ ehi e i < M ∧ (((e i).fr = (elo e i : Int) ∧ (e i).to = (ehi e i : Int)) ∨ ((e i).fr = (ehi e i : Int) ∧ (e i).to = (elo e i : Int))) := by
  have hx := hr.ed i hi
  have h0 := hx.f0; have h1 := hx.f1; have h2 := hx.t0; have h3 := hx.t1
  unfold elo ehi
  omega

theorem bother_lo {i : Nat} {K : Int → Hp → Prop} (h : PrM H0 H pb M L ep n ec e bo bb sl out by') (hr : Right (M : Int) n e) (hi : i < n) (k : K (ehi e i : Int) H) : bimatch_pairs_other.call (some ⟨pb, 0, none⟩) i (elo e i : Int) E H K := by
  obtain ⟨h1, h2, h3, _⟩ := both_ends hr hi
  have hN := hr.N1
  refine bother h hr hi (by omega) (by omega) ?_
  have : (e i).fr + (e i).to - (elo e i : Int) = (ehi e i : Int) := by omega
  rw [this]; exact k

theorem bother_hi {i : Nat} {K : Int → Hp → Prop} (h : PrM H0 H pb M L ep n ec e bo bb sl out by') (hr : Right (M : Int) n e) (hi : i < n) (k : K (elo e i : Int) H) : bimatch_pairs_other.call (some ⟨pb, 0, none⟩) i (ehi e i : Int) E H K := by
  obtain ⟨h1, h2, h3, _⟩ := both_ends hr hi
  have hN := hr.N1
  refine bother h hr hi (by omega) (by omega) ?_
  have : (e i).fr + (e i).to - (ehi e i : Int) = (elo e i : Int) := by omega
  rw [this]; exact k

theorem btake {i : Nat} {K : Hp → Prop} (h : PrM H0 H pb M L ep n ec e bo bb sl out by') (hr : Right (M : Int) n e) (hi : i < n) (hne : elo e i ≠ ehi e i)
    (k : ∀ H', PrM H0 H' pb M L ep n ec e bo bb sl out (upf (upf by' (elo e i) (i : Int)) (ehi e i) (i : Int)) → Step (fpS (some ⟨bb, 0, none⟩)) H H' → K H') : bimatch_pairs_take.call (some ⟨pb, 0, none⟩) i E H K := by
  obtain ⟨h1, h2, h3, hor⟩ := both_ends hr hi
  refine bimatch_pairs_take.of (bimatch_pairs_take.run_eq ?_)
  unfold bimatch_pairs_take.run_t
  simp only [nn_mk, get_at h.cell, List.getElem?_cons_zero, List.getElem?_cons_succ, ldS_mk, Nat.zero_add]
  refine h.ed.edgeF (by omega) (by omega) ?_
  refine h.ed.edgeT (by omega) (by omega) ?_
  rw [Int.toNat_natCast]
  have comm : upf (upf by' (ehi e i) (i : Int)) (elo e i) (i : Int) = upf (upf by' (elo e i) (i : Int)) (ehi e i) (i : Int) := by
    funext t
    unfold upf
    by_cases a : t = elo e i <;> by_cases b : t = ehi e i <;> simp [a, b]
  rcases hor with ⟨ef, et⟩ | ⟨ef, et⟩
  · rw [ef, et]
    refine h.rb.stI (by omega) (by omega) _ fun H1 r1 s1 => ?_
    refine r1.stI (by omega) (by omega) _ fun H2 r2 s2 => ?_
    simp only [Int.toNat_natCast] at r2
    exact k H2 ((h.setB s1 r1).setB s2 r2) (s1.trans s2 fun y hy => .inl hy)
  · rw [ef, et]
    refine h.rb.stI (by omega) (by omega) _ fun H1 r1 s1 => ?_
    refine r1.stI (by omega) (by omega) _ fun H2 r2 s2 => ?_
    simp only [Int.toNat_natCast] at r2
    rw [comm] at r2
    exact k H2 ((h.setB s1 r1).setB s2 r2) (s1.trans s2 fun y hy => .inl hy)

/-- what a simple search holds -/
structure SiM (H0 H : Hp) (sb xb pb M L : Nat) (ep : Option Addr) (n ec : Nat) (e : Nat → Edg) (bo bb : Nat) (sl : Nat → Sl) (by' : Nat → Int) (seen : Nat → Bool) : Prop where
  pr : PrM H0 H pb M L ep n ec e bo bb sl (outs (elo e) n) by'
  cell : H sb = some ⟨[.pointer (some ⟨pb, 0, none⟩), .slice (some ⟨xb, 0, none⟩) M M], 85⟩
  rx : Row H (some ⟨xb, 0, none⟩) M M seen
  fs : H0 sb = none
  fx : H0 xb = none
  aS : PrAway pb bo bb L sl sb
  aX : PrAway pb bo bb L sl xb
  d : sb ≠ xb

variable {sb xb : Nat} {seen : Nat → Bool}

theorem SiM.setX {H' : Hp} {seen' : Nat → Bool} (h : SiM H0 H sb xb pb M L ep n ec e bo bb sl by' seen) (s : Step (fpS (some ⟨xb, 0, none⟩)) H H') (r : Row H' (some ⟨xb, 0, none⟩) M M seen') : SiM H0 H' sb xb pb M L ep n ec e bo bb sl by' seen' := by
  have hF : ∀ y, fpS (some ⟨xb, 0, none⟩) y → y = xb := fun y hy => by rwa [fpS_mk] at hy
  exact ⟨h.pr.keep s fun y hy => hF y hy ▸ ⟨h.fx, h.aX⟩, s.keep _ _ h.cell fun hh => h.d (hF _ hh), r, h.fs, h.fx, h.aS, h.aX, h.d⟩

theorem SiM.setB {H' : Hp} {b' : Nat → Int} (h : SiM H0 H sb xb pb M L ep n ec e bo bb sl by' seen) (s : Step (fpS (some ⟨bb, 0, none⟩)) H H') (r : PrM H0 H' pb M L ep n ec e bo bb sl (outs (elo e) n) b') : SiM H0 H' sb xb pb M L ep n ec e bo bb sl b' seen := by
  have hF : ∀ y, fpS (some ⟨bb, 0, none⟩) y → y = bb := fun y hy => by rwa [fpS_mk] at hy
  exact ⟨r, s.keep _ _ h.cell fun hh => h.aS.c (hF _ hh), h.rx.keep s fun y hy hh => by rw [fpS_mk] at hy; exact h.aX.c (hy.symm.trans (hF _ hh)), h.fs, h.fx, h.aS, h.aX, h.d⟩

theorem stry (hr : Right (M : Int) n e) (hB : Bip M L n (elo e) (ehi e)) : ∀ (k : Nat) {H : Hp} {by' : Nat → Int} {seen : Nat → Bool} {v : Nat} {K : Bool → Hp → Prop}, cnt (fun w => !seen w) M ≤ k → SiM H0 H sb xb pb M L ep n ec e bo bb sl by' seen → v < L → MB M n (elo e) (ehi e) by' → (0 ≤ by' v → seen (ehi e (by' v).toNat) = true) →
    (∀ H' b1 s1, SiM H0 H' sb xb pb M L ep n ec e bo bb sl b1 s1 → Won M L n (elo e) (ehi e) seen v by' b1 → Step (fun y => y = bb ∨ y = xb) H H' → K true H') →
    (∀ H' s1, SiM H0 H' sb xb pb M L ep n ec e bo bb sl by' s1 → Lost M L n (elo e) (ehi e) by' seen s1 v → Step (fun y => y = bb ∨ y = xb) H H' → K false H') → bimatch_simple_try.call (some ⟨sb, 0, none⟩) v E H K := by
  intro k
  induction k using Nat.strongRecOn with
  | _ k ih =>
  intro H by' seen v K hk hM hv hMB hse won lost
  have hN0 := hr.N0; have hN1 := hr.N1; have hn1 := hr.n1
  have hLM := hB.lm
  refine bimatch_simple_try.of (bimatch_simple_try.run_eq ?_)
  unfold bimatch_simple_try.run_t
  simp only [nn_mk, get_at hM.cell, get_at hM.pr.cell, List.getElem?_cons_zero, List.getElem?_cons_succ, ldS_mk, ldP_mk, Nat.zero_add]
  refine hM.pr.out.row.rdr.ixS (by omega) (by omega) ?_
  rw [Int.toNat_natCast, hM.pr.out.len v hv]
  refine bimatch_simple_try.l1_rule (fun s0 v1 tp tn tc t19 t20 H' => s0 = some ⟨sb, 0, none⟩ ∧ v1 = v ∧ tp = (sl v).p ∧ tn = (outs (elo e) n v).length ∧ tc = (sl v).c ∧ t19 = ((outs (elo e) n v).length : Int) ∧
      ∃ (l1 l2 : List Nat) (s1 : Nat → Bool), t20 = l1.length ∧ outs (elo e) n v = l1 ++ l2 ∧ SiM H0 H' sb xb pb M L ep n ec e bo bb sl by' s1 ∧ Step (fun y => y = bb ∨ y = xb) H H' ∧ (∀ w, seen w = true → s1 w = true) ∧ (∀ j ∈ l1, s1 (ehi e j) = true) ∧
        ∀ w, s1 w = true → seen w = true ∨ (L ≤ w ∧ w < M ∧ 0 ≤ by' w ∧ ∀ j, j < n → elo e j = elo e (by' w).toNat → s1 (ehi e j) = true))
    (fun s0 v1 tp tn tc t19 t20 H' => (outs (elo e) n v).length - t20.toNat) ?_ ⟨rfl, rfl, rfl, rfl, rfl, rfl, [], outs (elo e) n v, seen, rfl, rfl, hM, .refl, fun w h => h, fun j hj => (by cases hj), fun w h => .inl h⟩
  rintro s0 v1 tp tn tc t19 t20 H1 ⟨rfl, rfl, rfl, rfl, rfl, rfl, l1, l2, s1, rfl, hsp, hM1, st1, hsub, hnb, hnew⟩ X hX
  refine bimatch_simple_try.b1_eq ?_
  unfold bimatch_simple_try.b1_t
  have hlen : (outs (elo e) n v).length = l1.length + l2.length := by rw [hsp]; simp
  have hol : (outs (elo e) n v).length ≤ n := outs_len
  refine bc (fun hlt => ?_) fun hge => ?_
  · cases l2 with
    | nil => simp at hlen; omega
    | cons i l2 =>
      simp only [List.length_cons] at hlen
      have hio : i ∈ outs (elo e) n v := by rw [hsp]; simp
      obtain ⟨hin, hiv⟩ := mem_outs.1 hio
      have hwL := hB.ge i hin
      have hwM := hB.hm i hin
      refine (hM1.pr.out.each v hv).rdr.ixI (by omega) (by omega) ?_
      have ei : lsF (outs (elo e) n v) (l1.length : Int).toNat = (i : Int) := by rw [Int.toNat_natCast, hsp]; simp [lsF]
      rw [ei]
      -- on with the next edge
      have next : ∀ {H2 : Hp} {s2 : Nat → Bool}, SiM H0 H2 sb xb pb M L ep n ec e bo bb sl by' s2 → Step (fun y => y = bb ∨ y = xb) H H2 → (∀ w, s1 w = true → s2 w = true) → s2 (ehi e i) = true → (∀ w, s2 w = true → s1 w = true ∨ (L ≤ w ∧ w < M ∧ 0 ≤ by' w ∧ ∀ j, j < n → elo e j = elo e (by' w).toNat → s2 (ehi e j) = true)) →
          bimatch_simple_try.j2 (some ⟨sb, 0, none⟩) (v : Int) (sl v).p (outs (elo e) n v).length (sl v).c ((outs (elo e) n v).length : Int) (l1.length : Int) X E H2 K := by
        intro H2 s2 hM2 st2 h12 hw2 hn2
        refine bimatch_simple_try.j2_eq ?_
        unfold bimatch_simple_try.j2_t
        rw [i64w (by omega) (by omega)]
        refine hX _ _ _ _ _ _ _ _ ⟨rfl, rfl, rfl, rfl, rfl, rfl, l1 ++ [i], l2, s2, by simp, by rw [hsp]; simp, hM2, st2, fun w h => h12 w (hsub w h), fun j hj => ?_, fun w hw => ?_⟩ (by omega)
        · simp only [List.mem_append, List.mem_singleton] at hj
          rcases hj with hj | rfl
          · exact h12 _ (hnb j hj)
          · exact hw2
        · rcases hn2 w hw with h | h
          · rcases hnew w h with h | ⟨a1, a2, a3, a4⟩
            · exact .inl h
            · exact .inr ⟨a1, a2, a3, fun j hj hjl => h12 _ (a4 j hj hjl)⟩
          · exact .inr h
      simp only [nn_mk, get_at hM1.cell, List.getElem?_cons_zero, List.getElem?_cons_succ, ldS_mk, ldP_mk, Nat.zero_add]
      rw [← hiv]
      refine bother_lo hM1.pr hr hin ?_
      simp only [nn_mk, get_at hM1.cell, List.getElem?_cons_zero, List.getElem?_cons_succ, ldS_mk, ldP_mk, Nat.zero_add]
      refine hM1.rx.rdr.ixB (by omega) (by omega) ?_
      rw [Int.toNat_natCast, hiv]
      cases hs1 : s1 (ehi e i) with
      | true => exact bcb (fun _ => next hM1 st1 (fun w h => h) hs1 fun w h => .inl h) fun h => by cases h
      | false =>
        refine bcb (fun h => by cases h) fun _ => ?_
        have hsn : seen (ehi e i) = false := by
          cases hh : seen (ehi e i) with
          | false => rfl
          | true => rw [hsub _ hh] at hs1; cases hs1
        refine hM1.rx.stB (by omega) (by omega) _ fun H2 r2 s2 => ?_
        rw [Int.toNat_natCast] at r2
        have hM2 := hM1.setX s2 r2
        have st2 : Step (fun y => y = bb ∨ y = xb) H H2 := st1.trans s2 fun y hy => by rw [fpS_mk] at hy; exact .inl (.inr hy)
        have h12 : ∀ w, s1 w = true → upf s1 (ehi e i) true w = true := fun w h => by
          by_cases ew : w = ehi e i
          · rw [ew, upf_same]
          · rw [upf_ne ew]; exact h
        simp only [nn_mk, get_at hM2.cell, get_at hM2.pr.cell, List.getElem?_cons_zero, List.getElem?_cons_succ, ldS_mk, ldP_mk, Nat.zero_add]
        refine hM2.pr.rb.rdr.ixI (by omega) (by omega) ?_
        rw [Int.toNat_natCast]
        -- the edge is taken
        have took : ∀ {H3 : Hp} {b3 : Nat → Int} {s3 : Nat → Bool}, SiM H0 H3 sb xb pb M L ep n ec e bo bb sl b3 s3 → Step (fun y => y = bb ∨ y = xb) H H3 → Won M L n (elo e) (ehi e) seen v by' (upf (upf b3 v (i : Int)) (ehi e i) (i : Int)) → bimatch_simple_try.j1 (some ⟨sb, 0, none⟩) (i : Int) X E H3 K := by
          intro H3 b3 s3 hM3 st3 hw
          refine bimatch_simple_try.j1_eq ?_
          unfold bimatch_simple_try.j1_t
          simp only [nn_mk, get_at hM3.cell, List.getElem?_cons_zero, List.getElem?_cons_succ, ldS_mk, ldP_mk, Nat.zero_add]
          refine btake hM3.pr hr hin (by omega) fun H4 p4 s4 => ?_
          rw [hiv] at p4
          exact won H4 _ s3 (hM3.setB s4 p4) hw (st3.trans s4 fun y hy => by rw [fpS_mk] at hy; exact .inl (.inl hy))
        refine bc (fun hf => took hM2 st2 (Won.end hB hMB hin hiv hf hsn hse)) fun hf => ?_
        rcases hMB.all hwM with hbk | ⟨kk, hkn, hbk, _⟩
        · omega
        · have hki : ehi e kk = ehi e i := MX.right hB hMB hwL hwM hkn hbk
          rw [hbk]
          try simp only [nn_mk, get_at hM2.cell, List.getElem?_cons_zero, List.getElem?_cons_succ, ldS_mk, ldP_mk, Nat.zero_add]
          rw [← hki]
          refine bother_hi hM2.pr hr hkn ?_
          have huL := hB.lt kk hkn
          have hbu : by' (elo e kk) = (kk : Int) := (hMB.both hwM hkn hbk).1
          have hcl := cnt_less (p := fun w => !s1 w) (q := fun w => !upf s1 (ehi e i) true w) (n := M) hwM (by simp [hs1]) (by simp [upf_same]) fun w _ hne => by simp [upf_ne hne]
          have hcm := cnt_mono (p := fun w => !s1 w) (q := fun w => !seen w) (n := M) fun w _ h => by
            cases hh : seen w with
            | false => rfl
            | true => simp [hsub w hh] at h
          refine ih (cnt (fun w => !upf s1 (ehi e i) true w) M) (by omega) (Nat.le_refl _) hM2 huL hMB (fun _ => by rw [hbu, Int.toNat_natCast, hki, upf_same]) (fun H3 b3 s3 hM3 hw3 st3 => ?_) fun H3 s3 hM3 hl3 st3 => ?_
          · refine bcb (fun _ => ?_) fun h => by cases h
            exact took hM3 (st2.trans st3 fun y hy => .inl hy) (Won.step hB hMB hin hiv hkn hbk rfl hsn hse (fun w h => h12 w (hsub w h)) upf_same hw3)
          · refine bcb (fun h => by cases h) fun _ => ?_
            refine next hM3 (st2.trans st3 fun y hy => .inl hy) (fun w h => hl3.sub w (h12 w h)) (hl3.sub _ upf_same) fun w hw => ?_
            rcases hl3.new w hw with h | h
            · by_cases ew : w = ehi e i
              · refine .inr ⟨ew ▸ hwL, ew ▸ hwM, by rw [ew, hbk]; omega, fun j hj hjl => ?_⟩
                rw [ew, hbk, Int.toNat_natCast] at hjl
                exact hl3.nb j hj hjl
              · rw [upf_ne ew] at h; exact .inl h
            · exact .inr h
  · have hnil : l2 = [] := List.length_eq_zero_iff.1 (by omega)
    refine lost H1 s1 hM1 ⟨hsub, fun j hj hjv => hnb j ?_, hnew⟩ st1
    have : j ∈ outs (elo e) n v := mem_outs.2 ⟨hj, hjv⟩
    rw [hsp, hnil] at this
    simpa using this
end
end Go.Mz

/-
  Matchings between two sides in plain words: a cover with as many nodes as edges are taken.
-/
namespace Go.Mz
variable {M L n : Nat} {lo hi : Nat → Nat} {by' : Nat → Int}

/-- from the nodes of the left side that aren't matched, by edges to the right and by matches back -/
structure Rch (M L n : Nat) (lo hi : Nat → Nat) (by' : Nat → Int) (rc : Nat → Bool) : Prop where
  c1 : ∀ v, v < L → by' v < 0 → rc v = true
  c2 : ∀ j, j < n → rc (lo j) = true → rc (hi j) = true
  c3 : ∀ w, L ≤ w → w < M → rc w = true → 0 ≤ by' w ∧ rc (lo (by' w).toNat) = true

/-- the nodes that cover: on the left side those that aren't reached, on the right side those that are -/
def cvp (L : Nat) (rc : Nat → Bool) (v : Nat) : Bool := rc v != decide (v < L)

theorem Rch.cover (hB : Bip M L n lo hi) {rc : Nat → Bool} (h : Rch M L n lo hi by' rc) {j : Nat} (hj : j < n) : cvp L rc (lo j) = true ∨ cvp L rc (hi j) = true := by
  have h1 := hB.lt j hj
  have h2 := hB.ge j hj
  unfold cvp
  cases hr : rc (lo j) with
  | false => left; simp [h1]
  | true => right; rw [h.c2 j hj hr]; simp; omega

/-- as many as are matched -/
theorem Rch.count (hB : Bip M L n lo hi) (hM : MB M n lo hi by') {rc : Nat → Bool} (h : Rch M L n lo hi by' rc) : (pk (cvp L rc) M).length = (pk (fun v => decide (0 ≤ by' v)) L).length := by
  have hLM := hB.lm
  let φ : Nat → Nat := fun v => if rc v then hi (by' v).toNat else v
  have hin : ∀ v, v ∈ pk (fun v => decide (0 ≤ by' v)) L → v < L ∧ ∃ i : Nat, i < n ∧ by' v = i ∧ lo i = v := fun v hv => by
    have := pk_mem.1 hv
    refine ⟨this.1, ?_⟩
    rcases hM.all (v := v) (by omega) with e | ⟨i, hi', e, _⟩
    · have := this.2; simp [e] at this
    · exact ⟨i, hi', e, MX.left hB hM (pk_mem.1 hv).1 hi' e⟩
  have hnd : ((pk (fun v => decide (0 ≤ by' v)) L).map φ).Nodup := by
    refine map_nodup pk_nodup fun x hx y hy e => ?_
    obtain ⟨hxL, i, hin', ei, eix⟩ := hin x hx
    obtain ⟨hyL, k, hkn, ek, eky⟩ := hin y hy
    have hi1 := hB.ge i hin'
    have hk1 := hB.ge k hkn
    simp only [φ, ei, ek, Int.toNat_natCast] at e
    cases hrx : rc x with
    | false =>
      cases hry : rc y with
      | false => simpa [hrx, hry] using e
      | true => simp [hrx, hry] at e; omega
    | true =>
      cases hry : rc y with
      | false => simp [hrx, hry] at e; omega
      | true =>
        simp [hrx, hry] at e
        have h1 := (hM.both (v := x) (by omega) hin' ei).2
        have h2 := (hM.both (v := y) (by omega) hkn ek).2
        rw [e, h2] at h1
        have : k = i := by omega
        rw [← eix, ← eky, this]
  have hmem : ∀ v, v ∈ (pk (fun v => decide (0 ≤ by' v)) L).map φ ↔ cvp L rc v = true ∧ v < M := by
    intro v
    rw [List.mem_map]
    constructor
    · rintro ⟨u, hu, rfl⟩
      obtain ⟨huL, i, hin', ei, eiu⟩ := hin u hu
      have hi1 := hB.ge i hin'
      have hi2 := hB.hm i hin'
      simp only [φ, ei, Int.toNat_natCast]
      cases hr : rc u with
      | false => simp [cvp, hr, huL]; omega
      | true =>
        have := h.c2 i hin' (by rw [eiu]; exact hr)
        simp [cvp, this]; omega
    · rintro ⟨hc, hv⟩
      by_cases hvL : v < L
      · have hr : rc v = false := by
          unfold cvp at hc
          cases hr : rc v with
          | false => rfl
          | true => simp [hr, hvL] at hc
        have hb : 0 ≤ by' v := by
          refine Int.not_lt.1 fun hlt => ?_
          rw [h.c1 v hvL hlt] at hr; cases hr
        exact ⟨v, pk_mem.2 ⟨hvL, by simpa using hb⟩, by simp [φ, hr]⟩
      · have hr : rc v = true := by
          unfold cvp at hc
          cases hr : rc v with
          | true => rfl
          | false => simp [hr, hvL] at hc
        obtain ⟨hb, hr2⟩ := h.c3 v (by omega) hv hr
        rcases hM.all hv with e | ⟨i, hin', e, _⟩
        · omega
        · rw [e, Int.toNat_natCast] at hr2
          have hi3 := MX.right hB hM (by omega) hv hin' e
          have hb2 := (hM.both hv hin' e).1
          refine ⟨lo i, pk_mem.2 ⟨hB.lt i hin', by rw [hb2]; simp⟩, ?_⟩
          simp [φ, hr2, hb2, hi3]
  have h1 := cnt_mem hnd hmem
  rw [pk_len, h1, List.length_map]

/-- what Solve answers is a matching and a cover, with as many -/
theorem kon {e : Nat → Edg} (hr : Right (M : Int) n e) (hB : Bip M L n (elo e) (ehi e)) (hM : MB M n (elo e) (ehi e) by') {rc : Nat → Bool} (h : Rch M L n (elo e) (ehi e) by' rc) {g : Nat → Int} {k : Nat} (hk : k = (pk (fun v => decide (0 ≤ by' v)) L).length)
    (hs : ∀ i j, i < j → j < k → g i ≤ g j) (hp : ((List.range k).map g).Perm ((pk (fun v => decide (0 ≤ by' v)) L).map by')) : CovP (M : Int) n e g k (lsF (pk (cvp L rc) M)) (pk (cvp L rc) M).length := by
  have hLM := hB.lm
  have hN := hr.N1
  have hel : ∀ v, v ∈ pk (fun v => decide (0 ≤ by' v)) L → ∃ i : Nat, i < n ∧ by' v = i ∧ elo e i = v := fun v hv => by
    have := pk_mem.1 hv
    rcases hM.all (v := v) (by omega) with e' | ⟨i, hi', e', _⟩
    · have := this.2; simp [e'] at this
    · exact ⟨i, hi', e', MX.left hB hM (pk_mem.1 hv).1 hi' e'⟩
  have hgi : ∀ i, i < k → ∃ x : Nat, x < n ∧ g i = x ∧ by' (elo e x) = x ∧ by' (ehi e x) = x := fun i hi => by
    have : g i ∈ (pk (fun v => decide (0 ≤ by' v)) L).map by' := hp.mem_iff.1 (List.mem_map.2 ⟨i, List.mem_range.2 hi, rfl⟩)
    obtain ⟨v, hv, ev⟩ := List.mem_map.1 this
    obtain ⟨x, hx, ex, exv⟩ := hel v hv
    have := hM.both (v := v) (by have := (pk_mem.1 hv).1; omega) hx ex
    exact ⟨x, hx, by omega, this⟩
  have hnd : ((List.range k).map g).Nodup := by
    rw [hp.nodup_iff]
    refine map_nodup pk_nodup fun x hx y hy e' => ?_
    obtain ⟨i, hi', ei, eix⟩ := hel x hx
    obtain ⟨j, hj', ej, ejy⟩ := hel y hy
    have : i = j := by omega
    rw [← eix, ← ejy, this]
  have hlt : ∀ i j, i < j → j < k → g i < g j := fun i j hij hj => by
    have h1 := hs i j hij hj
    have h2 : g i ≠ g j := fun e' => by
      have := (List.pairwise_iff_getElem.1 (List.nodup_iff_pairwise_ne.1 hnd)) i j (by simp; omega) (by simp; omega) hij
      simp at this
      exact this e'
    omega
  have hne : ∀ i, i < n → elo e i ≠ ehi e i := fun i hi => by have := hB.lt i hi; have := hB.ge i hi; omega
  have hends : ∀ {x : Nat} {v : Int}, x < n → ((e x).fr = v ∨ (e x).to = v) → v = (elo e x : Int) ∨ v = (ehi e x : Int) := fun {x v} hx h => by
    obtain ⟨_, _, _, hor⟩ := both_ends hr hx
    omega
  refine ⟨⟨fun i hi => ?_, fun i hi => ?_, fun v hv0 hv1 _ => ?_⟩, pk_ris, fun i hi => ?_, ?_⟩
  · obtain ⟨x, hx, ex, _⟩ := hgi i hi
    refine ⟨by omega, by omega, fun h0 => hlt (i - 1) i (by omega) hi⟩
  · obtain ⟨x, hx, ex, _⟩ := hgi i hi
    rw [ex, Int.toNat_natCast]
    obtain ⟨_, _, _, hor⟩ := both_ends hr hx
    have := hne x hx
    unfold lp
    omega
  · have := dg_one (e := e) (m := g) (v := v) (x := by' v.toNat) (k := k) (fun i hi => by
      obtain ⟨x, hx, ex, _⟩ := hgi i hi
      rw [ex, Int.toNat_natCast]
      obtain ⟨_, _, _, hor⟩ := both_ends hr hx
      have := hne x hx
      unfold lp
      omega) hlt (fun i hi ht => by
      obtain ⟨x, hx, ex, e1, e2⟩ := hgi i hi
      rw [ex, Int.toNat_natCast] at ht
      rcases hends hx ht with hv | hv
      · rw [hv, Int.toNat_natCast, e1]; exact ex
      · rw [hv, Int.toNat_natCast, e2]; exact ex)
    omega
  · right
    obtain ⟨_, h2, h3, hor⟩ := both_ends hr hi
    have hin : ∀ v : Nat, cvp L rc v = true → v < M → In (lsF (pk (cvp L rc) M)) (pk (cvp L rc) M).length (v : Int) := fun v hc hv => by
      obtain ⟨i, hi, e'⟩ := List.mem_iff_getElem.1 (pk_mem.2 ⟨hv, hc⟩)
      exact ⟨i, hi, by rw [lsF_get hi, e']⟩
    rcases h.cover hB hi with hc | hc
    · have := hin _ hc h2
      rcases hor with ⟨a, b⟩ | ⟨a, b⟩
      · left; rw [a]; exact this
      · right; rw [b]; exact this
    · have := hin _ hc h3
      rcases hor with ⟨a, b⟩ | ⟨a, b⟩
      · right; rw [b]; exact this
      · left; rw [a]; exact this
  · rw [hk, h.count hB hM]
end Go.Mz

/-
  Walks of layer 15: simple matching, the cover.
-/
namespace Go.Mz

section
variable {E : Value → Hp → Prop}
variable {H0 H : Hp} {pb M L n ec bo bb : Nat} {ep : Option Addr} {e : Nat → Edg} {sl : Nat → Sl} {by' : Nat → Int}

/-- the simple way: each node of the left side is matched, or stands before a closed set -/
theorem smatch {sb : Nat} {xs : Value} {K : Hp → Prop} (hr : Right (M : Int) n e) (hB : Bip M L n (elo e) (ehi e)) (hP : PrM H0 H pb M L ep n ec e bo bb sl (outs (elo e) n) fun _ => -1) (hs : H sb = some ⟨[.pointer (some ⟨pb, 0, none⟩), xs], 85⟩) (fs : H0 sb = none) (as' : PrAway pb bo bb L sl sb)
    (k : ∀ H' b1, PrM H0 H' pb M L ep n ec e bo bb sl (outs (elo e) n) b1 → MB M n (elo e) (ehi e) b1 → (∀ v, v < L → 0 ≤ b1 v ∨ Shut M L n (elo e) (ehi e) b1 v) → K H') : bimatch_simple_match.call (some ⟨sb, 0, none⟩) E H K := by
  have hN0 := hr.N0; have hN1 := hr.N1
  have hLM := hB.lm
  refine bimatch_simple_match.of (bimatch_simple_match.run_eq ?_)
  unfold bimatch_simple_match.run_t
  simp only [nn_mk, get_at hs, get_at hP.cell, List.getElem?_cons_zero, List.getElem?_cons_succ, ldI_mk, ldP_mk, Nat.zero_add]
  refine bimatch_simple_match.l1_rule (fun s0 t9 t10 H' => s0 = some ⟨sb, 0, none⟩ ∧ t9 = (L : Int) ∧ ∃ (v : Nat) (b1 : Nat → Int) (xs' : Value), t10 = v ∧ v ≤ L ∧ PrM H0 H' pb M L ep n ec e bo bb sl (outs (elo e) n) b1 ∧ H' sb = some ⟨[.pointer (some ⟨pb, 0, none⟩), xs'], 85⟩ ∧
      MB M n (elo e) (ehi e) b1 ∧ (∀ u, u < v → 0 ≤ b1 u ∨ Shut M L n (elo e) (ehi e) b1 u) ∧ ∀ u, v ≤ u → u < L → b1 u = -1)
    (fun s0 t9 t10 H' => L - t10.toNat) ?_ ⟨rfl, rfl, 0, _, xs, rfl, Nat.zero_le _, hP, hs, MB.none, fun u hu => by omega, fun u _ _ => rfl⟩
  rintro s0 t9 t10 H1 ⟨rfl, rfl, v, b1, xs1, rfl, hv, hP1, hs1, hM1, hdone, hrest⟩ X hX
  refine bimatch_simple_match.b1_eq ?_
  unfold bimatch_simple_match.b1_t
  refine bc (fun hlt => ?_) fun hge => k H1 b1 hP1 hM1 fun u hu => hdone u (by omega)
  have hvL : v < L := by omega
  simp only [nn_mk, get_at hs1, get_at hP1.cell, List.getElem?_cons_zero, List.getElem?_cons_succ, ldI_mk, ldP_mk, Nat.zero_add]
  refine Row.mkB (by omega) (by omega) fun xb H2 hxb rx s2 => ?_
  rw [Int.toNat_natCast] at rx ⊢
  have hs2 := s2.keep _ _ hs1 fun h => h
  have hP2 := hP1.keep0 s2
  have fxb : H0 xb = none := hP1.st.mono _ hxb
  have hdx : sb ≠ xb := fun h => by rw [h] at hs1; rw [hs1] at hxb; cases hxb
  refine stp hs2 (by simp) rfl fun H3 hs3 s3 => ?_
  replace hs3 : H3 sb = some ⟨[.pointer (some ⟨pb, 0, none⟩), .slice (some ⟨xb, 0, none⟩) M M], 85⟩ := hs3
  have hP3 := hP2.keep s3 fun y hy => hy ▸ ⟨fs, as'⟩
  have rx3 := rx.keep s3 fun y hy h => by rw [fpS_mk] at hy; exact hdx (h.symm.trans hy)
  have hS : SiM H0 H3 sb xb pb M L ep n ec e bo bb sl b1 fun _ => false := ⟨hP3, hs3, rx3, fs, fxb, as', hP1.fresh hxb, hdx⟩
  have hbv : b1 v = -1 := hrest v (Nat.le_refl _) hvL
  refine stry hr hB M (cnt_le _ _) hS hvL hM1 (fun h => by omega) (fun H4 b2 s2' hS4 hw st4 => ?_) fun H4 s2' hS4 hl st4 => ?_
  · rw [i64w (by omega) (by omega)]
    have hmx := hw.mx
    have : exm M (ehi e) (b1 v) = M := by unfold exm; rw [hbv, if_pos (by decide)]
    rw [this] at hmx
    refine hX _ _ _ _ ⟨rfl, rfl, v + 1, b2, _, by omega, by omega, hS4.pr, hS4.cell, hmx, fun u hu => ?_, fun u hu huL => ?_⟩ (by omega)
    · by_cases eu : u = v
      · obtain ⟨i, _, ei, _⟩ := hw.new
        left; rw [eu, ei]; omega
      · rcases hdone u (by omega) with h | ⟨W, hW, hn⟩
        · exact .inl (hw.lft u (by omega) h)
        · exact .inr ⟨W, hw.cl hW, hn⟩
    · exact hw.free u huL (by omega) (hrest u (by omega) huL)
  · rw [i64w (by omega) (by omega)]
    refine hX _ _ _ _ ⟨rfl, rfl, v + 1, b1, _, by omega, by omega, hS4.pr, hS4.cell, hM1, fun u hu => ?_, fun u hu huL => hrest u (by omega) huL⟩ (by omega)
    by_cases eu : u = v
    · right; rw [eu]
      exact ⟨_, hl.closed, hl.nb⟩
    · exact hdone u (by omega)

/-- what holds while the reached nodes are found; q: those of the left side whose edges are still to be gone over -/
structure RcJ (M L n : Nat) (lo hi : Nat → Nat) (by' : Nat → Int) (rc : Nat → Bool) (q : List Nat) : Prop where
  ql : ∀ v ∈ q, v < L ∧ rc v = true
  c2 : ∀ j, j < n → rc (lo j) = true → lo j ∈ q ∨ rc (hi j) = true
  c3 : ∀ w, L ≤ w → w < M → rc w = true → 0 ≤ by' w ∧ rc (lo (by' w).toNat) = true
  sh : ∀ v, v < L → rc v = true → Shut M L n lo hi by' v

/-- a node of the right side that an edge leads to, and its mate -/
theorem RcJ.next {lo hi : Nat → Nat} {rc : Nat → Bool} (hB : Bip M L n lo hi) (hM : MB M n lo hi by') {v : Nat} (hv : v < L) (hsh : Shut M L n lo hi by' v) {i : Nat} (hi' : i < n) (hlo : lo i = v) : ∃ k : Nat, k < n ∧ by' (hi i) = k ∧ hi k = hi i ∧ by' (lo k) = k ∧ Shut M L n lo hi by' (lo k) := by
  obtain ⟨W, hW, hn⟩ := hsh
  obtain ⟨h1, h2, h3, h4⟩ := hW _ (hn i hi' hlo)
  rcases hM.all h2 with e | ⟨k, hk, e, _⟩
  · omega
  · rw [e, Int.toNat_natCast] at h4
    exact ⟨k, hk, e, MX.right hB hM h1 h2 hk e, (hM.both h2 hk e).1, W, hW, h4⟩

/-- so much is left: a node that isn't reached counts twice, one that waits once -/
def rcm (M : Nat) (rc : Nat → Bool) (q : List Nat) : Nat := 2 * cnt (fun v => !rc v) M + q.length

theorem lsF_cut {l : List Nat} {x : Nat} : lsF (l ++ [x]) l.length = (x : Int) := by unfold lsF; simp

/-- what holds while the reached nodes are found; k: so much is left -/
def CvJ (H : Hp) (pb rb M L n : Nat) (lo hi : Nat → Nat) (by' : Nat → Int) (p0 rp : Option Addr) (rn rc' : Nat) (qp : Option Addr) (qn qc : Nat) (H' : Hp) (k : Nat) : Prop :=
  p0 = some ⟨pb, 0, none⟩ ∧ rp = some ⟨rb, 0, none⟩ ∧ rn = M ∧ rc' = M ∧ ∃ (q : List Nat) (rc : Nat → Bool), qn = q.length ∧ Step (fun _ => False) H H' ∧ Row H' (some ⟨rb, 0, none⟩) M M rc ∧ Row H' qp q.length qc (lsF q) ∧ (∀ y, fpS qp y → H y = none) ∧ ¬ fpS qp rb ∧
    RcJ M L n lo hi by' rc q ∧ (∀ u, u < L → by' u < 0 → rc u = true) ∧ rcm M rc q = k

theorem rcm_len {M : Nat} {rc : Nat → Bool} {q : List Nat} : q.length ≤ rcm M rc q := by unfold rcm; omega

theorem rcover {K : Option Addr → Nat → Nat → Hp → Prop} (hr : Right (M : Int) n e) (hB : Bip M L n (elo e) (ehi e)) (hP : PrM H0 H pb M L ep n ec e bo bb sl (outs (elo e) n) by') (hM : MB M n (elo e) (ehi e) by') (hsh : ∀ v, v < L → 0 ≤ by' v ∨ Shut M L n (elo e) (ehi e) by' v)
    (k : ∀ H' rc p c, Step (fun _ => False) H H' → Rch M L n (elo e) (ehi e) by' rc → Row H' p (pk (cvp L rc) M).length c (lsF (pk (cvp L rc) M)) → (∀ y, fpS p y → H y = none) → K p (pk (cvp L rc) M).length c H') : bimatch_pairs_cover.call (some ⟨pb, 0, none⟩) E H K := by
  have hN0 := hr.N0; have hN1 := hr.N1; have hn1 := hr.n1
  have hLM := hB.lm
  refine bimatch_pairs_cover.of (bimatch_pairs_cover.run_eq ?_)
  unfold bimatch_pairs_cover.run_t
  simp only [nn_mk, get_at hP.cell, List.getElem?_cons_zero, List.getElem?_cons_succ, ldI_mk, ldP_mk, Nat.zero_add]
  refine Row.mkB (by omega) (by omega) fun rb H1 hrb r1 s1 => ?_
  rw [Int.toNat_natCast] at r1 ⊢
  have hP1 := hP.keep0 s1
  simp only [nn_mk, get_at hP1.cell, List.getElem?_cons_zero, List.getElem?_cons_succ, ldI_mk, ldP_mk, Nat.zero_add]
  have arb := hP.fresh hrb
  -- the nodes that aren't matched
  refine bimatch_pairs_cover.l1_rule (fun p0 rp rn rc' qp qn qc t23 t24 H' => p0 = some ⟨pb, 0, none⟩ ∧ rp = some ⟨rb, 0, none⟩ ∧ rn = M ∧ rc' = M ∧ t23 = (L : Int) ∧ ∃ (v : Nat) (q : List Nat) (rc : Nat → Bool), t24 = v ∧ v ≤ L ∧ qn = q.length ∧ Step (fun _ => False) H H' ∧ Row H' (some ⟨rb, 0, none⟩) M M rc ∧ Row H' qp q.length qc (lsF q) ∧
      (∀ y, fpS qp y → H y = none) ∧ ¬ fpS qp rb ∧ (∀ u, u ∈ q ↔ u < v ∧ by' u < 0) ∧ (∀ u, rc u = true ↔ u < v ∧ by' u < 0) ∧ q.length ≤ v)
    (fun p0 rp rn rc' qp qn qc t23 t24 H' => L - t24.toNat) ?_ ⟨rfl, rfl, rfl, rfl, rfl, 0, [], fun _ => false, rfl, Nat.zero_le _, rfl, s1, r1, Row.nil, fun y h => by rw [fpS_none] at h; exact h.elim, fun h => by rw [fpS_none] at h; exact h, fun u => ⟨fun h => (by cases h), fun h => by omega⟩, fun u => ⟨fun h => (by cases h), fun h => by omega⟩, Nat.le_refl _⟩
  rintro p0 rp rn rc' qp qn qc t23 t24 H2 ⟨rfl, rfl, rfl, rfl, rfl, v, q, rc, rfl, hv, rfl, s2, r2, rq2, fq2, dq2, hq2, hrc2, hql2⟩ X hX
  have hP2 := hP.keep0 s2
  refine bimatch_pairs_cover.b1_eq ?_
  unfold bimatch_pairs_cover.b1_t
  refine bc (fun hlt => ?_) fun hge => ?_
  · have hvL : v < L := by omega
    simp only [nn_mk, get_at hP2.cell, List.getElem?_cons_zero, List.getElem?_cons_succ, ldI_mk, ldS_mk, Nat.zero_add]
    refine hP2.rb.rdr.ixI (by omega) (by omega) ?_
    rw [Int.toNat_natCast]
    have next : ∀ {H3 : Hp} {qp3 : Option Addr} {qc3 : Nat} {q3 : List Nat} {rc3 : Nat → Bool}, Step (fun _ => False) H H3 → Row H3 (some ⟨rb, 0, none⟩) rc' rc' rc3 → Row H3 qp3 q3.length qc3 (lsF q3) → (∀ y, fpS qp3 y → H y = none) → ¬ fpS qp3 rb → (∀ u, u ∈ q3 ↔ u < v + 1 ∧ by' u < 0) → (∀ u, rc3 u = true ↔ u < v + 1 ∧ by' u < 0) → q3.length ≤ v + 1 →
        bimatch_pairs_cover.j1 (some ⟨pb, 0, none⟩) (some ⟨rb, 0, none⟩) rc' rc' qp3 q3.length qc3 (L : Int) (v : Int) X E H3 K := by
      intro H3 qp3 qc3 q3 rc3 s3 r3 rq3 fq3 dq3 hq3 hrc3 hql3
      refine bimatch_pairs_cover.j1_eq ?_
      unfold bimatch_pairs_cover.j1_t
      rw [i64w (by omega) (by omega)]
      exact hX _ _ _ _ _ _ _ _ _ _ ⟨rfl, rfl, rfl, rfl, rfl, v + 1, q3, rc3, by omega, by omega, rfl, s3, r3, rq3, fq3, dq3, hq3, hrc3, hql3⟩ (by omega)
    refine bc (fun hneg => ?_) fun hnn => ?_
    · refine r2.stB (by omega) (by omega) _ fun H3 r3 s3 => ?_
      rw [Int.toNat_natCast] at r3
      have rq3 := rq2.keep s3 fun y hy h => by rw [fpS_mk] at h; exact dq2 (h ▸ hy)
      refine rq3.appI _ (by omega) fun qp4 qc4 H4 rq4 s4 f4 => ?_
      have r4 := r3.keep s4 fun y hy h => by rw [fpS_mk] at hy; exact dq2 (hy ▸ h)
      rw [lsF_app] at rq4
      have hl1 : q.length + 1 = (q ++ [v]).length := by simp
      rw [hl1] at rq4 ⊢
      refine next ((s2.own s3 fun y hy => by rw [fpS_mk] at hy; exact hy ▸ hrb).own s4 fq2) r4 rq4 (fun y hy => (f4 y hy).elim (fq2 y) fun h => s2.mono y (s3.mono y h)) (fun h => (f4 _ h).elim dq2 (r3.live ⟨0, rfl⟩)) (fun u => ?_) (fun u => ?_) (by simp; omega)
      · rw [List.mem_append, List.mem_singleton, hq2 u]
        constructor
        · rintro (h | rfl)
          · exact ⟨by omega, h.2⟩
          · exact ⟨by omega, hneg⟩
        · rintro ⟨h1, h2⟩
          by_cases eu : u = v
          · exact .inr eu
          · exact .inl ⟨by omega, h2⟩
      · by_cases eu : u = v
        · subst eu; rw [upf_same]; exact ⟨fun _ => ⟨by omega, hneg⟩, fun _ => rfl⟩
        · rw [upf_ne eu, hrc2 u]
          constructor <;> rintro ⟨h1, h2⟩ <;> exact ⟨by omega, h2⟩
    · refine next s2 r2 rq2 fq2 dq2 (fun u => ?_) (fun u => ?_) (by omega)
      · rw [hq2 u]
        constructor
        · rintro ⟨h1, h2⟩; exact ⟨by omega, h2⟩
        · rintro ⟨h1, h2⟩
          have : u ≠ v := fun e' => hnn (e' ▸ h2)
          exact ⟨by omega, h2⟩
      · rw [hrc2 u]
        constructor
        · rintro ⟨h1, h2⟩; exact ⟨by omega, h2⟩
        · rintro ⟨h1, h2⟩
          have : u ≠ v := fun e' => hnn (e' ▸ h2)
          exact ⟨by omega, h2⟩
  · clear hX
    have hvL : v = L := by omega
    subst hvL
    refine bimatch_pairs_cover.j2_eq ?_
    unfold bimatch_pairs_cover.j2_t
    have J0 : RcJ rc' v n (elo e) (ehi e) by' rc q := ⟨fun u hu => ⟨((hq2 u).1 hu).1, (hrc2 u).2 ((hq2 u).1 hu)⟩, fun j hj hrj => .inl ((hq2 _).2 ((hrc2 _).1 hrj)), fun w hw _ hrw => by have := ((hrc2 w).1 hrw).1; omega, fun u hu hru => (hsh u hu).resolve_left (by have := ((hrc2 u).1 hru).2; omega)⟩
    have C1 : ∀ u, u < v → by' u < 0 → rc u = true := fun u hu hb => (hrc2 u).2 ⟨hu, hb⟩
    -- the stack
    refine bimatch_pairs_cover.l2_rule (fun p0 rp rn rc'' qp qn qc H' => ∃ k, k ≤ 3072 ∧ CvJ H pb rb rc' v n (elo e) (ehi e) by' p0 rp rn rc'' qp qn qc H' k) (fun p0 rp rn rc'' qp qn qc H' => gm (CvJ H pb rb rc' v n (elo e) (ehi e) by' p0 rp rn rc'' qp qn qc H')) ?_
      ⟨_, by have := cnt_le (fun v => !rc v) rc'; unfold rcm; omega, rfl, rfl, rfl, rfl, q, rc, rfl, s2, r2, rq2, fq2, dq2, J0, C1, rfl⟩
    rintro p0 rp rn rc'' qp' qn qc' H3 ⟨k0, hk0, hJ0⟩ X hX
    have hlm := (gm_of hJ0).1
    have hlk := (gm_of hJ0).2
    generalize hkk : gm (CvJ H pb rb rc' v n (elo e) (ehi e) by' p0 rp rn rc'' qp' qn qc' H3) = kq at hlm hX hlk
    obtain ⟨rfl, rfl, rfl, rfl, q3, rc3, rfl, s3, r3, rq3, fq3, dq3, J3, C3, hm3⟩ := hlm
    have hql3 : q3.length ≤ 3072 := by have := rcm_len (M := rc'') (rc := rc3) (q := q3); omega
    have hP3 := hP.keep0 s3
    refine bimatch_pairs_cover.b2_eq ?_
    unfold bimatch_pairs_cover.b2_t
    refine bc (fun hpos => ?_) fun hnon => ?_
    · obtain ⟨q', u, rfl⟩ : ∃ q' u, q3 = q' ++ [u] := by
        rcases List.eq_nil_or_concat q3 with h | ⟨q', u, h⟩
        · rw [h] at hpos; exact absurd hpos (by decide)
        · exact ⟨q', u, by rw [h, List.concat_eq_append]⟩
      have hql : (q' ++ [u]).length = q'.length + 1 := by simp
      have huq := J3.ql u (by simp)
      have hcap := rq3.le
      rw [i64w (by omega) (by omega)]
      refine rq3.rdr.ixI (by omega) (by omega) ?_
      have eu : lsF (q' ++ [u]) ((((q' ++ [u]).length : Nat) : Int) - 1).toNat = (u : Int) := by
        have : ((((q' ++ [u]).length : Nat) : Int) - 1).toNat = q'.length := by rw [hql]; omega
        rw [this]; exact lsF_cut
      rw [eu]
      refine ⟨⟨by omega, by omega⟩, ?_⟩
      simp only [nn_mk, get_at hP3.cell, List.getElem?_cons_zero, List.getElem?_cons_succ, ldI_mk, ldS_mk, Nat.zero_add]
      refine hP3.out.row.rdr.ixS (by omega) (by omega) ?_
      rw [Int.toNat_natCast, hP3.out.len u huq.1, rq3.slp0]
      have en : ((((q' ++ [u]).length : Nat) : Int) - 1).toNat = q'.length := by rw [hql]; omega
      rw [en]
      have hol : (outs (elo e) n u).length ≤ n := outs_len
      have rq3' : Row H3 qp' q'.length qc' (lsF q') := (rq3.cut (m := q'.length) (by omega)).congr fun i hi => by unfold lsF; rw [List.getElem?_append_left hi]
      have hm' : rcm rc'' rc3 q' + 1 = kq := by rw [← hm3]; unfold rcm; rw [hql]; omega
      -- the node's edges
      refine bimatch_pairs_cover.l3_rule (fun p0 rp rn rd qp qn qc v6 tp tn tc t64 t65 H' => p0 = some ⟨pb, 0, none⟩ ∧ rp = some ⟨rb, 0, none⟩ ∧ rn = rc'' ∧ rd = rc'' ∧ v6 = (u : Int) ∧ tp = (sl u).p ∧ tn = (outs (elo e) n u).length ∧ tc = (sl u).c ∧ t64 = ((outs (elo e) n u).length : Int) ∧
          ∃ (l1 l2 q4 : List Nat) (rc4 : Nat → Bool), t65 = l1.length ∧ outs (elo e) n u = l1 ++ l2 ∧ qn = q4.length ∧ Step (fun _ => False) H H' ∧ Row H' (some ⟨rb, 0, none⟩) rc'' rc'' rc4 ∧ Row H' qp q4.length qc (lsF q4) ∧ (∀ y, fpS qp y → H y = none) ∧ ¬ fpS qp rb ∧
            (∀ x ∈ q4, x < v ∧ rc4 x = true) ∧ (∀ j, j < n → rc4 (elo e j) = true → elo e j ∈ q4 ∨ rc4 (ehi e j) = true ∨ (elo e j = u ∧ j ∉ l1)) ∧ (∀ w, v ≤ w → w < rc'' → rc4 w = true → 0 ≤ by' w ∧ rc4 (elo e (by' w).toNat) = true) ∧ (∀ x, x < v → rc4 x = true → Shut rc'' v n (elo e) (ehi e) by' x) ∧
            (∀ x, rc3 x = true → rc4 x = true) ∧ rcm rc'' rc4 q4 ≤ rcm rc'' rc3 q')
        (fun p0 rp rn rd qp qn qc v6 tp tn tc t64 t65 H' => (outs (elo e) n u).length - t65.toNat) ?_ ⟨rfl, rfl, rfl, rfl, rfl, rfl, rfl, rfl, rfl, [], outs (elo e) n u, q', rc3, rfl, rfl, rfl, s3, r3, rq3', fq3, dq3, fun x hx => J3.ql x (by simp [hx]), fun j hj hrj => ?_, J3.c3, J3.sh, fun x h => h, Nat.le_refl _⟩
      · rintro p0 rp rn rd qp qn qc v6 tp tn tc t64 t65 H4 ⟨rfl, rfl, rfl, rfl, rfl, rfl, rfl, rfl, rfl, l1, l2, q4, rc4, rfl, hsp, rfl, s4, r4, rq4, fq4, dq4, a1, a2, a3, a4, a5, a6⟩ X2 hX2
        have hP4 := hP.keep0 s4
        have hlen : (outs (elo e) n u).length = l1.length + l2.length := by rw [hsp]; simp
        have hql4 : q4.length ≤ 3072 := by have := rcm_len (M := rd) (rc := rc4) (q := q4); omega
        refine bimatch_pairs_cover.b3_eq ?_
        unfold bimatch_pairs_cover.b3_t
        refine bc (fun hlt => ?_) fun hge => ?_
        · cases l2 with
          | nil => simp at hlen; omega
          | cons i l2 =>
            simp only [List.length_cons] at hlen
            obtain ⟨hin, hiu⟩ := mem_outs.1 (show i ∈ outs (elo e) n u by rw [hsp]; simp)
            have hwL := hB.ge i hin
            have hwM := hB.hm i hin
            refine (hP4.out.each u huq.1).rdr.ixI (by omega) (by omega) ?_
            have ei : lsF (outs (elo e) n u) (l1.length : Int).toNat = (i : Int) := by rw [Int.toNat_natCast, hsp]; simp [lsF]
            rw [ei]
            -- on, with what is reached now
            have next : ∀ {H5 : Hp} {qp5 : Option Addr} {qc5 : Nat} {q5 : List Nat} {rc5 : Nat → Bool}, Step (fun _ => False) H H5 → Row H5 (some ⟨rb, 0, none⟩) rd rd rc5 → Row H5 qp5 q5.length qc5 (lsF q5) → (∀ y, fpS qp5 y → H y = none) → ¬ fpS qp5 rb →
                (∀ x ∈ q5, x < v ∧ rc5 x = true) → (∀ j, j < n → rc5 (elo e j) = true → elo e j ∈ q5 ∨ rc5 (ehi e j) = true ∨ (elo e j = u ∧ j ∉ l1)) → rc5 (ehi e i) = true → (∀ w, v ≤ w → w < rd → rc5 w = true → 0 ≤ by' w ∧ rc5 (elo e (by' w).toNat) = true) → (∀ x, x < v → rc5 x = true → Shut rd v n (elo e) (ehi e) by' x) →
                (∀ x, rc4 x = true → rc5 x = true) → rcm rd rc5 q5 ≤ rcm rd rc4 q4 → bimatch_pairs_cover.j3 (some ⟨pb, 0, none⟩) (some ⟨rb, 0, none⟩) rd rd qp5 q5.length qc5 (u : Int) (sl u).p (outs (elo e) n u).length (sl u).c ((outs (elo e) n u).length : Int) (l1.length : Int) X X2 E H5 K := by
              intro H5 qp5 qc5 q5 rc5 s5 r5 rq5 fq5 dq5 b1 b2 b3 b4 b5 b6 b7
              refine bimatch_pairs_cover.j3_eq ?_
              unfold bimatch_pairs_cover.j3_t
              rw [i64w (by omega) (by omega)]
              refine hX2 _ _ _ _ _ _ _ _ _ _ _ _ _ _ ⟨rfl, rfl, rfl, rfl, rfl, rfl, rfl, rfl, rfl, l1 ++ [i], l2, q5, rc5, by simp, by rw [hsp]; simp, rfl, s5, r5, rq5, fq5, dq5, b1, fun j hj hrj => ?_, b4, b5, fun x h => b6 x (a5 x h), by omega⟩ (by omega)
              rcases b2 j hj hrj with h | h | ⟨h1, h2⟩
              · exact .inl h
              · exact .inr (.inl h)
              · by_cases ej : j = i
                · exact .inr (.inl (ej ▸ b3))
                · exact .inr (.inr ⟨h1, by simp [h2, ej]⟩)
            rw [← hiu]
            refine bother_lo hP4 hr hin ?_
            rw [hiu]
            refine r4.rdr.ixB (by omega) (by omega) ?_
            rw [Int.toNat_natCast]
            cases hrw : rc4 (ehi e i) with
            | true => exact bcb (fun _ => next s4 r4 rq4 fq4 dq4 a1 a2 hrw a3 a4 (fun x h => h) (Nat.le_refl _)) fun h => by cases h
            | false =>
              refine bcb (fun h => by cases h) fun _ => ?_
              obtain ⟨k5, hk5, hbk, hke, hbl, hsu⟩ := RcJ.next (rc := rc4) hB hM huq.1 (a4 u huq.1 (a5 u huq.2)) hin hiu
              have hlL := hB.lt k5 hk5
              refine r4.stB (by omega) (by omega) _ fun H5 r5 s5 => ?_
              rw [Int.toNat_natCast] at r5
              have s05 : Step (fun _ => False) H H5 := s4.own s5 fun y hy => by rw [fpS_mk] at hy; exact hy ▸ hrb
              have rq5 := rq4.keep s5 fun y hy h => by rw [fpS_mk] at h; exact dq4 (h ▸ hy)
              have hP5 := hP.keep0 s05
              simp only [nn_mk, get_at hP5.cell, List.getElem?_cons_zero, List.getElem?_cons_succ, ldI_mk, ldS_mk, Nat.zero_add]
              refine hP5.rb.rdr.ixI (by omega) (by omega) ?_
              rw [Int.toNat_natCast, hbk, ← hke]
              refine bother_hi hP5 hr hk5 ?_
              have h45 : ∀ x, rc4 x = true → upf rc4 (ehi e i) true x = true := fun x h => by
                by_cases ex : x = ehi e i
                · rw [ex, upf_same]
                · rw [upf_ne ex]; exact h
              have hnl : elo e k5 ≠ ehi e i := by omega
              have hc5 := cnt_less (p := fun v => !rc4 v) (q := fun v => !upf rc4 (ehi e i) true v) (n := rd) hwM (by simp [hrw]) (by simp [upf_same]) fun w _ hne => by simp [upf_ne hne]
              refine r5.rdr.ixB (by omega) (by omega) ?_
              rw [Int.toNat_natCast, upf_ne hnl]
              cases hru : rc4 (elo e k5) with
              | true =>
                refine bcb (fun h => by cases h) fun _ => ?_
                refine next s05 r5 rq5 fq4 dq4 (fun x hx => ⟨(a1 x hx).1, h45 x (a1 x hx).2⟩) (fun j hj hrj => ?_) upf_same (fun w hw hwm hrw' => ?_) (fun x hx hrx => ?_) h45 (by unfold rcm; omega)
                · have : elo e j ≠ ehi e i := by have := hB.lt j hj; omega
                  rw [upf_ne this] at hrj
                  rcases a2 j hj hrj with h | h | h
                  · exact .inl h
                  · exact .inr (.inl (h45 _ h))
                  · exact .inr (.inr h)
                · by_cases ew : w = ehi e i
                  · rw [ew, hbk, Int.toNat_natCast]; exact ⟨by omega, h45 _ hru⟩
                  · rw [upf_ne ew] at hrw'
                    have := a3 w hw hwm hrw'
                    exact ⟨this.1, h45 _ this.2⟩
                · have : x ≠ ehi e i := by omega
                  rw [upf_ne this] at hrx
                  exact a4 x hx hrx
              | false =>
                refine bcb (fun _ => ?_) fun h => by cases h
                refine r5.stB (by omega) (by omega) _ fun H6 r6 s6 => ?_
                rw [Int.toNat_natCast] at r6
                have rq6 := rq5.keep s6 fun y hy h => by rw [fpS_mk] at h; exact dq4 (h ▸ hy)
                refine rq6.appI _ (by omega) fun qp7 qc7 H7 rq7 s7 f7 => ?_
                have r7 := r6.keep s7 fun y hy h => by rw [fpS_mk] at hy; exact dq4 (hy ▸ h)
                rw [lsF_app] at rq7
                have hl1 : q4.length + 1 = (q4 ++ [elo e k5]).length := by simp
                rw [hl1] at rq7 ⊢
                have h57 : ∀ x, rc4 x = true → upf (upf rc4 (ehi e i) true) (elo e k5) true x = true := fun x h => by
                  by_cases ex : x = elo e k5
                  · rw [ex, upf_same]
                  · rw [upf_ne ex]; exact h45 x h
                have hc6 := cnt_less (p := fun v => !upf rc4 (ehi e i) true v) (q := fun v => !upf (upf rc4 (ehi e i) true) (elo e k5) true v) (n := rd) (b := elo e k5) (by omega) (by simp [upf_ne hnl, hru]) (by simp [upf_same]) fun w _ hne => by simp [upf_ne hne]
                refine next ((s05.own s6 fun y hy => by rw [fpS_mk] at hy; exact hy ▸ hrb).own s7 fq4) r7 rq7 (fun y hy => (f7 y hy).elim (fq4 y) fun h => s05.mono y (s6.mono y h)) (fun h => (f7 _ h).elim dq4 (r6.live ⟨0, rfl⟩)) (fun x hx => ?_) (fun j hj hrj => ?_) (by rw [upf_ne (Ne.symm hnl), upf_same]) (fun w hw hwm hrw' => ?_) (fun x hx hrx => ?_) h57 (by unfold rcm; simp only [List.length_append, List.length_singleton]; omega)
                · simp only [List.mem_append, List.mem_singleton] at hx
                  rcases hx with hx | rfl
                  · exact ⟨(a1 x hx).1, h57 x (a1 x hx).2⟩
                  · exact ⟨hlL, upf_same⟩
                · by_cases ej : elo e j = elo e k5
                  · exact .inl (by simp [ej])
                  · have : elo e j ≠ ehi e i := by have := hB.lt j hj; omega
                    rw [upf_ne ej, upf_ne this] at hrj
                    rcases a2 j hj hrj with h | h | h
                    · exact .inl (by simp [h])
                    · exact .inr (.inl (h57 _ h))
                    · exact .inr (.inr h)
                · have hwne : w ≠ elo e k5 := by omega
                  rw [upf_ne hwne] at hrw'
                  by_cases ew : w = ehi e i
                  · rw [ew, hbk, Int.toNat_natCast]; exact ⟨by omega, upf_same⟩
                  · rw [upf_ne ew] at hrw'
                    have := a3 w hw hwm hrw'
                    exact ⟨this.1, h57 _ this.2⟩
                · by_cases ex : x = elo e k5
                  · rw [ex]; exact hsu
                  · have : x ≠ ehi e i := by omega
                    rw [upf_ne ex, upf_ne this] at hrx
                    exact a4 x hx hrx
        · have hnil : l2 = [] := List.length_eq_zero_iff.1 (by omega)
          have hJ : CvJ H pb rb rd v n (elo e) (ehi e) by' (some ⟨pb, 0, none⟩) (some ⟨rb, 0, none⟩) rd rd qp q4.length qc H4 (rcm rd rc4 q4) := ⟨rfl, rfl, rfl, rfl, q4, rc4, rfl, s4, r4, rq4, fq4, dq4, ⟨a1, fun j hj hrj => ?_, a3, a4⟩, fun x hx hb => a5 x (C3 x hx hb), rfl⟩
          · have h1 := (gm_of hJ).2
            exact hX _ _ _ _ _ _ _ _ ⟨_, by omega, hJ⟩ (by omega)
          · rcases a2 j hj hrj with h | h | ⟨h1, h2⟩
            · exact .inl h
            · exact .inr h
            · exact absurd (by have := mem_outs.2 (⟨hj, h1⟩ : j < n ∧ elo e j = u); rw [hsp, hnil] at this; simpa using this) h2
      · rcases J3.c2 j hj hrj with h | h
        · simp only [List.mem_append, List.mem_singleton] at h
          rcases h with h | h
          · exact .inl h
          · exact .inr (.inr ⟨h, by simp⟩)
        · exact .inr (.inl h)
    · have hq0 : q3 = [] := List.length_eq_zero_iff.1 (by omega)
      clear hX
      refine bimatch_pairs_cover.j4_eq ?_
      unfold bimatch_pairs_cover.j4_t
      have hR : Rch rc'' v n (elo e) (ehi e) by' rc3 := ⟨C3, fun j hj hrj => (J3.c2 j hj hrj).resolve_left (by rw [hq0]; simp), J3.c3⟩
      refine bimatch_pairs_cover.l4_rule (fun p0 op on oc tp tn tc t104 t105 H' => p0 = some ⟨pb, 0, none⟩ ∧ tp = some ⟨rb, 0, none⟩ ∧ tn = rc'' ∧ t104 = (rc'' : Int) ∧ ∃ w : Nat, t105 = w ∧ w ≤ rc'' ∧ on = (pk (cvp v rc3) w).length ∧ Step (fun _ => False) H H' ∧ Row H' (some ⟨rb, 0, none⟩) rc'' rc'' rc3 ∧ Row H' op (pk (cvp v rc3) w).length oc (lsF (pk (cvp v rc3) w)) ∧ (∀ y, fpS op y → H y = none) ∧ ¬ fpS op rb)
        (fun p0 op on oc tp tn tc t104 t105 H' => rc'' - t105.toNat) ?_ ⟨rfl, rfl, rfl, rfl, 0, rfl, Nat.zero_le _, rfl, s3, r3, Row.nil, fun y h => by rw [fpS_none] at h; exact h.elim, fun h => by rw [fpS_none] at h; exact h⟩
      rintro p0 op on oc tp tn tc t104 t105 H4 ⟨rfl, rfl, rfl, rfl, w, rfl, hw, rfl, s4, r4, ro4, fo4, do4⟩ X hX
      have hP4 := hP.keep0 s4
      refine bimatch_pairs_cover.b4_eq ?_
      unfold bimatch_pairs_cover.b4_t
      refine bc (fun hlt => ?_) fun hge => ?_
      · have hwn : w < tn := by omega
        have hpl : (pk (cvp v rc3) w).length ≤ w := by rw [pk_len]; exact cnt_le _ _
        refine r4.rdr.ixB (by omega) (by omega) ?_
        rw [Int.toNat_natCast]
        simp only [nn_mk, get_at hP4.cell, List.getElem?_cons_zero, List.getElem?_cons_succ, ldI_mk, ldS_mk, Nat.zero_add]
        have hcv : (!(rc3 w == decide ((w : Int) < (v : Int)))) = cvp v rc3 w := by
          unfold cvp
          have : decide ((w : Int) < (v : Int)) = decide (w < v) := decide_eq_decide.2 (by omega)
          rw [this]; rfl
        rw [hcv]
        have next : ∀ {H5 : Hp} {op5 : Option Addr} {oc5 : Nat}, Step (fun _ => False) H H5 → Row H5 (some ⟨rb, 0, none⟩) tn tn rc3 → Row H5 op5 (pk (cvp v rc3) (w + 1)).length oc5 (lsF (pk (cvp v rc3) (w + 1))) → (∀ y, fpS op5 y → H y = none) → ¬ fpS op5 rb →
            bimatch_pairs_cover.j5 (some ⟨pb, 0, none⟩) op5 (pk (cvp v rc3) (w + 1)).length oc5 (some ⟨rb, 0, none⟩) tn tc (tn : Int) (w : Int) X E H5 K := by
          intro H5 op5 oc5 s5 r5 ro5 fo5 do5
          refine bimatch_pairs_cover.j5_eq ?_
          unfold bimatch_pairs_cover.j5_t
          rw [i64w (by omega) (by omega)]
          exact hX _ _ _ _ _ _ _ _ _ _ ⟨rfl, rfl, rfl, rfl, w + 1, by omega, by omega, rfl, s5, r5, ro5, fo5, do5⟩ (by omega)
        cases hc : cvp v rc3 w with
        | true =>
          refine bcb (fun _ => ?_) fun h => by cases h
          have hp : pk (cvp v rc3) (w + 1) = pk (cvp v rc3) w ++ [w] := by rw [pk_succ, if_pos hc]
          refine ro4.appI _ (by omega) fun op5 oc5 H5 ro5 s5 f5 => ?_
          rw [lsF_app] at ro5
          have hl1 : (pk (cvp v rc3) w).length + 1 = (pk (cvp v rc3) (w + 1)).length := by rw [hp]; simp
          rw [← hp, hl1] at ro5
          rw [hl1]
          exact next (s4.own s5 fo4) (r4.keep s5 fun y hy h => by rw [fpS_mk] at hy; exact do4 (hy ▸ h)) ro5 (fun y hy => (f5 y hy).elim (fo4 y) (s4.mono y)) fun h => (f5 _ h).elim do4 (r4.live ⟨0, rfl⟩)
        | false =>
          refine bcb (fun h => by cases h) fun _ => ?_
          have hp : pk (cvp v rc3) (w + 1) = pk (cvp v rc3) w := by rw [pk_succ, if_neg (by rw [hc]; decide)]
          have := next s4 r4 (by rw [hp]; exact ro4) fo4 do4
          rw [hp] at this
          exact this
      · have hwe : w = tn := by omega
        subst hwe
        exact k H4 rc3 op oc s4 hR ro4 fo4
end
end Go.Mz

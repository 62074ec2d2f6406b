/-
  Joined: VouO, VouF, VouG, VouH, VouI.
-/
import Derived.Test.YtbocpfdlfnodfaaPkM
import Derived.Test.YtbocpfdlfnodfaaPkV
set_option linter.unusedSimpArgs false
set_option linter.unusedVariables false
/-
  The plain law of parts with an odd number of nodes: neighbours, and a search that goes through a part. No program in sight.
-/
namespace Go.Mz

/-- both ends are left -/
def okE (W : Nat → Bool) (x : Edg) : Bool := !W x.fr.toNat && !W x.to.toNat

/-- the neighbours of each node, by the first edges -/
def nbs (e : Nat → Edg) (W : Nat → Bool) : Nat → Nat → List Nat
  | 0 => fun _ => []
  | i + 1 =>
    let f := nbs e W i
    let a := (e i).fr.toNat
    let b := (e i).to.toNat
    if okE W (e i) then upf (upf f a (f a ++ [b])) b ((upf f a (f a ++ [b])) b ++ [a]) else f

theorem nbs_succ {e : Nat → Edg} {W : Nat → Bool} {i : Nat} : nbs e W (i + 1) = if okE W (e i) then upf (upf (nbs e W i) (e i).fr.toNat (nbs e W i (e i).fr.toNat ++ [(e i).to.toNat])) (e i).to.toNat ((upf (nbs e W i) (e i).fr.toNat (nbs e W i (e i).fr.toNat ++ [(e i).to.toNat])) (e i).to.toNat ++ [(e i).fr.toNat]) else nbs e W i := rfl

/-- joined by an edge, both ends left -/
def Adj (e : Nat → Edg) (n : Nat) (W : Nat → Bool) (u v : Nat) : Prop := ∃ j, j < n ∧ okE W (e j) = true ∧ (((e j).fr.toNat = u ∧ (e j).to.toNat = v) ∨ ((e j).to.toNat = u ∧ (e j).fr.toNat = v))

theorem Adj.symm {e : Nat → Edg} {n : Nat} {W : Nat → Bool} {u v : Nat} (h : Adj e n W u v) : Adj e n W v u := by
  obtain ⟨j, hj, hk, h⟩ := h
  exact ⟨j, hj, hk, by rcases h with ⟨h1, h2⟩ | ⟨h1, h2⟩ <;> simp [h1, h2]⟩

theorem Adj.left {e : Nat → Edg} {n : Nat} {W : Nat → Bool} {u v : Nat} (h : Adj e n W u v) : W u = false ∧ W v = false := by
  obtain ⟨j, hj, hk, h⟩ := h
  simp only [okE, Bool.and_eq_true, Bool.not_eq_true'] at hk
  rcases h with ⟨rfl, rfl⟩ | ⟨rfl, rfl⟩
  · exact hk
  · exact ⟨hk.2, hk.1⟩

theorem mem_push {f : Nat → List Nat} {a x u w : Nat} : w ∈ upf f a (f a ++ [x]) u ↔ w ∈ f u ∨ (u = a ∧ w = x) := by
  by_cases h : u = a
  · subst h; rw [upf_same]; simp
  · rw [upf_ne h]; simp [h]

theorem mem_nbs {e : Nat → Edg} {W : Nat → Bool} {u v : Nat} : ∀ {n : Nat}, v ∈ nbs e W n u ↔ Adj e n W u v := by
  intro n
  induction n with
  | zero => simp [nbs, Adj]
  | succ n ih =>
    have split : Adj e (n + 1) W u v ↔ Adj e n W u v ∨ (okE W (e n) = true ∧ (((e n).fr.toNat = u ∧ (e n).to.toNat = v) ∨ ((e n).to.toNat = u ∧ (e n).fr.toNat = v))) := by
      constructor
      · rintro ⟨j, hj, h⟩
        by_cases ej : j = n
        · subst ej; exact .inr h
        · exact .inl ⟨j, by omega, h⟩
      · rintro (⟨j, hj, h⟩ | h)
        · exact ⟨j, by omega, h⟩
        · exact ⟨n, by omega, h⟩
    rw [split, nbs_succ]
    by_cases hk : okE W (e n) = true
    · rw [if_pos hk, mem_push, mem_push, ih]
      constructor
      · rintro ((h | ⟨rfl, rfl⟩) | ⟨rfl, rfl⟩)
        · exact .inl h
        · exact .inr ⟨hk, .inl ⟨rfl, rfl⟩⟩
        · exact .inr ⟨hk, .inr ⟨rfl, rfl⟩⟩
      · rintro (h | ⟨_, ⟨rfl, rfl⟩ | ⟨rfl, rfl⟩⟩)
        · exact .inl (.inl h)
        · exact .inl (.inr ⟨rfl, rfl⟩)
        · exact .inr ⟨rfl, rfl⟩
    · rw [if_neg hk, ih]
      constructor
      · exact .inl
      · rintro (h | ⟨h, _⟩)
        · exact h
        · exact absurd h hk

theorem sm_push {f : Nat → List Nat} {a x N : Nat} : sm (fun v => (upf f a (f a ++ [x]) v).length) N ≤ sm (fun v => (f v).length) N + 1 := by
  by_cases h : a < N
  · have := sm_one (f := fun v => (upf f a (f a ++ [x]) v).length) (g := fun v => (f v).length) h fun i hi hne => by simp only [upf_ne hne]
    simp only [upf_same, List.length_append, List.length_singleton] at this
    omega
  · rw [sm_congr (g := fun v => (f v).length) fun i hi => by rw [upf_ne (by omega)]]; omega

theorem sm_nbs {e : Nat → Edg} {W : Nat → Bool} {N : Nat} : ∀ n, sm (fun v => (nbs e W n v).length) N ≤ 2 * n := by
  intro n
  induction n with
  | zero => rw [sm_zero (f := fun v => (nbs e W 0 v).length) fun i hi => rfl]; omega
  | succ n ih =>
    rw [nbs_succ]
    split
    · have h1 := sm_push (f := upf (nbs e W n) (e n).fr.toNat (nbs e W n (e n).fr.toNat ++ [(e n).to.toNat])) (a := (e n).to.toNat) (x := (e n).fr.toNat) (N := N)
      have h2 := sm_push (f := nbs e W n) (a := (e n).fr.toNat) (x := (e n).to.toNat) (N := N)
      omega
    · omega

/-! ### Going through a part -/

structure Dfs (R : Nat → Nat → Prop) (S0 : Nat → Bool) (N s : Nat) (seen : Nat → Bool) (st : List Nat) (size : Nat) : Prop where
  sub : ∀ v, v < N → S0 v = true → seen v = true
  con : ∀ v, v < N → seen v = true → S0 v = true ∨ Cn R s v
  stc : ∀ v ∈ st, v < N ∧ Cn R s v
  cls : ∀ v, v < N → seen v = true → S0 v = false → ∀ w, R v w → seen w = true ∨ w ∈ st
  src : seen s = true ∨ s ∈ st
  cnt : size = cnt (fun v => seen v && !S0 v) N

theorem Dfs.start {R : Nat → Nat → Prop} {S0 : Nat → Bool} {N s : Nat} (hs : s < N) : Dfs R S0 N s S0 [s] 0 :=
  ⟨fun _ _ h => h, fun _ _ h => .inl h, fun v hv => by simp at hv; subst hv; exact ⟨hs, .refl _⟩, fun v _ h h' => (by rw [h] at h'; cases h'), .inr (by simp), by rw [cnt_none fun i hi => by simp]⟩

/-- one seen already is laid aside -/
theorem Dfs.skip {R : Nat → Nat → Prop} {S0 seen : Nat → Bool} {N s size x : Nat} {st : List Nat} (h : Dfs R S0 N s seen (st ++ [x]) size) (hx : seen x = true) : Dfs R S0 N s seen st size := by
  refine ⟨h.sub, h.con, fun v hv => h.stc v (by simp [hv]), fun v hv h1 h2 w hw => ?_, ?_, h.cnt⟩
  · rcases h.cls v hv h1 h2 w hw with h' | h'
    · exact .inl h'
    · rcases List.mem_append.1 h' with h' | h'
      · exact .inr h'
      · simp at h'; subst h'; exact .inl hx
  · rcases h.src with h' | h'
    · exact .inl h'
    · rcases List.mem_append.1 h' with h' | h'
      · exact .inr h'
      · simp at h'; subst h'; exact .inl hx

/-- one that is new is seen, and its neighbours are to be gone to -/
theorem Dfs.take {R : Nat → Nat → Prop} {S0 seen : Nat → Bool} {N s size x : Nat} {st l : List Nat} (h : Dfs R S0 N s seen (st ++ [x]) size) (hx : seen x = false) (hl : ∀ w, w ∈ l ↔ R x w) (hR : ∀ u v, R u v → u < N → v < N) :
    Dfs R S0 N s (upf seen x true) (st ++ l) (size + 1) := by
  have hxN := h.stc x (by simp)
  have hS0 : S0 x = false := by
    cases hs : S0 x with
    | false => rfl
    | true => rw [h.sub x hxN.1 hs] at hx; cases hx
  refine ⟨fun v hv hs => ?_, fun v hv hs => ?_, fun v hv => ?_, fun v hv h1 h2 w hw => ?_, ?_, ?_⟩
  · by_cases e : v = x
    · subst e; exact upf_same
    · rw [upf_ne e]; exact h.sub v hv hs
  · by_cases e : v = x
    · subst e; exact .inr hxN.2
    · rw [upf_ne e] at hs; exact h.con v hv hs
  · rcases List.mem_append.1 hv with hv | hv
    · exact h.stc v (by simp [hv])
    · have hr := (hl v).1 hv
      exact ⟨hR _ _ hr hxN.1, hxN.2.trans (.edge hr)⟩
  · by_cases e : v = x
    · subst e; exact .inr (by simp [(hl w).2 hw])
    · rw [upf_ne e] at h1
      rcases h.cls v hv h1 h2 w hw with h' | h'
      · left
        by_cases ew : w = x
        · subst ew; exact upf_same
        · rw [upf_ne ew]; exact h'
      · rcases List.mem_append.1 h' with h' | h'
        · exact .inr (by simp [h'])
        · simp at h'; subst h'; exact .inl upf_same
  · rcases h.src with h' | h'
    · left
      by_cases ew : s = x
      · subst ew; exact upf_same
      · rw [upf_ne ew]; exact h'
    · rcases List.mem_append.1 h' with h' | h'
      · exact .inr (by simp [h'])
      · simp at h'; subst h'; exact .inl upf_same
  · rw [h.cnt]
    symm
    refine cnt_less hxN.1 (by simp [upf_same, hS0]) (by simp [hx]) fun i hi hne => by simp only [upf_ne hne]

/-- when none is left to go to, the part is seen -/
theorem Dfs.done {R : Nat → Nat → Prop} {S0 seen : Nat → Bool} {N s size : Nat} (h : Dfs R S0 N s seen [] size) (hs : s < N) (hR : ∀ u v, R u v → u < N ∧ v < N) (hsym : ∀ u v, R u v → R v u) (hS : ∀ u v, R u v → S0 u = S0 v) :
    ∀ v, v < N → (seen v = true ↔ S0 v = true ∨ Cn R s v) := by
  intro v hv
  refine ⟨h.con v hv, fun hh => ?_⟩
  rcases hh with hh | hh
  · exact h.sub v hv hh
  · cases hS0s : S0 s with
    | true =>
      have : S0 s = S0 v := hh.resp S0 hS
      exact h.sub v hv (by rw [← this]; exact hS0s)
    | false =>
      have hsrc : seen s = true := by
        rcases h.src with h' | h'
        · exact h'
        · cases h'
      have step : ∀ a b, R a b → (seen a = true ∧ S0 a = false) → (seen b = true ∧ S0 b = false) := fun a b hab hh => by
        rcases h.cls a (hR a b hab).1 hh.1 hh.2 b hab with h' | h'
        · exact ⟨h', by rw [← hS a b hab]; exact hh.2⟩
        · cases h'
      have := (hh.iff (P := fun a => seen a = true ∧ S0 a = false) fun a b hab => ⟨step a b hab, step b a (hsym a b hab)⟩).1 ⟨hsrc, hS0s⟩
      exact this.1

open Classical in
/-- how many nodes hang together with one -/
noncomputable def csz (R : Nat → Nat → Prop) (N s : Nat) : Nat := cnt (fun v => decide (Cn R s v)) N

/-- a node that is left, the first of its part -/
def Fst (R : Nat → Nat → Prop) (W : Nat → Bool) (s : Nat) : Prop := W s = false ∧ ∀ u, u < s → ¬ Cn R u s

open Classical in
/-- how many parts with an odd number of nodes begin below s -/
noncomputable def oddB (R : Nat → Nat → Prop) (W : Nat → Bool) (N : Nat) : Nat → Nat
  | 0 => 0
  | s + 1 => oddB R W N s + if Fst R W s then csz R N s % 2 else 0

open Classical in
theorem Dfs.size {R : Nat → Nat → Prop} {W S0 seen : Nat → Bool} {N s size : Nat} (h : Dfs R S0 N s seen [] size) (hs : s < N) (hR : ∀ u v, R u v → u < N ∧ v < N) (hsym : ∀ u v, R u v → R v u) (hS : ∀ u v, R u v → S0 u = S0 v)
    (hW : ∀ v, v < N → (S0 v = true ↔ W v = true ∨ ∃ u, u < s ∧ Cn R u v)) : size % 2 = if Fst R W s then csz R N s % 2 else 0 := by
  have hd := h.done hs hR hsym hS
  have hf : Fst R W s ↔ S0 s = false := by
    have := hW s hs
    unfold Fst
    constructor
    · rintro ⟨h1, h2⟩
      cases hS0 : S0 s with
      | false => rfl
      | true =>
        rcases this.1 hS0 with h' | ⟨u, hu, h'⟩
        · rw [h'] at h1; cases h1
        · exact absurd h' (h2 u hu)
    · intro h0
      refine ⟨?_, fun u hu hc => ?_⟩
      · cases hw : W s with
        | false => rfl
        | true => rw [this.2 (.inl hw)] at h0; cases h0
      · rw [this.2 (.inr ⟨u, hu, hc⟩)] at h0; cases h0
  rw [h.cnt]
  split
  · rename_i hF
    have h0 := hf.1 hF
    congr 1
    refine cnt_congr fun v hv => ?_
    by_cases hc : Cn R s v
    · have h1 := (hd v hv).2 (.inr hc)
      have h2 : S0 v = false := by rw [← hc.resp S0 hS]; exact h0
      simp [h1, h2, hc]
    · have : ¬ (seen v = true ∧ S0 v = false) := fun ⟨h1, h2⟩ => by
        rcases (hd v hv).1 h1 with h' | h'
        · rw [h'] at h2; cases h2
        · exact hc h'
      simp only [hc, decide_false]
      cases hsv : seen v <;> cases hS0v : S0 v <;> simp_all
  · rename_i hF
    have h0 : S0 s = true := by
      cases h' : S0 s with
      | true => rfl
      | false => exact absurd (hf.2 h') hF
    rw [cnt_none fun v hv => ?_]
    cases hS0v : S0 v with
    | true => simp
    | false =>
      have : ¬ seen v = true := fun h1 => by
        rcases (hd v hv).1 h1 with h' | h'
        · rw [h'] at hS0v; cases hS0v
        · rw [← h'.resp S0 hS, h0] at hS0v; cases hS0v
      simp [this]

/-- so many parts with an odd number of nodes are left without W -/
noncomputable def oddN (N : Int) (n : Nat) (e : Nat → Edg) (W : Nat → Bool) : Nat := oddB (Adj e n W) W N.toNat N.toNat

theorem oddB_le {R : Nat → Nat → Prop} {W : Nat → Bool} {N : Nat} : ∀ s, oddB R W N s ≤ s := by
  intro s
  induction s with
  | zero => exact Nat.le_refl _
  | succ s ih => show oddB R W N s + _ ≤ _; split <;> omega
end Go.Mz

/-
  Walks of layer 12, more: odd.
-/
namespace Go.Mz
section
variable {E : Value → Hp → Prop}

/-- a truth value in a heap -/
def rdB (H : Hp) (b : Nat) (v : Nat) : Bool := match H.get b v with | some (.bool x) => x | _ => false

theorem Row.rdB {H : Hp} {b n c : Nat} {f : Nat → Bool} (h : Row H (some ⟨b, 0, none⟩) n c f) {v : Nat} (hv : v < n) : rdB H b v = f v := by
  obtain ⟨b', o, e, hg⟩ := h.at hv
  cases e
  have := hg 0 (by decide)
  rw [show 0 + v * El.w Bool + 0 = v from by show 0 + v * 1 + 0 = v; omega] at this
  unfold Mz.rdB
  rw [this]
  rfl

theorem row_one {H : Hp} {b : Nat} {x : Int} {t : BT} (e : H b = some ⟨[.int .i64 x], t⟩) (ht : t.fz = (0, 0)) : Row H (some ⟨b, 0, none⟩) 1 1 (fun _ => x) := by
  refine ⟨Nat.le_refl _, by decide, .inr ⟨b, 0, _, rfl, e, ⟨Nat.le_refl _, ht⟩, fun i hi j hj => ?_⟩⟩
  have : i = 0 := by omega
  subst this
  have : j = 0 := by have : El.w Int = 1 := rfl; omega
  subst this; rfl

theorem vodd {N : Int} {ep : Option Addr} {n ec : Nat} {e : Nat → Edg} {wp : Option Addr} {wc : Nat} {W : Nat → Bool} {H : Hp} {K : Int → Hp → Prop} (he : Rdr H ep n e) (hr : Right N n e) (hw : Row H wp N.toNat wc W)
    (kk : ∀ H', Step (fun _ => False) H H' → K (oddN N n e W) H') : vouch_odd.call N ep n ec wp N.toNat wc E H K := by
  have hN0 := hr.N0
  have hN1 := hr.N1
  have hn1 := hr.n1
  refine vouch_odd.of (vouch_odd.run_eq ?_)
  unfold vouch_odd.run_t
  refine nwk fun b1 H1 hb1 e1 s1 => ?_
  simp only [get_at e1, List.getElem?_cons_zero, List.getElem?_cons_succ, ldI_mk]
  refine Row.mkSl hN0 (by omega) fun b2 H2 hb2 r2 s2 => ?_
  have e12 := s2.keep _ _ e1 fun h => h
  simp only [get_at e12, List.getElem?_cons_zero, List.getElem?_cons_succ, ldS_mk]
  have start : Rows2 H1 H2 b2 N.toNat (fun _ => ⟨none, 0, 0⟩) (nbs e W 0) := ⟨r2, hb2, fun _ _ => rfl, fun _ _ => .nil, fun _ _ _ _ _ _ h => (by rw [fpS_none] at h; exact h.elim), fun _ _ _ h => (by rw [fpS_none] at h; exact h.elim), fun _ _ _ h => by rw [fpS_none] at h; exact h.elim⟩
  have he := he.keep s1 fun _ _ _ h => h
  have hw := hw.keep s1 fun _ _ h => h
  have kk : ∀ H', Step (fun _ => False) H1 H' → K (oddN N n e W) H' := fun H' s => kk _ (s1.and s)
  have l1 : H1 b1 ≠ none := by rw [e1]; exact fun h => by cases h
  refine vouch_odd.l1_rule (fun wp' wn' wc' g2 np nn nc tp tn tc t19 t20 H' => wp = wp' ∧ wn' = N.toNat ∧ wc = wc' ∧ b1 = g2 ∧ np = some ⟨b2, 0, none⟩ ∧ nn = N.toNat ∧ ep = tp ∧ n = tn ∧ t19 = n ∧
      ∃ i : Nat, t20 = i ∧ i ≤ n ∧ Step (fun _ => False) H1 H' ∧ H' b1 = some ⟨[.int .i64 N, .slice ep n ec], 24⟩ ∧ ∃ sl, Rows2 H1 H' b2 N.toNat sl (nbs e W i))
    (fun wp' wn' wc' g2 np nn nc tp tn tc t19 t20 H' => n - t20.toNat) ?_ ⟨rfl, rfl, rfl, rfl, rfl, rfl, rfl, rfl, rfl, 0, rfl, by omega, s2, e12, _, start⟩
  clear start r2 e12 s2 e1 s1
  rintro wp' wn' wc' g2 np nn nc tp tn tc t19 t20 H3 ⟨rfl, rfl, rfl, rfl, rfl, rfl, rfl, rfl, rfl, i, rfl, hi, s3, e3, sl, rows⟩ X hX
  refine vouch_odd.b1_eq ?_
  unfold vouch_odd.b1_t
  have hw3 := hw.keep s3 fun _ _ h => h
  have ne12 : b1 ≠ b2 := ne_of_live hb2 l1
  refine bc (fun hlt => ?_) fun hge => ?_
  · refine (he.keep s3 fun _ _ _ h => h).edge (by omega) (by omega) ?_
    simp only [Int.toNat_natCast]
    refine nwst rfl rfl fun b4 H4 hb4 e4 s4 => ?_
    have hx := hr.ed i (by omega)
    have hf0 := hx.f0; have hf1 := hx.f1; have ht0 := hx.t0; have ht1 := hx.t1
    obtain ⟨a, ha⟩ : ∃ a : Nat, (e i).fr = a := ⟨(e i).fr.toNat, by omega⟩
    obtain ⟨b, hb⟩ : ∃ b : Nat, (e i).to = b := ⟨(e i).to.toNat, by omega⟩
    have ean : a < N.toNat := by omega
    have ebn : b < N.toNat := by omega
    rw [ha, hb] at e4
    simp only [get_at e4, List.getElem?_cons_zero, List.getElem?_cons_succ, ldI_mk]
    have hw4 := hw3.keep s4 fun _ _ h => h
    have rows4 := rows.keep0 s4
    have s04 := s3.and s4
    have e14 := s4.keep _ _ e3 fun h => h
    have hgo : ∀ H' sl', Step (fun _ => False) H1 H' → H' b1 = some ⟨[.int .i64 N, .slice ep n ec], 24⟩ → Rows2 H1 H' b2 N.toNat sl' (nbs e W (i + 1)) → vouch_odd.j1 wp N.toNat wc b1 (some ⟨b2, 0, none⟩) N.toNat nc ep n tc (n : Int) (i : Int) X E H' K := fun H' sl' s' e' rows' => by
      refine vouch_odd.j1_eq ?_
      unfold vouch_odd.j1_t
      rw [i64w (by omega) (by omega)]
      exact hX _ _ _ _ _ _ _ _ _ _ _ _ _ ⟨rfl, rfl, rfl, rfl, rfl, rfl, rfl, rfl, rfl, i + 1, by omega, by omega, s', e', _, rows'⟩ (by omega)
    have okv : okE W (e i) = (!W a && !W b) := by unfold okE; rw [ha, hb]; rfl
    have hskip : okE W (e i) = false → vouch_odd.j1 wp N.toNat wc b1 (some ⟨b2, 0, none⟩) N.toNat nc ep n tc (n : Int) (i : Int) X E H4 K := fun h => hgo _ sl s04 e14 (by rw [nbs_succ, if_neg (by rw [h]; exact fun h => by cases h)]; exact rows4)
    refine hw4.ixB (by omega) (by omega) ?_
    simp only [Int.toNat_natCast]
    refine bcb (fun hWa => ?_) fun hWa => hskip (by rw [okv, (by simpa using hWa : W a = true)]; rfl)
    refine hw4.ixB (by omega) (by omega) ?_
    simp only [Int.toNat_natCast]
    refine bcb (fun hWb => ?_) fun hWb => hskip (by rw [okv, (by simpa using hWb : W b = true)]; simp)
    have hok : okE W (e i) = true := by rw [okv, hWa, hWb]; rfl
    have hnb : nbs e W (i + 1) = upf (upf (nbs e W i) a (nbs e W i a ++ [b])) b ((upf (nbs e W i) a (nbs e W i a ++ [b])) b ++ [a]) := by
      rw [nbs_succ, if_pos hok, ha, hb]; rfl
    have lb4 : ∀ v, v < N.toNat → ∀ y, fpS (sl v).p y → y ≠ b4 := fun v hv y hy ey => (rows.each v hv).live hy (ey ▸ hb4)
    have b2b4 : b4 ≠ b2 := fun ee => rows.row.live (b := b2) ⟨_, rfl⟩ (ee ▸ hb4)
    have hlen := sm_nbs (e := e) (W := W) (N := N.toNat) i
    refine rows4.row.rdr.ixS (by omega) (by omega) ?_
    simp only [Int.toNat_natCast]
    rw [rows4.len a ean]
    have hla : (nbs e W i a).length ≤ 2 * i := Nat.le_trans (le_sm (f := fun v => (nbs e W i v).length) ean) hlen
    refine (rows4.each a ean).appI _ (by omega) fun p5 c5 H5 r5 s5 f5 => ?_
    have e45 := s5.keep _ _ e4 fun h => lb4 a ean b4 h rfl
    have e15 := s5.keep _ _ e14 fun h => l1 (rows.new a ean b1 h)
    simp only [get_at e45, List.getElem?_cons_zero, List.getElem?_cons_succ, ldI_mk]
    refine ⟨trivial, ?_⟩
    have row5 := rows4.row.keep s5 fun y hy hy' => by rw [fpS_mk] at hy; exact rows4.out a ean y hy' hy
    refine row5.st (α := Sl) (by omega) (by omega) ⟨p5, (nbs e W i a).length + 1, c5⟩ fun H6 r6 s6 => ?_
    simp only [Int.toNat_natCast] at r6
    have rows6 := rows4.push ean s04 r5 s5 f5 r6 s6
    have s06 := (s04.own s5 (rows4.new a ean)).own s6 fun y hy => by rw [fpS_mk] at hy; exact hy ▸ hb2
    have e46 := s6.keep _ _ e45 (by rw [fpS_mk]; exact b2b4)
    have e16 := s6.keep _ _ e15 (by rw [fpS_mk]; exact ne12)
    simp only [get_at e46, List.getElem?_cons_zero, List.getElem?_cons_succ, ldI_mk]
    refine rows6.row.rdr.ixS (by omega) (by omega) ?_
    simp only [Int.toNat_natCast]
    rw [rows6.len b ebn]
    have hlb : (upf (nbs e W i) a (nbs e W i a ++ [b]) b).length ≤ 2 * i + 1 := by
      by_cases hab : b = a
      · subst hab; rw [upf_same]; simp; exact hla
      · rw [upf_ne hab]
        have := Nat.le_trans (le_sm (f := fun v => (nbs e W i v).length) ebn) hlen
        omega
    have lb6 : ∀ v, v < N.toNat → ∀ y, fpS (upf sl a ⟨p5, (nbs e W i a).length + 1, c5⟩ v).p y → y ≠ b4 := fun v hv y hy ey => by
      by_cases hv' : v = a
      · subst hv'
        rw [upf_same] at hy
        rcases f5 y hy with h | h
        · exact lb4 v hv y h ey
        · rw [ey, e4] at h; cases h
      · rw [upf_ne hv'] at hy
        exact lb4 v hv y hy ey
    refine (rows6.each b ebn).appI _ (by omega) fun p7 c7 H7 r7 s7 f7 => ?_
    have e47 := s7.keep _ _ e46 fun h => lb6 b ebn b4 h rfl
    have e17 := s7.keep _ _ e16 fun h => l1 (rows6.new b ebn b1 h)
    simp only [get_at e47, List.getElem?_cons_zero, List.getElem?_cons_succ, ldI_mk]
    refine ⟨trivial, ?_⟩
    have row7 := rows6.row.keep s7 fun y hy hy' => by rw [fpS_mk] at hy; exact rows6.out b ebn y hy' hy
    refine row7.st (α := Sl) (by omega) (by omega) ⟨p7, (upf (nbs e W i) a (nbs e W i a ++ [b]) b).length + 1, c7⟩ fun H8 r8 s8 => ?_
    simp only [Int.toNat_natCast] at r8
    have rows8 := rows6.push ebn s06 r7 s7 f7 r8 s8
    have s08 := (s06.own s7 (rows6.new b ebn)).own s8 fun y hy => by rw [fpS_mk] at hy; exact hy ▸ hb2
    rw [← hnb] at rows8
    exact hgo _ _ s08 (s8.keep _ _ e17 (by rw [fpS_mk]; exact ne12)) rows8
  · have : i = n := by omega
    subst this
    clear hX
    refine vouch_odd.j2_eq ?_
    unfold vouch_odd.j2_t
    simp only [get_at e3, List.getElem?_cons_zero, List.getElem?_cons_succ, ldI_mk]
    refine Row.mkB hN0 (by omega) fun b3 H4 hb3 r4 s4 => ?_
    refine r4.cpyB (hw3.keep s4 fun _ _ h => h) fun H5 r5 s5 => ?_
    have l3b1 : b1 ≠ b3 := ne_of_live hb3 (by rw [e3]; exact fun h => by cases h)
    have l3b2 : b2 ≠ b3 := ne_of_live hb3 (rows.row.live (b := b2) ⟨_, rfl⟩)
    have lb3 : ∀ v, v < N.toNat → ∀ y, fpS (sl v).p y → y ≠ b3 := fun v hv y hy => ne_of_live hb3 ((rows.each v hv).live hy)
    have f3 : H1 b3 = none := s3.mono _ hb3
    have e5 := s5.keep _ _ (s4.keep _ _ e3 fun h => h) (by rw [fpS_mk]; exact l3b1)
    have rows5 := (rows.keep0 s4).keep s5 (by rw [fpS_mk]; exact l3b2) fun v hv y hy h => by rw [fpS_mk] at h; exact lb3 v hv y hy h
    have s05 : Step (fun _ => False) H1 H5 := (s3.and s4).own s5 fun y hy => by rw [fpS_mk] at hy; exact hy ▸ f3
    simp only [get_at e5, List.getElem?_cons_zero, List.getElem?_cons_succ, ldI_mk]
    have hR : ∀ u v, Adj e i W u v → u < N.toNat ∧ v < N.toNat := fun u v ⟨j, hj, _, h⟩ => by
      have hx := hr.ed j hj
      have := hx.f0; have := hx.f1; have := hx.t0; have := hx.t1
      rcases h with ⟨h1, h2⟩ | ⟨h1, h2⟩ <;> omega
    have hsym : ∀ u v, Adj e i W u v → Adj e i W v u := fun _ _ h => h.symm
    refine vouch_odd.l2_rule (fun np nn nc sp sn sc c9 t72 t73 H' => np = some ⟨b2, 0, none⟩ ∧ nn = N.toNat ∧ sp = some ⟨b3, 0, none⟩ ∧ sn = N.toNat ∧ sc = N.toNat ∧ N = t72 ∧
        ∃ s : Nat, t73 = s ∧ s ≤ N.toNat ∧ c9 = (oddB (Adj e i W) W N.toNat s : Int) ∧ Step (fun _ => False) H1 H' ∧ Rows2 H1 H' b2 N.toNat sl (nbs e W i) ∧ ∃ S0, Row H' (some ⟨b3, 0, none⟩) N.toNat N.toNat S0 ∧ ∀ v, v < N.toNat → (S0 v = true ↔ W v = true ∨ ∃ u, u < s ∧ Cn (Adj e i W) u v))
      (fun np nn nc sp sn sc c9 t72 t73 H' => N.toNat - t73.toNat) ?_ ⟨rfl, rfl, rfl, rfl, rfl, rfl, 0, rfl, by omega, rfl, s05, rows5, W, r5, fun v hv => ⟨.inl, fun h => h.elim id fun ⟨u, hu, _⟩ => by omega⟩⟩
    clear rows5 r5 e5 s05 s5 s4 r4 rows e3 hb3 hw3 s3
    rintro np nn nc sp sn sc c9 t72 t73 H6 ⟨rfl, rfl, rfl, rfl, rfl, rfl, s, rfl, hs, rfl, s6, rows, S0, r6, hS0⟩ X hX
    have hodd := oddB_le (R := Adj e i W) (W := W) (N := N.toNat) s
    refine vouch_odd.b2_eq ?_
    unfold vouch_odd.b2_t
    refine bc (fun hlt => ?_) fun hge => ?_
    · have hsN : s < N.toNat := by omega
      refine nwk fun b4 H7 hb4 e7 s7 => ?_
      have hSR : ∀ u v, Adj e i W u v → S0 u = S0 v := fun u v h => by
        have hl := h.left
        have h1 := hS0 u (hR u v h).1
        have h2 := hS0 v (hR u v h).2
        rw [hl.1] at h1
        rw [hl.2] at h2
        rw [Bool.eq_iff_iff, h1, h2]
        constructor
        · rintro (h' | ⟨w, hw, h'⟩)
          · cases h'
          · exact .inr ⟨w, hw, h'.trans (.edge h)⟩
        · rintro (h' | ⟨w, hw, h'⟩)
          · cases h'
          · exact .inr ⟨w, hw, h'.trans (.symm (.edge h))⟩
      have hlen := sm_nbs (e := e) (W := W) (N := N.toNat) i
      refine vouch_odd.l3_rule (fun np nn nc sp sn sc c9 sz tp tn tc t72 t73 H' => np = some ⟨b2, 0, none⟩ ∧ nn = N.toNat ∧ sp = some ⟨b3, 0, none⟩ ∧ sn = N.toNat ∧ sc = N.toNat ∧ c9 = (oddB (Adj e i W) W N.toNat s : Int) ∧ N = t72 ∧ t73 = s ∧
          Step (fun _ => False) H1 H' ∧ Rows2 H1 H' b2 N.toNat sl (nbs e W i) ∧ ∃ seen st size, sz = (size : Nat) ∧ tn = st.length ∧ Dfs (Adj e i W) S0 N.toNat s seen st size ∧ Row H' (some ⟨b3, 0, none⟩) N.toNat N.toNat seen ∧ Row H' tp st.length tc (lsF st) ∧
            st.length + sm (fun v => if seen v then 0 else (nbs e W i v).length) N.toNat ≤ 2 * i + 1 ∧ ∀ y, fpS tp y → H1 y = none ∧ y ≠ b3 ∧ y ≠ b2 ∧ ∀ v, v < N.toNat → ¬ fpS (sl v).p y)
        (fun np nn nc sp sn sc c9 sz tp tn tc t72 t73 H' => tn + sm (fun v => if rdB H' b3 v then 0 else (nbs e W i v).length) N.toNat) ?_
        ⟨rfl, rfl, rfl, rfl, rfl, rfl, rfl, rfl, s6.and s7, rows.keep0 s7, S0, [s], 0, rfl, rfl, Dfs.start hsN, r6.keep s7 fun _ _ h => h, (row_one e7 rfl).congr fun j hj => ?_, ?_, fun y hy => ?_⟩
      · rintro np nn nc sp sn sc c9 sz tp tn tc t72 t73 H8 ⟨rfl, rfl, rfl, rfl, rfl, rfl, rfl, rfl, s8, rows8, seen, st, size, rfl, rfl, dfs, r8, rt, hmu, hfp⟩ Y hY
        refine vouch_odd.b3_eq ?_
        unfold vouch_odd.b3_t
        refine bc (fun hlt => ?_) fun hge => ?_
        · obtain ⟨st, x, rfl⟩ : ∃ l x, st = l ++ [x] := by
            cases List.eq_nil_or_concat st with
            | inl h => subst h; simp at hlt
            | inr h => obtain ⟨l, x, h⟩ := h; exact ⟨l, x, by simpa using h⟩
          have hxN := (dfs.stc x (by simp)).1
          have hlx : (st ++ [x]).length = st.length + 1 := by simp
          have hst : st.length ≤ 2 * i := by rw [hlx] at hmu; omega
          rw [i64w (by omega) (by omega)]
          have ewl : (((st ++ [x]).length : Nat) : Int) - 1 = st.length := by rw [hlx]; omega
          rw [ewl]
          refine rt.ixI (by omega) (by rw [hlx]; omega) ?_
          have hlast : lsF (st ++ [x]) ((st.length : Nat) : Int).toNat = x := by simp [lsF]
          rw [hlast]
          refine ⟨⟨by omega, by have := rt.le; rw [hlx] at this; omega⟩, ?_⟩
          refine r8.ixB (by omega) (by omega) ?_
          simp only [Int.toNat_natCast]
          rw [rt.slp0]
          have hrd : ∀ {H' : Hp} {sn : Nat → Bool}, Row H' (some ⟨b3, 0, none⟩) N.toNat N.toNat sn → sm (fun v => if rdB H' b3 v then 0 else (nbs e W i v).length) N.toNat = sm (fun v => if sn v then 0 else (nbs e W i v).length) N.toNat := fun r => sm_congr fun v hv => by rw [r.rdB hv]
          have rt' : Row H8 tp st.length tc (lsF st) := (rt.cut (m := st.length) (by rw [hlx]; omega)).congr fun j hj => by unfold lsF; rw [List.getElem?_append_left hj]
          refine bcb (fun hns => ?_) fun hsn => ?_
          · have hx0 : seen x = false := by simpa using hns
            refine r8.stB (by omega) (by omega) true fun H9 r9 s9 => ?_
            simp only [Int.toNat_natCast] at r9
            have rows9 := rows8.keep s9 (by rw [fpS_mk]; exact l3b2) fun v hv y hy h => by rw [fpS_mk] at h; exact (rows8.each v hv |> fun _ => lb3 v hv y hy) h
            have rt9 := rt'.keep s9 fun y hy h => by rw [fpS_mk] at h; exact (hfp y hy).2.1 h
            refine rows9.row.rdr.ixS (by omega) (by omega) ?_
            simp only [Int.toNat_natCast]
            rw [rows9.len x hxN]
            have hone := sm_one (f := fun v => if upf seen x true v then 0 else (nbs e W i v).length) (g := fun v => if seen v then 0 else (nbs e W i v).length) hxN fun j hj hne => by simp only [upf_ne hne]
            simp only [upf_same, hx0, if_true, Bool.false_eq_true, if_false, Nat.add_zero] at hone
            refine rt9.appR (rows9.each x hxN) rfl (by rw [hlx] at hmu; omega) (by decide) fun p' c' H10 r10 s10 f10 => ?_
            have hsz : size ≤ N.toNat := by rw [dfs.cnt]; exact cnt_le _ _
            rw [i64w (by omega) (by omega)]
            have s09 := s8.own s9 fun y hy => by rw [fpS_mk] at hy; exact hy ▸ f3
            have s010 := s09.own s10 fun y hy => (hfp y hy).1
            have rows10 := rows9.keep s10 (fun h => (hfp _ h).2.2.1 rfl) fun v hv y hy h => (hfp y h).2.2.2 v hv hy
            have r8' := r9.keep s10 fun y hy h => by rw [fpS_mk] at hy; exact (hfp y h).2.1 hy
            refine hY _ _ _ _ _ _ _ _ _ _ _ _ _ _ ⟨rfl, rfl, rfl, rfl, rfl, rfl, rfl, rfl, s010, rows10, upf seen x true, st ++ nbs e W i x, size + 1, by omega, by simp, dfs.take hx0 (fun w => mem_nbs) (fun u v h _ => (hR u v h).2), r8', ?_, ?_, fun y hy => ?_⟩ ?_
            · rw [lsF_apps] at r10; rw [List.length_append]; exact r10
            · rw [List.length_append]; rw [hlx] at hmu; omega
            · rcases f10 y hy with h | h
              · exact hfp y h
              · have hl9 : ∀ z, H9 z ≠ none → y ≠ z := fun z hz e => hz (e ▸ h)
                exact ⟨s09.mono _ h, hl9 _ (r9.live (b := b3) ⟨_, rfl⟩), hl9 _ (rows9.row.live (b := b2) ⟨_, rfl⟩), fun v hv hv' => (rows9.each v hv).live hv' h⟩
            · rw [hrd r8', hrd r8, hlx]; omega
          · have hx1 : seen x = true := by simpa using hsn
            have emp : ((st.length : Nat) : Int).toNat = st.length := by omega
            refine hY _ _ _ _ _ _ _ _ _ _ _ _ _ _ ⟨rfl, rfl, rfl, rfl, rfl, rfl, rfl, rfl, s8, rows8, seen, st, size, rfl, rfl, dfs.skip hx1, r8, rt', by rw [hlx] at hmu; omega, hfp⟩ (by rw [hlx]; omega)
        · have : st = [] := List.eq_nil_of_length_eq_zero (by omega)
          subst this
          refine vouch_odd.j3_eq ?_
          unfold vouch_odd.j3_t
          have hsz := dfs.size hsN hR hsym hSR hS0
          have hdone := dfs.done hsN hR hsym hSR
          have hsl : size ≤ N.toNat := by rw [dfs.cnt]; exact cnt_le _ _
          have hnew : (oddB (Adj e i W) W N.toNat (s + 1) : Int) = (oddB (Adj e i W) W N.toNat s : Int) + (size : Int) % 2 := by
            show ((oddB (Adj e i W) W N.toNat s + _ : Nat) : Int) = _
            rw [← hsz]; omega
          rw [and1 (by omega) (by omega), i64w (n := (oddB (Adj e i W) W N.toNat s : Int) + (size : Int) % 2) (by omega) (by omega), i64w (by omega) (by omega)]
          refine hX _ _ _ _ _ _ _ _ _ _ ⟨rfl, rfl, rfl, rfl, rfl, rfl, s + 1, by omega, by omega, hnew.symm, s8, rows8, seen, r8, fun v hv => ?_⟩ (by omega)
          rw [hdone v hv, hS0 v hv]
          constructor
          · rintro ((h | ⟨u, hu, h⟩) | h)
            · exact .inl h
            · exact .inr ⟨u, by omega, h⟩
            · exact .inr ⟨s, by omega, h⟩
          · rintro (h | ⟨u, hu, h⟩)
            · exact .inl (.inl h)
            · by_cases e' : u = s
              · subst e'; exact .inr h
              · exact .inl (.inr ⟨u, by omega, h⟩)
      · have : j = 0 := by omega
        subst this; rfl
      · have := sm_le (f := fun v => if S0 v then 0 else (nbs e W i v).length) (g := fun v => (nbs e W i v).length) (n := N.toNat) fun v hv => by split <;> omega
        simp only [List.length_singleton]; omega
      · rw [fpS_mk] at hy
        subst hy
        exact ⟨s6.mono _ hb4, fun h => r6.live (b := b3) ⟨_, rfl⟩ (h ▸ hb4), fun h => rows.row.live (b := b2) ⟨_, rfl⟩ (h ▸ hb4), fun v hv h => (rows.each v hv).live h hb4⟩
    · have : s = N.toNat := by omega
      subst this
      exact kk _ s6
end
end Go.Mz

/-
  Walks of layer 12, more: Largest, NoPerfect.
-/
namespace Go.Mz
section
variable {E : Value → Hp → Prop}

open Classical in
/-- so many parts with an odd number of nodes are left without these nodes -/
noncomputable def oddS (N : Int) (n : Nat) (e : Nat → Edg) (set : Nat → Int) (q : Nat) : Nat := oddN N n e fun v => decide (In set q v)

theorem oddS_le {N : Int} {n : Nat} {e : Nat → Edg} {set : Nat → Int} {q : Nat} : oddS N n e set q ≤ N.toNat := oddB_le _

structure LrgP (N : Int) (n : Nat) (e : Nat → Edg) (m : Nat → Int) (k : Nat) (set : Nat → Int) (q : Nat) : Prop where
  tk : Tkn N n e m k fun _ => 1
  ris : Ris set q N
  eq : 2 * (k : Int) = N + q - oddS N n e set q

end
end Go.Mz

/-
  Walks of layer 12, more: weigh, and the function of pairs that it makes.
-/
namespace Go.Mz
section
variable {E : Value → Hp → Prop}

/-- a function of two nodes, called as a value -/
def Fun2 (E : Value → Hp → Prop) (H : Hp) (g : Nat) (gk : List Value) (N : Int) (f : Int → Int → Int) : Prop :=
  T0.fok g = true ∧ ∀ (u v : Int) (H1 : Hp) (K : Value → Hp → Prop), 0 ≤ u → u < N → 0 ≤ v → v < N → Step (fun _ => False) H H1 → (∀ H2, Step (fun _ => False) H1 H2 → K (.int .i64 (f u v)) H2) → callW P0 g (.int .i64 u :: .int .i64 v :: gk) K E H1

theorem Fun2.step {H H' : Hp} {g : Nat} {gk : List Value} {N : Int} {f : Int → Int → Int} (h : Fun2 E H g gk N f) (s : Step (fun _ => False) H H') : Fun2 E H' g gk N f :=
  ⟨h.1, fun u v H1 K u0 u1 v0 v1 s1 => h.2 u v H1 K u0 u1 v0 v1 (s.and s1)⟩

/-- duals, as they lie in memory, read only -/
structure DualR (H : Hp) (yp : Option Addr) (yn : Nat) (sp : Option Addr) (sn : Nat) (Y : Nat → Int) (z : Nat → Int) (sl : Nat → Sl) (nd : Nat → Nat → Int) : Prop where
  y : Rdr H yp yn Y
  s : Rdr H sp sn (fun i => (sl i, z i))
  nd : ∀ i, i < sn → Rdr H (sl i).p (sl i).n (nd i) ∧ (sl i).n < 2 ^ 63

theorem DualR.keep {H H' : Hp} {yp : Option Addr} {yn : Nat} {sp : Option Addr} {sn : Nat} {Y : Nat → Int} {z : Nat → Int} {sl : Nat → Sl} {nd : Nat → Nat → Int} (h : DualR H yp yn sp sn Y z sl nd) (s : Step (fun _ => False) H H') : DualR H' yp yn sp sn Y z sl nd :=
  ⟨h.y.keep s fun _ _ _ h => h, h.s.keep s fun _ _ _ h => h, fun i hi => ⟨(h.nd i hi).1.keep s fun _ _ _ h => h, (h.nd i hi).2⟩⟩

open Classical in
/-- which nodes are in which set, as it lies in memory -/
structure Ins (H1 H : Hp) (nb : Nat) (ip : Option Addr) (i ic N : Nat) (rows : Nat → Sl) (ln : Nat → Nat) (nd : Nat → Nat → Int) : Prop where
  cell : H nb = some ⟨[.slice ip i ic], 132⟩
  new : H1 nb = none
  row : Row H ip i ic rows
  rnew : ∀ y, fpS ip y → H1 y = none ∧ y ≠ nb
  each : ∀ j, j < i → (rows j).n = N ∧ Rdr H (rows j).p N (fun v => decide (In (nd j) (ln j) v)) ∧ ∀ y, fpS (rows j).p y → H1 y = none ∧ y ≠ nb ∧ ¬ fpS ip y

theorem Ins.keep {H1 H H' : Hp} {nb : Nat} {ip : Option Addr} {i ic N : Nat} {rows : Nat → Sl} {ln : Nat → Nat} {nd : Nat → Nat → Int} (h : Ins H1 H nb ip i ic N rows ln nd) (s : Step (fun _ => False) H H') : Ins H1 H' nb ip i ic N rows ln nd :=
  ⟨s.keep _ _ h.cell fun h => h, h.new, h.row.keep s fun _ _ h => h, h.rnew, fun j hj => ⟨(h.each j hj).1, (h.each j hj).2.1.keep s fun _ _ _ h => h, (h.each j hj).2.2⟩⟩

end
end Go.Mz

/-
  Walks of layer 12, more: Cheapest.
-/
namespace Go.Mz
section
variable {E : Value → Hp → Prop}

end
end Go.Mz

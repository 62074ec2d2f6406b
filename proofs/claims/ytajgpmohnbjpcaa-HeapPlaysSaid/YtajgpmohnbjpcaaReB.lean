/-
  The document's functions of layer 5, walked, more: New, Push, Lower, Pop, Key.
-/
import Derived.Test.YtajgpmohnbjpcaaReA
set_option linter.unusedSimpArgs false
set_option linter.unusedVariables false
namespace Go.Mz

section
variable {E : Value → Hp → Prop} {H : Hp} {kd last : Int} {n : Nat} {p : Option Addr} {c : Nat} {key : Nat → Int} {l : List Nat} {S : Nat → Bool}

theorem rnew5 {kind n : Int} {K : Int → Int → Option Addr → Nat → Nat → Int → Int → Hp → Prop} (bad : newC kind n ≠ 0 → ∀ H', Step (fun _ => False) H H' → K 0 0 none 0 0 0 (newC kind n) H') (ok : newC kind n = 0 → ∀ H', Step (fun _ => False) H H' → K kind n none 0 0 0 0 H') : compassref05_New.call kind n E H K := by
  refine compassref05_New.of (compassref05_New.run_eq ?_)
  unfold compassref05_New.run_t
  refine nwk fun b1 H1 hb1 e1 s1 => ?_
  have h50 : (kind < 1 ∨ 4 < kind) → compassref05_New.j1 b1 E H1 K := fun h => by
    have hc : newC kind n = 50 := if_pos h
    rw [hc] at bad
    refine compassref05_New.j1_eq ?_
    unfold compassref05_New.j1_t
    refine stk e1 rfl rfl fun H2 e2 s2 => ?_
    simp only [get_at e2, List.getElem?_cons_zero, List.getElem?_cons_succ, ldI_mk, ldS_mk]
    exact bad (by decide) H2 (s1.own s2 fun y hy => hy ▸ hb1)
  refine bc (fun h => h50 (.inl h)) fun h1 => ?_
  refine bc (fun h => h50 (.inr h)) fun h2 => ?_
  have h3' : (n < 0 ∨ 1024 < n) → compassref05_New.j2 b1 E H1 K := fun h => by
    have hc : newC kind n = 3 := by unfold newC; rw [if_neg (by omega), if_pos h]
    rw [hc] at bad
    refine compassref05_New.j2_eq ?_
    unfold compassref05_New.j2_t
    refine stk e1 rfl rfl fun H2 e2 s2 => ?_
    simp only [get_at e2, List.getElem?_cons_zero, List.getElem?_cons_succ, ldI_mk, ldS_mk]
    exact bad (by decide) H2 (s1.own s2 fun y hy => hy ▸ hb1)
  refine bc (fun h => h3' (.inl h)) fun h3 => ?_
  refine bc (fun h => h3' (.inr h)) fun h4 => ?_
  refine stk e1 rfl rfl fun H2 e2 s2 => ?_
  simp only [get_at e2, List.getElem?_cons_zero, List.getElem?_cons_succ, ldI_mk, ldS_mk]
  exact ok (by unfold newC; rw [if_neg (by omega), if_neg (by omega)]) H2 (s1.own s2 fun y hy => hy ▸ hb1)

theorem rkey5 {h : Int} {K : Int → Int → Hp → Prop} (hI : Itm H p c key l) (hl : l.length ≤ 1024) (hS : ∀ v, v ∈ l ↔ S v = true)
    (k : ∀ H', Step (fun _ => False) H H' → K (if keyC n S h = 0 then key h.toNat else 0) (keyC n S h) H') : compassref05_Key.call kd n p l.length c last h E H K := by
  refine compassref05_Key.of (compassref05_Key.run_eq ?_)
  unfold compassref05_Key.run_t
  refine nwk fun b1 H1 hb1 e1 s1 => ?_
  have h30 : (h < 0 ∨ (n : Int) ≤ h) → K 0 30 H1 := fun h' => by
    have hc : keyC n S h = 30 := if_pos h'
    rw [hc] at k; exact k H1 s1
  refine bc (fun h => h30 (.inl h)) fun h0 => ?_
  simp only [get_at e1, List.getElem?_cons_zero, List.getElem?_cons_succ, ldI_mk, ldS_mk]
  refine bc (fun h => h30 (.inr h)) fun h1 => ?_
  have ek : keyC n S h = if S h.toNat then 0 else 2 := if_neg (by omega)
  try simp only [get_at e1, List.getElem?_cons_zero, List.getElem?_cons_succ, ldI_mk, ldS_mk]
  refine rfind (hI.keep s1 fun _ _ h => h) hl (fun l1 v l2 hv hsp H2 s2 => ?_) fun hno H2 s2 => ?_
  · have e12 := s2.keep _ _ e1 fun h => h
    refine bc (fun h => by omega) fun _ => ?_
    simp only [get_at e12, List.getElem?_cons_zero, List.getElem?_cons_succ, ldI_mk, ldS_mk]
    have hlt : l1.length < l.length := by rw [hsp]; simp
    have I2 := hI.keep (s1.and s2) fun _ _ h => h
    refine I2.rdr.it1 (by omega) (by omega) ?_
    rw [itF_at (key := key) hlt]
    have ev : l[l1.length] = v := by
      have : l[l1.length]? = some v := by rw [hsp]; simp
      rw [List.getElem?_eq_getElem hlt] at this
      exact Option.some.inj this
    have hvn : h.toNat = v := by omega
    have hSv : S v = true := (hS v).1 (by rw [hsp]; simp)
    rw [hvn, hSv, if_pos rfl] at ek
    rw [ek, if_pos rfl, hvn] at k
    simp only [ev]
    exact k H2 (s1.and s2)
  · refine bc (fun _ => ?_) fun h => absurd (by decide) h
    have hSv : S h.toNat = false := by
      cases hh : S h.toNat with
      | false => rfl
      | true => exact absurd (show h = ((h.toNat : Nat) : Int) by omega) (hno _ ((hS _).2 hh))
    rw [hSv, if_neg (by decide)] at ek
    rw [ek, if_neg (by decide)] at k
    exact k H2 (s1.and s2)

theorem rpush5 {h x : Int} {K : Int → Int → Option Addr → Nat → Nat → Int → Int → Hp → Prop} (hI : Itm H p c key l) (hl : l.length ≤ 1024) (hS : ∀ v, v ∈ l ↔ S v = true)
    (bad : pushC n kd S last h x ≠ 0 → ∀ H', Step (fun _ => False) H H' → K kd n p l.length c last (pushC n kd S last h x) H')
    (ok : pushC n kd S last h x = 0 → h.toNat ∉ l → ∀ H' p' c', Step (fun _ => False) H H' → Itm H' p' c' (upf key h.toNat x) (l ++ [h.toNat]) → (∀ y, fpS p' y → H y = none) → K kd n p' (l ++ [h.toNat]).length c' last 0 H') : compassref05_Push.call kd n p l.length c last h x E H K := by
  refine compassref05_Push.of (compassref05_Push.run_eq ?_)
  unfold compassref05_Push.run_t
  refine nwk fun b1 H1 hb1 e1 s1 => ?_
  refine nwk fun b2 H2 hb2 e2 s2 => ?_
  have e12 := s2.keep _ _ e1 fun h => h
  have s02 := s1.and s2
  have fb2 : H b2 = none := s1.mono _ hb2
  -- what leaves the queue as it is
  have same : ∀ {H3 : Hp}, Step (fun _ => False) H2 H3 → ∀ {cd : Int}, pushC n kd S last h x = cd → cd ≠ 0 → stC H3 b2 0 [.int .i64 kd, .int .i64 (n : Int), .slice p l.length c, .int .i64 last] (fun H4 => ldI .i64 (H4.get b2 0) fun x1 => ldI .i64 (H4.get b2 1) fun x2 => ldS (H4.get b2 2) fun x3p x3n x3c => ldI .i64 (H4.get b2 3) fun x4 => K x1 x2 x3p x3n x3c x4 cd H4) := by
    intro H3 s3 cd hcd hne
    have e23 := s3.keep _ _ e2 fun h => h
    refine stk e23 rfl rfl fun H4 e4 s4 => ?_
    simp only [get_at e4, List.getElem?_cons_zero, List.getElem?_cons_succ, ldI_mk, ldS_mk]
    subst hcd
    exact bad hne H4 ((s02.and s3).own s4 fun y hy => hy ▸ fb2)
  have h30 : (h < 0 ∨ (n : Int) ≤ h) → compassref05_Push.j1 b1 b2 E H2 K := fun h' => by
    refine compassref05_Push.j1_eq ?_
    unfold compassref05_Push.j1_t
    simp only [get_at e12, List.getElem?_cons_zero, List.getElem?_cons_succ, ldI_mk, ldS_mk]
    exact same .refl (if_pos h') (by decide)
  refine bc (fun h => h30 (.inl h)) fun h0 => ?_
  simp only [get_at e12, List.getElem?_cons_zero, List.getElem?_cons_succ, ldI_mk, ldS_mk]
  refine bc (fun h => h30 (.inr h)) fun h1 => ?_
  have ek : pushC n kd S last h x = if S h.toNat then 51 else if kd = 4 ∧ x < last then 80 else 0 := if_neg (by omega)
  try simp only [get_at e12, List.getElem?_cons_zero, List.getElem?_cons_succ, ldI_mk, ldS_mk]
  refine rfind (hI.keep s02 fun _ _ h => h) hl (fun l1 v l2 hv hsp H3 s3 => ?_) fun hno H3 s3 => ?_
  · have e13 := s3.keep _ _ e12 fun h => h
    refine bc (fun _ => ?_) fun h => by omega
    simp only [get_at e13, List.getElem?_cons_zero, List.getElem?_cons_succ, ldI_mk, ldS_mk]
    have hvn : h.toNat = v := by omega
    have hSv : S v = true := (hS v).1 (by rw [hsp]; simp)
    rw [hvn, hSv, if_pos rfl] at ek
    exact same s3 ek (by decide)
  · have e13 := s3.keep _ _ e12 fun h => h
    refine bc (fun h => absurd h (by decide)) fun _ => ?_
    have hSv : S h.toNat = false := by
      cases hh : S h.toNat with
      | false => rfl
      | true => exact absurd (show h = ((h.toNat : Nat) : Int) by omega) (hno _ ((hS _).2 hh))
    rw [hSv, if_neg (by decide)] at ek
    simp only [get_at e13, List.getElem?_cons_zero, List.getElem?_cons_succ, ldI_mk, ldS_mk]
    have go : ¬ (kd = 4 ∧ x < last) → compassref05_Push.j2 h x b1 b2 E H3 K := fun hm => by
      rw [if_neg hm] at ek
      refine compassref05_Push.j2_eq ?_
      unfold compassref05_Push.j2_t
      simp only [get_at e13, List.getElem?_cons_zero, List.getElem?_cons_succ, ldI_mk, ldS_mk]
      have hnl : h.toNat ∉ l := fun hm => by rw [(hS _).1 hm] at hSv; cases hSv
      have hn' : h = ((h.toNat : Nat) : Int) := by omega
      have s03 := s02.and s3
      have I3 : Itm H3 p c (upf key h.toNat x) l := (hI.keep s03 fun _ _ h => h).congr fun i hi => itF_cg (fun v hv => (upf_ne (fun e => by subst e; exact hnl hv)).symm) i hi
      have hw := rwith (E := E) (kd := kd) (N := (n : Int)) (last := last) (v := h.toNat) I3 hl (K := fun a1 a2 a3 a4 a5 a6 H4 => stC H4 b2 0 [.int .i64 a1, .int .i64 a2, .slice a3 a4 a5, .int .i64 a6] fun H5 => ldI .i64 (H5.get b2 0) fun x1 => ldI .i64 (H5.get b2 1) fun x2 => ldS (H5.get b2 2) fun x3p x3n x3c => ldI .i64 (H5.get b2 3) fun x4 => K x1 x2 x3p x3n x3c x4 0 H5) fun H4 p' c' s4 I4 f4 => by
        have e24 := (s3.and s4).keep _ _ e2 fun h => h
        refine stk e24 rfl rfl fun H5 e5 s5 => ?_
        simp only [get_at e5, List.getElem?_cons_zero, List.getElem?_cons_succ, ldI_mk, ldS_mk]
        have n2 : ¬ fpS p' b2 := fun hh => by have := f4 _ hh; rw [s3.keep _ _ e2 fun h => h] at this; cases this
        exact ok ek hnl H5 p' c' ((s03.and s4).own s5 fun y hy => hy ▸ fb2) (I4.keep s5 fun y hy hh => n2 (hh ▸ hy)) fun y hy => s03.mono y (f4 y hy)
      rw [upf_same, ← hn'] at hw
      exact hw
    refine bc (fun h4 => ?_) fun h4 => go fun hh => h4 hh.1
    try simp only [get_at e13, List.getElem?_cons_zero, List.getElem?_cons_succ, ldI_mk, ldS_mk]
    refine bc (fun hlow => ?_) fun hnl => go fun hh => hnl hh.2
    try simp only [get_at e13, List.getElem?_cons_zero, List.getElem?_cons_succ, ldI_mk, ldS_mk]
    rw [if_pos ⟨h4, hlow⟩] at ek
    exact same s3 ek (by decide)

theorem rlower5 {h x : Int} {K : Int → Int → Option Addr → Nat → Nat → Int → Int → Hp → Prop} (hI : Itm H p c key l) (hl : l.length ≤ 1024) (hnd : l.Nodup) (hS : ∀ v, v ∈ l ↔ S v = true)
    (bad : lowerC n kd key S last h x ≠ 0 → ∀ H', Step (fun _ => False) H H' → K kd n p l.length c last (lowerC n kd key S last h x) H')
    (ok : lowerC n kd key S last h x = 0 → ∀ l1 l2 H' p' c', l = l1 ++ h.toNat :: l2 → Step (fun _ => False) H H' → Itm H' p' c' (upf key h.toNat x) ((l1 ++ l2) ++ [h.toNat]) → (∀ y, fpS p' y → H y = none) → K kd n p' ((l1 ++ l2) ++ [h.toNat]).length c' last 0 H') : compassref05_Lower.call kd n p l.length c last h x E H K := by
  refine compassref05_Lower.of (compassref05_Lower.run_eq ?_)
  unfold compassref05_Lower.run_t
  refine nwk fun b1 H1 hb1 e1 s1 => ?_
  refine nwk fun b2 H2 hb2 e2 s2 => ?_
  have e12 := s2.keep _ _ e1 fun h => h
  have s02 := s1.and s2
  have fb2 : H b2 = none := s1.mono _ hb2
  have same : ∀ {H3 : Hp}, Step (fun _ => False) H2 H3 → ∀ {cd : Int}, lowerC n kd key S last h x = cd → cd ≠ 0 → stC H3 b2 0 [.int .i64 kd, .int .i64 (n : Int), .slice p l.length c, .int .i64 last] (fun H4 => ldI .i64 (H4.get b2 0) fun x1 => ldI .i64 (H4.get b2 1) fun x2 => ldS (H4.get b2 2) fun x3p x3n x3c => ldI .i64 (H4.get b2 3) fun x4 => K x1 x2 x3p x3n x3c x4 cd H4) := by
    intro H3 s3 cd hcd hne
    have e23 := s3.keep _ _ e2 fun h => h
    refine stk e23 rfl rfl fun H4 e4 s4 => ?_
    simp only [get_at e4, List.getElem?_cons_zero, List.getElem?_cons_succ, ldI_mk, ldS_mk]
    subst hcd
    exact bad hne H4 ((s02.and s3).own s4 fun y hy => hy ▸ fb2)
  have h30 : (h < 0 ∨ (n : Int) ≤ h) → compassref05_Lower.j1 b1 b2 E H2 K := fun h' => by
    refine compassref05_Lower.j1_eq ?_
    unfold compassref05_Lower.j1_t
    simp only [get_at e12, List.getElem?_cons_zero, List.getElem?_cons_succ, ldI_mk, ldS_mk]
    exact same .refl (if_pos h') (by decide)
  refine bc (fun h => h30 (.inl h)) fun h0 => ?_
  simp only [get_at e12, List.getElem?_cons_zero, List.getElem?_cons_succ, ldI_mk, ldS_mk]
  refine bc (fun h => h30 (.inr h)) fun h1 => ?_
  have ek : lowerC n kd key S last h x = if S h.toNat = false then 2 else if key h.toNat < x then 52 else if kd = 4 ∧ x < last then 80 else 0 := if_neg (by omega)
  try simp only [get_at e12, List.getElem?_cons_zero, List.getElem?_cons_succ, ldI_mk, ldS_mk]
  refine rfind (hI.keep s02 fun _ _ h => h) hl (fun l1 v l2 hv hsp H3 s3 => ?_) fun hno H3 s3 => ?_
  · have e13 := s3.keep _ _ e12 fun h => h
    have s03 := s02.and s3
    refine bc (fun h => by omega) fun _ => ?_
    simp only [get_at e13, List.getElem?_cons_zero, List.getElem?_cons_succ, ldI_mk, ldS_mk]
    have hvn : h.toNat = v := by omega
    have hSv : S v = true := (hS v).1 (by rw [hsp]; simp)
    rw [hvn, hSv, if_neg (by decide)] at ek
    rw [hvn] at ok
    have hlt : l1.length < l.length := by rw [hsp]; simp
    have I3 := hI.keep s03 fun _ _ h => h
    refine I3.rdr.it1 (by omega) (by omega) ?_
    rw [itF_at (key := key) hlt]
    have ev : l[l1.length] = v := by
      have : l[l1.length]? = some v := by rw [hsp]; simp
      rw [List.getElem?_eq_getElem hlt] at this
      exact Option.some.inj this
    simp only [ev]
    refine bc (fun hr => ?_) fun hr => ?_
    · rw [if_pos hr] at ek
      try simp only [get_at e13, List.getElem?_cons_zero, List.getElem?_cons_succ, ldI_mk, ldS_mk]
      exact same s3 ek (by decide)
    · rw [if_neg hr] at ek
      have go : ¬ (kd = 4 ∧ x < last) → compassref05_Lower.j2 h x b1 b2 l1.length E H3 K := fun hm => by
        rw [if_neg hm] at ek
        refine compassref05_Lower.j2_eq ?_
        unfold compassref05_Lower.j2_t
        simp only [get_at e13, List.getElem?_cons_zero, List.getElem?_cons_succ, ldI_mk, ldS_mk]
        refine rwithout I3 hl hsp fun H4 p4 c4 s4 I4 f4 => ?_
        have hlen : l.length = l1.length + 1 + l2.length := by rw [hsp]; simp; omega
        have hvn2 : v ∉ l1 ++ l2 := by
          rw [hsp] at hnd
          exact (List.nodup_cons.1 ((List.perm_middle.nodup_iff).1 hnd)).1
        have I4' : Itm H4 p4 c4 (upf key v x) (l1 ++ l2) := I4.congr fun i hi => itF_cg (fun u hu => (upf_ne (fun e => by subst e; exact hvn2 hu)).symm) i hi
        have hw := rwith (E := E) (kd := kd) (N := (n : Int)) (last := last) (v := v) I4' (by simp; omega) (K := fun a1 a2 a3 a4 a5 a6 H5 => stC H5 b2 0 [.int .i64 a1, .int .i64 a2, .slice a3 a4 a5, .int .i64 a6] fun H6 => ldI .i64 (H6.get b2 0) fun x1 => ldI .i64 (H6.get b2 1) fun x2 => ldS (H6.get b2 2) fun x3p x3n x3c => ldI .i64 (H6.get b2 3) fun x4 => K x1 x2 x3p x3n x3c x4 0 H6) fun H5 p' c' s5 I5 f5 => by
          have e25 := (s3.and (s4.and s5)).keep _ _ e2 fun h => h
          refine stk e25 rfl rfl fun H6 e6 s6 => ?_
          simp only [get_at e6, List.getElem?_cons_zero, List.getElem?_cons_succ, ldI_mk, ldS_mk]
          have n2 : ¬ fpS p' b2 := fun hh => by have := f5 _ hh; rw [(s3.and s4).keep _ _ e2 fun h => h] at this; cases this
          exact ok ek l1 l2 H6 p' c' hsp ((s03.and (s4.and s5)).own s6 fun y hy => hy ▸ fb2) (I5.keep s6 fun y hy hh => n2 (hh ▸ hy)) fun y hy => s03.mono y (s4.mono y (f5 y hy))
        rw [upf_same, ← hv] at hw
        exact hw
      refine bc (fun h4 => ?_) fun h4 => go fun hh => h4 hh.1
      try simp only [get_at e13, List.getElem?_cons_zero, List.getElem?_cons_succ, ldI_mk, ldS_mk]
      refine bc (fun hlow => ?_) fun hnl => go fun hh => hnl hh.2
      try simp only [get_at e13, List.getElem?_cons_zero, List.getElem?_cons_succ, ldI_mk, ldS_mk]
      rw [if_pos ⟨h4, hlow⟩] at ek
      exact same s3 ek (by decide)
  · have e13 := s3.keep _ _ e12 fun h => h
    refine bc (fun _ => ?_) fun h => absurd (by decide) h
    have hSv : S h.toNat = false := by
      cases hh : S h.toNat with
      | false => rfl
      | true => exact absurd (show h = ((h.toNat : Nat) : Int) by omega) (hno _ ((hS _).2 hh))
    rw [hSv, if_pos rfl] at ek
    simp only [get_at e13, List.getElem?_cons_zero, List.getElem?_cons_succ, ldI_mk, ldS_mk]
    exact same s3 ek (by decide)

theorem rpop5 {K : Int → Int → Option Addr → Nat → Nat → Int → Int → Int → Int → Hp → Prop} (hI : Itm H p c key l) (hl : l.length ≤ 1024)
    (k0 : l = [] → ∀ H', Step (fun _ => False) H H' → K kd n p l.length c last 0 0 4 H')
    (k : ∀ (w : Nat) l1 l2 H' p' c', l = l1 ++ w :: l2 → (∀ u ∈ l, ¬ lk key u w) → Step (fun _ => False) H H' → Itm H' p' c' key (l1 ++ l2) → (∀ y, fpS p' y → H y = none) → K kd n p' (l1 ++ l2).length c' (key w) (w : Nat) (key w) 0 H') : compassref05_Pop.call kd n p l.length c last E H K := by
  refine compassref05_Pop.of (compassref05_Pop.run_eq ?_)
  unfold compassref05_Pop.run_t
  refine nwk fun b1 H1 hb1 e1 s1 => ?_
  refine nwk fun b2 H2 hb2 e2 s2 => ?_
  refine nwk fun b3 H3 hb3 e3 s3 => ?_
  have e13 := (s2.and s3).keep _ _ e1 fun h => h
  have e23 := s3.keep _ _ e2 fun h => h
  have s03 := (s1.and s2).and s3
  have fb1 := hb1
  have fb2 : H b2 = none := s1.mono _ hb2
  have fb3 : H b3 = none := (s1.and s2).mono _ hb3
  have d12 : b2 ≠ b1 := fun h => by rw [h, e1] at hb2; cases hb2
  have d13 : b3 ≠ b1 := fun h => by rw [h, s2.keep _ _ e1 fun h => h] at hb3; cases hb3
  have d23 : b3 ≠ b2 := fun h => by rw [h, e2] at hb3; cases hb3
  simp only [get_at e13, List.getElem?_cons_zero, List.getElem?_cons_succ, ldI_mk, ldS_mk]
  refine rtop5 (hI.keep s03 fun _ _ h => h) hl (fun hnil H4 s4 => ?_) fun w hw hleast H4 s4 => ?_
  · refine nwst rfl rfl fun b4 H6 hb4 e4 s6 => ?_
    have s46 := s4.and s6
    have e16 := s46.keep _ _ e13 fun h => h
    have e26 := s46.keep _ _ e23 fun h => h
    have e36 := s46.keep _ _ e3 fun h => h
    have d42 : b2 ≠ b4 := fun h => by rw [← h, s4.keep _ _ e23 fun h => h] at hb4; cases hb4
    have d43 : b3 ≠ b4 := fun h => by rw [← h, s4.keep _ _ e3 fun h => h] at hb4; cases hb4
    refine bcn (fun _ => ?_) fun h => absurd h (by decide)
    simp only [get_at e16, get_at e4, List.getElem?_cons_zero, List.getElem?_cons_succ, ldI_mk, ldS_mk]
    refine stk e26 rfl rfl fun H7 e27 s7 => ?_
    have e47 := s7.keep _ _ e4 fun h => d42 h.symm
    have e37 := s7.keep _ _ e36 d23
    simp only [get_at e47, List.getElem?_cons_zero, List.getElem?_cons_succ, ldI_mk, ldS_mk]
    refine ⟨trivial, ?_⟩
    refine stk e37 rfl rfl fun H8 e38 s8 => ?_
    have e28 := s8.keep _ _ e27 fun h => d23 h.symm
    simp only [get_at e28, get_at e38, List.getElem?_cons_zero, List.getElem?_cons_succ, ldI_mk, ldS_mk]
    exact k0 hnil H8 (((s03.and s46).own s7 fun y hy => hy ▸ fb2).own s8 fun y hy => hy ▸ fb3)
  · refine nwst rfl rfl fun b4 H6 hb4 e4 s6 => ?_
    have s46 := s4.and s6
    have e16 := s46.keep _ _ e13 fun h => h
    have e26 := s46.keep _ _ e23 fun h => h
    have e36 := s46.keep _ _ e3 fun h => h
    have s06 := s03.and s46
    have d41 : b1 ≠ b4 := fun h => by rw [← h, s4.keep _ _ e13 fun h => h] at hb4; cases hb4
    have d42 : b2 ≠ b4 := fun h => by rw [← h, s4.keep _ _ e23 fun h => h] at hb4; cases hb4
    have d43 : b3 ≠ b4 := fun h => by rw [← h, s4.keep _ _ e3 fun h => h] at hb4; cases hb4
    refine bcn (fun h => (h rfl).elim) fun _ => ?_
    simp only [get_at e16, get_at e4, List.getElem?_cons_zero, List.getElem?_cons_succ, ldI_mk, ldS_mk]
    refine rfind (hI.keep s06 fun _ _ h => h) hl (fun l1 v l2 hv hsp H9 s9 => ?_) fun hno => (hno w hw rfl).elim
    have evw : v = w := by omega
    subst evw
    have e19 := s9.keep _ _ e16 fun h => h
    have e29 := s9.keep _ _ e26 fun h => h
    have e39 := s9.keep _ _ e36 fun h => h
    have e49 := s9.keep _ _ e4 fun h => h
    have s09 := s06.and s9
    simp only [get_at e19, List.getElem?_cons_zero, List.getElem?_cons_succ, ldI_mk, ldS_mk]
    refine ⟨trivial, ?_⟩
    refine rwithout (hI.keep s09 fun _ _ h => h) hl hsp fun H10 p' c' s10 I10 f10 => ?_
    have e1a := s10.keep _ _ e19 fun h => h
    have e2a := s10.keep _ _ e29 fun h => h
    have e3a := s10.keep _ _ e39 fun h => h
    have e4a := s10.keep _ _ e49 fun h => h
    have nf : ∀ {b : Nat} {x : Blk}, H9 b = some x → ¬ fpS p' b := fun hx hh => by have := f10 _ hh; rw [hx] at this; cases this
    refine stk e1a rfl rfl fun H11 e1b s11 => ?_
    have e4b := s11.keep _ _ e4a fun h => d41 h.symm
    simp only [get_at e4b, List.getElem?_cons_zero, List.getElem?_cons_succ, ldI_mk, ldS_mk]
    refine stp e1b (by simp) rfl fun H12 e1c s12 => ?_
    replace e1c : H12 b1 = some ⟨[.int .i64 kd, .int .i64 (n : Int), .slice p' (l1 ++ l2).length c', .int .i64 (key v)], 40⟩ := e1c
    have e4c := s12.keep _ _ e4b fun h => d41 h.symm
    have e2c := s12.keep _ _ (s11.keep _ _ e2a fun h => d12 h) fun h => d12 h
    have e3c := s12.keep _ _ (s11.keep _ _ e3a fun h => d13 h) fun h => d13 h
    simp only [get_at e1c, get_at e4c, List.getElem?_cons_zero, List.getElem?_cons_succ, ldI_mk, ldS_mk]
    refine stk e2c rfl rfl fun H13 e2d s13 => ?_
    have e4d := s13.keep _ _ e4c fun h => d42 h.symm
    have e3d := s13.keep _ _ e3c d23
    simp only [get_at e4d, List.getElem?_cons_zero, List.getElem?_cons_succ, ldI_mk, ldS_mk]
    refine ⟨trivial, ?_⟩
    refine stk e3d rfl rfl fun H14 e3e s14 => ?_
    have e2e := s14.keep _ _ e2d fun h => d23 h.symm
    simp only [get_at e2e, get_at e3e, List.getElem?_cons_zero, List.getElem?_cons_succ, ldI_mk, ldS_mk]
    refine k v l1 l2 H14 p' c' hsp hleast (((((s09.and s10).own s11 fun y hy => hy ▸ fb1).own s12 fun y hy => hy ▸ fb1).own s13 fun y hy => hy ▸ fb2).own s14 fun y hy => hy ▸ fb3) ?_ fun y hy => s09.mono y (f10 y hy)
    exact (((I10.keep s11 fun y hy h => nf e19 (h ▸ hy)).keep s12 fun y hy h => nf e19 (h ▸ hy)).keep s13 fun y hy h => nf e29 (h ▸ hy)).keep s14 fun y hy h => nf e39 (h ▸ hy)
end
end Go.Mz

/-
  Joined: PaP, PaQ, PaW, PaX, PaY, PaZ, PaE, HpN.
-/
import Derived.Test.YtajgpmohnbjpcaaPkH
import Derived.Test.YtajgpmohnbjpcaaGPai
set_option linter.unusedSimpArgs false
set_option linter.unusedVariables false
/-
  Plain law: trees of a pairing heap, as links and as lists. No program in sight.
-/
namespace Go.Mz

/-- a chain of siblings: what leads to it, from which place -/
def Sg (nx pv : Nat → Int) : Int → Int → List Nat → Prop
  | _, x, [] => x = 0
  | p, x, w :: l => x = (w : Int) + 1 ∧ pv w = p ∧ Sg nx pv ((w : Int) + 1) (nx w) l

theorem Sg.cg {nx pv nx' pv' : Nat → Int} : ∀ {l : List Nat} {p x : Int}, (∀ w ∈ l, nx w = nx' w ∧ pv w = pv' w) → Sg nx pv p x l → Sg nx' pv' p x l
  | [], _, _, _, h => h
  | w :: l, p, x, hc, ⟨h1, h2, h3⟩ => ⟨h1, by rw [← (hc w (by simp)).2]; exact h2, by rw [← (hc w (by simp)).1]; exact Sg.cg (fun y hy => hc y (by simp [hy])) h3⟩

/-- what goes back, if b comes first -/
def pvPush (pv : Nat → Int) (b : Nat) (p : Int) : List Nat → Nat → Int
  | [] => upf pv b p
  | w :: _ => upf (upf pv b p) w ((b : Int) + 1)

/-- another comes first -/
theorem Sg.push {nx pv : Nat → Int} {l : List Nat} {p x : Int} {b : Nat} (h : Sg nx pv p x l) (hb : b ∉ l) (hn : l.Nodup) :
    Sg (upf nx b x) (pvPush pv b p l) p ((b : Int) + 1) (b :: l) := by
  cases l with
  | nil => exact ⟨rfl, upf_same, by rw [upf_same]; exact h⟩
  | cons w l =>
    have hbw : b ≠ w := fun e => hb (by simp [e])
    have hw : w ∉ l := (List.nodup_cons.1 hn).1
    refine ⟨rfl, by show upf (upf pv b p) w _ b = p; rw [upf_ne hbw, upf_same], ?_⟩
    rw [upf_same]
    refine ⟨h.1, upf_same, ?_⟩
    show Sg _ (upf (upf pv b p) w ((b : Int) + 1)) _ _ _
    rw [upf_ne (fun e => hbw e.symm)]
    refine h.2.2.cg fun y hy => ?_
    have y1 : y ≠ w := fun e => hw (e ▸ hy)
    have y2 : y ≠ b := fun e => hb (by simp [← e, hy])
    rw [upf_ne y2, upf_ne y1, upf_ne y2]
    exact ⟨rfl, rfl⟩

/-- where one stands, and the chain without it -/
theorem Sg.cut {nx pv : Nat → Int} {h : Nat} {l2 : List Nat} : ∀ {l1 : List Nat} {p x : Int}, Sg nx pv p x (l1 ++ h :: l2) → (l1 ++ h :: l2).Nodup →
    (∀ (pv' : Nat → Int), (∀ y, y ∉ l2.head? → pv' y = pv y) → (∀ y ∈ l2.head?, pv' y = pv h) →
      (l1 = [] → x = (h : Int) + 1 ∧ pv h = p ∧ Sg nx pv' p (nx h) l2) ∧
      (∀ (d : Nat) (l0 : List Nat), l1 = l0 ++ [d] → pv h = (d : Int) + 1 ∧ nx d = (h : Int) + 1 ∧ Sg (upf nx d (nx h)) pv' p x (l0 ++ d :: l2)))
  | [], p, x, hs, hn => fun pv' h1 h2 => ⟨fun _ => by
      refine ⟨hs.1, hs.2.1, ?_⟩
      have h3 := hs.2.2
      cases l2 with
      | nil => exact h3
      | cons w l =>
        refine ⟨h3.1, by rw [h2 w (by simp)]; exact hs.2.1, h3.2.2.cg fun y hy => ⟨rfl, ?_⟩⟩
        have hwl : w ∉ l := by
          have := (List.nodup_cons.1 hn).2
          exact (List.nodup_cons.1 this).1
        exact (h1 y (by simp; exact fun e => hwl (e ▸ hy))).symm, fun d l0 e => by simp at e⟩
  | a :: l1, p, x, hs, hn => fun pv' h1 h2 => ⟨fun e => by simp at e, fun d l0 e => by
      obtain ⟨q1, q2, q3⟩ := hs
      have hn' := List.nodup_cons.1 hn
      have ah : a ≠ h := fun e => hn'.1 (by simp [e])
      have al2 : a ∉ l2 := fun e => hn'.1 (by simp [e])
      have apv : pv' a = pv a := h1 a fun e => al2 (by cases l2 with | nil => simp at e | cons w l => simp at e; simp [e])
      cases l1 with
      | nil =>
        have ed : d = a ∧ l0 = [] := by
          cases l0 with
          | nil => simp at e; exact ⟨e.symm, rfl⟩
          | cons b l => simp at e
        obtain ⟨rfl, rfl⟩ := ed
        obtain ⟨r1, r2, r3⟩ := (Sg.cut (l1 := []) q3 hn'.2 pv' h1 h2).1 rfl
        refine ⟨r2, r1, q1, by rw [apv]; exact q2, ?_⟩
        rw [upf_same]
        refine r3.cg fun y hy => ?_
        rw [upf_ne (fun e => al2 (by rw [← e]; exact hy))]
        exact ⟨rfl, rfl⟩
      | cons b l1 =>
        obtain ⟨l0', rfl, e'⟩ : ∃ l0', l0 = a :: l0' ∧ b :: l1 = l0' ++ [d] := by
          cases l0 with
          | nil => simp at e
          | cons c l => simp at e; exact ⟨l, by rw [e.1], by simpa using e.2⟩
        obtain ⟨r1, r2, r3⟩ := (Sg.cut (l1 := b :: l1) q3 hn'.2 pv' h1 h2).2 d l0' e'
        have ad : a ≠ d := fun e2 => hn'.1 (by
          have : d ∈ b :: l1 := by rw [e']; simp
          rw [e2]
          exact List.mem_append_left _ this)
        exact ⟨r1, r2, q1, by rw [apv]; exact q2, by rw [upf_ne ad]; exact r3⟩⟩
end Go.Mz

/-
  Plain law: the trees of a pairing heap: two are made one, one is cut off, the root is taken. No program in sight.
-/
namespace Go.Mz

theorem least_ex {key : Nat → Int} {S : Nat → Prop} {n : Nat} (hS : ∀ v, S v → v < n) (h : ∃ v, S v) : ∃ m, S m ∧ ∀ v, S v → ¬ lk key v m := by
  classical
  have key' : ∀ k, (∃ v, v < k ∧ S v) → ∃ m, S m ∧ ∀ v, v < k → S v → ¬ lk key v m := by
    intro k
    induction k with
    | zero => rintro ⟨v, hv, _⟩; omega
    | succ k ih =>
      rintro ⟨v, hv, hs⟩
      by_cases h1 : ∃ v, v < k ∧ S v
      · obtain ⟨m, h2, h3⟩ := ih h1
        by_cases hk : S k ∧ lk key k m
        · refine ⟨k, hk.1, fun w hw hsw => ?_⟩
          by_cases e : w = k
          · subst e; exact nlk_self
          · exact fun hl => h3 w (by omega) hsw (hl.trans hk.2)
        · refine ⟨m, h2, fun w hw hsw => ?_⟩
          by_cases e : w = k
          · subst e; exact fun hl => hk ⟨hsw, hl⟩
          · exact h3 w (by omega) hsw
      · have e : v = k := by
          by_cases e : v = k
          · exact e
          · exact (h1 ⟨v, by omega, hs⟩).elim
        subst e
        refine ⟨v, hs, fun w hw hsw => ?_⟩
        by_cases e : w = v
        · subst e; exact nlk_self
        · exact (h1 ⟨w, by omega, hsw⟩).elim
  obtain ⟨v, hv⟩ := h
  obtain ⟨m, h1, h2⟩ := key' n ⟨v, hS v hv, hv⟩
  exact ⟨m, h1, fun w hw => h2 w (hS w hw) hw⟩

structure Fo (key : Nat → Int) (c nx pv : Nat → Int) (L : Nat → List Nat) (S : Nat → Prop) (R : List Nat) : Prop where
  sg : ∀ v, S v → Sg nx pv ((v : Int) + 1) (c v) (L v)
  nd : ∀ v, S v → (L v).Nodup
  rn : R.Nodup
  rs : ∀ r ∈ R, S r ∧ nx r = 0 ∧ pv r = 0
  ls : ∀ u, S u → ∀ v ∈ L u, S v ∧ lk key u v ∧ v ∉ R
  un : ∀ u u' v, S u → S u' → v ∈ L u → v ∈ L u' → u = u'
  al : ∀ v, S v → v ∈ R ∨ ∃ u, S u ∧ v ∈ L u

section
variable {key : Nat → Int} {c nx pv : Nat → Int} {L : Nat → List Nat} {S : Nat → Prop} {R : List Nat}

theorem Fo.least {r n : Nat} (h : Fo key c nx pv L S [r]) (hS : ∀ v, S v → v < n) : ∀ v, S v → ¬ lk key v r := by
  obtain ⟨m, h1, h2⟩ := least_ex (key := key) hS ⟨r, (h.rs r (by simp)).1⟩
  have : m = r := by
    rcases h.al m h1 with h3 | ⟨u, hu, hm⟩
    · simpa using h3
    · exact (h2 u hu (h.ls u hu m hm).2.1).elim
  subst this
  exact h2

theorem pvPush_ne {b y : Nat} {p : Int} {l : List Nat} (h1 : y ≠ b) (h2 : y ∉ l) : pvPush pv b p l y = pv y := by
  cases l with
  | nil => exact upf_ne h1
  | cons w l =>
    show upf (upf pv b p) w _ y = _
    rw [upf_ne (fun e => h2 (by simp [e])), upf_ne h1]

/-- b becomes a child of a -/
theorem Fo.meld {a b : Nat} {R' : List Nat} (h : Fo key c nx pv L S R) (ha : a ∈ R) (hb : b ∈ R) (hab : a ≠ b) (hl : lk key a b) (hn : R'.Nodup) (hR : ∀ v, v ∈ R' ↔ v ∈ R ∧ v ≠ b) :
    Fo key (upf c a ((b : Int) + 1)) (upf nx b (c a)) (pvPush pv b ((a : Int) + 1) (L a)) (upf L a (b :: L a)) S R' := by
  have Sa := (h.rs a ha).1
  have Sb := (h.rs b hb).1
  have bn : ∀ u, S u → b ∉ L u := fun u hu hm => (h.ls u hu b hm).2.2 hb
  have an : ∀ u, S u → a ∉ L u := fun u hu hm => (h.ls u hu a hm).2.2 ha
  refine ⟨fun v hv => ?_, fun v hv => ?_, hn, fun r hr => ?_, fun u hu v hv => ?_, fun u u' v hu hu' h1 h2 => ?_, fun v hv => ?_⟩
  · by_cases e : v = a
    · subst e
      rw [upf_same, upf_same]
      exact (h.sg v hv).push (bn v hv) (h.nd v hv)
    · rw [upf_ne e, upf_ne e]
      refine (h.sg v hv).cg fun w hw => ⟨?_, ?_⟩
      · rw [upf_ne (fun e' : w = b => bn v hv (e' ▸ hw))]
      · rw [pvPush_ne (fun e' : w = b => bn v hv (e' ▸ hw)) fun hw' => e (h.un v a w hv Sa hw hw')]
  · by_cases e : v = a
    · subst e; rw [upf_same]; exact List.nodup_cons.2 ⟨bn v hv, h.nd v hv⟩
    · rw [upf_ne e]; exact h.nd v hv
  · obtain ⟨h1, h2⟩ := (hR r).1 hr
    obtain ⟨q1, q2, q3⟩ := h.rs r h1
    refine ⟨q1, by rw [upf_ne h2]; exact q2, by rw [pvPush_ne h2 fun hm => (h.ls a Sa r hm).2.2 h1]; exact q3⟩
  · by_cases e : u = a
    · subst e
      rw [upf_same] at hv
      rcases List.mem_cons.1 hv with rfl | hv
      · exact ⟨Sb, hl, fun hm => ((hR v).1 hm).2 rfl⟩
      · obtain ⟨q1, q2, q3⟩ := h.ls u hu v hv
        exact ⟨q1, q2, fun hm => q3 ((hR v).1 hm).1⟩
    · rw [upf_ne e] at hv
      obtain ⟨q1, q2, q3⟩ := h.ls u hu v hv
      exact ⟨q1, q2, fun hm => q3 ((hR v).1 hm).1⟩
  · have key : ∀ u u', S u → S u' → v ∈ upf L a (b :: L a) u → v ∈ upf L a (b :: L a) u' → u = a → u = u' := fun u1 u2 hu1 hu2 h3 h4 e => by
      by_cases e' : u2 = a
      · rw [e, e']
      · rw [e, upf_same] at h3
        rw [upf_ne e'] at h4
        rcases List.mem_cons.1 h3 with h3 | h3
        · exact (bn u2 hu2 (h3 ▸ h4)).elim
        · rw [e]; exact h.un a u2 v Sa hu2 h3 h4
    by_cases e : u = a
    · exact key u u' hu hu' h1 h2 e
    · by_cases e' : u' = a
      · exact (key u' u hu' hu h2 h1 e').symm
      · rw [upf_ne e] at h1
        rw [upf_ne e'] at h2
        exact h.un u u' v hu hu' h1 h2
  · by_cases e : v = b
    · subst e; exact .inr ⟨a, Sa, by rw [upf_same]; simp⟩
    · rcases h.al v hv with h1 | ⟨u, hu, hm⟩
      · exact .inl ((hR v).2 ⟨h1, e⟩)
      · refine .inr ⟨u, hu, ?_⟩
        by_cases e' : u = a
        · subst e'; rw [upf_same]; exact List.mem_cons_of_mem _ hm
        · rw [upf_ne e']; exact hm

/-- one is cut off, whose key is less now -/
theorem Fo.cut {h u : Nat} {x : Int} {l1 l2 : List Nat} {c' nx' pv' : Nat → Int} (hf : Fo key c nx pv L S R) (hu : S u) (hL : L u = l1 ++ h :: l2) (hx : x ≤ key h)
    (hc : ∀ v, v ≠ u → c' v = c v) (hs : Sg nx' pv' ((u : Int) + 1) (c' u) (l1 ++ l2)) (hk : ∀ y, y ≠ h → y ∉ l1 ++ l2 → nx' y = nx y ∧ pv' y = pv y) (h0 : nx' h = 0 ∧ pv' h = 0) :
    Fo (upf key h x) c' nx' pv' (upf L u (l1 ++ l2)) S (R ++ [h]) := by
  have hh : h ∈ L u := by rw [hL]; simp
  obtain ⟨Sh, hlk, hR⟩ := hf.ls u hu h hh
  have hnd := hf.nd u hu
  rw [hL] at hnd
  have hsub : ∀ w, w ∈ l1 ++ l2 → w ∈ L u ∧ w ≠ h := fun w hw => by
    have h1 : w ∈ l1 ++ h :: l2 := by
      rcases List.mem_append.1 hw with q | q
      · exact List.mem_append_left _ q
      · exact List.mem_append_right _ (List.mem_cons_of_mem _ q)
    refine ⟨by rw [hL]; exact h1, fun e => ?_⟩
    subst e
    rw [List.nodup_append] at hnd
    rcases List.mem_append.1 hw with q | q
    · exact hnd.2.2 w q w (by simp) rfl
    · exact (List.nodup_cons.1 hnd.2.1).1 q
  have hmem : ∀ v w, S v → (w ∈ upf L u (l1 ++ l2) v ↔ w ∈ L v ∧ w ≠ h) := fun v w hv => by
    by_cases e : v = u
    · subst e
      rw [upf_same]
      refine ⟨hsub w, fun ⟨q1, q2⟩ => ?_⟩
      rw [hL] at q1
      rcases List.mem_append.1 q1 with q | q
      · exact List.mem_append_left _ q
      · rcases List.mem_cons.1 q with rfl | q
        · exact (q2 rfl).elim
        · exact List.mem_append_right _ q
    · rw [upf_ne e]
      exact ⟨fun q => ⟨q, fun e' => e (hf.un v u h hv hu (e' ▸ q) hh)⟩, fun q => q.1⟩
  have lkd : ∀ a b, b ≠ h → lk key a b → lk (upf key h x) a b := fun a b hb hl => by
    unfold lk at *
    rw [upf_ne hb]
    by_cases ha : a = h
    · subst ha; rw [upf_same]; omega
    · rw [upf_ne ha]; exact hl
  refine ⟨fun v hv => ?_, fun v hv => ?_, ?_, fun r hr => ?_, fun v hv w hw => ?_, fun a a' v ha ha' h1 h2 => ?_, fun v hv => ?_⟩
  · by_cases e : v = u
    · subst e; rw [upf_same]; exact hs
    · rw [upf_ne e, hc v e]
      refine (hf.sg v hv).cg fun w hw => ?_
      have := hk w (fun e' => e (hf.un v u h hv hu (e' ▸ hw) hh)) fun q => e (hf.un v u w hv hu hw (hsub w q).1)
      exact ⟨this.1.symm, this.2.symm⟩
  · by_cases e : v = u
    · subst e
      rw [upf_same]
      rw [List.nodup_append] at hnd ⊢
      exact ⟨hnd.1, (List.nodup_cons.1 hnd.2.1).2, fun a ha b hb => hnd.2.2 a ha b (by simp [hb])⟩
    · rw [upf_ne e]; exact hf.nd v hv
  · rw [List.nodup_append]
    exact ⟨hf.rn, by simp, fun a ha b hb e => by simp at hb; subst hb; subst e; exact hR ha⟩
  · rcases List.mem_append.1 hr with q | q
    · obtain ⟨q1, q2, q3⟩ := hf.rs r q
      have := hk r (fun e => hR (e ▸ q)) fun q' => (hf.ls u hu r (hsub r q').1).2.2 q
      exact ⟨q1, by rw [this.1]; exact q2, by rw [this.2]; exact q3⟩
    · simp at q; subst q; exact ⟨Sh, h0⟩
  · obtain ⟨q1, q2⟩ := (hmem v w hv).1 hw
    obtain ⟨p1, p2, p3⟩ := hf.ls v hv w q1
    refine ⟨p1, lkd _ _ q2 p2, fun q => ?_⟩
    rcases List.mem_append.1 q with q | q
    · exact p3 q
    · simp at q; exact q2 q
  · exact hf.un a a' v ha ha' ((hmem a v ha).1 h1).1 ((hmem a' v ha').1 h2).1
  · by_cases e : v = h
    · subst e; exact .inl (by simp)
    · rcases hf.al v hv with q | ⟨w, hw, q⟩
      · exact .inl (List.mem_append_left _ q)
      · exact .inr ⟨w, hw, (hmem w v hw).2 ⟨q, e⟩⟩

/-- the root is taken: its children are roots -/
theorem Fo.pop {r : Nat} {nx' pv' : Nat → Int} (h : Fo key c nx pv L S [r]) (h1 : ∀ y, y ∉ L r → nx' y = nx y ∧ pv' y = pv y) (h2 : ∀ y ∈ L r, nx' y = 0 ∧ pv' y = 0) :
    Fo key c nx' pv' L (fun v => S v ∧ v ≠ r) (L r) := by
  have Sr := (h.rs r (by simp)).1
  have rn : ∀ u, S u → r ∉ L u := fun u hu hm => (h.ls u hu r hm).2.2 (by simp)
  refine ⟨fun v hv => ?_, fun v hv => h.nd v hv.1, h.nd r Sr, fun w hw => ?_, fun u hu v hv => ?_, fun u u' v hu hu' => h.un u u' v hu.1 hu'.1, fun v hv => ?_⟩
  · refine (h.sg v hv.1).cg fun w hw => ?_
    have := h1 w fun q => hv.2 (h.un v r w hv.1 Sr hw q)
    exact ⟨this.1.symm, this.2.symm⟩
  · exact ⟨⟨(h.ls r Sr w hw).1, fun e => rn r Sr (e ▸ hw)⟩, h2 w hw⟩
  · obtain ⟨q1, q2, q3⟩ := h.ls u hu.1 v hv
    exact ⟨⟨q1, fun e => rn u hu.1 (e ▸ hv)⟩, q2, fun q => hu.2 (h.un u r v hu.1 Sr hv q)⟩
  · rcases h.al v hv.1 with q | ⟨u, hu, q⟩
    · simp at q; exact (hv.2 q).elim
    · by_cases e : u = r
      · subst e; exact .inl q
      · exact .inr ⟨u, ⟨hu, e⟩, q⟩
end
end Go.Mz

/-
  Walks of layer 5: the pairing heap: meld, push, lower.
-/
namespace Go.Mz

abbrev Lnk := Int × Int × Int

section
variable {E : Value → Hp → Prop} {H : Hp} {lb lo n lc : Nat} {c nx pv : Nat → Int}

/-- a pairing heap, as it lies in memory -/
structure PaiM (H : Hp) (eb q n : Nat) (root : Int) (lb lo lc : Nat) (c nx pv : Nat → Int) : Prop where
  cell : H eb = some ⟨[.pointer (some ⟨q, 0, none⟩), .int .i64 root, .slice (some ⟨lb, lo, none⟩) n lc], 94⟩
  row : Row H (some ⟨lb, lo, none⟩) n lc (fun v => ((c v, nx v, pv v) : Lnk))
  d : eb ≠ lb

end
end Go.Mz

/-
  Walks of layer 5: the pairing heap: push, lower.
-/
namespace Go.Mz

section
variable {key : Nat → Int} {c nx pv : Nat → Int} {L : Nat → List Nat} {S : Nat → Prop} {R : List Nat}

theorem Fo.empty {n : Nat} (h : Fo key c nx pv L S []) (hS : ∀ v, S v → v < n) : ∀ v, ¬ S v := fun v hv => by
  obtain ⟨m, h1, h2⟩ := least_ex (key := key) hS ⟨v, hv⟩
  rcases h.al m h1 with h3 | ⟨u, hu, hm⟩
  · cases h3
  · exact h2 u hu (h.ls u hu m hm).2.1

theorem Fo.cg {key' : Nat → Int} (h : Fo key c nx pv L S R) (hk : ∀ v, S v → key v = key' v) : Fo key' c nx pv L S R :=
  ⟨h.sg, h.nd, h.rn, h.rs, fun u hu v hv => by
    obtain ⟨h1, h2, h3⟩ := h.ls u hu v hv
    refine ⟨h1, ?_, h3⟩
    unfold lk at *
    rw [← hk u hu, ← hk v h1]
    exact h2, h.un, h.al⟩

theorem Fo.low {r : Nat} {x : Int} (h : Fo key c nx pv L S R) (hr : r ∈ R) (hx : x ≤ key r) : Fo (upf key r x) c nx pv L S R :=
  ⟨h.sg, h.nd, h.rn, h.rs, fun u hu v hv => by
    obtain ⟨h1, h2, h3⟩ := h.ls u hu v hv
    refine ⟨h1, ?_, h3⟩
    have hvr : v ≠ r := fun e => h3 (e ▸ hr)
    unfold lk at *
    rw [upf_ne hvr]
    by_cases e : u = r
    · subst e; rw [upf_same]; omega
    · rw [upf_ne e]; exact h2, h.un, h.al⟩

theorem Fo.add {v : Nat} (h : Fo key c nx pv L S R) (hv : ¬ S v) : Fo key (upf c v 0) (upf nx v 0) (upf pv v 0) (upf L v []) (fun w => S w ∨ w = v) (R ++ [v]) := by
  have hL : ∀ u, S u → v ∉ L u := fun u hu hm => hv (h.ls u hu v hm).1
  have hne : ∀ u, S u → u ≠ v := fun u hu e => hv (e ▸ hu)
  refine ⟨fun w hw => ?_, fun w hw => ?_, ?_, fun r hr => ?_, fun u hu w hw => ?_, fun u u' w hu hu' h1 h2 => ?_, fun w hw => ?_⟩
  · by_cases e : w = v
    · subst e; rw [upf_same, upf_same]; rfl
    · have hw := hw.resolve_right e
      rw [upf_ne e, upf_ne e]
      refine (h.sg w hw).cg fun y hy => ?_
      have : y ≠ v := fun e' => hL w hw (e' ▸ hy)
      rw [upf_ne this, upf_ne this]
      exact ⟨rfl, rfl⟩
  · by_cases e : w = v
    · subst e; rw [upf_same]; exact List.nodup_nil
    · rw [upf_ne e]; exact h.nd w (hw.resolve_right e)
  · rw [List.nodup_append]
    exact ⟨h.rn, by simp, fun a ha b hb e => by simp at hb; subst hb; subst e; exact hv (h.rs a ha).1⟩
  · rcases List.mem_append.1 hr with q | q
    · obtain ⟨q1, q2, q3⟩ := h.rs r q
      have := hne r q1
      exact ⟨.inl q1, by rw [upf_ne this]; exact q2, by rw [upf_ne this]; exact q3⟩
    · simp at q; subst q; exact ⟨.inr rfl, upf_same, upf_same⟩
  · by_cases e : u = v
    · subst e; rw [upf_same] at hw; cases hw
    · rw [upf_ne e] at hw
      obtain ⟨q1, q2, q3⟩ := h.ls u (hu.resolve_right e) w hw
      refine ⟨.inl q1, q2, fun q => ?_⟩
      rcases List.mem_append.1 q with q | q
      · exact q3 q
      · simp at q; exact hv (q ▸ q1)
  · by_cases e : u = v
    · subst e; rw [upf_same] at h1; cases h1
    · by_cases e' : u' = v
      · subst e'; rw [upf_same] at h2; cases h2
      · rw [upf_ne e] at h1
        rw [upf_ne e'] at h2
        exact h.un u u' w (hu.resolve_right e) (hu'.resolve_right e') h1 h2
  · by_cases e : w = v
    · subst e; exact .inl (by simp)
    · rcases h.al w (hw.resolve_right e) with q | ⟨u, hu, q⟩
      · exact .inl (List.mem_append_left _ q)
      · exact .inr ⟨u, .inl hu, by rw [upf_ne (hne u hu)]; exact q⟩
end

section
variable {E : Value → Hp → Prop} {H : Hp} {lb lo n lc : Nat} {c nx pv : Nat → Int}

/-- the root that is kept, and the roots -/
def RtOk (root : Int) (R : List Nat) : Prop := (R = [] ∧ root = -1) ∨ ∃ r : Nat, R = [r] ∧ root = r

end
end Go.Mz

/-
  Walks of layer 5: the pairing heap: lower.
-/
namespace Go.Mz
section
variable {E : Value → Hp → Prop} {H : Hp} {lb lo n lc : Nat} {c nx pv : Nat → Int}

end
end Go.Mz

/-
  Walks of layer 5: the pairing heap: pop; it is an engine.
-/
namespace Go.Mz

theorem Sg.at {nx pv : Nat → Int} {h : Nat} {l2 : List Nat} : ∀ {l1 : List Nat} {p y : Int}, Sg nx pv p y (l1 ++ h :: l2) → Sg nx pv ((h : Int) + 1) (nx h) l2
  | [], _, _, hs => hs.2.2
  | _ :: l1, _, _, hs => Sg.at (l1 := l1) hs.2.2

def hd1 : List Nat → Int
  | [] => 0
  | w :: _ => (w : Int) + 1

theorem Sg.hd {nx pv : Nat → Int} {p x : Int} : ∀ {l : List Nat}, Sg nx pv p x l → x = hd1 l
  | [], h => h
  | _ :: _, h => h.1

section
variable {E : Value → Hp → Prop} {H : Hp} {lb lo n lc : Nat} {c nx pv : Nat → Int}

theorem PaiM.keep {H' : Hp} {eb q : Nat} {root : Int} {F : Nat → Prop} (h : PaiM H eb q n root lb lo lc c nx pv) (s : Step F H H') (h1 : ¬ F eb) (h2 : ¬ F lb) : PaiM H' eb q n root lb lo lc c nx pv :=
  ⟨s.keep _ _ h.cell h1, h.row.keep s fun y hy => by rw [fpS_mk] at hy; exact hy ▸ h2, h.d⟩

theorem PaiM.live {eb q : Nat} {root : Int} (h : PaiM H eb q n root lb lo lc c nx pv) : H eb ≠ none ∧ H lb ≠ none := ⟨by rw [h.cell]; exact fun e => (by cases e), h.row.live (b := lb) ⟨_, rfl⟩⟩

theorem PaiM.root {eb q : Nat} {root root' : Int} {K : Hp → Prop} (h : PaiM H eb q n root lb lo lc c nx pv) (k : ∀ H', PaiM H' eb q n root' lb lo lc c nx pv → Step (· = eb) H H' → K H') : stC H eb 1 [.int .i64 root'] K := by
  refine stp h.cell (by simp) rfl fun H' e s => ?_
  replace e : H' eb = some ⟨[.pointer (some ⟨q, 0, none⟩), .int .i64 root', .slice (some ⟨lb, lo, none⟩) n lc], 94⟩ := e
  exact k H' ⟨e, h.row.keep s fun y hy hh => by rw [fpS_mk] at hy; exact h.d (hh.symm.trans hy), h.d⟩ s

end
end Go.Mz

/-
  Layer 5: the pairing heap does what a kind of heap must do.
-/
namespace Go.Mz
section
variable {E : Value → Hp → Prop}

structure PaiI (H : Hp) (eb q n : Nat) (key : Nat → Int) (S : Nat → Bool) (FP : Nat → Prop) (root : Int) (lb lo lc : Nat) (c nx pv : Nat → Int) (L : Nat → List Nat) (R : List Nat) : Prop where
  mem : PaiM H eb q n root lb lo lc c nx pv
  fo : Fo key c nx pv L (fun v => S v = true) R
  rt : RtOk root R
  fp : ∀ y, FP y ↔ y = eb ∨ y = lb

theorem PaiI.root {H : Hp} {eb q n v : Nat} {key : Nat → Int} {S : Nat → Bool} {FP : Nat → Prop} {root : Int} {lb lo lc : Nat} {c nx pv : Nat → Int} {L : Nat → List Nat} {R : List Nat} (h : PaiI H eb q n key S FP root lb lo lc c nx pv L R) (hS : ∀ v, S v = true → v < n) (hv : S v = true) :
    ∃ r : Nat, R = [r] ∧ root = r := by
  rcases h.rt with ⟨rfl, _⟩ | h'
  · exact (h.fo.empty hS v hv).elim
  · exact h'

end
end Go.Mz

/-
  Walks of layer 5: New, of a kind that there isn't, or of too many handles; of the first two kinds.
-/
namespace Go.Mz

section
variable {E : Value → Hp → Prop}

/-- the record that each kind's queue begins with -/
structure New0 (H H' : Hp) (n : Nat) (kind : Int) (q kb hb : Nat) : Prop where
  cell : H' q = some ⟨[.slice (some ⟨kb, 0, none⟩) n n, .slice (some ⟨hb, 0, none⟩) n n, Value.nilIface, .int .i64 0, .int .i64 kind, .int .i64 0], 86⟩
  kr : Row H' (some ⟨kb, 0, none⟩) n n (fun _ => (0 : Int))
  hr : Row H' (some ⟨hb, 0, none⟩) n n (fun _ => false)
  fq : H q = none
  fk : H kb = none
  fh : H hb = none
  dqk : kb ≠ q
  dqh : hb ≠ q
  dkh : kb ≠ hb
  s : Step (fun _ => False) H H'

/-- the engine is told, and the queue is there -/
theorem New0.fin {g : Engine E} {H H1 H2 : Hp} {n : Nat} {kind : Int} {q kb hb eb : Nat} {FE : Nat → Prop} {K : Hp → Prop} (h : New0 H H1 n kind q kb hb) (hn : n ≤ 1024) (hrad : g.rad ↔ kind = 4) (s : Step (fun _ => False) H1 H2) (hI : g.Inv H2 eb q n (fun _ => 0) 0 (fun _ => false) FE) (hF : ∀ y, FE y → H1 y = none)
    (k : ∀ H' FP, Qu g H' q n kind (fun _ => 0) 0 (fun _ => false) FP → Step (fun _ => False) H H' → (∀ y, FP y → H y = none) → K H') : stC H2 q 2 [Value.iface g.t (.pointer (some ⟨eb, 0, none⟩))] K := by
  have c2 := s.keep _ _ h.cell fun h => h
  have k2 := h.kr.keep s fun _ _ h => h
  have r2 := h.hr.keep s fun _ _ h => h
  have nq : ¬ FE q := fun hh => by have := hF q hh; rw [h.cell] at this; cases this
  have nk : ∀ y, fpS (some ⟨kb, 0, none⟩) y → ¬ FE y := fun y hy hh => h.kr.live hy (hF y hh)
  have nh : ∀ y, fpS (some ⟨hb, 0, none⟩) y → ¬ FE y := fun y hy hh => h.hr.live hy (hF y hh)
  refine stp c2 (by simp) rfl fun H3 e3 s3 => ?_
  refine k H3 (fun y => y = q ∨ fpS (some ⟨kb, 0, none⟩) y ∨ fpS (some ⟨hb, 0, none⟩) y ∨ FE y) ⟨some ⟨kb, 0, none⟩, some ⟨hb, 0, none⟩, n, n, eb, FE, ?_, k2.keep s3 fun y hy e => ?_, r2.keep s3 fun y hy e => ?_, g.keep hI s3 fun y hy e => nq (e ▸ hy), fun v hv => (by cases hv), hrad, hn, ?_, ?_, nq, ?_, nk, nh, fun y => Iff.rfl⟩ ((h.s.and s).own s3 fun y hy => hy ▸ h.fq) fun y hy => ?_
  · rw [cnt_none fun _ _ => rfl]; exact e3
  · rw [fpS_mk] at hy; exact h.dqk (hy.symm.trans e)
  · rw [fpS_mk] at hy; exact h.dqh (hy.symm.trans e)
  · rw [fpS_mk]; exact fun e => h.dqk e.symm
  · rw [fpS_mk]; exact fun e => h.dqh e.symm
  · intro y hy hy'
    rw [fpS_mk] at hy hy'
    exact h.dkh (hy.symm.trans hy')
  · rcases hy with rfl | hy | hy | hy
    · exact h.fq
    · rw [fpS_mk] at hy; exact hy ▸ h.fk
    · rw [fpS_mk] at hy; exact hy ▸ h.fh
    · exact h.s.mono _ (hF y hy)

theorem qnew1 {n : Int} {H : Hp} {K : Option Addr → Int → Hp → Prop} (h0 : 0 ≤ n) (h1 : n ≤ 1024) (k : ∀ H' q FP, Qu (binEng E) H' q n.toNat 1 (fun _ => 0) 0 (fun _ => false) FP → Step (fun _ => False) H H' → (∀ y, FP y → H y = none) → K (some ⟨q, 0, none⟩) 0 H') : heaps_New.call 1 n E H K := by
  refine heaps_New.of (heaps_New.run_eq ?_)
  unfold heaps_New.run_t
  refine bc (fun h => by omega) fun _ => ?_
  refine bc (fun h => by omega) fun _ => ?_
  refine bc (fun h => by omega) fun _ => ?_
  refine bc (fun h => by omega) fun _ => ?_
  refine Row.mkI h0 (by omega) fun kb H1 hkb rk s1 => ?_
  refine Row.mkB h0 (by omega) fun hb H2 hhb rh s2 => ?_
  refine ⟨trivial, ?_⟩
  refine nwk fun q H3 hq e3 s3 => ?_
  have hN : New0 H H3 n.toNat 1 q kb hb := ⟨e3, rk.keep (s2.and s3) fun _ _ h => h, rh.keep s3 fun _ _ h => h, (s1.and s2).mono _ hq, hkb, s1.mono _ hhb,
    ne_of_live hq ((rk.keep s2 fun _ _ h => h).live ⟨0, rfl⟩), ne_of_live hq (rh.live ⟨0, rfl⟩), ne_of_live hhb (rk.live ⟨0, rfl⟩), (s1.and s2).and s3⟩
  refine bc (fun _ => ?_) fun h => absurd rfl h
  refine Row.mkI h0 (by omega) fun pb H4 hpb rp s4 => ?_
  refine nwk fun eb H5 heb e5 s5 => ?_
  refine ⟨trivial, ?_⟩
  have rp5 := rp.keep s5 fun _ _ h => h
  refine hN.fin (g := binEng E) (FE := fun y => y = eb ∨ fpS none y ∨ fpS (some ⟨pb, 0, none⟩) y) (by omega) ⟨fun h => h.elim, fun h => by omega⟩ (s4.and s5) ⟨0, none, 0, some ⟨pb, 0, none⟩, n.toNat, fun _ => 0, fun _ => 0, ⟨e5, Row.nil, rp5, ?_, ?_, fun y hy => ?_⟩, ⟨fun i hi => by omega, fun v hv => by cases hv⟩, fun j _ h => by omega, fun y => Iff.rfl⟩ (fun y hy => ?_) fun H' FP hQ s' hf => k H' q FP hQ s' hf
  · rw [fpS_none]; exact fun h => h
  · rw [fpS_mk]; exact fun e => rp.live ⟨0, rfl⟩ (e ▸ heb)
  · rw [fpS_none] at hy; exact hy.elim
  · rcases hy with rfl | hy | hy
    · exact s4.mono _ heb
    · rw [fpS_none] at hy; exact hy.elim
    · rw [fpS_mk] at hy; exact hy ▸ hpb

end
end Go.Mz

/-
  Joined: PaP, PaQ, PaW, PaX, PaY, PaZ, PaE, HpN.
-/
import Derived.Test.YthcehonpfnmpiaaGreatPkH
import Derived.Test.YthcehonpfnmpiaaGreatGPai
set_option linter.unusedSimpArgs false
set_option linter.unusedVariables false
/-
  Plain law: trees of a pairing heap, as links and as lists. No program in sight.
-/
namespace Go.Mz

/-- a chain of siblings: what leads to it, from which place -/
def Sg (nx pv : Nat → Int) : Int → Int → List Nat → Prop
  | _, x, [] => x = 0
  | p, x, w :: l => x = (w : Int) + 1 ∧ pv w = p ∧ Sg nx pv ((w : Int) + 1) (nx w) l

theorem Sg.cg {nx pv nx' pv' : Nat → Int} : ∀ {l : List Nat} {p x : Int}, (∀ w ∈ l, nx w = nx' w ∧ pv w = pv' w) → Sg nx pv p x l → Sg nx' pv' p x l
  | [], _, _, _, h => h
  | w :: l, p, x, hc, ⟨h1, h2, h3⟩ => ⟨h1, by rw [← (hc w (by simp)).2]; exact h2, by rw [← (hc w (by simp)).1]; exact Sg.cg (fun y hy => hc y (by simp [hy])) h3⟩

/-- what goes back, if b comes first -/
def pvPush (pv : Nat → Int) (b : Nat) (p : Int) : List Nat → Nat → Int
  | [] => upf pv b p
  | w :: _ => upf (upf pv b p) w ((b : Int) + 1)

/-- another comes first -/
theorem Sg.push {nx pv : Nat → Int} {l : List Nat} {p x : Int} {b : Nat} (h : Sg nx pv p x l) (hb : b ∉ l) (hn : l.Nodup) :
    Sg (upf nx b x) (pvPush pv b p l) p ((b : Int) + 1) (b :: l) := by
  cases l with
  | nil => exact ⟨rfl, upf_same, by rw [upf_same]; exact h⟩
  | cons w l =>
    have hbw : b ≠ w := fun e => hb (by simp [e])
    have hw : w ∉ l := (List.nodup_cons.1 hn).1
    refine ⟨rfl, by show upf (upf pv b p) w _ b = p; rw [upf_ne hbw, upf_same], ?_⟩
    rw [upf_same]
    refine ⟨h.1, upf_same, ?_⟩
    show Sg _ (upf (upf pv b p) w ((b : Int) + 1)) _ _ _
    rw [upf_ne (fun e => hbw e.symm)]
    refine h.2.2.cg fun y hy => ?_
    have y1 : y ≠ w := fun e => hw (e ▸ hy)
    have y2 : y ≠ b := fun e => hb (by simp [← e, hy])
    rw [upf_ne y2, upf_ne y1, upf_ne y2]
    exact ⟨rfl, rfl⟩

/-- where one stands, and the chain without it -/
theorem Sg.cut {nx pv : Nat → Int} {h : Nat} {l2 : List Nat} : ∀ {l1 : List Nat} {p x : Int}, Sg nx pv p x (l1 ++ h :: l2) → (l1 ++ h :: l2).Nodup →
    (∀ (pv' : Nat → Int), (∀ y, y ∉ l2.head? → pv' y = pv y) → (∀ y ∈ l2.head?, pv' y = pv h) →
      (l1 = [] → x = (h : Int) + 1 ∧ pv h = p ∧ Sg nx pv' p (nx h) l2) ∧
      (∀ (d : Nat) (l0 : List Nat), l1 = l0 ++ [d] → pv h = (d : Int) + 1 ∧ nx d = (h : Int) + 1 ∧ Sg (upf nx d (nx h)) pv' p x (l0 ++ d :: l2)))
  | [], p, x, hs, hn => fun pv' h1 h2 => ⟨fun _ => by
      refine ⟨hs.1, hs.2.1, ?_⟩
      have h3 := hs.2.2
      cases l2 with
      | nil => exact h3
      | cons w l =>
        refine ⟨h3.1, by rw [h2 w (by simp)]; exact hs.2.1, h3.2.2.cg fun y hy => ⟨rfl, ?_⟩⟩
        have hwl : w ∉ l := by
          have := (List.nodup_cons.1 hn).2
          exact (List.nodup_cons.1 this).1
        exact (h1 y (by simp; exact fun e => hwl (e ▸ hy))).symm, fun d l0 e => by simp at e⟩
  | a :: l1, p, x, hs, hn => fun pv' h1 h2 => ⟨fun e => by simp at e, fun d l0 e => by
      obtain ⟨q1, q2, q3⟩ := hs
      have hn' := List.nodup_cons.1 hn
      have ah : a ≠ h := fun e => hn'.1 (by simp [e])
      have al2 : a ∉ l2 := fun e => hn'.1 (by simp [e])
      have apv : pv' a = pv a := h1 a fun e => al2 (by cases l2 with | nil => simp at e | cons w l => simp at e; simp [e])
      cases l1 with
      | nil =>
        have ed : d = a ∧ l0 = [] := by
          cases l0 with
          | nil => simp at e; exact ⟨e.symm, rfl⟩
          | cons b l => simp at e
        obtain ⟨rfl, rfl⟩ := ed
        obtain ⟨r1, r2, r3⟩ := (Sg.cut (l1 := []) q3 hn'.2 pv' h1 h2).1 rfl
        refine ⟨r2, r1, q1, by rw [apv]; exact q2, ?_⟩
        rw [upf_same]
        refine r3.cg fun y hy => ?_
        rw [upf_ne (fun e => al2 (by rw [← e]; exact hy))]
        exact ⟨rfl, rfl⟩
      | cons b l1 =>
        obtain ⟨l0', rfl, e'⟩ : ∃ l0', l0 = a :: l0' ∧ b :: l1 = l0' ++ [d] := by
          cases l0 with
          | nil => simp at e
          | cons c l => simp at e; exact ⟨l, by rw [e.1], by simpa using e.2⟩
        obtain ⟨r1, r2, r3⟩ := (Sg.cut (l1 := b :: l1) q3 hn'.2 pv' h1 h2).2 d l0' e'
        have ad : a ≠ d := fun e2 => hn'.1 (by
          have : d ∈ b :: l1 := by rw [e']; simp
          rw [e2]
          exact List.mem_append_left _ this)
        exact ⟨r1, r2, q1, by rw [apv]; exact q2, by rw [upf_ne ad]; exact r3⟩⟩
end Go.Mz

/-
  Plain law: the trees of a pairing heap: two are made one, one is cut off, the root is taken. No program in sight.
-/
namespace Go.Mz

theorem least_ex {key : Nat → Int} {S : Nat → Prop} {n : Nat} (hS : ∀ v, S v → v < n) (h : ∃ v, S v) : ∃ m, S m ∧ ∀ v, S v → ¬ lk key v m := by
  classical
  have key' : ∀ k, (∃ v, v < k ∧ S v) → ∃ m, S m ∧ ∀ v, v < k → S v → ¬ lk key v m := by
    intro k
    induction k with
    | zero => rintro ⟨v, hv, _⟩; omega
    | succ k ih =>
      rintro ⟨v, hv, hs⟩
      by_cases h1 : ∃ v, v < k ∧ S v
      · obtain ⟨m, h2, h3⟩ := ih h1
        by_cases hk : S k ∧ lk key k m
        · refine ⟨k, hk.1, fun w hw hsw => ?_⟩
          by_cases e : w = k
          · subst e; exact nlk_self
          · exact fun hl => h3 w (by omega) hsw (hl.trans hk.2)
        · refine ⟨m, h2, fun w hw hsw => ?_⟩
          by_cases e : w = k
          · subst e; exact fun hl => hk ⟨hsw, hl⟩
          · exact h3 w (by omega) hsw
      · have e : v = k := by
          by_cases e : v = k
          · exact e
          · exact (h1 ⟨v, by omega, hs⟩).elim
        subst e
        refine ⟨v, hs, fun w hw hsw => ?_⟩
        by_cases e : w = v
        · subst e; exact nlk_self
        · exact (h1 ⟨w, by omega, hsw⟩).elim
  obtain ⟨v, hv⟩ := h
  obtain ⟨m, h1, h2⟩ := key' n ⟨v, hS v hv, hv⟩
  exact ⟨m, h1, fun w hw => h2 w (hS w hw) hw⟩

structure Fo (key : Nat → Int) (c nx pv : Nat → Int) (L : Nat → List Nat) (S : Nat → Prop) (R : List Nat) : Prop where
  sg : ∀ v, S v → Sg nx pv ((v : Int) + 1) (c v) (L v)
  nd : ∀ v, S v → (L v).Nodup
  rn : R.Nodup
  rs : ∀ r ∈ R, S r ∧ nx r = 0 ∧ pv r = 0
  ls : ∀ u, S u → ∀ v ∈ L u, S v ∧ lk key u v ∧ v ∉ R
  un : ∀ u u' v, S u → S u' → v ∈ L u → v ∈ L u' → u = u'
  al : ∀ v, S v → v ∈ R ∨ ∃ u, S u ∧ v ∈ L u

section
variable {key : Nat → Int} {c nx pv : Nat → Int} {L : Nat → List Nat} {S : Nat → Prop} {R : List Nat}

theorem Fo.least {r n : Nat} (h : Fo key c nx pv L S [r]) (hS : ∀ v, S v → v < n) : ∀ v, S v → ¬ lk key v r := by
  obtain ⟨m, h1, h2⟩ := least_ex (key := key) hS ⟨r, (h.rs r (by simp)).1⟩
  have : m = r := by
    rcases h.al m h1 with h3 | ⟨u, hu, hm⟩
    · simpa using h3
    · exact (h2 u hu (h.ls u hu m hm).2.1).elim
  subst this
  exact h2

theorem pvPush_ne {b y : Nat} {p : Int} {l : List Nat} (h1 : y ≠ b) (h2 : y ∉ l) : pvPush pv b p l y = pv y := by
  cases l with
  | nil => exact upf_ne h1
  | cons w l =>
    show upf (upf pv b p) w _ y = _
    rw [upf_ne (fun e => h2 (by simp [e])), upf_ne h1]

/-- b becomes a child of a -/
theorem Fo.meld {a b : Nat} {R' : List Nat} (h : Fo key c nx pv L S R) (ha : a ∈ R) (hb : b ∈ R) (hab : a ≠ b) (hl : lk key a b) (hn : R'.Nodup) (hR : ∀ v, v ∈ R' ↔ v ∈ R ∧ v ≠ b) :
    Fo key (upf c a ((b : Int) + 1)) (upf nx b (c a)) (pvPush pv b ((a : Int) + 1) (L a)) (upf L a (b :: L a)) S R' := by
  have Sa := (h.rs a ha).1
  have Sb := (h.rs b hb).1
  have bn : ∀ u, S u → b ∉ L u := fun u hu hm => (h.ls u hu b hm).2.2 hb
  have an : ∀ u, S u → a ∉ L u := fun u hu hm => (h.ls u hu a hm).2.2 ha
  refine ⟨fun v hv => ?_, fun v hv => ?_, hn, fun r hr => ?_, fun u hu v hv => ?_, fun u u' v hu hu' h1 h2 => ?_, fun v hv => ?_⟩
  · by_cases e : v = a
    · subst e
      rw [upf_same, upf_same]
      exact (h.sg v hv).push (bn v hv) (h.nd v hv)
    · rw [upf_ne e, upf_ne e]
      refine (h.sg v hv).cg fun w hw => ⟨?_, ?_⟩
      · rw [upf_ne (fun e' : w = b => bn v hv (e' ▸ hw))]
      · rw [pvPush_ne (fun e' : w = b => bn v hv (e' ▸ hw)) fun hw' => e (h.un v a w hv Sa hw hw')]
  · by_cases e : v = a
    · subst e; rw [upf_same]; exact List.nodup_cons.2 ⟨bn v hv, h.nd v hv⟩
    · rw [upf_ne e]; exact h.nd v hv
  · obtain ⟨h1, h2⟩ := (hR r).1 hr
    obtain ⟨q1, q2, q3⟩ := h.rs r h1
    refine ⟨q1, by rw [upf_ne h2]; exact q2, by rw [pvPush_ne h2 fun hm => (h.ls a Sa r hm).2.2 h1]; exact q3⟩
  · by_cases e : u = a
    · subst e
      rw [upf_same] at hv
      rcases List.mem_cons.1 hv with rfl | hv
      · exact ⟨Sb, hl, fun hm => ((hR v).1 hm).2 rfl⟩
      · obtain ⟨q1, q2, q3⟩ := h.ls u hu v hv
        exact ⟨q1, q2, fun hm => q3 ((hR v).1 hm).1⟩
    · rw [upf_ne e] at hv
      obtain ⟨q1, q2, q3⟩ := h.ls u hu v hv
      exact ⟨q1, q2, fun hm => q3 ((hR v).1 hm).1⟩
  · have key : ∀ u u', S u → S u' → v ∈ upf L a (b :: L a) u → v ∈ upf L a (b :: L a) u' → u = a → u = u' := fun u1 u2 hu1 hu2 h3 h4 e => by
      by_cases e' : u2 = a
      · rw [e, e']
      · rw [e, upf_same] at h3
        rw [upf_ne e'] at h4
        rcases List.mem_cons.1 h3 with h3 | h3
        · exact (bn u2 hu2 (h3 ▸ h4)).elim
        · rw [e]; exact h.un a u2 v Sa hu2 h3 h4
    by_cases e : u = a
    · exact key u u' hu hu' h1 h2 e
    · by_cases e' : u' = a
      · exact (key u' u hu' hu h2 h1 e').symm
      · rw [upf_ne e] at h1
        rw [upf_ne e'] at h2
        exact h.un u u' v hu hu' h1 h2
  · by_cases e : v = b
    · subst e; exact .inr ⟨a, Sa, by rw [upf_same]; simp⟩
    · rcases h.al v hv with h1 | ⟨u, hu, hm⟩
      · exact .inl ((hR v).2 ⟨h1, e⟩)
      · refine .inr ⟨u, hu, ?_⟩
        by_cases e' : u = a
        · subst e'; rw [upf_same]; exact List.mem_cons_of_mem _ hm
        · rw [upf_ne e']; exact hm

/-- one is cut off, whose key is less now -/
theorem Fo.cut {h u : Nat} {x : Int} {l1 l2 : List Nat} {c' nx' pv' : Nat → Int} (hf : Fo key c nx pv L S R) (hu : S u) (hL : L u = l1 ++ h :: l2) (hx : x ≤ key h)
    (hc : ∀ v, v ≠ u → c' v = c v) (hs : Sg nx' pv' ((u : Int) + 1) (c' u) (l1 ++ l2)) (hk : ∀ y, y ≠ h → y ∉ l1 ++ l2 → nx' y = nx y ∧ pv' y = pv y) (h0 : nx' h = 0 ∧ pv' h = 0) :
    Fo (upf key h x) c' nx' pv' (upf L u (l1 ++ l2)) S (R ++ [h]) := by
  have hh : h ∈ L u := by rw [hL]; simp
  obtain ⟨Sh, hlk, hR⟩ := hf.ls u hu h hh
  have hnd := hf.nd u hu
  rw [hL] at hnd
  have hsub : ∀ w, w ∈ l1 ++ l2 → w ∈ L u ∧ w ≠ h := fun w hw => by
    have h1 : w ∈ l1 ++ h :: l2 := by
      rcases List.mem_append.1 hw with q | q
      · exact List.mem_append_left _ q
      · exact List.mem_append_right _ (List.mem_cons_of_mem _ q)
    refine ⟨by rw [hL]; exact h1, fun e => ?_⟩
    subst e
    rw [List.nodup_append] at hnd
    rcases List.mem_append.1 hw with q | q
    · exact hnd.2.2 w q w (by simp) rfl
    · exact (List.nodup_cons.1 hnd.2.1).1 q
  have hmem : ∀ v w, S v → (w ∈ upf L u (l1 ++ l2) v ↔ w ∈ L v ∧ w ≠ h) := fun v w hv => by
    by_cases e : v = u
    · subst e
      rw [upf_same]
      refine ⟨hsub w, fun ⟨q1, q2⟩ => ?_⟩
      rw [hL] at q1
      rcases List.mem_append.1 q1 with q | q
      · exact List.mem_append_left _ q
      · rcases List.mem_cons.1 q with rfl | q
        · exact (q2 rfl).elim
        · exact List.mem_append_right _ q
    · rw [upf_ne e]
      exact ⟨fun q => ⟨q, fun e' => e (hf.un v u h hv hu (e' ▸ q) hh)⟩, fun q => q.1⟩
  have lkd : ∀ a b, b ≠ h → lk key a b → lk (upf key h x) a b := fun a b hb hl => by
    unfold lk at *
    rw [upf_ne hb]
    by_cases ha : a = h
    · subst ha; rw [upf_same]; omega
    · rw [upf_ne ha]; exact hl
  refine ⟨fun v hv => ?_, fun v hv => ?_, ?_, fun r hr => ?_, fun v hv w hw => ?_, fun a a' v ha ha' h1 h2 => ?_, fun v hv => ?_⟩
  · by_cases e : v = u
    · subst e; rw [upf_same]; exact hs
    · rw [upf_ne e, hc v e]
      refine (hf.sg v hv).cg fun w hw => ?_
      have := hk w (fun e' => e (hf.un v u h hv hu (e' ▸ hw) hh)) fun q => e (hf.un v u w hv hu hw (hsub w q).1)
      exact ⟨this.1.symm, this.2.symm⟩
  · by_cases e : v = u
    · subst e
      rw [upf_same]
      rw [List.nodup_append] at hnd ⊢
      exact ⟨hnd.1, (List.nodup_cons.1 hnd.2.1).2, fun a ha b hb => hnd.2.2 a ha b (by simp [hb])⟩
    · rw [upf_ne e]; exact hf.nd v hv
  · rw [List.nodup_append]
    exact ⟨hf.rn, by simp, fun a ha b hb e => by simp at hb; subst hb; subst e; exact hR ha⟩
  · rcases List.mem_append.1 hr with q | q
    · obtain ⟨q1, q2, q3⟩ := hf.rs r q
      have := hk r (fun e => hR (e ▸ q)) fun q' => (hf.ls u hu r (hsub r q').1).2.2 q
      exact ⟨q1, by rw [this.1]; exact q2, by rw [this.2]; exact q3⟩
    · simp at q; subst q; exact ⟨Sh, h0⟩
  · obtain ⟨q1, q2⟩ := (hmem v w hv).1 hw
    obtain ⟨p1, p2, p3⟩ := hf.ls v hv w q1
    refine ⟨p1, lkd _ _ q2 p2, fun q => ?_⟩
    rcases List.mem_append.1 q with q | q
    · exact p3 q
    · simp at q; exact q2 q
  · exact hf.un a a' v ha ha' ((hmem a v ha).1 h1).1 ((hmem a' v ha').1 h2).1
  · by_cases e : v = h
    · subst e; exact .inl (by simp)
    · rcases hf.al v hv with q | ⟨w, hw, q⟩
      · exact .inl (List.mem_append_left _ q)
      · exact .inr ⟨w, hw, (hmem w v hw).2 ⟨q, e⟩⟩

/-- the root is taken: its children are roots -/
theorem Fo.pop {r : Nat} {nx' pv' : Nat → Int} (h : Fo key c nx pv L S [r]) (h1 : ∀ y, y ∉ L r → nx' y = nx y ∧ pv' y = pv y) (h2 : ∀ y ∈ L r, nx' y = 0 ∧ pv' y = 0) :
    Fo key c nx' pv' L (fun v => S v ∧ v ≠ r) (L r) := by
  have Sr := (h.rs r (by simp)).1
  have rn : ∀ u, S u → r ∉ L u := fun u hu hm => (h.ls u hu r hm).2.2 (by simp)
  refine ⟨fun v hv => ?_, fun v hv => h.nd v hv.1, h.nd r Sr, fun w hw => ?_, fun u hu v hv => ?_, fun u u' v hu hu' => h.un u u' v hu.1 hu'.1, fun v hv => ?_⟩
  · refine (h.sg v hv.1).cg fun w hw => ?_
    have := h1 w fun q => hv.2 (h.un v r w hv.1 Sr hw q)
    exact ⟨this.1.symm, this.2.symm⟩
  · exact ⟨⟨(h.ls r Sr w hw).1, fun e => rn r Sr (e ▸ hw)⟩, h2 w hw⟩
  · obtain ⟨q1, q2, q3⟩ := h.ls u hu.1 v hv
    exact ⟨⟨q1, fun e => rn u hu.1 (e ▸ hv)⟩, q2, fun q => hu.2 (h.un u r v hu.1 Sr hv q)⟩
  · rcases h.al v hv.1 with q | ⟨u, hu, q⟩
    · simp at q; exact (hv.2 q).elim
    · by_cases e : u = r
      · subst e; exact .inl q
      · exact .inr ⟨u, ⟨hu, e⟩, q⟩
end
end Go.Mz

/-
  Walks of layer 5: the pairing heap: meld, push, lower.
-/
namespace Go.Mz

abbrev Lnk := Int × Int × Int

section
variable {E : Value → Hp → Prop} {H : Hp} {lb lo n lc : Nat} {c nx pv : Nat → Int}

theorem lnk0 (h : Row H (some ⟨lb, lo, none⟩) n lc (fun v => ((c v, nx v, pv v) : Lnk))) {i : Nat} (hi : i < n) : H.get lb (lo + i * 3) = some (.int .i64 (c i)) := h.getF (j := 0) hi (by decide)
theorem lnk1 (h : Row H (some ⟨lb, lo, none⟩) n lc (fun v => ((c v, nx v, pv v) : Lnk))) {i : Nat} (hi : i < n) : H.get lb (lo + i * 3 + 1) = some (.int .i64 (nx i)) := h.getF (j := 1) hi (by decide)
theorem lnk2 (h : Row H (some ⟨lb, lo, none⟩) n lc (fun v => ((c v, nx v, pv v) : Lnk))) {i : Nat} (hi : i < n) : H.get lb (lo + i * 3 + 2) = some (.int .i64 (pv i)) := h.getF (j := 2) hi (by decide)

theorem lks0 {K : Hp → Prop} (h : Row H (some ⟨lb, lo, none⟩) n lc (fun v => ((c v, nx v, pv v) : Lnk))) {i : Nat} (hi : i < n) {x : Int} (k : ∀ H', Row H' (some ⟨lb, lo, none⟩) n lc (fun v => ((upf c i x v, nx v, pv v) : Lnk)) → Step (· = lb) H H' → K H') : stC H lb (lo + i * 3) [.int .i64 x] K :=
  h.stF (j := 0) (f' := fun v => ((upf c i x v, nx v, pv v) : Lnk)) hi (by decide) (fun k _ hne => by rw [upf_ne hne]) (fun l hl => by
    have h3 : l < 3 := hl
    have : l = 0 ∨ l = 1 ∨ l = 2 := by omega
    rw [upf_same]
    rcases this with rfl | rfl | rfl <;> rfl) k
theorem lks1 {K : Hp → Prop} (h : Row H (some ⟨lb, lo, none⟩) n lc (fun v => ((c v, nx v, pv v) : Lnk))) {i : Nat} (hi : i < n) {x : Int} (k : ∀ H', Row H' (some ⟨lb, lo, none⟩) n lc (fun v => ((c v, upf nx i x v, pv v) : Lnk)) → Step (· = lb) H H' → K H') : stC H lb (lo + i * 3 + 1) [.int .i64 x] K :=
  h.stF (j := 1) (f' := fun v => ((c v, upf nx i x v, pv v) : Lnk)) hi (by decide) (fun k _ hne => by rw [upf_ne hne]) (fun l hl => by
    have h3 : l < 3 := hl
    have : l = 0 ∨ l = 1 ∨ l = 2 := by omega
    rw [upf_same]
    rcases this with rfl | rfl | rfl <;> rfl) k
theorem lks2 {K : Hp → Prop} (h : Row H (some ⟨lb, lo, none⟩) n lc (fun v => ((c v, nx v, pv v) : Lnk))) {i : Nat} (hi : i < n) {x : Int} (k : ∀ H', Row H' (some ⟨lb, lo, none⟩) n lc (fun v => ((c v, nx v, upf pv i x v) : Lnk)) → Step (· = lb) H H' → K H') : stC H lb (lo + i * 3 + 2) [.int .i64 x] K :=
  h.stF (j := 2) (f' := fun v => ((c v, nx v, upf pv i x v) : Lnk)) hi (by decide) (fun k _ hne => by rw [upf_ne hne]) (fun l hl => by
    have h3 : l < 3 := hl
    have : l = 0 ∨ l = 1 ∨ l = 2 := by omega
    rw [upf_same]
    rcases this with rfl | rfl | rfl <;> rfl) k

/-- a pairing heap, as it lies in memory -/
structure PaiM (H : Hp) (eb q n : Nat) (root : Int) (lb lo lc : Nat) (c nx pv : Nat → Int) : Prop where
  cell : H eb = some ⟨[.pointer (some ⟨q, 0, none⟩), .int .i64 root, .slice (some ⟨lb, lo, none⟩) n lc], 106⟩
  row : Row H (some ⟨lb, lo, none⟩) n lc (fun v => ((c v, nx v, pv v) : Lnk))
  d : eb ≠ lb

theorem hmeld {eb q a b : Nat} {root : Int} {kp : Option Addr} {key : Nat → Int} {L : Nat → List Nat} {S : Nat → Prop} {R : List Nat} {K : Int → Hp → Prop} (hM : PaiM H eb q n root lb lo lc c nx pv) (hk : KeyM H q n kp key) (dq : q ≠ lb) (dk : ∀ y, fpS kp y → y ≠ lb)
    (hn : n ≤ 1024) (hS : ∀ v, S v → v < n) (hF : Fo key c nx pv L S R) (ha : a ∈ R) (hb : b ∈ R) (hab : a ≠ b)
    (kk : ∀ H' x y c' nx' pv' L', (x = a ∧ y = b ∨ x = b ∧ y = a) → PaiM H' eb q n root lb lo lc c' nx' pv' → Step (· = lb) H H' → (∀ R' : List Nat, R'.Nodup → (∀ v, v ∈ R' ↔ v ∈ R ∧ v ≠ y) → Fo key c' nx' pv' L' S R') → K (x : Int) H') : heaps_pairing_meld.call (some ⟨eb, 0, none⟩) a b E H K := by
  have han := hS a (hF.rs a ha).1
  have hbn := hS b (hF.rs b hb).1
  refine heaps_pairing_meld.of (heaps_pairing_meld.run_eq ?_)
  unfold heaps_pairing_meld.run_t
  simp only [nn_mk, get_at hM.cell, List.getElem?_cons_zero, List.getElem?_cons_succ, ldP_mk, Nat.zero_add]
  have go : ∀ x y : Nat, (x = a ∧ y = b ∨ x = b ∧ y = a) → lk key x y → heaps_pairing_meld.j1 (some ⟨eb, 0, none⟩) (x : Int) (y : Int) E H K := fun x y hxy hl => by
    have hx : x ∈ R := by rcases hxy with ⟨rfl, _⟩ | ⟨rfl, _⟩ <;> assumption
    have hy : y ∈ R := by rcases hxy with ⟨_, rfl⟩ | ⟨_, rfl⟩ <;> assumption
    have hne : x ≠ y := by
      rcases hxy with ⟨rfl, rfl⟩ | ⟨rfl, rfl⟩
      · exact hab
      · exact fun e => hab e.symm
    have Sx := (hF.rs x hx).1
    have hxn := hS x Sx
    have hyn := hS y (hF.rs y hy).1
    have hsg := hF.sg x Sx
    refine heaps_pairing_meld.j1_eq ?_
    unfold heaps_pairing_meld.j1_t
    simp only [nn_mk, get_at hM.cell, List.getElem?_cons_zero, List.getElem?_cons_succ, ldS_mk, Nat.zero_add, ix_mk, Int.toNat_natCast]
    refine ⟨⟨by omega, by omega⟩, ?_⟩
    try simp only [nn_mk, get_at hM.cell, List.getElem?_cons_zero, List.getElem?_cons_succ, ldS_mk, Nat.zero_add, ix_mk, Int.toNat_natCast]
    refine ⟨⟨by omega, by omega⟩, ?_⟩
    rw [lnk0 hM.row hxn]
    simp only [ldI_mk]
    refine lks1 hM.row hyn fun H1 r1 s1 => ?_
    rw [i64w (n := (x : Int) + 1) (by omega) (by omega)]
    refine lks2 r1 hyn fun H2 r2 s2 => ?_
    rw [lnk0 r2 hxn]
    simp only [ldI_mk]
    have c2 := s2.keep _ _ (s1.keep _ _ hM.cell hM.d) hM.d
    have fin : ∀ H' pv', Row H' (some ⟨lb, lo, none⟩) n lc (fun v => ((c v, upf nx y (c x) v, pv' v) : Lnk)) → Step (· = lb) H2 H' → pv' = pvPush pv y ((x : Int) + 1) (L x) → heaps_pairing_meld.j2 (x : Int) (y : Int) (some ⟨lb, lo + x * 3, none⟩) E H' K := fun H' pv' r' s' hpv => by
      refine heaps_pairing_meld.j2_eq ?_
      unfold heaps_pairing_meld.j2_t
      simp only [nn_mk]
      rw [i64w (by omega) (by omega)]
      refine lks0 r' hxn fun H4 r4 s4 => ?_
      have s04 : Step (· = lb) H H4 := ((s1.trans s2 fun _ h => .inl h).trans s' fun _ h => .inl h).trans s4 fun _ h => .inl h
      subst hpv
      exact kk H4 x y _ _ _ (upf L x (y :: L x)) hxy ⟨s04.keep _ _ hM.cell hM.d, r4, hM.d⟩ s04 fun R' h1 h2 => hF.meld hx hy hne hl h1 h2
    cases hL : L x with
    | nil =>
      rw [hL] at hsg
      have h0 : c x = 0 := hsg
      refine bc (fun h => by omega) fun _ => ?_
      exact fin H2 _ r2 .refl (by rw [hL]; rfl)
    | cons w l =>
      rw [hL] at hsg
      have h0 : c x = (w : Int) + 1 := hsg.1
      have hwn := hS w (hF.ls x Sx w (by rw [hL]; simp)).1
      refine bc (fun _ => ?_) fun h => by omega
      simp only [nn_mk, get_at c2, List.getElem?_cons_zero, List.getElem?_cons_succ, ldS_mk, Nat.zero_add]
      try rw [lnk0 r2 hxn]
      try simp only [ldI_mk]
      rw [h0, i64w (n := (w : Int) + 1 - 1) (by omega) (by omega), i64w (n := (y : Int) + 1) (by omega) (by omega), show (w : Int) + 1 - 1 = (w : Int) by omega]
      simp only [ix_mk, Int.toNat_natCast]
      refine ⟨⟨by omega, by omega⟩, ?_⟩
      refine lks2 r2 hwn fun H3 r3 s3 => ?_
      exact fin H3 _ r3 s3 (by rw [hL]; rfl)
  refine hahead hk hbn han ?_
  refine bc (fun h => go b a (.inr ⟨rfl, rfl⟩) h) fun h => go a b (.inl ⟨rfl, rfl⟩) ?_
  rcases lk_total (key := key) hab with q | q
  · exact q
  · exact (h q).elim
end
end Go.Mz

/-
  Walks of layer 5: the pairing heap: push, lower.
-/
namespace Go.Mz

section
variable {key : Nat → Int} {c nx pv : Nat → Int} {L : Nat → List Nat} {S : Nat → Prop} {R : List Nat}

theorem Fo.empty {n : Nat} (h : Fo key c nx pv L S []) (hS : ∀ v, S v → v < n) : ∀ v, ¬ S v := fun v hv => by
  obtain ⟨m, h1, h2⟩ := least_ex (key := key) hS ⟨v, hv⟩
  rcases h.al m h1 with h3 | ⟨u, hu, hm⟩
  · cases h3
  · exact h2 u hu (h.ls u hu m hm).2.1

theorem Fo.cg {key' : Nat → Int} (h : Fo key c nx pv L S R) (hk : ∀ v, S v → key v = key' v) : Fo key' c nx pv L S R :=
  ⟨h.sg, h.nd, h.rn, h.rs, fun u hu v hv => by
    obtain ⟨h1, h2, h3⟩ := h.ls u hu v hv
    refine ⟨h1, ?_, h3⟩
    unfold lk at *
    rw [← hk u hu, ← hk v h1]
    exact h2, h.un, h.al⟩

theorem Fo.low {r : Nat} {x : Int} (h : Fo key c nx pv L S R) (hr : r ∈ R) (hx : x ≤ key r) : Fo (upf key r x) c nx pv L S R :=
  ⟨h.sg, h.nd, h.rn, h.rs, fun u hu v hv => by
    obtain ⟨h1, h2, h3⟩ := h.ls u hu v hv
    refine ⟨h1, ?_, h3⟩
    have hvr : v ≠ r := fun e => h3 (e ▸ hr)
    unfold lk at *
    rw [upf_ne hvr]
    by_cases e : u = r
    · subst e; rw [upf_same]; omega
    · rw [upf_ne e]; exact h2, h.un, h.al⟩

theorem Fo.add {v : Nat} (h : Fo key c nx pv L S R) (hv : ¬ S v) : Fo key (upf c v 0) (upf nx v 0) (upf pv v 0) (upf L v []) (fun w => S w ∨ w = v) (R ++ [v]) := by
  have hL : ∀ u, S u → v ∉ L u := fun u hu hm => hv (h.ls u hu v hm).1
  have hne : ∀ u, S u → u ≠ v := fun u hu e => hv (e ▸ hu)
  refine ⟨fun w hw => ?_, fun w hw => ?_, ?_, fun r hr => ?_, fun u hu w hw => ?_, fun u u' w hu hu' h1 h2 => ?_, fun w hw => ?_⟩
  · by_cases e : w = v
    · subst e; rw [upf_same, upf_same]; rfl
    · have hw := hw.resolve_right e
      rw [upf_ne e, upf_ne e]
      refine (h.sg w hw).cg fun y hy => ?_
      have : y ≠ v := fun e' => hL w hw (e' ▸ hy)
      rw [upf_ne this, upf_ne this]
      exact ⟨rfl, rfl⟩
  · by_cases e : w = v
    · subst e; rw [upf_same]; exact List.nodup_nil
    · rw [upf_ne e]; exact h.nd w (hw.resolve_right e)
  · rw [List.nodup_append]
    exact ⟨h.rn, by simp, fun a ha b hb e => by simp at hb; subst hb; subst e; exact hv (h.rs a ha).1⟩
  · rcases List.mem_append.1 hr with q | q
    · obtain ⟨q1, q2, q3⟩ := h.rs r q
      have := hne r q1
      exact ⟨.inl q1, by rw [upf_ne this]; exact q2, by rw [upf_ne this]; exact q3⟩
    · simp at q; subst q; exact ⟨.inr rfl, upf_same, upf_same⟩
  · by_cases e : u = v
    · subst e; rw [upf_same] at hw; cases hw
    · rw [upf_ne e] at hw
      obtain ⟨q1, q2, q3⟩ := h.ls u (hu.resolve_right e) w hw
      refine ⟨.inl q1, q2, fun q => ?_⟩
      rcases List.mem_append.1 q with q | q
      · exact q3 q
      · simp at q; exact hv (q ▸ q1)
  · by_cases e : u = v
    · subst e; rw [upf_same] at h1; cases h1
    · by_cases e' : u' = v
      · subst e'; rw [upf_same] at h2; cases h2
      · rw [upf_ne e] at h1
        rw [upf_ne e'] at h2
        exact h.un u u' w (hu.resolve_right e) (hu'.resolve_right e') h1 h2
  · by_cases e : w = v
    · subst e; exact .inl (by simp)
    · rcases h.al w (hw.resolve_right e) with q | ⟨u, hu, q⟩
      · exact .inl (List.mem_append_left _ q)
      · exact .inr ⟨u, .inl hu, by rw [upf_ne (hne u hu)]; exact q⟩
end

section
variable {E : Value → Hp → Prop} {H : Hp} {lb lo n lc : Nat} {c nx pv : Nat → Int}

/-- the root that is kept, and the roots -/
def RtOk (root : Int) (R : List Nat) : Prop := (R = [] ∧ root = -1) ∨ ∃ r : Nat, R = [r] ∧ root = r

theorem ppush {eb q v : Nat} {root : Int} {kp : Option Addr} {key : Nat → Int} {L : Nat → List Nat} {S : Nat → Prop} {R : List Nat} {K : Hp → Prop} (hM : PaiM H eb q n root lb lo lc c nx pv) (hk : KeyM H q n kp key) (dq : q ≠ eb ∧ q ≠ lb) (dk : ∀ y, fpS kp y → y ≠ eb ∧ y ≠ lb)
    (hn : n ≤ 1024) (hS : ∀ v, S v → v < n) (hF : Fo key c nx pv L S R) (hR : RtOk root R) (hv : ¬ S v) (hvn : v < n)
    (kk : ∀ H' root' c' nx' pv' L' R', PaiM H' eb q n root' lb lo lc c' nx' pv' → Step (fun y => y = eb ∨ y = lb) H H' → Fo key c' nx' pv' L' (fun w => S w ∨ w = v) R' → RtOk root' R' → K H') : heaps_pairing_push.call (some ⟨eb, 0, none⟩) v E H K := by
  refine heaps_pairing_push.of (heaps_pairing_push.run_eq ?_)
  unfold heaps_pairing_push.run_t
  simp only [nn_mk, get_at hM.cell, List.getElem?_cons_zero, List.getElem?_cons_succ, ldS_mk, Nat.zero_add]
  refine hM.row.st (α := Lnk) (by omega) (by omega) ((0, 0, 0) : Lnk) fun H1 r1 s1 => ?_
  have s1' : Step (· = lb) H H1 := s1.weak fun y hy => by rw [fpS_mk] at hy; exact .inl hy
  have c1 := s1'.keep _ _ hM.cell hM.d
  have r1' : Row H1 (some ⟨lb, lo, none⟩) n lc (fun w => ((upf c v 0 w, upf nx v 0 w, upf pv v 0 w) : Lnk)) := r1.congr fun w _ => by
    rw [Int.toNat_natCast]
    by_cases e : w = v
    · subst e; rw [upf_same, upf_same, upf_same, upf_same]
    · rw [upf_ne e, upf_ne e, upf_ne e, upf_ne e]
  have hA := hF.add hv
  have hM1 : PaiM H1 eb q n root lb lo lc (upf c v 0) (upf nx v 0) (upf pv v 0) := ⟨c1, r1', hM.d⟩
  have s1'' : Step (fun y => y = eb ∨ y = lb) H H1 := s1'.weak fun _ h => .inl (.inr h)
  simp only [nn_mk, get_at c1, List.getElem?_cons_zero, List.getElem?_cons_succ, ldI_mk, ldS_mk, Nat.zero_add]
  rcases hR with ⟨rfl, rfl⟩ | ⟨r, rfl, rfl⟩
  · refine bc (fun _ => ?_) fun h => absurd (by decide) h
    refine stp c1 (by simp) rfl fun H2 e2 s2 => ?_
    replace e2 : H2 eb = some ⟨[.pointer (some ⟨q, 0, none⟩), .int .i64 v, .slice (some ⟨lb, lo, none⟩) n lc], 106⟩ := e2
    exact kk H2 v _ _ _ _ _ ⟨e2, r1'.keep s2 fun y hy h => by rw [fpS_mk] at hy; exact hM.d (h.symm.trans hy), hM.d⟩ (s1''.trans s2 fun _ h => .inl (.inl h)) hA (.inr ⟨v, rfl, rfl⟩)
  · refine bc (fun h => by omega) fun _ => ?_
    try simp only [nn_mk, get_at c1, List.getElem?_cons_zero, List.getElem?_cons_succ, ldI_mk, ldS_mk, Nat.zero_add]
    have hk1 := hk.keep s1' dq.2 fun y hy => (dk y hy).2
    have hrv : r ≠ v := fun e => hv (e ▸ (hF.rs r (by simp)).1)
    refine hmeld hM1 hk1 dq.2 (fun y hy => (dk y hy).2) hn (fun w hw => hw.elim (hS w) fun e => e ▸ hvn) hA (by simp) (by simp) hrv fun H2 x y c' nx' pv' L' hxy hM2 s2 hFo => ?_
    try simp only [nn_mk, Nat.zero_add]
    refine stp hM2.cell (by simp) rfl fun H3 e3 s3 => ?_
    replace e3 : H3 eb = some ⟨[.pointer (some ⟨q, 0, none⟩), .int .i64 x, .slice (some ⟨lb, lo, none⟩) n lc], 106⟩ := e3
    refine kk H3 x c' nx' pv' L' [x] ⟨e3, hM2.row.keep s3 fun y hy h => by rw [fpS_mk] at hy; exact hM.d (h.symm.trans hy), hM.d⟩ ((s1''.trans s2 fun _ h => .inl (.inr h)).trans s3 fun _ h => .inl (.inl h)) (hFo [x] (by simp) fun w => ?_) (.inr ⟨x, rfl, rfl⟩)
    rcases hxy with ⟨rfl, rfl⟩ | ⟨rfl, rfl⟩
    · simp; omega
    · simp; omega
end
end Go.Mz

/-
  Walks of layer 5: the pairing heap: lower.
-/
namespace Go.Mz
section
variable {E : Value → Hp → Prop} {H : Hp} {lb lo n lc : Nat} {c nx pv : Nat → Int}

theorem plower {eb q h r : Nat} {x : Int} {kp : Option Addr} {key : Nat → Int} {L : Nat → List Nat} {S : Nat → Prop} {K : Hp → Prop} (hM : PaiM H eb q n r lb lo lc c nx pv) (hk : KeyM H q n kp (upf key h x)) (dq : q ≠ eb ∧ q ≠ lb) (dk : ∀ y, fpS kp y → y ≠ eb ∧ y ≠ lb)
    (hn : n ≤ 1024) (hS : ∀ v, S v → v < n) (hF : Fo key c nx pv L S [r]) (hh : S h) (hx : x ≤ key h)
    (kk : ∀ H' root' c' nx' pv' L' R', PaiM H' eb q n root' lb lo lc c' nx' pv' → Step (fun y => y = eb ∨ y = lb) H H' → Fo (upf key h x) c' nx' pv' L' S R' → RtOk root' R' → K H') : heaps_pairing_lower.call (some ⟨eb, 0, none⟩) h E H K := by
  have hhn := hS h hh
  have hrn := hS r (hF.rs r (by simp)).1
  refine heaps_pairing_lower.of (heaps_pairing_lower.run_eq ?_)
  unfold heaps_pairing_lower.run_t
  simp only [nn_mk, get_at hM.cell, List.getElem?_cons_zero, List.getElem?_cons_succ, ldI_mk, ldS_mk, Nat.zero_add]
  refine bc (fun e => ?_) fun hne => ?_
  · have e : h = r := by omega
    subst e
    exact kk H h c nx pv L [h] hM .refl (hF.low (by simp) hx) (.inr ⟨h, rfl, rfl⟩)
  have hhr : h ≠ r := fun e => hne (by rw [e])
  obtain ⟨u, hu, hm⟩ : ∃ u, S u ∧ h ∈ L u := by
    rcases hF.al h hh with q | q
    · simp at q; exact (hhr q).elim
    · exact q
  have hun := hS u hu
  obtain ⟨l1, l2, hL⟩ := List.append_of_mem hm
  have hsg := hF.sg u hu
  have hnd := hF.nd u hu
  rw [hL] at hsg hnd
  have hmem : ∀ w, w ∈ l1 ++ h :: l2 → S w ∧ w < n ∧ lk key u w := fun w hw => by
    have := hF.ls u hu w (by rw [hL]; exact hw)
    exact ⟨this.1, hS w this.1, this.2.1⟩
  have hl1 : h ∉ l1 := fun e => by
    rw [List.nodup_append] at hnd
    exact hnd.2.2 h e h (by simp) rfl
  have hl2 : h ∉ l2 := fun e => by
    rw [List.nodup_append] at hnd
    exact (List.nodup_cons.1 hnd.2.1).1 e
  try simp only [nn_mk, get_at hM.cell, List.getElem?_cons_zero, List.getElem?_cons_succ, ldI_mk, ldS_mk, Nat.zero_add]
  simp only [ix_mk, Int.toNat_natCast]
  refine ⟨⟨by omega, by omega⟩, ?_⟩
  try simp only [nn_mk, get_at hM.cell, List.getElem?_cons_zero, List.getElem?_cons_succ, ldI_mk, ldS_mk, Nat.zero_add]
  rw [lnk2 hM.row hhn]
  simp only [ldI_mk]
  -- the one that leads to it
  obtain ⟨p, c1, nx1, hp, hpn, hcase, hSg⟩ : ∃ (p : Nat) (c1 nx1 : Nat → Int), pv h = (p : Int) + 1 ∧ p < n ∧ ((c p = (h : Int) + 1 ∧ c1 = upf c p (nx h) ∧ nx1 = nx ∧ p = u) ∨ (c p ≠ (h : Int) + 1 ∧ c1 = c ∧ nx1 = upf nx p (nx h) ∧ p ∈ l1)) ∧
      ∀ (pv' : Nat → Int), (∀ y, y ∉ l2.head? → pv' y = pv y) → (∀ y ∈ l2.head?, pv' y = pv h) → Sg nx1 pv' ((u : Int) + 1) (c1 u) (l1 ++ l2) := by
    have hcut := hsg.cut hnd
    rcases List.eq_nil_or_concat l1 with e | ⟨l0, d, e⟩
    · subst e
      obtain ⟨q1, q2, _⟩ := (hcut (fun y => if y ∈ l2.head? then pv h else pv y) (fun y hy => if_neg hy) fun y hy => if_pos hy).1 rfl
      refine ⟨u, upf c u (nx h), nx, q2, hun, .inl ⟨q1, rfl, rfl, rfl⟩, fun pv' a1 a2 => ?_⟩
      rw [upf_same]
      exact ((hcut pv' a1 a2).1 rfl).2.2
    · rw [List.concat_eq_append] at e
      subst e
      obtain ⟨q1, q2, _⟩ := (hcut (fun y => if y ∈ l2.head? then pv h else pv y) (fun y hy => if_neg hy) fun y hy => if_pos hy).2 d l0 rfl
      obtain ⟨hd1, hd2, hd3⟩ := hmem d (by simp)
      refine ⟨d, c, upf nx d (nx h), q1, hd2, .inr ⟨fun e => ?_, rfl, rfl, by simp⟩, fun pv' a1 a2 => ?_⟩
      · have hsd := hF.sg d hd1
        cases hLd : L d with
        | nil =>
          rw [hLd] at hsd
          have : c d = 0 := hsd
          omega
        | cons w l =>
          rw [hLd] at hsd
          have : c d = (w : Int) + 1 := hsd.1
          have ew : w = h := by omega
          subst ew
          have := hF.un d u w hd1 hu (by rw [hLd]; simp) hm
          subst this
          exact nlk_self hd3
      · have := ((hcut pv' a1 a2).2 d l0 rfl).2.2
        simpa using this
  rw [hp, i64w (n := (p : Int) + 1 - 1) (by omega) (by omega), show (p : Int) + 1 - 1 = (p : Int) by omega]
  simp only [ix_mk, Int.toNat_natCast]
  refine ⟨⟨by omega, by omega⟩, ?_⟩
  rw [lnk0 hM.row hpn, lnk1 hM.row hhn]
  simp only [ldI_mk]
  rw [i64w (n := (h : Int) + 1) (by omega) (by omega)]
  have hph : p ≠ h := by
    rcases hcase with ⟨_, _, _, e⟩ | ⟨_, _, _, e⟩
    · rw [e]; exact fun e' => nlk_self (e' ▸ (hmem h (by simp)).2.2)
    · exact fun e' => hl1 (e' ▸ e)
  have go : ∀ H1, Row H1 (some ⟨lb, lo, none⟩) n lc (fun v => ((c1 v, nx1 v, pv v) : Lnk)) → Step (· = lb) H H1 → heaps_pairing_lower.j1 (some ⟨eb, 0, none⟩) (h : Int) (some ⟨lb, lo + h * 3, none⟩) E H1 K := fun H1 r1 s1 => by
    have c11 := s1.keep _ _ hM.cell hM.d
    have enx : nx1 h = nx h := by
      rcases hcase with ⟨_, _, e, _⟩ | ⟨_, _, e, _⟩
      · rw [e]
      · rw [e, upf_ne (fun e' => hph e'.symm)]
    refine heaps_pairing_lower.j1_eq ?_
    unfold heaps_pairing_lower.j1_t
    simp only [nn_mk]
    rw [lnk1 r1 hhn, enx]
    simp only [ldI_mk]
    have fin : ∀ (H2 : Hp) (pv2 : Nat → Int), Row H2 (some ⟨lb, lo, none⟩) n lc (fun v => ((c1 v, nx1 v, pv2 v) : Lnk)) → Step (· = lb) H1 H2 → (∀ y, y ∉ l2.head? → pv2 y = pv y) → (∀ y ∈ l2.head?, pv2 y = pv h) → heaps_pairing_lower.j2 (some ⟨eb, 0, none⟩) (h : Int) (some ⟨lb, lo + h * 3, none⟩) E H2 K := fun H2 pv2 r2 s2 a1 a2 => by
      refine heaps_pairing_lower.j2_eq ?_
      unfold heaps_pairing_lower.j2_t
      simp only [nn_mk]
      refine lks1 r2 hhn fun H3 r3 s3 => ?_
      refine lks2 r3 hhn fun H4 r4 s4 => ?_
      have s04 : Step (· = lb) H H4 := ((s1.trans s2 fun _ h => .inl h).trans s3 fun _ h => .inl h).trans s4 fun _ h => .inl h
      have c4 := s04.keep _ _ hM.cell hM.d
      have hM4 : PaiM H4 eb q n r lb lo lc c1 (upf nx1 h 0) (upf pv2 h 0) := ⟨c4, r4, hM.d⟩
      simp only [nn_mk, get_at c4, List.getElem?_cons_zero, List.getElem?_cons_succ, ldI_mk, ldS_mk, Nat.zero_add]
      have hhd : ∀ y, y ∈ l2.head? → y ∈ l2 := fun y hy => by
        cases l2 with
        | nil => simp at hy
        | cons w l => simp at hy; simp [hy]
      have hFo : Fo (upf key h x) c1 (upf nx1 h 0) (upf pv2 h 0) (upf L u (l1 ++ l2)) S ([r] ++ [h]) := by
        refine hF.cut hu hL hx (fun v hv => ?_) ?_ (fun y hy hyl => ?_) ⟨upf_same, upf_same⟩
        · rcases hcase with ⟨_, e, _, e2⟩ | ⟨_, e, _, _⟩
          · rw [e, e2, upf_ne hv]
          · rw [e]
        · refine (hSg pv2 a1 a2).cg fun w hw => ?_
          have : w ≠ h := fun e => by
            subst e
            rcases List.mem_append.1 hw with q | q
            · exact hl1 q
            · exact hl2 q
          rw [upf_ne this, upf_ne this]
          exact ⟨rfl, rfl⟩
        · rw [upf_ne hy, upf_ne hy]
          refine ⟨?_, a1 y fun q => hyl (List.mem_append_right _ (hhd y q))⟩
          rcases hcase with ⟨_, _, e, _⟩ | ⟨_, _, e, e2⟩
          · rw [e]
          · rw [e, upf_ne (fun e' => hyl (by rw [e']; exact List.mem_append_left _ e2))]
      have hk4 := hk.keep s04 dq.2 fun y hy => (dk y hy).2
      refine hmeld hM4 hk4 dq.2 (fun y hy => (dk y hy).2) hn hS hFo (by simp) (by simp) (fun e => hhr e.symm) fun H5 a b c' nx' pv' L' hxy hM5 s5 hFo5 => ?_
      try simp only [nn_mk, Nat.zero_add]
      refine stp hM5.cell (by simp) rfl fun H6 e6 s6 => ?_
      replace e6 : H6 eb = some ⟨[.pointer (some ⟨q, 0, none⟩), .int .i64 a, .slice (some ⟨lb, lo, none⟩) n lc], 106⟩ := e6
      have s05 : Step (fun y => y = eb ∨ y = lb) H H5 := (s04.trans s5 fun _ h => .inl h).weak fun _ h => .inl (.inr h)
      refine kk H6 a c' nx' pv' L' [a] ⟨e6, hM5.row.keep s6 fun y hy h => by rw [fpS_mk] at hy; exact hM.d (h.symm.trans hy), hM.d⟩ (s05.trans s6 fun _ h => .inl (.inl h)) (hFo5 [a] (by simp) fun w => ?_) (.inr ⟨a, rfl, rfl⟩)
      rcases hxy with ⟨rfl, rfl⟩ | ⟨rfl, rfl⟩
      · simp; omega
      · simp; omega
    cases hl : l2 with
    | nil =>
      have h0 : nx h = 0 := by
        have : ∀ {l1 : List Nat} {p y : Int}, Sg nx pv p y (l1 ++ h :: l2) → Sg nx pv ((h : Int) + 1) (nx h) l2 := by
          intro l1
          induction l1 with
          | nil => intro p y hs; exact hs.2.2
          | cons a l ih => intro p y hs; exact ih hs.2.2
        have := this hsg
        rw [hl] at this
        exact this
      refine bc (fun hh => by omega) fun _ => ?_
      exact fin H1 pv r1 .refl (fun y _ => rfl) fun y hy => by rw [hl] at hy; simp at hy
    | cons w l =>
      have h0 : nx h = (w : Int) + 1 := by
        have : ∀ {l1 : List Nat} {p y : Int}, Sg nx pv p y (l1 ++ h :: l2) → Sg nx pv ((h : Int) + 1) (nx h) l2 := by
          intro l1
          induction l1 with
          | nil => intro p y hs; exact hs.2.2
          | cons a l ih => intro p y hs; exact ih hs.2.2
        have := this hsg
        rw [hl] at this
        exact this.1
      have hwn := (hmem w (by rw [hl]; simp)).2.1
      refine bc (fun _ => ?_) fun hh => by omega
      simp only [nn_mk, get_at c11, List.getElem?_cons_zero, List.getElem?_cons_succ, ldI_mk, ldS_mk, Nat.zero_add]
      try rw [lnk1 r1 hhn]
      try simp only [ldI_mk]
      rw [lnk2 r1 hhn]
      simp only [ldI_mk]
      try rw [enx]
      rw [h0, i64w (n := (w : Int) + 1 - 1) (by omega) (by omega), show (w : Int) + 1 - 1 = (w : Int) by omega]
      simp only [ix_mk, Int.toNat_natCast]
      refine ⟨⟨by omega, by omega⟩, ?_⟩
      refine lks2 r1 hwn fun H2 r2 s2 => ?_
      refine fin H2 _ r2 s2 (fun y hy => ?_) fun y hy => ?_
      · rw [hl] at hy; simp at hy; rw [upf_ne (fun e => hy e.symm)]
      · rw [hl] at hy; simp at hy; rw [← hy, upf_same]
  rcases hcase with ⟨e1, e2, e3, e4⟩ | ⟨e1, e2, e3, e4⟩
  · refine bc (fun _ => ?_) fun h => (h e1).elim
    refine lks0 hM.row hpn fun H1 r1 s1 => ?_
    exact go H1 (by rw [e2, e3]; exact r1) s1
  · refine bc (fun h => (e1 h).elim) fun _ => ?_
    try rw [lnk1 hM.row hhn]
    try simp only [ldI_mk]
    refine lks1 hM.row hpn fun H1 r1 s1 => ?_
    exact go H1 (by rw [e2, e3]; exact r1) s1
end
end Go.Mz

/-
  Walks of layer 5: the pairing heap: pop; it is an engine.
-/
namespace Go.Mz

theorem Sg.at {nx pv : Nat → Int} {h : Nat} {l2 : List Nat} : ∀ {l1 : List Nat} {p y : Int}, Sg nx pv p y (l1 ++ h :: l2) → Sg nx pv ((h : Int) + 1) (nx h) l2
  | [], _, _, hs => hs.2.2
  | _ :: l1, _, _, hs => Sg.at (l1 := l1) hs.2.2

def hd1 : List Nat → Int
  | [] => 0
  | w :: _ => (w : Int) + 1

theorem Sg.hd {nx pv : Nat → Int} {p x : Int} : ∀ {l : List Nat}, Sg nx pv p x l → x = hd1 l
  | [], h => h
  | _ :: _, h => h.1

theorem lsF_atz {l : List Nat} {i : Nat} {a : Nat} {r : List Nat} (h : l.drop i = a :: r) : lsF l i = (a : Int) := by
  unfold lsF
  have : l[i]? = some a := by rw [← List.head?_drop, h]; rfl
  rw [this]; rfl

theorem lsF_gtz {l : List Nat} {j : Nat} (h : j < l.length) : lsF l j = (l[j] : Int) := by
  unfold lsF
  rw [List.getElem?_eq_getElem h]; rfl

section
variable {E : Value → Hp → Prop} {H : Hp} {lb lo n lc : Nat} {c nx pv : Nat → Int}

theorem PaiM.keep {H' : Hp} {eb q : Nat} {root : Int} {F : Nat → Prop} (h : PaiM H eb q n root lb lo lc c nx pv) (s : Step F H H') (h1 : ¬ F eb) (h2 : ¬ F lb) : PaiM H' eb q n root lb lo lc c nx pv :=
  ⟨s.keep _ _ h.cell h1, h.row.keep s fun y hy => by rw [fpS_mk] at hy; exact hy ▸ h2, h.d⟩

theorem PaiM.live {eb q : Nat} {root : Int} (h : PaiM H eb q n root lb lo lc c nx pv) : H eb ≠ none ∧ H lb ≠ none := ⟨by rw [h.cell]; exact fun e => (by cases e), h.row.live (b := lb) ⟨_, rfl⟩⟩

theorem PaiM.root {eb q : Nat} {root root' : Int} {K : Hp → Prop} (h : PaiM H eb q n root lb lo lc c nx pv) (k : ∀ H', PaiM H' eb q n root' lb lo lc c nx pv → Step (· = eb) H H' → K H') : stC H eb 1 [.int .i64 root'] K := by
  refine stp h.cell (by simp) rfl fun H' e s => ?_
  replace e : H' eb = some ⟨[.pointer (some ⟨q, 0, none⟩), .int .i64 root', .slice (some ⟨lb, lo, none⟩) n lc], 106⟩ := e
  exact k H' ⟨e, h.row.keep s fun y hy hh => by rw [fpS_mk] at hy; exact h.d (hh.symm.trans hy), h.d⟩ s

theorem ppop {eb q r : Nat} {kp : Option Addr} {key : Nat → Int} {L : Nat → List Nat} {S : Nat → Prop} {K : Hp → Prop} (hM : PaiM H eb q n r lb lo lc c nx pv) (hk : KeyM H q n kp key) (dq : q ≠ eb ∧ q ≠ lb) (dk : ∀ y, fpS kp y → y ≠ eb ∧ y ≠ lb)
    (hn : n ≤ 1024) (hS : ∀ v, S v → v < n) (hF : Fo key c nx pv L S [r])
    (kk : ∀ H' root' c' nx' pv' L' R', PaiM H' eb q n root' lb lo lc c' nx' pv' → Step (fun y => y = eb ∨ y = lb) H H' → Fo key c' nx' pv' L' (fun w => S w ∧ w ≠ r) R' → RtOk root' R' → K H') : heaps_pairing_pop.call (some ⟨eb, 0, none⟩) E H K := by
  have Sr := (hF.rs r (by simp)).1
  have hrn := hS r Sr
  have hlive := hM.live
  have hkf : ∀ {H'}, Step (fun y => y = eb ∨ y = lb) H H' → KeyM H' q n kp key := fun s => hk.keep s (fun h => h.elim dq.1 dq.2) fun y hy h => h.elim (dk y hy).1 (dk y hy).2
  obtain ⟨T, hT⟩ : ∃ T, L r = T := ⟨_, rfl⟩
  have hTn : ∀ w ∈ T, w < n := fun w hw => hS w (hF.ls r Sr w (by rw [hT]; exact hw)).1
  have hTd : T.Nodup := by rw [← hT]; exact hF.nd r Sr
  have hTl : T.length ≤ 1024 := by
    have h1 : T.length ≤ n := by
      have := List.Nodup.length_le_of_subset (l₁ := T) (l₂ := List.range n) hTd fun w hw => List.mem_range.2 (hTn w hw)
      simpa using this
    omega
  have hsg := hF.sg r Sr
  rw [hT] at hsg
  refine heaps_pairing_pop.of (heaps_pairing_pop.run_eq ?_)
  unfold heaps_pairing_pop.run_t
  simp only [nn_mk, get_at hM.cell, List.getElem?_cons_zero, List.getElem?_cons_succ, ldI_mk, ldS_mk, Nat.zero_add, ix_mk, Int.toNat_natCast]
  refine ⟨⟨by omega, by omega⟩, ?_⟩
  rw [lnk0 hM.row hrn]
  simp only [ldI_mk]
  refine heaps_pairing_pop.l1_rule (fun p0 tp tn tc c3 H' => p0 = some ⟨eb, 0, none⟩ ∧ ∃ (dn rest : List Nat) (nx1 pv1 : Nat → Int), T = dn ++ rest ∧ dn.length = tn ∧ c3 = hd1 rest ∧ Step (fun y => y = eb ∨ y = lb) H H' ∧ PaiM H' eb q n r lb lo lc c nx1 pv1 ∧ Row H' tp dn.length tc (lsF dn) ∧ (∀ y, fpS tp y → H y = none) ∧ (∀ y ∈ dn, nx1 y = 0 ∧ pv1 y = 0) ∧ ∀ y, y ∉ dn → nx1 y = nx y ∧ pv1 y = pv y)
    (fun p0 tp tn tc c3 H' => T.length - tn) ?_ ⟨rfl, [], T, nx, pv, rfl, rfl, hsg.hd, .refl, hM, Row.nil, fun y hy => (by rw [fpS_none] at hy; exact hy.elim), fun y hy => (by cases hy), fun y _ => ⟨rfl, rfl⟩⟩
  rintro p0 tp tn tc c3 H1 ⟨rfl, dn, rest, nx1, pv1, hTe, rfl, rfl, s1, hM1, rt, ft, hd0, hdn⟩ X hX
  refine heaps_pairing_pop.b1_eq ?_
  unfold heaps_pairing_pop.b1_t
  cases rest with
  | cons w rest =>
    have hwn := hTn w (by rw [hTe]; simp)
    have hwd : w ∉ dn := fun e => by
      rw [hTe, List.nodup_append] at hTd
      exact hTd.2.2 w e w (by simp) rfl
    have hnw : nx w = hd1 rest := by
      rw [hTe] at hsg
      exact (hsg.at).hd
    have hdl : dn.length + 1 ≤ 1024 := by rw [hTe] at hTl; simp at hTl; omega
    have hdl2 : dn.length < T.length := by rw [hTe]; simp
    refine bc (fun _ => ?_) fun h => by have : hd1 (w :: rest) = (w : Int) + 1 := rfl; omega
    have hc3 : IntKind.wrap .i64 (hd1 (w :: rest) - 1) = (w : Int) := by
      have : hd1 (w :: rest) = (w : Int) + 1 := rfl
      rw [this, i64w (by omega) (by omega)]; omega
    rw [hc3]
    simp only [nn_mk, get_at hM1.cell, List.getElem?_cons_zero, List.getElem?_cons_succ, ldI_mk, ldS_mk, Nat.zero_add, ix_mk, Int.toNat_natCast]
    refine ⟨⟨by omega, by omega⟩, ?_⟩
    rw [lnk1 hM1.row hwn]
    simp only [ldI_mk]
    try simp only [nn_mk, get_at hM1.cell, List.getElem?_cons_zero, List.getElem?_cons_succ, ldI_mk, ldS_mk, Nat.zero_add, ix_mk, Int.toNat_natCast]
    refine ⟨⟨by omega, by omega⟩, ?_⟩
    refine lks1 hM1.row hwn fun H2 r2 s2 => ?_
    refine ⟨⟨by omega, by omega⟩, ?_⟩
    refine lks2 r2 hwn fun H3 r3 s3 => ?_
    have s13 : Step (· = lb) H1 H3 := s2.trans s3 fun _ h => .inl h
    have hM3 : PaiM H3 eb q n r lb lo lc c (upf nx1 w 0) (upf pv1 w 0) := ⟨s13.keep _ _ hM1.cell hM1.d, r3, hM1.d⟩
    have s03 : Step (fun y => y = eb ∨ y = lb) H H3 := s1.trans s13 fun _ h => .inl (.inr h)
    have rt3 := rt.keep s13 fun y hy e => hlive.2 (e ▸ ft y hy)
    refine rt3.app (α := Int) (w : Int) rfl (by omega) (by decide) fun tp' tc' H4 r4 s4 f4 => ?_
    have e1 : nx1 w = hd1 rest := by rw [(hdn w hwd).1, hnw]
    rw [e1]
    refine hX _ _ _ _ _ _ ⟨rfl, dn ++ [w], rest, upf nx1 w 0, upf pv1 w 0, by rw [hTe]; simp, by simp, rfl, s03.trans s4 fun y hy => .inr (ft y hy), hM3.keep s4 (fun h => hlive.1 (ft _ h)) fun h => hlive.2 (ft _ h), ?_, fun y hy => ?_, fun y hy => ?_, fun y hy => ?_⟩ (by omega)
    · rw [← lsF_app]; simpa using r4
    · rcases f4 y hy with h | h
      · exact ft y h
      · exact s03.mono y h
    · rcases List.mem_append.1 hy with h | h
      · have : y ≠ w := fun e => hwd (e ▸ h)
        rw [upf_ne this, upf_ne this]; exact hd0 y h
      · simp at h; subst h; exact ⟨upf_same, upf_same⟩
    · have h1 : y ∉ dn := fun h => hy (List.mem_append_left _ h)
      have h2 : y ≠ w := fun h => hy (by simp [h])
      rw [upf_ne h2, upf_ne h2]; exact hdn y h1
  | nil =>
    have hTd2 : T = dn := by rw [hTe]; simp
    subst hTd2
    clear hX
    refine bc (fun h => by have : hd1 ([] : List Nat) = 0 := rfl; omega) fun _ => ?_
    refine heaps_pairing_pop.j1_eq ?_
    unfold heaps_pairing_pop.j1_t
    simp only [nn_mk, Nat.zero_add]
    refine hM1.root fun H2 hM2 s2 => ?_
    have s02 : Step (fun y => y = eb ∨ y = lb) H H2 := s1.trans s2 fun _ h => .inl (.inl h)
    have rt2 := rt.keep s2 fun y hy e => hlive.1 (e ▸ ft y hy)
    have hFo : Fo key c nx1 pv1 L (fun w => S w ∧ w ≠ r) T := by
      have := hF.pop (nx' := nx1) (pv' := pv1) (by rw [hT]; exact hdn) (by rw [hT]; exact hd0)
      rwa [hT] at this
    have hS' : ∀ v, (S v ∧ v ≠ r) → v < n := fun v hv => hS v hv.1
    refine heaps_pairing_pop.l2_rule (fun p0 tp' tn tc' pp pn pc i6 H' => p0 = some ⟨eb, 0, none⟩ ∧ tp = tp' ∧ T.length = tn ∧ ∃ (i : Nat) (P : List Nat) (c' nx' pv' : Nat → Int) (L' : Nat → List Nat), i6 = i ∧ i = 2 * P.length ∧ i ≤ T.length ∧ P.length = pn ∧ Step (fun y => y = eb ∨ y = lb) H2 H' ∧ PaiM H' eb q n (-1) lb lo lc c' nx' pv' ∧ Row H' pp P.length pc (lsF P) ∧ (∀ y, fpS pp y → H2 y = none) ∧ Fo key c' nx' pv' L' (fun w => S w ∧ w ≠ r) (P ++ T.drop i))
      (fun p0 tp' tn tc' pp pn pc i6 H' => T.length - i6.toNat) ?_ ⟨rfl, rfl, rfl, 0, [], c, nx1, pv1, L, rfl, rfl, Nat.zero_le _, rfl, .refl, hM2, Row.nil, fun y hy => (by rw [fpS_none] at hy; exact hy.elim), by simpa using hFo⟩
    clear hFo hM1 s1 rt hdn hd0
    rintro p0 tp' tn tc' pp pn pc i6 H3 ⟨rfl, rfl, rfl, i, P, c', nx', pv', L', rfl, hi2, hiT, rfl, s3, hM3, rp, fp, hFo⟩ X hX
    have hlive2 := hM2.live
    have s03 : Step (fun y => y = eb ∨ y = lb) H H3 := s02.trans s3 fun _ h => .inl h
    have rt3 := rt2.keep s3 fun y hy e => e.elim (fun e => hlive.1 (e ▸ ft y hy)) fun e => hlive.2 (e ▸ ft y hy)
    have ftp : ∀ y, fpS tp y → ¬ fpS pp y := fun y hy h => rt2.live hy (fp y h)
    refine heaps_pairing_pop.b2_eq ?_
    unfold heaps_pairing_pop.b2_t
    rw [i64w (n := (i : Int) + 1) (by omega) (by omega)]
    -- the last rounds
    have last : ∀ (H4 : Hp) (pp : Option Addr) (pc : Nat) (P : List Nat), P.length ≤ 1024 → Step (fun y => y = eb ∨ y = lb) H2 H4 → PaiM H4 eb q n (-1) lb lo lc c' nx' pv' → Row H4 pp P.length pc (lsF P) → (∀ y, fpS pp y → H2 y = none) → Fo key c' nx' pv' L' (fun w => S w ∧ w ≠ r) P → heaps_pairing_pop.j3 (some ⟨eb, 0, none⟩) pp P.length pc E H4 K := fun H4 pp pc P hPl s4 hM4 rp fp hFo => by
      refine heaps_pairing_pop.j3_eq ?_
      unfold heaps_pairing_pop.j3_t
      rw [i64w (by omega) (by omega)]
      refine heaps_pairing_pop.l3_rule (fun p0 pp' pn pc' i7 H' => p0 = some ⟨eb, 0, none⟩ ∧ pp = pp' ∧ P.length = pn ∧ ∃ (k : Nat) (root' : Int) (Q : List Nat) (c' nx' pv' : Nat → Int) (L' : Nat → List Nat), i7 = (k : Int) - 1 ∧ k ≤ P.length ∧ RtOk root' Q ∧ Step (fun y => y = eb ∨ y = lb) H4 H' ∧ PaiM H' eb q n root' lb lo lc c' nx' pv' ∧ Fo key c' nx' pv' L' (fun w => S w ∧ w ≠ r) (P.take k ++ Q))
        (fun p0 pp' pn pc' i7 H' => (i7 + 1).toNat) ?_ ⟨rfl, rfl, rfl, P.length, -1, [], c', nx', pv', L', rfl, Nat.le_refl _, .inl ⟨rfl, rfl⟩, .refl, hM4, by simpa using hFo⟩
      clear hFo hM4
      rintro p0 pp' pn pc' i7 H5 ⟨rfl, rfl, rfl, k, root', Q, c5, nx5, pv5, L5, rfl, hkP, hRt, s5, hM5, hFo5⟩ Y hY
      have s05 : Step (fun y => y = eb ∨ y = lb) H H5 := (s02.trans s4 fun _ h => .inl h).trans s5 fun _ h => .inl h
      have rp5 := rp.keep s5 fun y hy e => e.elim (fun e => hlive2.1 (e ▸ fp y hy)) fun e => hlive2.2 (e ▸ fp y hy)
      refine heaps_pairing_pop.b3_eq ?_
      unfold heaps_pairing_pop.b3_t
      refine bc (fun hk0 => ?_) fun hk0 => ?_
      · obtain ⟨j, rfl⟩ : ∃ j, k = j + 1 := ⟨k - 1, by omega⟩
        have hjP : j < P.length := by omega
        have htk : P.take (j + 1) = P.take j ++ [P[j]] := by rw [List.take_succ_eq_append_getElem hjP]
        have hPj : lsF P j = (P[j] : Int) := lsF_gtz hjP
        have ei : ((j + 1 : Nat) : Int) - 1 = (j : Int) := by omega
        rw [ei]
        simp only [nn_mk, get_at hM5.cell, List.getElem?_cons_zero, List.getElem?_cons_succ, ldI_mk, ldS_mk, Nat.zero_add]
        have next : ∀ (H' : Hp) (root' : Int) (Q : List Nat) (c' nx' pv' : Nat → Int) (L' : Nat → List Nat), RtOk root' Q → Step (fun y => y = eb ∨ y = lb) H4 H' → PaiM H' eb q n root' lb lo lc c' nx' pv' → Fo key c' nx' pv' L' (fun w => S w ∧ w ≠ r) (P.take j ++ Q) → heaps_pairing_pop.j4 (some ⟨eb, 0, none⟩) pp P.length pc' (j : Int) Y E H' K := fun H' root' Q c' nx' pv' L' a1 a2 a3 a4 => by
          refine heaps_pairing_pop.j4_eq ?_
          unfold heaps_pairing_pop.j4_t
          rw [i64w (by omega) (by omega)]
          exact hY _ _ _ _ _ _ ⟨rfl, rfl, rfl, j, root', Q, c', nx', pv', L', rfl, by omega, a1, a2, a3, a4⟩ (by omega)
        rw [htk] at hFo5
        rcases hRt with ⟨rfl, rfl⟩ | ⟨rr, rfl, rfl⟩
        · refine bc (fun _ => ?_) fun h => absurd (by decide) h
          refine rp5.ixI (by omega) (by omega) ?_
          simp only [Int.toNat_natCast, hPj]
          try simp only [nn_mk, Nat.zero_add]
          refine hM5.root fun H6 hM6 s6 => ?_
          refine next H6 P[j] [P[j]] c5 nx5 pv5 L5 (.inr ⟨_, rfl, rfl⟩) (s5.trans s6 fun _ h => .inl (.inl h)) hM6 (by simpa using hFo5)
        · refine bc (fun h => by omega) fun _ => ?_
          try simp only [nn_mk, get_at hM5.cell, List.getElem?_cons_zero, List.getElem?_cons_succ, ldI_mk, ldS_mk, Nat.zero_add]
          refine rp5.ixI (by omega) (by omega) ?_
          simp only [Int.toNat_natCast, hPj]
          have hnd := hFo5.rn
          have hne : rr ≠ P[j] := fun e => by
            rw [List.append_assoc, List.nodup_append] at hnd
            have := hnd.2.1
            simp at this
            exact this e.symm
          have hnd' : ∀ z, z = rr ∨ z = P[j] → z ∉ P.take j := fun z hz hm => by
            rw [List.append_assoc, List.nodup_append] at hnd
            exact hnd.2.2 z hm z (by rcases hz with rfl | rfl <;> simp) rfl
          refine hmeld hM5 (hkf s05) dq.2 (fun y hy => (dk y hy).2) hn hS' hFo5 (List.mem_append_right _ (List.mem_singleton.2 rfl)) (List.mem_append_left _ (List.mem_append_right _ (List.mem_singleton.2 rfl))) hne fun H6 x y c6 nx6 pv6 L6 hxy hM6 s6 hFo6 => ?_
          try simp only [nn_mk, Nat.zero_add]
          refine hM6.root fun H7 hM7 s7 => ?_
          refine next H7 x [x] c6 nx6 pv6 L6 (.inr ⟨x, rfl, rfl⟩) ((s5.trans s6 fun _ h => .inl (.inr h)).trans s7 fun _ h => .inl (.inl h)) hM7 (hFo6 _ ?_ fun v => ?_)
          · rw [List.append_assoc, List.nodup_append] at hnd
            rw [List.nodup_append]
            refine ⟨hnd.1, by simp, fun a ha b hb e => ?_⟩
            simp at hb; subst hb; subst e
            exact hnd' a (by rcases hxy with ⟨h, _⟩ | ⟨h, _⟩ <;> simp [h]) ha
          · simp only [List.mem_append, List.mem_singleton]
            rcases hxy with ⟨rfl, rfl⟩ | ⟨rfl, rfl⟩
            · constructor
              · rintro (h | rfl)
                · exact ⟨.inl (.inl h), fun e => hnd' v (.inr e) h⟩
                · exact ⟨.inr rfl, hne⟩
              · rintro ⟨(h | h) | h, h'⟩
                · exact .inl h
                · exact (h' h).elim
                · exact .inr h
            · constructor
              · rintro (h | rfl)
                · exact ⟨.inl (.inl h), fun e => hnd' v (.inl e) h⟩
                · exact ⟨.inl (.inr rfl), fun e => hne e.symm⟩
              · rintro ⟨(h | h) | h, h'⟩
                · exact .inl h
                · exact .inr h
                · exact (h' h).elim
      · have : k = 0 := by omega
        subst this
        exact kk H5 root' c5 nx5 pv5 L5 Q hM5 s05 (by simpa using hFo5) hRt
    have hPl : P.length ≤ 1024 := by omega
    refine bc (fun hlt => ?_) fun hge => ?_
    · obtain ⟨a, hda⟩ : ∃ a, T.drop i = a :: T.drop (i + 1) := ⟨_, List.drop_eq_getElem_cons (by omega)⟩
      obtain ⟨b, hdb⟩ : ∃ b, T.drop (i + 1) = b :: T.drop (i + 2) := ⟨_, List.drop_eq_getElem_cons (by omega)⟩
      rw [hda, hdb] at hFo
      refine rt3.ixI (by omega) (by omega) ?_
      simp only [Int.toNat_natCast]
      rw [lsF_atz hda]
      refine rt3.ixI (by omega) (by omega) ?_
      have ti : ((i : Int) + 1).toNat = i + 1 := by omega
      rw [ti, lsF_atz hdb]
      have hnd := hFo.rn
      rw [List.nodup_append] at hnd
      have hab : a ≠ b := fun e => by have := (List.nodup_cons.1 hnd.2.1).1; exact this (by simp [e])
      refine hmeld hM3 (hkf s03) dq.2 (fun y hy => (dk y hy).2) hn hS' hFo (by simp) (by simp) hab fun H4 x y c4 nx4 pv4 L4 hxy hM4 s4 hFo4 => ?_
      have rp4 := rp.keep s4 fun y hy e => hlive2.2 (e ▸ fp y hy)
      refine rp4.app (α := Int) (x : Int) rfl (by omega) (by decide) fun pp' pc' H5 r5 s5 f5 => ?_
      have s35 : Step (fun y => y = eb ∨ y = lb) H2 H4 := s3.trans s4 fun _ h => .inl (.inr h)
      rw [i64w (by omega) (by omega)]
      refine hX _ _ _ _ _ _ _ _ _ ⟨rfl, rfl, rfl, i + 2, P ++ [x], c4, nx4, pv4, L4, by omega, by simp; omega, by omega, by simp, s35.trans s5 fun y hy => .inr (fp y hy), hM4.keep s5 (fun h => hlive2.1 (fp _ h)) fun h => hlive2.2 (fp _ h), by rw [← lsF_app]; simpa using r5, fun y hy => ?_, hFo4 _ ?_ fun v => ?_⟩ (by omega)
      · rcases f5 y hy with h | h
        · exact fp y h
        · exact s35.mono y h
      · have h1 := List.nodup_cons.1 hnd.2.1
        have h2 := List.nodup_cons.1 h1.2
        have hx : x ∈ a :: b :: T.drop (i + 2) := by rcases hxy with ⟨rfl, _⟩ | ⟨rfl, _⟩ <;> simp
        have hxr : x ∉ T.drop (i + 2) := by
          rcases hxy with ⟨rfl, _⟩ | ⟨rfl, _⟩
          · exact fun h => h1.1 (by simp [h])
          · exact h2.1
        rw [List.append_assoc, List.nodup_append]
        refine ⟨hnd.1, by simp [hxr, h2.2], fun z hz w hw e => ?_⟩
        subst e
        simp at hw
        rcases hw with rfl | hw
        · exact hnd.2.2 z hz z hx rfl
        · exact hnd.2.2 z hz z (by simp [hw]) rfl
      · have h1 := List.nodup_cons.1 hnd.2.1
        have h2 := List.nodup_cons.1 h1.2
        simp only [List.mem_append, List.mem_cons, List.mem_singleton, List.not_mem_nil, or_false]
        have ya : y = a ∨ y = b := by rcases hxy with ⟨_, rfl⟩ | ⟨_, rfl⟩ <;> simp
        have xy : x ≠ y := by
          rcases hxy with ⟨rfl, rfl⟩ | ⟨rfl, rfl⟩
          · exact hab
          · exact fun e => hab e.symm
        have cov : ∀ z, z = a ∨ z = b ↔ z = x ∨ z = y := fun z => by
          rcases hxy with ⟨rfl, rfl⟩ | ⟨rfl, rfl⟩
          · exact Iff.rfl
          · exact or_comm
        have nP : y ∉ P := fun h => hnd.2.2 y h y (by rcases ya with rfl | rfl <;> simp) rfl
        have nD : y ∉ T.drop (i + 2) := fun h => by
          rcases ya with rfl | rfl
          · exact h1.1 (by simp [h])
          · exact h2.1 h
        constructor
        · rintro ((h | rfl) | h)
          · exact ⟨.inl h, fun e => nP (e ▸ h)⟩
          · refine ⟨.inr ?_, xy⟩
            rcases (cov v).2 (.inl rfl) with h | h
            · exact .inl h
            · exact .inr (.inl h)
          · exact ⟨.inr (.inr (.inr h)), fun e => nD (e ▸ h)⟩
        · rintro ⟨h | h | h | h, h'⟩
          · exact .inl (.inl h)
          · exact .inl (.inr (((cov v).1 (.inl h)).resolve_right h'))
          · exact .inl (.inr (((cov v).1 (.inr h)).resolve_right h'))
          · exact .inr h
    · clear hX
      refine heaps_pairing_pop.j2_eq ?_
      unfold heaps_pairing_pop.j2_t
      refine ⟨by decide, ?_⟩
      have hmd : Int.tmod ((T.length : Nat) : Int) 2 = ((T.length % 2 : Nat) : Int) := by
        rw [Int.tmod_eq_emod_of_nonneg (by omega)]; omega
      rw [hmd]
      refine bc (fun h1 => ?_) fun h1 => ?_
      · have ei : i + 1 = T.length := by omega
        obtain ⟨a, hda⟩ : ∃ a, T.drop i = a :: T.drop (i + 1) := ⟨_, List.drop_eq_getElem_cons (by omega)⟩
        have hd2 : T.drop (i + 1) = [] := List.drop_eq_nil_of_le (by omega)
        rw [hda, hd2] at hFo
        rw [i64w (n := (T.length : Int) - 1) (by omega) (by omega)]
        refine rt3.ixI (by omega) (by omega) ?_
        have ti : ((T.length : Int) - 1).toNat = i := by omega
        rw [ti, lsF_atz hda]
        refine rp.app (α := Int) (a : Int) rfl (by omega) (by decide) fun pp' pc' H5 r5 s5 f5 => ?_
        have e : P.length + 1 = (P ++ [a]).length := by simp
        rw [e]
        refine last H5 pp' pc' (P ++ [a]) (by simp; omega) (s3.trans s5 fun y hy => .inr (fp y hy)) (hM3.keep s5 (fun h => hlive2.1 (fp _ h)) fun h => hlive2.2 (fp _ h)) (by rw [← lsF_app]; simpa using r5) (fun y hy => ?_) hFo
        rcases f5 y hy with h | h
        · exact fp y h
        · exact s3.mono y h
      · have hd2 : T.drop i = [] := List.drop_eq_nil_of_le (by omega)
        rw [hd2, List.append_nil] at hFo
        exact last H3 pp pc P hPl s3 hM3 rp fp hFo
end
end Go.Mz

/-
  Layer 5: the pairing heap does what a kind of heap must do.
-/
namespace Go.Mz
section
variable {E : Value → Hp → Prop}

structure PaiI (H : Hp) (eb q n : Nat) (key : Nat → Int) (S : Nat → Bool) (FP : Nat → Prop) (root : Int) (lb lo lc : Nat) (c nx pv : Nat → Int) (L : Nat → List Nat) (R : List Nat) : Prop where
  mem : PaiM H eb q n root lb lo lc c nx pv
  fo : Fo key c nx pv L (fun v => S v = true) R
  rt : RtOk root R
  fp : ∀ y, FP y ↔ y = eb ∨ y = lb

theorem PaiI.root {H : Hp} {eb q n v : Nat} {key : Nat → Int} {S : Nat → Bool} {FP : Nat → Prop} {root : Int} {lb lo lc : Nat} {c nx pv : Nat → Int} {L : Nat → List Nat} {R : List Nat} (h : PaiI H eb q n key S FP root lb lo lc c nx pv L R) (hS : ∀ v, S v = true → v < n) (hv : S v = true) :
    ∃ r : Nat, R = [r] ∧ root = r := by
  rcases h.rt with ⟨rfl, _⟩ | h'
  · exact (h.fo.empty hS v hv).elim
  · exact h'

def paiEng (E : Value → Hp → Prop) : Engine E where
  t := 103
  rad := False
  Inv := fun H eb q n key last S FP => ∃ root lb lo lc c nx pv L R, PaiI H eb q n key S FP root lb lo lc c nx pv L R
  keep := fun ⟨root, lb, lo, lc, c, nx, pv, L, R, h⟩ s hF => ⟨root, lb, lo, lc, c, nx, pv, L, R, h.mem.keep s (hF _ ((h.fp _).2 (.inl rfl))) (hF _ ((h.fp _).2 (.inr rfl))), h.fo, h.rt, h.fp⟩
  live := fun ⟨root, lb, lo, lc, c, nx, pv, L, R, h⟩ y hy => by
    rcases (h.fp y).1 hy with rfl | rfl
    · exact h.mem.live.1
    · exact h.mem.live.2
  cg := fun ⟨root, lb, lo, lc, c, nx, pv, L, R, h⟩ hk => ⟨root, lb, lo, lc, c, nx, pv, L, R, h.mem, h.fo.cg hk, h.rt, h.fp⟩
  push := fun {H eb q n v key last S FP kp K} ⟨root, lb, lo, lc, c, nx, pv, L, R, h⟩ hk hq hkp hn hS hv hSv _ kk => by
    have d : ∀ y, ¬ FP y → y ≠ eb ∧ y ≠ lb := fun y hy => ⟨fun e => hy ((h.fp y).2 (.inl e)), fun e => hy ((h.fp y).2 (.inr e))⟩
    refine ⟨109, by kernel_rfl, ppush h.mem hk (d _ hq) (fun y hy => d y (hkp y hy)) hn hS h.fo h.rt (by rw [hSv]; exact fun e => by cases e) hv fun H' root' c' nx' pv' L' R' hM s hF hR => ?_⟩
    have e : (fun w => S w = true ∨ w = v) = fun w => upf S v true w = true := by
      funext w
      by_cases e : w = v
      · subst e; simp [upf_same]
      · rw [upf_ne e]; simp [e]
    rw [e] at hF
    exact kk H' (fun y => y = eb ∨ y = lb) ⟨root', lb, lo, lc, c', nx', pv', L', R', hM, hF, hR, fun y => Iff.rfl⟩ (s.weak fun y hy => .inl ((h.fp y).2 hy)) fun y hy => .inl ((h.fp y).2 hy)
  lower := fun {H eb q n v key x last S FP kp K} ⟨root, lb, lo, lc, c, nx, pv, L, R, h⟩ hk hq hkp hn hS hSv hx _ kk => by
    have d : ∀ y, ¬ FP y → y ≠ eb ∧ y ≠ lb := fun y hy => ⟨fun e => hy ((h.fp y).2 (.inl e)), fun e => hy ((h.fp y).2 (.inr e))⟩
    obtain ⟨r, hR, hr⟩ := h.root hS hSv
    subst hR hr
    refine ⟨107, by kernel_rfl, plower h.mem hk (d _ hq) (fun y hy => d y (hkp y hy)) hn hS h.fo hSv (by omega) fun H' root' c' nx' pv' L' R' hM s hF hR => ?_⟩
    exact kk H' (fun y => y = eb ∨ y = lb) ⟨root', lb, lo, lc, c', nx', pv', L', R', hM, hF, hR, fun y => Iff.rfl⟩ (s.weak fun y hy => .inl ((h.fp y).2 hy)) fun y hy => .inl ((h.fp y).2 hy)
  top := fun {H eb q n key last S FP kp K} ⟨root, lb, lo, lc, c, nx, pv, L, R, h⟩ hk hn hS ⟨v, hv⟩ kk => by
    obtain ⟨r, hR, hr⟩ := h.root hS hv
    subst hR hr
    have hc : heaps_pairing_top.call (some ⟨eb, 0, none⟩) E H fun u H' => K u H' := by
      refine heaps_pairing_top.of (heaps_pairing_top.run_eq ?_)
      unfold heaps_pairing_top.run_t
      simp only [nn_mk, get_at h.mem.cell, List.getElem?_cons_zero, List.getElem?_cons_succ, ldI_mk, Nat.zero_add]
      exact kk r H .refl (h.fo.rs r (by simp)).1 (h.fo.least hS)
    exact ⟨110, by kernel_rfl, hc⟩
  pop := fun {H eb q n w key last S FP kp K} ⟨root, lb, lo, lc, c, nx, pv, L, R, h⟩ hk hq hkp hn hS hw hleast kk => by
    have d : ∀ y, ¬ FP y → y ≠ eb ∧ y ≠ lb := fun y hy => ⟨fun e => hy ((h.fp y).2 (.inl e)), fun e => hy ((h.fp y).2 (.inr e))⟩
    obtain ⟨r, hR, hr⟩ := h.root hS hw
    subst hR hr
    have e0 : r = w := least_uniq (h.fo.rs r (by simp)).1 hw (h.fo.least hS) hleast
    subst e0
    refine ⟨108, by kernel_rfl, ppop h.mem hk (d _ hq) (fun y hy => d y (hkp y hy)) hn hS h.fo fun H' root' c' nx' pv' L' R' hM s hF hR => ?_⟩
    have e : (fun u => S u = true ∧ u ≠ r) = fun u => upf S r false u = true := by
      funext u
      by_cases e : u = r
      · subst e; simp [upf_same]
      · rw [upf_ne e]; simp [e]
    rw [e] at hF
    exact kk H' (fun y => y = eb ∨ y = lb) ⟨root', lb, lo, lc, c', nx', pv', L', R', hM, hF, hR, fun y => Iff.rfl⟩ (s.weak fun y hy => .inl ((h.fp y).2 hy)) fun y hy => .inl ((h.fp y).2 hy)
end
end Go.Mz

/-
  Walks of layer 5: New, of a kind that there isn't, or of too many handles; of the first two kinds.
-/
namespace Go.Mz

section
variable {E : Value → Hp → Prop}

/-- the record that each kind's queue begins with -/
structure New0 (H H' : Hp) (n : Nat) (kind : Int) (q kb hb : Nat) : Prop where
  cell : H' q = some ⟨[.slice (some ⟨kb, 0, none⟩) n n, .slice (some ⟨hb, 0, none⟩) n n, Value.nilIface, .int .i64 0, .int .i64 kind, .int .i64 0], 98⟩
  kr : Row H' (some ⟨kb, 0, none⟩) n n (fun _ => (0 : Int))
  hr : Row H' (some ⟨hb, 0, none⟩) n n (fun _ => false)
  fq : H q = none
  fk : H kb = none
  fh : H hb = none
  dqk : kb ≠ q
  dqh : hb ≠ q
  dkh : kb ≠ hb
  s : Step (fun _ => False) H H'

/-- the engine is told, and the queue is there -/
theorem New0.fin {g : Engine E} {H H1 H2 : Hp} {n : Nat} {kind : Int} {q kb hb eb : Nat} {FE : Nat → Prop} {K : Hp → Prop} (h : New0 H H1 n kind q kb hb) (hn : n ≤ 1024) (hrad : g.rad ↔ kind = 4) (s : Step (fun _ => False) H1 H2) (hI : g.Inv H2 eb q n (fun _ => 0) 0 (fun _ => false) FE) (hF : ∀ y, FE y → H1 y = none)
    (k : ∀ H' FP, Qu g H' q n kind (fun _ => 0) 0 (fun _ => false) FP → Step (fun _ => False) H H' → (∀ y, FP y → H y = none) → K H') : stC H2 q 2 [Value.iface g.t (.pointer (some ⟨eb, 0, none⟩))] K := by
  have c2 := s.keep _ _ h.cell fun h => h
  have k2 := h.kr.keep s fun _ _ h => h
  have r2 := h.hr.keep s fun _ _ h => h
  have nq : ¬ FE q := fun hh => by have := hF q hh; rw [h.cell] at this; cases this
  have nk : ∀ y, fpS (some ⟨kb, 0, none⟩) y → ¬ FE y := fun y hy hh => h.kr.live hy (hF y hh)
  have nh : ∀ y, fpS (some ⟨hb, 0, none⟩) y → ¬ FE y := fun y hy hh => h.hr.live hy (hF y hh)
  refine stp c2 (by simp) rfl fun H3 e3 s3 => ?_
  refine k H3 (fun y => y = q ∨ fpS (some ⟨kb, 0, none⟩) y ∨ fpS (some ⟨hb, 0, none⟩) y ∨ FE y) ⟨some ⟨kb, 0, none⟩, some ⟨hb, 0, none⟩, n, n, eb, FE, ?_, k2.keep s3 fun y hy e => ?_, r2.keep s3 fun y hy e => ?_, g.keep hI s3 fun y hy e => nq (e ▸ hy), fun v hv => (by cases hv), hrad, hn, ?_, ?_, nq, ?_, nk, nh, fun y => Iff.rfl⟩ ((h.s.and s).own s3 fun y hy => hy ▸ h.fq) fun y hy => ?_
  · rw [cnt_none fun _ _ => rfl]; exact e3
  · rw [fpS_mk] at hy; exact h.dqk (hy.symm.trans e)
  · rw [fpS_mk] at hy; exact h.dqh (hy.symm.trans e)
  · rw [fpS_mk]; exact fun e => h.dqk e.symm
  · rw [fpS_mk]; exact fun e => h.dqh e.symm
  · intro y hy hy'
    rw [fpS_mk] at hy hy'
    exact h.dkh (hy.symm.trans hy')
  · rcases hy with rfl | hy | hy | hy
    · exact h.fq
    · rw [fpS_mk] at hy; exact hy ▸ h.fk
    · rw [fpS_mk] at hy; exact hy ▸ h.fh
    · exact h.s.mono _ (hF y hy)

theorem qnew2 {n : Int} {H : Hp} {K : Option Addr → Int → Hp → Prop} (h0 : 0 ≤ n) (h1 : n ≤ 1024) (k : ∀ H' q FP, Qu (paiEng E) H' q n.toNat 2 (fun _ => 0) 0 (fun _ => false) FP → Step (fun _ => False) H H' → (∀ y, FP y → H y = none) → K (some ⟨q, 0, none⟩) 0 H') : heaps_New.call 2 n E H K := by
  refine heaps_New.of (heaps_New.run_eq ?_)
  unfold heaps_New.run_t
  refine bc (fun h => by omega) fun _ => ?_
  refine bc (fun h => by omega) fun _ => ?_
  refine bc (fun h => by omega) fun _ => ?_
  refine bc (fun h => by omega) fun _ => ?_
  refine Row.mkI h0 (by omega) fun kb H1 hkb rk s1 => ?_
  refine Row.mkB h0 (by omega) fun hb H2 hhb rh s2 => ?_
  refine ⟨trivial, ?_⟩
  refine nwk fun q H3 hq e3 s3 => ?_
  have hN : New0 H H3 n.toNat 2 q kb hb := ⟨e3, rk.keep (s2.and s3) fun _ _ h => h, rh.keep s3 fun _ _ h => h, (s1.and s2).mono _ hq, hkb, s1.mono _ hhb,
    ne_of_live hq ((rk.keep s2 fun _ _ h => h).live ⟨0, rfl⟩), ne_of_live hq (rh.live ⟨0, rfl⟩), ne_of_live hhb (rk.live ⟨0, rfl⟩), (s1.and s2).and s3⟩
  refine bc (fun h => absurd h (by decide)) fun _ => ?_
  refine bc (fun _ => ?_) fun h => absurd rfl h
  refine Row.make ((0, 0, 0) : Lnk) rfl h0 (by omega) (by decide) fun pb H4 hpb rp s4 => ?_
  refine nwk fun eb H5 heb e5 s5 => ?_
  refine ⟨trivial, ?_⟩
  have rp5 := rp.keep s5 fun _ _ h => h
  have dp : eb ≠ pb := fun e => rp.live ⟨0, rfl⟩ (e ▸ heb)
  refine hN.fin (g := paiEng E) (FE := fun y => y = eb ∨ y = pb) (by omega) ⟨fun h => h.elim, fun h => by omega⟩ (s4.and s5) ⟨-1, pb, 0, n.toNat, fun _ => 0, fun _ => 0, fun _ => 0, fun _ => [], [], ⟨e5, rp5, dp⟩, ⟨fun v hv => (by cases hv), fun v hv => (by cases hv), List.nodup_nil, fun r hr => (by cases hr), fun u hu => (by cases hu), fun u u' v hu => (by cases hu), fun v hv => (by cases hv)⟩, .inl ⟨rfl, rfl⟩, fun y => Iff.rfl⟩ (fun y hy => ?_) fun H' FP hQ s' hf => k H' q FP hQ s' hf
  rcases hy with rfl | rfl
  · exact s4.mono _ heb
  · exact hpb
end
end Go.Mz

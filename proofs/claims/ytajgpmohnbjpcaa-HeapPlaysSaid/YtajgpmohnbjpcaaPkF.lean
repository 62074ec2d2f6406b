/-
  Joined: FiP, FiQ, FiW, FiX, FiY, FiZ, FiE.
-/
import Derived.Test.YtajgpmohnbjpcaaPkP
import Derived.Test.YtajgpmohnbjpcaaPkB
import Derived.Test.YtajgpmohnbjpcaaPkH
import Derived.Test.YtajgpmohnbjpcaaGFib
import Derived.Test.YtajgpmohnbjpcaaDjP
set_option linter.unusedSimpArgs false
set_option linter.unusedVariables false
/-
  Plain law: rings, as links and as lists; the trees of a Fibonacci heap. No program in sight.
-/
namespace Go.Mz

/-- from one through others to one, to the right and back to the left -/
def Cn' (rt lf : Nat → Int) : Nat → List Nat → Nat → Prop
  | a, [], b => rt a = (b : Int) ∧ lf b = (a : Int)
  | a, x :: l, b => rt a = (x : Int) ∧ lf x = (a : Int) ∧ Cn' rt lf x l b

section
variable {rt lf rt' lf' : Nat → Int}

theorem Cn'.app : ∀ {l1 l2 : List Nat} {a b x : Nat}, Cn' rt lf a (l1 ++ x :: l2) b ↔ Cn' rt lf a l1 x ∧ Cn' rt lf x l2 b
  | [], _, _, _, _ => ⟨fun h => ⟨⟨h.1, h.2.1⟩, h.2.2⟩, fun h => ⟨h.1.1, h.1.2, h.2⟩⟩
  | y :: l1, l2, a, b, x => by
    show (_ ∧ _ ∧ Cn' rt lf y (l1 ++ x :: l2) b) ↔ (_ ∧ _ ∧ _) ∧ _
    rw [Cn'.app (l1 := l1)]
    exact ⟨fun ⟨h1, h2, h3, h4⟩ => ⟨⟨h1, h2, h3⟩, h4⟩, fun ⟨⟨h1, h2, h3⟩, h4⟩ => ⟨h1, h2, h3, h4⟩⟩

theorem Cn'.cg : ∀ {l : List Nat} {a b : Nat}, (∀ y, y = a ∨ y ∈ l → rt' y = rt y) → (∀ y, y = b ∨ y ∈ l → lf' y = lf y) → Cn' rt lf a l b → Cn' rt' lf' a l b
  | [], a, b, h1, h2, h => ⟨by rw [h1 a (.inl rfl)]; exact h.1, by rw [h2 b (.inl rfl)]; exact h.2⟩
  | x :: l, a, b, h1, h2, h => ⟨by rw [h1 a (.inl rfl)]; exact h.1, by rw [h2 x (.inr (by simp))]; exact h.2.1, Cn'.cg (fun y hy => h1 y (.inr (by simpa using hy))) (fun y hy => h2 y (hy.imp id fun h => by simp [h])) h.2.2⟩

/-- a ring, with one of it -/
def Rg (rt lf : Nat → Int) (c : Int) (l : List Nat) : Prop := (l = [] ∧ c = -1) ∨ ∃ a t, l = a :: t ∧ c = (a : Int) ∧ Cn' rt lf a t a

theorem Rg.cg {c : Int} {l : List Nat} (h1 : ∀ y ∈ l, rt' y = rt y) (h2 : ∀ y ∈ l, lf' y = lf y) (h : Rg rt lf c l) : Rg rt' lf' c l := by
  rcases h with h | ⟨a, t, rfl, rfl, h⟩
  · exact .inl h
  · exact .inr ⟨a, t, rfl, rfl, h.cg (fun y hy => h1 y (by simpa using hy)) fun y hy => h2 y (by simpa using hy)⟩

theorem Cn'.rot {a x : Nat} {t1 t2 : List Nat} (h : Cn' rt lf a (t1 ++ x :: t2) a) : Cn' rt lf x (t2 ++ a :: t1) x := by
  rw [Cn'.app] at h ⊢
  exact ⟨h.2, h.1⟩

/-- the one to the right -/
theorem Cn'.right {a b : Nat} {t : List Nat} (h : Cn' rt lf a t b) : ∃ r : Nat, rt a = (r : Int) ∧ (t.head?.getD b) = r := by
  cases t with
  | nil => exact ⟨b, h.1, rfl⟩
  | cons x t => exact ⟨x, h.1, rfl⟩

/-- another is put in, to the right of one -/
theorem Cn'.put {a h r : Nat} {t : List Nat} (hc : Cn' rt lf a t a) (hn : (a :: t).Nodup) (hh : h ∉ a :: t) (hr : rt a = (r : Int)) : Cn' (upf (upf rt h (r : Int)) a (h : Int)) (upf (upf lf h (a : Int)) r (h : Int)) a (h :: t) a := by
  have hah : a ≠ h := fun e => hh (by simp [e])
  cases t with
  | nil =>
    have : r = a := by have := hc.1; omega
    subst this
    refine ⟨upf_same, by rw [upf_ne (fun e => hah e.symm), upf_same], ?_, upf_same⟩
    rw [upf_ne (fun e => hah e.symm), upf_same]
  | cons x t =>
    have : r = x := by have := hc.1; omega
    subst this
    have hrh : r ≠ h := fun e => hh (by simp [e])
    have hn1 := List.nodup_cons.1 hn
    have hn2 := List.nodup_cons.1 hn1.2
    have har : a ≠ r := fun e => hn1.1 (by simp [e])
    refine ⟨upf_same, by rw [upf_ne (fun e => hrh e.symm), upf_same], ?_, upf_same, ?_⟩
    · rw [upf_ne (fun e => hah e.symm), upf_same]
    · refine hc.2.2.cg (fun y hy => ?_) fun y hy => ?_
      · have y1 : y ≠ a := by
          rcases hy with rfl | hy
          · exact fun e => har e.symm
          · exact fun e => hn1.1 (by simp [← e, hy])
        have y2 : y ≠ h := by
          rcases hy with rfl | hy
          · exact hrh
          · exact fun e => hh (by simp [← e, hy])
        rw [upf_ne y1, upf_ne y2]
      · have y1 : y ≠ r := by
          rcases hy with rfl | hy
          · exact har
          · exact fun e => hn2.1 (e ▸ hy)
        have y2 : y ≠ h := by
          rcases hy with rfl | hy
          · exact hah
          · exact fun e => hh (by simp [← e, hy])
        rw [upf_ne y1, upf_ne y2]

/-- the last one of a chain now leads to its first -/
theorem Cn'.close {h l : Nat} : ∀ {t : List Nat} {x y : Nat}, Cn' rt lf x t h → (x :: t).Nodup → h ∉ x :: t → lf h = (l : Int) → y ∉ t → (l = x ∨ l ∈ t) ∧ Cn' (upf rt l (y : Int)) (upf lf y (l : Int)) x t y
  | [], x, y, hc, hn, hh, hl, hy => by
    have : l = x := by have := hc.2; omega
    subst this
    exact ⟨.inl rfl, upf_same, upf_same⟩
  | z :: t, x, y, hc, hn, hh, hl, hy => by
    have hn1 := List.nodup_cons.1 hn
    obtain ⟨h1, h2⟩ := Cn'.close (t := t) (x := z) (y := y) hc.2.2 hn1.2 (fun e => hh (by simp at e ⊢; exact .inr e)) hl (fun e => hy (by simp [e]))
    have hlz : l ∈ z :: t := by rcases h1 with rfl | h1 <;> simp_all
    have hlx : x ≠ l := fun e => hn1.1 (e ▸ hlz)
    have hzy : z ≠ y := fun e => hy (by simp [e])
    exact ⟨.inr hlz, by rw [upf_ne hlx]; exact hc.1, by rw [upf_ne hzy]; exact hc.2.1, h2⟩

/-- one leaves its ring: it is a ring by itself then -/
theorem Cn'.leave {h l r : Nat} {t : List Nat} (hc : Cn' rt lf h t h) (hn : (h :: t).Nodup) (hl : lf h = (l : Int)) (hr : rt h = (r : Int)) :
    (l ∈ h :: t ∧ r ∈ h :: t) ∧ (∀ x t', t = x :: t' → r = x ∧ Cn' (upf (upf rt l (r : Int)) h (h : Int)) (upf (upf lf r (l : Int)) h (h : Int)) x t' x) ∧ Cn' (upf (upf rt l (r : Int)) h (h : Int)) (upf (upf lf r (l : Int)) h (h : Int)) h [] h := by
  refine ⟨?_, fun x t' e => ?_, upf_same, upf_same⟩
  · cases t with
    | nil =>
      have h1 := hc.1; have h2 := hc.2
      have : l = h := by omega
      have : r = h := by omega
      subst_vars; simp
    | cons x t =>
      have hn1 := List.nodup_cons.1 hn
      have hn2 := List.nodup_cons.1 hn1.2
      obtain ⟨h1, _⟩ := Cn'.close (y := x) hc.2.2 hn1.2 hn1.1 hl hn2.1
      have : r = x := by have := hc.1; omega
      subst this
      refine ⟨?_, by simp⟩
      rcases h1 with rfl | h1
      · simp
      · simp [h1]
  · subst e
    have hn1 := List.nodup_cons.1 hn
    have hn2 := List.nodup_cons.1 hn1.2
    have : r = x := by have := hc.1; omega
    subst this
    obtain ⟨_, h2⟩ := Cn'.close (y := r) hc.2.2 hn1.2 hn1.1 hl hn2.1
    refine ⟨rfl, h2.cg (fun y hy => ?_) fun y hy => ?_⟩
    · have hy' : y ∈ r :: t' := List.mem_cons.2 hy
      exact upf_ne fun e => hn1.1 (e ▸ hy')
    · have hy' : y ∈ r :: t' := List.mem_cons.2 hy
      exact upf_ne fun e => hn1.1 (e ▸ hy')
end

/-- a node's rank: its children, and one that it has lost -/
def rkF (deg : Nat → Int) (mk : Nat → Bool) (c : Nat) : Int := deg c + if mk c then 1 else 0

/-- how many of a list are of less rank, one of them left out -/
def lowF (deg : Nat → Int) (mk : Nat → Bool) (ex : Option Nat) (i : Nat) (l : List Nat) : Nat := l.countP fun c => decide (rkF deg mk c < (i : Int)) && decide (ex ≠ some c)

structure Fw (key par ch lf rt deg : Nat → Int) (mk : Nat → Bool) (L : Nat → List Nat) (S Rt : Nat → Prop) (ex : Option Nat) : Prop where
  rs : ∀ r, Rt r → S r
  nd : ∀ v, S v → (L v).Nodup
  ls : ∀ u, S u → ∀ v ∈ L u, S v ∧ lk key u v ∧ ¬ Rt v ∧ par v = (u : Int)
  al : ∀ v, S v → Rt v ∨ ∃ u, S u ∧ v ∈ L u
  rg : ∀ v, S v → Rg rt lf (ch v) (L v)
  dg : ∀ v, S v → deg v = ((L v).length : Int)
  ct : ∀ v, S v → ∀ i, lowF deg mk ex i (L v) ≤ i

section
variable {key par ch lf rt deg par' ch' lf' rt' deg' : Nat → Int} {mk mk' : Nat → Bool} {L : Nat → List Nat} {S Rt : Nat → Prop} {ex : Option Nat}

theorem Fw.un (h : Fw key par ch lf rt deg mk L S Rt ex) {u u' v : Nat} (hu : S u) (hu' : S u') (h1 : v ∈ L u) (h2 : v ∈ L u') : u = u' := by
  have := (h.ls u hu v h1).2.2.2
  have := (h.ls u' hu' v h2).2.2.2
  omega

theorem lowF_cg {deg deg' : Nat → Int} {mk mk' : Nat → Bool} {ex : Option Nat} {i : Nat} {l : List Nat} (h : ∀ c ∈ l, rkF deg' mk' c = rkF deg mk c) : lowF deg' mk' ex i l = lowF deg mk ex i l := by
  unfold lowF
  refine List.countP_congr fun c hc => ?_
  rw [h c hc]

/-- the roots' own links don't matter to the trees -/
theorem Fw.off (h : Fw key par ch lf rt deg mk L S Rt ex) (h1 : ∀ v, S v → ¬ Rt v → par' v = par v ∧ lf' v = lf v ∧ rt' v = rt v ∧ mk' v = mk v) : Fw key par' ch lf' rt' deg mk' L S Rt ex := by
  have hk : ∀ u, S u → ∀ v ∈ L u, par' v = par v ∧ lf' v = lf v ∧ rt' v = rt v ∧ mk' v = mk v := fun u hu v hv => h1 v (h.ls u hu v hv).1 (h.ls u hu v hv).2.2.1
  refine ⟨h.rs, h.nd, fun u hu v hv => ?_, h.al, fun v hv => ?_, h.dg, fun v hv i => ?_⟩
  · obtain ⟨q1, q2, q3, q4⟩ := h.ls u hu v hv
    exact ⟨q1, q2, q3, by rw [(hk u hu v hv).1]; exact q4⟩
  · exact (h.rg v hv).cg (fun y hy => (hk v hv y hy).2.2.1) fun y hy => (hk v hv y hy).2.1
  · rw [lowF_cg fun c hc => by unfold rkF; rw [(hk v hv c hc).2.2.2]]
    exact h.ct v hv i

theorem Fw.cgk {key' : Nat → Int} (h : Fw key par ch lf rt deg mk L S Rt ex) (hk : ∀ v, S v → key v = key' v) : Fw key' par ch lf rt deg mk L S Rt ex :=
  ⟨h.rs, h.nd, fun u hu v hv => by
    obtain ⟨q1, q2, q3, q4⟩ := h.ls u hu v hv
    refine ⟨q1, ?_, q3, q4⟩
    unfold lk at *
    rw [← hk u hu, ← hk v q1]
    exact q2, h.al, h.rg, h.dg, h.ct⟩

theorem Fw.cgR {Rt' : Nat → Prop} (h : Fw key par ch lf rt deg mk L S Rt ex) (hR : ∀ v, Rt' v ↔ Rt v) : Fw key par ch lf rt deg mk L S Rt' ex :=
  ⟨fun r hr => h.rs r ((hR r).1 hr), h.nd, fun u hu v hv => by
    obtain ⟨q1, q2, q3, q4⟩ := h.ls u hu v hv
    exact ⟨q1, q2, fun hh => q3 ((hR v).1 hh), q4⟩, fun v hv => (h.al v hv).imp (hR v).2 id, h.rg, h.dg, h.ct⟩

theorem Fw.cgS {S' : Nat → Prop} (h : Fw key par ch lf rt deg mk L S Rt ex) (hS : ∀ v, S' v ↔ S v) : Fw key par ch lf rt deg mk L S' Rt ex := by
  have : S' = S := funext fun v => propext (hS v)
  rw [this]; exact h

/-- the least of all is a root -/
theorem Fw.least (h : Fw key par ch lf rt deg mk L S Rt ex) {b n : Nat} (hS : ∀ v, S v → v < n) (hb : Rt b) (hl : ∀ r, Rt r → ¬ lk key r b) : ∀ v, S v → ¬ lk key v b := by
  obtain ⟨m, h1, h2⟩ := least_ex (key := key) hS ⟨b, h.rs b hb⟩
  have hm : Rt m := by
    rcases h.al m h1 with h3 | ⟨u, hu, hm⟩
    · exact h3
    · exact (h2 u hu (h.ls u hu m hm).2.1).elim
  intro v hv hlv
  by_cases e : m = b
  · subst e; exact h2 v hv hlv
  · rcases lk_total (key := key) e with h3 | h3
    · exact hl m hm h3
    · exact h2 b (h.rs b hb) h3

theorem Fw.empty (h : Fw key par ch lf rt deg mk L S Rt ex) {n : Nat} (hS : ∀ v, S v → v < n) (hR : ∀ r, ¬ Rt r) : ∀ v, ¬ S v := fun v hv => by
  obtain ⟨m, h1, h2⟩ := least_ex (key := key) hS ⟨v, hv⟩
  rcases h.al m h1 with h3 | ⟨u, hu, hm⟩
  · exact hR m h3
  · exact h2 u hu (h.ls u hu m hm).2.1

/-- one that wasn't there becomes a root -/
theorem Fw.add (h : Fw key par ch lf rt deg mk L S Rt ex) {v : Nat} (hv : ¬ S v) :
    Fw key (upf par v (-1)) (upf ch v (-1)) (upf lf v (v : Int)) (upf rt v (v : Int)) (upf deg v 0) (upf mk v false) (upf L v []) (fun w => S w ∨ w = v) (fun w => Rt w ∨ w = v) ex := by
  have hne : ∀ u, S u → u ≠ v := fun u hu e => hv (e ▸ hu)
  have hL : ∀ u, S u → ∀ w ∈ L u, w ≠ v := fun u hu w hw => hne w (h.ls u hu w hw).1
  refine ⟨fun r hr => hr.imp (h.rs r) id, fun w hw => ?_, fun u hu w hw => ?_, fun w hw => ?_, fun w hw => ?_, fun w hw => ?_, fun w hw i => ?_⟩
  · by_cases e : w = v
    · subst e; rw [upf_same]; exact List.nodup_nil
    · rw [upf_ne e]; exact h.nd w (hw.resolve_right e)
  · by_cases e : u = v
    · subst e; rw [upf_same] at hw; cases hw
    · rw [upf_ne e] at hw
      obtain ⟨q1, q2, q3, q4⟩ := h.ls u (hu.resolve_right e) w hw
      have hwv := hne w q1
      exact ⟨.inl q1, q2, fun hh => hh.elim q3 hwv, by rw [upf_ne hwv]; exact q4⟩
  · by_cases e : w = v
    · exact .inl (.inr e)
    · rcases h.al w (hw.resolve_right e) with q | ⟨u, hu, q⟩
      · exact .inl (.inl q)
      · exact .inr ⟨u, .inl hu, by rw [upf_ne (hne u hu)]; exact q⟩
  · by_cases e : w = v
    · subst e; rw [upf_same, upf_same]; exact .inl ⟨rfl, rfl⟩
    · have hSw := hw.resolve_right e
      rw [upf_ne e, upf_ne e]
      exact (h.rg w hSw).cg (fun y hy => upf_ne (hL w hSw y hy)) fun y hy => upf_ne (hL w hSw y hy)
  · by_cases e : w = v
    · subst e; rw [upf_same, upf_same]; rfl
    · rw [upf_ne e, upf_ne e]; exact h.dg w (hw.resolve_right e)
  · by_cases e : w = v
    · subst e; rw [upf_same]; exact Nat.zero_le _
    · have hSw := hw.resolve_right e
      rw [upf_ne e, lowF_cg (deg := deg) (mk := mk) fun c hc => by
        have := hL w hSw c hc
        unfold rkF
        rw [upf_ne this, upf_ne this]]
      exact h.ct w hSw i

/-- the root is taken: its children are roots -/
theorem Fw.pop (h : Fw key par ch lf rt deg mk L S Rt ex) {r : Nat} (hr : Rt r) : Fw key par ch lf rt deg mk L (fun v => S v ∧ v ≠ r) (fun v => Rt v ∧ v ≠ r ∨ v ∈ L r) ex := by
  have Sr := h.rs r hr
  refine ⟨fun v hv => ?_, fun v hv => h.nd v hv.1, fun u hu v hv => ?_, fun v hv => ?_, fun v hv => h.rg v hv.1, fun v hv => h.dg v hv.1, fun v hv => h.ct v hv.1⟩
  · rcases hv with ⟨h1, h2⟩ | hv
    · exact ⟨h.rs v h1, h2⟩
    · exact ⟨(h.ls r Sr v hv).1, fun e => (h.ls r Sr v hv).2.2.1 (e ▸ hr)⟩
  · obtain ⟨q1, q2, q3, q4⟩ := h.ls u hu.1 v hv
    exact ⟨⟨q1, fun e => q3 (e ▸ hr)⟩, q2, fun hh => hh.elim (fun hh => q3 hh.1) fun hh => hu.2 (h.un hu.1 Sr hv hh), q4⟩
  · rcases h.al v hv.1 with q | ⟨u, hu, q⟩
    · exact .inl (.inl ⟨q, hv.2⟩)
    · by_cases e : u = r
      · subst e; exact .inl (.inr q)
      · exact .inr ⟨u, ⟨hu, e⟩, q⟩
end
end Go.Mz

/-
  Plain law: the trees of a Fibonacci heap: one is cut off, two are made one; how many children a node has at most. No program in sight.
-/
namespace Go.Mz
section
variable {key par ch lf rt deg par' ch' lf' rt' deg' : Nat → Int} {mk mk' : Nat → Bool} {L : Nat → List Nat} {S Rt : Nat → Prop} {ex ex' : Option Nat}

theorem lowF_le {i : Nat} {l : List Nat} : lowF deg mk ex i l ≤ lowF deg mk none i l := by
  unfold lowF
  refine List.countP_mono_left fun c hc h => ?_
  simp at h ⊢
  exact h.1

theorem Fw.cut {h p : Nat} {x : Int} {l1 l2 : List Nat} (hf : Fw key par ch lf rt deg mk L S Rt ex) (hex : ex = none ∨ ex = some h) (hp : S p) (hL : L p = l1 ++ h :: l2) (hx : x ≤ key h)
    (h1 : ∀ v, v ≠ h → par' v = par v) (h2 : ∀ v, v ≠ p → ch' v = ch v) (h3 : deg' p = deg p - 1) (h3' : ∀ v, v ≠ p → deg' v = deg v) (h4 : Rg rt' lf' (ch' p) (l1 ++ l2)) (h5 : ∀ v, S v → ¬ Rt v → v ∉ L p → lf' v = lf v ∧ rt' v = rt v)
    (h6 : (ex' = none ∧ (∀ v, v ≠ h → v ≠ p → mk' v = mk v) ∧ (Rt p ∨ rkF deg' mk' p = rkF deg mk p)) ∨ (ex' = some p ∧ ∀ v, v ≠ h → mk' v = mk v)) :
    Fw (upf key h x) par' ch' lf' rt' deg' mk' (upf L p (l1 ++ l2)) S (fun v => Rt v ∨ v = h) ex' := by
  have hh : h ∈ L p := by rw [hL]; simp
  obtain ⟨Sh, hlk, hR, hpar⟩ := hf.ls p hp h hh
  have hnd := hf.nd p hp
  rw [hL] at hnd
  have hmem : ∀ v w, S v → (w ∈ upf L p (l1 ++ l2) v ↔ w ∈ L v ∧ w ≠ h) := fun v w hv => by
    by_cases e : v = p
    · subst e
      rw [upf_same, hL]
      have hn := List.nodup_append.1 hnd
      have hn2 := List.nodup_cons.1 hn.2.1
      constructor
      · intro hw
        rcases List.mem_append.1 hw with q | q
        · exact ⟨List.mem_append_left _ q, fun e => hn.2.2 w q h (by simp) e⟩
        · exact ⟨List.mem_append_right _ (List.mem_cons_of_mem _ q), fun e => hn2.1 (e ▸ q)⟩
      · rintro ⟨q1, q2⟩
        rcases List.mem_append.1 q1 with q | q
        · exact List.mem_append_left _ q
        · rcases List.mem_cons.1 q with q | q
          · exact (q2 q).elim
          · exact List.mem_append_right _ q
    · rw [upf_ne e]
      exact ⟨fun q => ⟨q, fun e' => e (hf.un hv hp (e' ▸ q) hh)⟩, fun q => q.1⟩
  have lkd : ∀ a b, b ≠ h → lk key a b → lk (upf key h x) a b := fun a b hb hl => by
    unfold lk at *
    rw [upf_ne hb]
    by_cases ha : a = h
    · subst ha; rw [upf_same]; omega
    · rw [upf_ne ha]; exact hl
  refine ⟨fun r hr => hr.elim (hf.rs r) fun e => e ▸ Sh, fun v hv => ?_, fun v hv w hw => ?_, fun v hv => ?_, fun v hv => ?_, fun v hv => ?_, fun v hv i => ?_⟩
  · by_cases e : v = p
    · subst e
      rw [upf_same]
      rw [List.nodup_append] at hnd ⊢
      exact ⟨hnd.1, (List.nodup_cons.1 hnd.2.1).2, fun a ha b hb => hnd.2.2 a ha b (by simp [hb])⟩
    · rw [upf_ne e]; exact hf.nd v hv
  · obtain ⟨q1, q2⟩ := (hmem v w hv).1 hw
    obtain ⟨p1, p2, p3, p4⟩ := hf.ls v hv w q1
    exact ⟨p1, lkd _ _ q2 p2, fun hh' => hh'.elim p3 q2, by rw [h1 w q2]; exact p4⟩
  · by_cases e : v = h
    · exact .inl (.inr e)
    · rcases hf.al v hv with q | ⟨w, hw, q⟩
      · exact .inl (.inl q)
      · exact .inr ⟨w, hw, (hmem w v hw).2 ⟨q, e⟩⟩
  · by_cases e : v = p
    · subst e; rw [upf_same]; exact h4
    · rw [upf_ne e, h2 v e]
      have off : ∀ y ∈ L v, lf' y = lf y ∧ rt' y = rt y := fun y hy => h5 y (hf.ls v hv y hy).1 (hf.ls v hv y hy).2.2.1 fun hy' => e (hf.un hv hp hy hy')
      exact (hf.rg v hv).cg (fun y hy => (off y hy).2) fun y hy => (off y hy).1
  · by_cases e : v = p
    · subst e
      rw [upf_same, h3, hf.dg v hv, hL]
      simp; omega
    · rw [upf_ne e, h3' v e]; exact hf.dg v hv
  · have hc := hf.ct v hv i
    -- what isn't at hand keeps its rank
    have rk : ∀ c, c ≠ h → (c ≠ p ∨ ex' = none) → S c → ¬ Rt c → rkF deg' mk' c = rkF deg mk c := fun c c1 c2 c3 c4 => by
      rcases h6 with ⟨e1, e2, e3⟩ | ⟨e1, e2⟩
      · by_cases e : c = p
        · subst e; exact e3.resolve_left c4
        · unfold rkF; rw [h3' c e, e2 c c1 e]
      · have e : c ≠ p := c2.resolve_right (by rw [e1]; exact fun h => by cases h)
        unfold rkF; rw [h3' c e, e2 c c1]
    have sub : lowF deg' mk' ex' i (upf L p (l1 ++ l2) v) ≤ lowF deg mk (some h) i (upf L p (l1 ++ l2) v) := by
      unfold lowF
      refine List.countP_mono_left fun c hc' hb => ?_
      obtain ⟨q1, q2⟩ := (hmem v c hv).1 hc'
      obtain ⟨p1, _, p3, _⟩ := hf.ls v hv c q1
      simp only [Bool.and_eq_true, decide_eq_true_eq] at hb ⊢
      have hcp : c ≠ p ∨ ex' = none := by
        rcases h6 with ⟨e1, _⟩ | ⟨e1, _⟩
        · exact .inr e1
        · left; intro e; apply hb.2; rw [e1, e]
      rw [rk c q2 hcp p1 p3] at hb
      exact ⟨hb.1, fun e => q2 (by cases e; rfl)⟩
    refine Nat.le_trans sub (Nat.le_trans ?_ hc)
    have le1 : lowF deg mk (some h) i (L v) ≤ lowF deg mk ex i (L v) := by
      rcases hex with rfl | rfl
      · exact lowF_le
      · exact Nat.le_refl _
    refine Nat.le_trans ?_ le1
    by_cases e : v = p
    · subst e
      rw [upf_same, hL]
      unfold lowF
      simp only [List.countP_append, List.countP_cons]
      omega
    · rw [upf_ne e]; exact Nat.le_refl _

theorem Fw.link {a b : Nat} {l' : List Nat} (hf : Fw key par ch lf rt deg mk L S Rt none) (ha : Rt a) (hb : Rt b) (hab : a ≠ b) (hl : lk key a b) (hdg : deg a = deg b) (hmk : mk b = false)
    (hl' : l'.Perm (b :: L a)) (h1 : par' b = (a : Int)) (h1' : ∀ v, v ≠ b → par' v = par v) (h2 : ∀ v, v ≠ a → ch' v = ch v) (h3 : deg' a = deg a + 1) (h3' : ∀ v, v ≠ a → deg' v = deg v) (h4 : Rg rt' lf' (ch' a) l') (h5 : ∀ v, S v → ¬ Rt v → v ∉ L a → lf' v = lf v ∧ rt' v = rt v) :
    Fw key par' ch' lf' rt' deg' mk (upf L a l') S (fun v => Rt v ∧ v ≠ b) none := by
  have Sa := hf.rs a ha
  have Sb := hf.rs b hb
  have bn : ∀ u, S u → b ∉ L u := fun u hu hm => (hf.ls u hu b hm).2.2.1 hb
  have an : ∀ u, S u → a ∉ L u := fun u hu hm => (hf.ls u hu a hm).2.2.1 ha
  have hmem : ∀ w, w ∈ l' ↔ w = b ∨ w ∈ L a := fun w => by rw [hl'.mem_iff]; simp
  refine ⟨fun r hr => hf.rs r hr.1, fun v hv => ?_, fun u hu v hv => ?_, fun v hv => ?_, fun v hv => ?_, fun v hv => ?_, fun v hv i => ?_⟩
  · by_cases e : v = a
    · subst e
      rw [upf_same]
      exact hl'.nodup_iff.2 (List.nodup_cons.2 ⟨bn v hv, hf.nd v hv⟩)
    · rw [upf_ne e]; exact hf.nd v hv
  · by_cases e : u = a
    · subst e
      rw [upf_same] at hv
      rcases (hmem v).1 hv with rfl | hv
      · exact ⟨Sb, hl, fun hh => hh.2 rfl, h1⟩
      · obtain ⟨q1, q2, q3, q4⟩ := hf.ls u hu v hv
        exact ⟨q1, q2, fun hh => q3 hh.1, by rw [h1' v fun e => bn u hu (e ▸ hv)]; exact q4⟩
    · rw [upf_ne e] at hv
      obtain ⟨q1, q2, q3, q4⟩ := hf.ls u hu v hv
      exact ⟨q1, q2, fun hh => q3 hh.1, by rw [h1' v fun e => bn u hu (e ▸ hv)]; exact q4⟩
  · by_cases e : v = b
    · exact .inr ⟨a, Sa, by rw [upf_same]; exact (hmem v).2 (.inl e)⟩
    · rcases hf.al v hv with q | ⟨u, hu, q⟩
      · exact .inl ⟨q, e⟩
      · refine .inr ⟨u, hu, ?_⟩
        by_cases e' : u = a
        · subst e'; rw [upf_same]; exact (hmem v).2 (.inr q)
        · rw [upf_ne e']; exact q
  · by_cases e : v = a
    · subst e; rw [upf_same]; exact h4
    · rw [upf_ne e, h2 v e]
      have off : ∀ y ∈ L v, lf' y = lf y ∧ rt' y = rt y := fun y hy => h5 y (hf.ls v hv y hy).1 (hf.ls v hv y hy).2.2.1 fun hy' => e (hf.un hv Sa hy hy')
      exact (hf.rg v hv).cg (fun y hy => (off y hy).2) fun y hy => (off y hy).1
  · by_cases e : v = a
    · subst e; rw [upf_same, h3, hf.dg v hv, hl'.length_eq]; simp
    · rw [upf_ne e, h3' v e]; exact hf.dg v hv
  · have rk : ∀ u, S u → ∀ c ∈ L u, rkF deg' mk c = rkF deg mk c := fun u hu c hc => by
      unfold rkF; rw [h3' c fun e => an u hu (e ▸ hc)]
    by_cases e : v = a
    · subst e
      rw [upf_same]
      have hc := hf.ct v hv i
      have e1 : lowF deg' mk none i l' = lowF deg' mk none i (b :: L v) := by unfold lowF; exact hl'.countP_eq _
      have e2 : lowF deg' mk none i (L v) = lowF deg mk none i (L v) := lowF_cg (rk v hv)
      have hbk : rkF deg' mk b = ((L v).length : Int) := by
        unfold rkF
        rw [h3' b fun e => hab e.symm, hmk, ← hdg, hf.dg v hv]; simp
      rw [e1]
      have e3 : lowF deg' mk none i (b :: L v) = lowF deg' mk none i (L v) + if (((L v).length : Nat) : Int) < (i : Int) then 1 else 0 := by
        unfold lowF
        rw [List.countP_cons, hbk]
        simp
      rw [e3, e2]
      split
      · rename_i hlt
        have : lowF deg mk none i (L v) ≤ (L v).length := List.countP_le_length
        omega
      · omega
    · rw [upf_ne e, lowF_cg (rk v hv)]
      exact hf.ct v hv i

/-! ### How many children at most -/

def fibn : Nat → Nat
  | 0 => 1
  | 1 => 1
  | k + 2 => fibn (k + 1) + fibn k

/-- below a node -/
inductive Dsc (L : Nat → List Nat) : Nat → Nat → Prop
  | refl (v : Nat) : Dsc L v v
  | step {u v w : Nat} (h : v ∈ L u) (k : Dsc L v w) : Dsc L u w

theorem Fw.dsc (hf : Fw key par ch lf rt deg mk L S Rt ex) {u v : Nat} (h : Dsc L u v) (hu : S u) : S v ∧ (u = v ∨ lk key u v) := by
  induction h with
  | refl v => exact ⟨hu, .inl rfl⟩
  | step h k ih =>
    obtain ⟨q1, q2, _⟩ := hf.ls _ hu _ h
    obtain ⟨q3, q4⟩ := ih q1
    refine ⟨q3, .inr ?_⟩
    rcases q4 with rfl | q4
    · exact q2
    · exact q2.trans q4

/-- two that have one below both are below one another -/
theorem Fw.dsc2 (hf : Fw key par ch lf rt deg mk L S Rt ex) {u u' v : Nat} (h : Dsc L u v) (h' : Dsc L u' v) (hu : S u) (hu' : S u') : Dsc L u u' ∨ Dsc L u' u := by
  induction h with
  | refl v => exact .inr h'
  | @step a b w hab k ih =>
    have Sb := (hf.ls a hu b hab).1
    rcases ih h' Sb with q | q
    · exact .inl (.step hab q)
    · -- u' is above b: so it is b or above a
      have key' : ∀ {x y : Nat}, Dsc L x y → S x → ∀ z, S z → y ∈ L z → x = y ∨ Dsc L x z := by
        intro x y hxy
        induction hxy with
        | refl v => intro _ z _ _; exact .inl rfl
        | @step c d y hcd k' ih' =>
          intro hc z hz hyz
          have hd := (hf.ls c hc d hcd).1
          rcases ih' hd z hz hyz with e | e
          · subst e
            have := hf.un hc hz hcd hyz
            subst this
            exact .inr (.refl _)
          · exact .inr (.step hcd e)
      rcases key' q hu' a hu hab with e | e
      · exact .inl (.step hab (by rw [e]; exact .refl _))
      · exact .inr e

theorem Fw.many (hf : Fw key par ch lf rt deg mk L S Rt none) : ∀ (k : Nat) (v : Nat) (ks : List Nat), S v → ks.Nodup → (∀ c ∈ ks, c ∈ L v) → (∀ i, lowF deg mk none i ks ≤ i) → k ≤ ks.length →
    ∃ l : List Nat, l.Nodup ∧ fibn k ≤ l.length ∧ ∀ x ∈ l, x = v ∨ ∃ c ∈ ks, Dsc L c x := by
  intro k
  induction k using Nat.strongRecOn with
  | ind k ih =>
    intro v ks hv hn hs hct hk
    match k, ih, hk with
    | 0, _, _ => exact ⟨[v], by simp, by simp [fibn], fun x hx => by simp at hx; exact .inl hx⟩
    | 1, _, _ => exact ⟨[v], by simp, by simp [fibn], fun x hx => by simp at hx; exact .inl hx⟩
    | k + 2, ih, hk =>
      -- one of the children has rank k + 1 at least
      have hex : ∃ c ∈ ks, ¬ rkF deg mk c < ((k + 1 : Nat) : Int) := by
        refine Classical.byContradiction fun hne => ?_
        have hall : ks.countP (fun c => decide (rkF deg mk c < ((k + 1 : Nat) : Int)) && decide ((none : Option Nat) ≠ some c)) = ks.length := by
          rw [List.countP_eq_length]
          intro c hc
          have : rkF deg mk c < ((k + 1 : Nat) : Int) := Classical.byContradiction fun h => hne ⟨c, hc, h⟩
          simp; omega
        have := hct (k + 1)
        unfold lowF at this
        omega
      obtain ⟨c, hc, hrk⟩ := hex
      have hcv := hs c hc
      obtain ⟨Sc, hlc, _, _⟩ := hf.ls v hv c hcv
      have hlen : k ≤ (L c).length := by
        have := hf.dg c Sc
        unfold rkF at hrk
        split at hrk <;> omega
      obtain ⟨lc, n1, n2, n3⟩ := ih k (by omega) c (L c) Sc (hf.nd c Sc) (fun _ h => h) (hf.ct c Sc) hlen
      have hn' : (ks.erase c).Nodup := hn.erase c
      have hlen' : (ks.erase c).length + 1 = ks.length := by
        rw [List.length_erase_of_mem hc]
        have := List.length_pos_of_mem hc
        omega
      obtain ⟨lv, m1, m2, m3⟩ := ih (k + 1) (by omega) v (ks.erase c) hv hn' (fun x hx => hs x (List.mem_of_mem_erase hx)) (fun i => Nat.le_trans (by
        unfold lowF
        exact List.Sublist.countP_le (List.erase_sublist)) (hct i)) (by omega)
      have dc : ∀ x ∈ lc, Dsc L c x := fun x hx => by
        rcases n3 x hx with rfl | ⟨d, hd, h⟩
        · exact .refl _
        · exact .step hd h
      refine ⟨lv ++ lc, List.nodup_append.2 ⟨m1, n1, fun x hx y hy e => ?_⟩, by rw [List.length_append]; show fibn (k + 1) + fibn k ≤ _; omega, fun x hx => ?_⟩
      · subst e
        have h1 := dc x hy
        rcases m3 x hx with rfl | ⟨d, hd, h2⟩
        · rcases (hf.dsc h1 Sc).2 with e | e
          · subst e; exact nlk_self hlc
          · exact hlc.asymm e
        · have hdc : d ≠ c := fun e => by rw [e] at hd; exact (List.Nodup.not_mem_erase hn) hd
          have hdv := hs d (List.mem_of_mem_erase hd)
          obtain ⟨Sd, hld, _, _⟩ := hf.ls v hv d hdv
          -- both are children of v
          have key' : ∀ {a b : Nat}, a ∈ L v → b ∈ L v → a ≠ b → ¬ Dsc L a b := fun {a b} ha hb hab hD => by
            cases hD with
            | refl => exact hab rfl
            | @step _ w _ hw hD =>
              have Sa := (hf.ls v hv a ha).1
              have Sw := (hf.ls a Sa w hw).1
              -- the last step into b comes from v
              have up : ∀ {x y : Nat}, Dsc L x y → S x → ∀ z, S z → y ∈ L z → x = y ∨ Dsc L x z := by
                intro x y hxy
                induction hxy with
                | refl v => intro _ z _ _; exact .inl rfl
                | @step c d y hcd k' ih' =>
                  intro hc z hz hyz
                  have hd := (hf.ls c hc d hcd).1
                  rcases ih' hd z hz hyz with e | e
                  · subst e
                    have := hf.un hc hz hcd hyz
                    subst this
                    exact .inr (.refl _)
                  · exact .inr (.step hcd e)
              rcases up (.step hw hD) Sa v hv hb with e | e
              · exact hab e
              · rcases (hf.dsc e Sa).2 with e | e
                · subst e; exact nlk_self (hf.ls a hv a ha).2.1
                · exact (hf.ls v hv a ha).2.1.asymm e
          rcases hf.dsc2 h1 h2 Sc Sd with q | q
          · exact key' hcv hdv (fun e => hdc e.symm) q
          · exact key' hdv hcv hdc q
      · rcases List.mem_append.1 hx with hx | hx
        · rcases m3 x hx with h | ⟨d, hd, h⟩
          · exact .inl h
          · exact .inr ⟨d, List.mem_of_mem_erase hd, h⟩
        · exact .inr ⟨c, hc, dc x hx⟩

theorem Fw.few (hf : Fw key par ch lf rt deg mk L S Rt none) {n v : Nat} (hS : ∀ v, S v → v < n) (hn : n ≤ 1024) (hv : S v) : (L v).length < 17 := by
  by_cases h : (L v).length < 17
  · exact h
  · obtain ⟨l, h1, h2, h3⟩ := hf.many 17 v (L v) hv (hf.nd v hv) (fun _ h => h) (hf.ct v hv) (by omega)
    have h4 : l.length ≤ n := by
      have := List.Nodup.length_le_of_subset (l₁ := l) (l₂ := List.range n) h1 fun w hw => by
        rw [List.mem_range]
        rcases h3 w hw with rfl | ⟨c, hc, hd⟩
        · exact hS _ hv
        · exact hS _ (hf.dsc hd (hf.ls v hv c hc).1).1
      simpa using this
    have : fibn 17 = 2584 := by decide
    omega
end
end Go.Mz

/-
  Walks of layer 5: the Fibonacci heap: join, leave, root, under, as they lie in memory.
-/
namespace Go.Mz

abbrev Fbl := Int × Int × Int × Int × Int × Bool

/-- the links of all handles -/
structure Fl where
  par : Nat → Int
  ch : Nat → Int
  lf : Nat → Int
  rt : Nat → Int
  deg : Nat → Int
  mrk : Nat → Bool

def Fl.at (f : Fl) (v : Nat) : Fbl := (f.par v, f.ch v, f.lf v, f.rt v, f.deg v, f.mrk v)

/-- a Fibonacci heap, as it lies in memory -/
structure FibM (H : Hp) (eb q n : Nat) (best : Int) (lb lo lc : Nat) (f : Fl) : Prop where
  cell : H eb = some ⟨[.pointer (some ⟨q, 0, none⟩), .int .i64 best, .slice (some ⟨lb, lo, none⟩) n lc], 98⟩
  row : Row H (some ⟨lb, lo, none⟩) n lc f.at
  d : eb ≠ lb

section
variable {E : Value → Hp → Prop} {H : Hp} {eb q n lb lo lc : Nat} {best : Int} {f : Fl}

theorem FibM.g0 (h : FibM H eb q n best lb lo lc f) {i : Nat} (hi : i < n) : H.get lb (lo + i * 6) = some (.int .i64 (f.par i)) := h.row.getF (j := 0) hi (by decide)
theorem FibM.g1 (h : FibM H eb q n best lb lo lc f) {i : Nat} (hi : i < n) : H.get lb (lo + i * 6 + 1) = some (.int .i64 (f.ch i)) := h.row.getF (j := 1) hi (by decide)
theorem FibM.g2 (h : FibM H eb q n best lb lo lc f) {i : Nat} (hi : i < n) : H.get lb (lo + i * 6 + 2) = some (.int .i64 (f.lf i)) := h.row.getF (j := 2) hi (by decide)
theorem FibM.g3 (h : FibM H eb q n best lb lo lc f) {i : Nat} (hi : i < n) : H.get lb (lo + i * 6 + 3) = some (.int .i64 (f.rt i)) := h.row.getF (j := 3) hi (by decide)
theorem FibM.g4 (h : FibM H eb q n best lb lo lc f) {i : Nat} (hi : i < n) : H.get lb (lo + i * 6 + 4) = some (.int .i64 (f.deg i)) := h.row.getF (j := 4) hi (by decide)
theorem FibM.g5 (h : FibM H eb q n best lb lo lc f) {i : Nat} (hi : i < n) : H.get lb (lo + i * 6 + 5) = some (.bool (f.mrk i)) := h.row.getF (j := 5) hi (by decide)

theorem six {l : Nat} (h : l < El.w Fbl) : l = 0 ∨ l = 1 ∨ l = 2 ∨ l = 3 ∨ l = 4 ∨ l = 5 := by
  have : El.w Fbl = 6 := rfl
  omega

theorem FibM.st {g : Fl} {i j : Nat} {v : Value} {K : Hp → Prop} (h : FibM H eb q n best lb lo lc f) (hi : i < n) (hj : j < 6) (h1 : ∀ k, k ≠ i → g.at k = f.at k) (h2 : ∀ l, l < El.w Fbl → (El.enc (g.at i))[l]? = if l = j then some v else (El.enc (f.at i))[l]?)
    (k : ∀ H', FibM H' eb q n best lb lo lc g → Step (· = lb) H H' → K H') : stC H lb (lo + i * 6 + j) [v] K :=
  h.row.stF (j := j) (f' := g.at) hi hj (fun k _ hne => h1 k hne) h2 fun H' r s => k H' ⟨s.keep _ _ h.cell h.d, r, h.d⟩ s

theorem FibM.s0 {i : Nat} {x : Int} {K : Hp → Prop} (h : FibM H eb q n best lb lo lc f) (hi : i < n) (k : ∀ H', FibM H' eb q n best lb lo lc { f with par := upf f.par i x } → Step (· = lb) H H' → K H') : stC H lb (lo + i * 6) [.int .i64 x] K :=
  h.st (j := 0) hi (by decide) (fun k hne => by unfold Fl.at; simp only [upf_ne hne]) (fun l hl => by
    unfold Fl.at; simp only [upf_same]
    rcases six hl with rfl | rfl | rfl | rfl | rfl | rfl <;> rfl) k
theorem FibM.s1 {i : Nat} {x : Int} {K : Hp → Prop} (h : FibM H eb q n best lb lo lc f) (hi : i < n) (k : ∀ H', FibM H' eb q n best lb lo lc { f with ch := upf f.ch i x } → Step (· = lb) H H' → K H') : stC H lb (lo + i * 6 + 1) [.int .i64 x] K :=
  h.st (j := 1) hi (by decide) (fun k hne => by unfold Fl.at; simp only [upf_ne hne]) (fun l hl => by
    unfold Fl.at; simp only [upf_same]
    rcases six hl with rfl | rfl | rfl | rfl | rfl | rfl <;> rfl) k
theorem FibM.s2 {i : Nat} {x : Int} {K : Hp → Prop} (h : FibM H eb q n best lb lo lc f) (hi : i < n) (k : ∀ H', FibM H' eb q n best lb lo lc { f with lf := upf f.lf i x } → Step (· = lb) H H' → K H') : stC H lb (lo + i * 6 + 2) [.int .i64 x] K :=
  h.st (j := 2) hi (by decide) (fun k hne => by unfold Fl.at; simp only [upf_ne hne]) (fun l hl => by
    unfold Fl.at; simp only [upf_same]
    rcases six hl with rfl | rfl | rfl | rfl | rfl | rfl <;> rfl) k
theorem FibM.s3 {i : Nat} {x : Int} {K : Hp → Prop} (h : FibM H eb q n best lb lo lc f) (hi : i < n) (k : ∀ H', FibM H' eb q n best lb lo lc { f with rt := upf f.rt i x } → Step (· = lb) H H' → K H') : stC H lb (lo + i * 6 + 3) [.int .i64 x] K :=
  h.st (j := 3) hi (by decide) (fun k hne => by unfold Fl.at; simp only [upf_ne hne]) (fun l hl => by
    unfold Fl.at; simp only [upf_same]
    rcases six hl with rfl | rfl | rfl | rfl | rfl | rfl <;> rfl) k
theorem FibM.s4 {i : Nat} {x : Int} {K : Hp → Prop} (h : FibM H eb q n best lb lo lc f) (hi : i < n) (k : ∀ H', FibM H' eb q n best lb lo lc { f with deg := upf f.deg i x } → Step (· = lb) H H' → K H') : stC H lb (lo + i * 6 + 4) [.int .i64 x] K :=
  h.st (j := 4) hi (by decide) (fun k hne => by unfold Fl.at; simp only [upf_ne hne]) (fun l hl => by
    unfold Fl.at; simp only [upf_same]
    rcases six hl with rfl | rfl | rfl | rfl | rfl | rfl <;> rfl) k
theorem FibM.s5 {i : Nat} {x : Bool} {K : Hp → Prop} (h : FibM H eb q n best lb lo lc f) (hi : i < n) (k : ∀ H', FibM H' eb q n best lb lo lc { f with mrk := upf f.mrk i x } → Step (· = lb) H H' → K H') : stC H lb (lo + i * 6 + 5) [.bool x] K :=
  h.st (j := 5) hi (by decide) (fun k hne => by unfold Fl.at; simp only [upf_ne hne]) (fun l hl => by
    unfold Fl.at; simp only [upf_same]
    rcases six hl with rfl | rfl | rfl | rfl | rfl | rfl <;> rfl) k

theorem FibM.setB {x : Int} {K : Hp → Prop} (h : FibM H eb q n best lb lo lc f) (k : ∀ H', FibM H' eb q n x lb lo lc f → Step (· = eb) H H' → K H') : stC H eb 1 [.int .i64 x] K := by
  refine stp h.cell (by simp) rfl fun H' e s => ?_
  replace e : H' eb = some ⟨[.pointer (some ⟨q, 0, none⟩), .int .i64 x, .slice (some ⟨lb, lo, none⟩) n lc], 98⟩ := e
  exact k H' ⟨e, h.row.keep s fun y hy hh => by rw [fpS_mk] at hy; exact h.d (hh.symm.trans hy), h.d⟩ s

theorem FibM.keep {H' : Hp} {F : Nat → Prop} (h : FibM H eb q n best lb lo lc f) (s : Step F H H') (h1 : ¬ F eb) (h2 : ¬ F lb) : FibM H' eb q n best lb lo lc f :=
  ⟨s.keep _ _ h.cell h1, h.row.keep s fun y hy => by rw [fpS_mk] at hy; exact hy ▸ h2, h.d⟩

theorem FibM.live (h : FibM H eb q n best lb lo lc f) : H eb ≠ none ∧ H lb ≠ none := ⟨by rw [h.cell]; exact fun e => (by cases e), h.row.live (b := lb) ⟨_, rfl⟩⟩

/-- one is put in, to the right of another -/
def Fl.put (f : Fl) (h a r : Nat) : Fl := { f with lf := upf (upf f.lf h (a : Int)) r (h : Int), rt := upf (upf f.rt h (r : Int)) a (h : Int) }
/-- one leaves its ring -/
def Fl.out (f : Fl) (h l r : Nat) : Fl := { f with rt := upf (upf f.rt l (r : Int)) h (h : Int), lf := upf (upf f.lf r (l : Int)) h (h : Int) }

theorem fjoin {h a r : Nat} {K : Hp → Prop} (hM : FibM H eb q n best lb lo lc f) (hh : h < n) (ha : a < n) (hr : f.rt a = (r : Int)) (hrn : r < n)
    (k : ∀ H', FibM H' eb q n best lb lo lc (f.put h a r) → Step (· = lb) H H' → K H') : heaps_fibonacci_join.call (some ⟨eb, 0, none⟩) h a E H K := by
  refine heaps_fibonacci_join.of (heaps_fibonacci_join.run_eq ?_)
  unfold heaps_fibonacci_join.run_t
  simp only [nn_mk, get_at hM.cell, List.getElem?_cons_zero, List.getElem?_cons_succ, ldS_mk, ldI_mk, Nat.zero_add, ix_mk, Int.toNat_natCast]
  refine ⟨⟨by omega, by omega⟩, ?_⟩
  rw [hM.g3 ha, hr]
  try simp only [nn_mk, get_at hM.cell, List.getElem?_cons_zero, List.getElem?_cons_succ, ldS_mk, ldI_mk, Nat.zero_add, ix_mk, Int.toNat_natCast]
  refine ⟨⟨by omega, by omega⟩, ?_⟩
  refine hM.s2 hh fun H1 m1 s1 => ?_
  try simp only [nn_mk, get_at m1.cell, List.getElem?_cons_zero, List.getElem?_cons_succ, ldS_mk, ldI_mk, Nat.zero_add, ix_mk, Int.toNat_natCast]
  refine ⟨⟨by omega, by omega⟩, ?_⟩
  refine m1.s3 hh fun H2 m2 s2 => ?_
  try simp only [nn_mk, get_at m2.cell, List.getElem?_cons_zero, List.getElem?_cons_succ, ldS_mk, ldI_mk, Nat.zero_add, ix_mk, Int.toNat_natCast]
  refine ⟨⟨by omega, by omega⟩, ?_⟩
  refine m2.s3 ha fun H3 m3 s3 => ?_
  try simp only [nn_mk, get_at m3.cell, List.getElem?_cons_zero, List.getElem?_cons_succ, ldS_mk, ldI_mk, Nat.zero_add, ix_mk, Int.toNat_natCast]
  refine ⟨⟨by omega, by omega⟩, ?_⟩
  refine m3.s2 hrn fun H4 m4 s4 => ?_
  exact k H4 m4 (((s1.trans s2 fun _ h => .inl h).trans s3 fun _ h => .inl h).trans s4 fun _ h => .inl h)

theorem fleave {h l r : Nat} {K : Hp → Prop} (hM : FibM H eb q n best lb lo lc f) (hh : h < n) (hl : f.lf h = (l : Int)) (hln : l < n) (hr : f.rt h = (r : Int)) (hrn : r < n)
    (k : ∀ H', FibM H' eb q n best lb lo lc (f.out h l r) → Step (· = lb) H H' → K H') : heaps_fibonacci_leave.call (some ⟨eb, 0, none⟩) h E H K := by
  refine heaps_fibonacci_leave.of (heaps_fibonacci_leave.run_eq ?_)
  unfold heaps_fibonacci_leave.run_t
  simp only [nn_mk, get_at hM.cell, List.getElem?_cons_zero, List.getElem?_cons_succ, ldS_mk, ldI_mk, Nat.zero_add, ix_mk, Int.toNat_natCast]
  refine ⟨⟨by omega, by omega⟩, ?_⟩
  rw [hM.g2 hh, hl]
  try simp only [nn_mk, get_at hM.cell, List.getElem?_cons_zero, List.getElem?_cons_succ, ldS_mk, ldI_mk, Nat.zero_add, ix_mk, Int.toNat_natCast]
  refine ⟨⟨by omega, by omega⟩, ?_⟩
  rw [hM.g3 hh, hr]
  try simp only [nn_mk, get_at hM.cell, List.getElem?_cons_zero, List.getElem?_cons_succ, ldS_mk, ldI_mk, Nat.zero_add, ix_mk, Int.toNat_natCast]
  refine ⟨⟨by omega, by omega⟩, ?_⟩
  refine hM.s3 hln fun H1 m1 s1 => ?_
  try simp only [nn_mk, get_at m1.cell, List.getElem?_cons_zero, List.getElem?_cons_succ, ldS_mk, ldI_mk, Nat.zero_add, ix_mk, Int.toNat_natCast]
  refine ⟨⟨by omega, by omega⟩, ?_⟩
  refine m1.s2 hrn fun H2 m2 s2 => ?_
  try simp only [nn_mk, get_at m2.cell, List.getElem?_cons_zero, List.getElem?_cons_succ, ldS_mk, ldI_mk, Nat.zero_add, ix_mk, Int.toNat_natCast]
  refine ⟨⟨by omega, by omega⟩, ?_⟩
  refine m2.s2 hh fun H3 m3 s3 => ?_
  try simp only [nn_mk, get_at m3.cell, List.getElem?_cons_zero, List.getElem?_cons_succ, ldS_mk, ldI_mk, Nat.zero_add, ix_mk, Int.toNat_natCast]
  refine ⟨⟨by omega, by omega⟩, ?_⟩
  refine m3.s3 hh fun H4 m4 s4 => ?_
  exact k H4 m4 (((s1.trans s2 fun _ h => .inl h).trans s3 fun _ h => .inl h).trans s4 fun _ h => .inl h)

/-- one is a root, not marked -/
def Fl.top (f : Fl) (h : Nat) : Fl := { f with par := upf f.par h (-1), mrk := upf f.mrk h false }

theorem froot {h : Nat} {kp : Option Addr} {key : Nat → Int} {K : Hp → Prop} (hM : FibM H eb q n best lb lo lc f) (hk : KeyM H q n kp key) (dq : q ≠ eb ∧ q ≠ lb) (dk : ∀ y, fpS kp y → y ≠ eb ∧ y ≠ lb) (hh : h < n)
    (k0 : best < 0 → ∀ H', FibM H' eb q n (h : Int) lb lo lc (f.top h) → Step (fun y => y = eb ∨ y = lb) H H' → K H')
    (k1 : ∀ b : Nat, best = b → ∃ r : Nat, b < n ∧ f.rt b = (r : Int) ∧ r < n ∧ ∀ H', FibM H' eb q n (if lk key h b then (h : Int) else b) lb lo lc ((f.top h).put h b r) → Step (fun y => y = eb ∨ y = lb) H H' → K H') : heaps_fibonacci_root.call (some ⟨eb, 0, none⟩) h E H K := by
  refine heaps_fibonacci_root.of (heaps_fibonacci_root.run_eq ?_)
  unfold heaps_fibonacci_root.run_t
  simp only [nn_mk, get_at hM.cell, List.getElem?_cons_zero, List.getElem?_cons_succ, ldS_mk, ldI_mk, Nat.zero_add, ix_mk, Int.toNat_natCast]
  refine ⟨⟨by omega, by omega⟩, ?_⟩
  refine hM.s0 hh fun H1 m1 s1 => ?_
  try simp only [nn_mk, get_at m1.cell, List.getElem?_cons_zero, List.getElem?_cons_succ, ldS_mk, ldI_mk, Nat.zero_add, ix_mk, Int.toNat_natCast]
  refine ⟨⟨by omega, by omega⟩, ?_⟩
  refine m1.s5 hh fun H2 m2 s2 => ?_
  have s02 : Step (fun y => y = eb ∨ y = lb) H H2 := (s1.trans s2 fun _ h => .inl h).weak fun _ h => .inl (.inr h)
  simp only [nn_mk, get_at m2.cell, List.getElem?_cons_zero, List.getElem?_cons_succ, ldS_mk, ldI_mk, Nat.zero_add, ix_mk, Int.toNat_natCast]
  refine bc (fun hb => ?_) fun hb => ?_
  · try simp only [nn_mk, get_at m2.cell, List.getElem?_cons_zero, List.getElem?_cons_succ, ldS_mk, ldI_mk, Nat.zero_add, ix_mk, Int.toNat_natCast]
    refine m2.setB fun H3 m3 s3 => ?_
    exact k0 hb H3 m3 (s02.trans s3 fun _ h => .inl (.inl h))
  · try simp only [nn_mk, get_at m2.cell, List.getElem?_cons_zero, List.getElem?_cons_succ, ldS_mk, ldI_mk, Nat.zero_add, ix_mk, Int.toNat_natCast]
    obtain ⟨b, rfl⟩ : ∃ b : Nat, best = b := ⟨best.toNat, by omega⟩
    obtain ⟨r, hbn, hr, hrn, k1⟩ := k1 b rfl
    refine fjoin (f := f.top h) m2 hh hbn hr hrn fun H3 m3 s3 => ?_
    have s03 := s02.trans s3 fun _ h => .inl (.inr h)
    simp only [nn_mk, get_at m3.cell, List.getElem?_cons_zero, List.getElem?_cons_succ, ldP_mk, ldS_mk, ldI_mk, Nat.zero_add, ix_mk, Int.toNat_natCast]
    have hk3 := hk.keep s03 (fun h => h.elim dq.1 dq.2) fun y hy h => h.elim (dk y hy).1 (dk y hy).2
    refine hahead hk3 hh hbn ?_
    refine bc (fun hl => ?_) fun hl => ?_
    · try simp only [nn_mk, Nat.zero_add]
      refine m3.setB fun H4 m4 s4 => ?_
      rw [if_pos hl] at k1
      exact k1 H4 m4 (s03.trans s4 fun _ h => .inl (.inl h))
    · rw [if_neg hl] at k1
      exact k1 H3 m3 s03

/-- one becomes a child of another -/
def Fl.und (f : Fl) (a b : Nat) (c : Option (Nat × Nat)) : Fl :=
  match c with
  | some (c, r) => { (({ f with par := upf f.par b (a : Int) } : Fl).put b c r) with deg := upf f.deg a (f.deg a + 1) }
  | none => { f with par := upf f.par b (a : Int), ch := upf f.ch a (b : Int), deg := upf f.deg a (f.deg a + 1) }

theorem funder {a b : Nat} {kp : Option Addr} {key : Nat → Int} {K : Int → Hp → Prop} (hM : FibM H eb q n best lb lo lc f) (hk : KeyM H q n kp key) (ha : a < n) (hb : b < n) (hab : a ≠ b) (hd : ∀ x, x = a ∨ x = b → -1000000 ≤ f.deg x ∧ f.deg x ≤ 1000000)
    (kk : ∀ x y : Nat, (x = a ∧ y = b ∨ x = b ∧ y = a) → lk key x y →
      (f.ch x < 0 → ∀ H', FibM H' eb q n best lb lo lc (f.und x y none) → Step (· = lb) H H' → K x H') ∧
      (∀ c : Nat, f.ch x = c → ∃ r : Nat, c < n ∧ f.rt c = (r : Int) ∧ r < n ∧ ∀ H', FibM H' eb q n best lb lo lc (f.und x y (some (c, r))) → Step (· = lb) H H' → K x H')) : heaps_fibonacci_under.call (some ⟨eb, 0, none⟩) a b E H K := by
  refine heaps_fibonacci_under.of (heaps_fibonacci_under.run_eq ?_)
  unfold heaps_fibonacci_under.run_t
  simp only [nn_mk, get_at hM.cell, List.getElem?_cons_zero, List.getElem?_cons_succ, ldP_mk, Nat.zero_add]
  have go : ∀ x y : Nat, (x = a ∧ y = b ∨ x = b ∧ y = a) → lk key x y → heaps_fibonacci_under.j1 (some ⟨eb, 0, none⟩) (x : Int) (y : Int) E H K := fun x y hxy hl => by
    have hx : x < n := by rcases hxy with ⟨rfl, _⟩ | ⟨rfl, _⟩ <;> assumption
    have hy : y < n := by rcases hxy with ⟨_, rfl⟩ | ⟨_, rfl⟩ <;> assumption
    have hdx := hd x (by rcases hxy with ⟨h, _⟩ | ⟨h, _⟩ <;> simp [h])
    obtain ⟨k0, k1⟩ := kk x y hxy hl
    refine heaps_fibonacci_under.j1_eq ?_
    unfold heaps_fibonacci_under.j1_t
    simp only [nn_mk, get_at hM.cell, List.getElem?_cons_zero, List.getElem?_cons_succ, ldS_mk, ldI_mk, Nat.zero_add, ix_mk, Int.toNat_natCast]
    refine ⟨⟨by omega, by omega⟩, ?_⟩
    refine hM.s0 hy fun H1 m1 s1 => ?_
    simp only [nn_mk, get_at m1.cell, List.getElem?_cons_zero, List.getElem?_cons_succ, ldS_mk, ldI_mk, Nat.zero_add, ix_mk, Int.toNat_natCast]
    refine ⟨⟨by omega, by omega⟩, ?_⟩
    rw [m1.g1 hx]
    simp only [ldI_mk]
    have fin : ∀ H2 g, FibM H2 eb q n best lb lo lc g → Step (· = lb) H1 H2 → g.deg = f.deg → (∀ H', FibM H' eb q n best lb lo lc { g with deg := upf f.deg x (f.deg x + 1) } → Step (· = lb) H H' → K x H') → heaps_fibonacci_under.j2 (some ⟨eb, 0, none⟩) (x : Int) E H2 K := fun H2 g m2 s2 hg k => by
      refine heaps_fibonacci_under.j2_eq ?_
      unfold heaps_fibonacci_under.j2_t
      simp only [nn_mk, get_at m2.cell, List.getElem?_cons_zero, List.getElem?_cons_succ, ldS_mk, ldI_mk, Nat.zero_add, ix_mk, Int.toNat_natCast]
      refine ⟨⟨by omega, by omega⟩, ?_⟩
      rw [m2.g4 hx]
      simp only [ldI_mk]
      refine ⟨⟨by omega, by omega⟩, ?_⟩
      rw [hg, i64w (by omega) (by omega)]
      refine m2.s4 hx fun H3 m3 s3 => ?_
      rw [hg] at m3
      exact k H3 m3 ((s1.trans s2 fun _ h => .inl h).trans s3 fun _ h => .inl h)
    refine bc (fun hc => ?_) fun hc => ?_
    · have hc : 0 ≤ f.ch x := hc
      obtain ⟨c, hcc⟩ : ∃ c : Nat, f.ch x = c := ⟨(f.ch x).toNat, by omega⟩
      obtain ⟨r, hcn, hr, hrn, k1⟩ := k1 c hcc
      have e1 : ({ f with par := upf f.par y (x : Int) } : Fl).ch x = (c : Int) := hcc
      rw [e1]
      refine fjoin m1 hy hcn hr hrn fun H2 m2 s2 => ?_
      exact fin H2 _ m2 s2 rfl k1
    · have hc : ¬ 0 ≤ f.ch x := hc
      try simp only [nn_mk, get_at m1.cell, List.getElem?_cons_zero, List.getElem?_cons_succ, ldS_mk, ldI_mk, Nat.zero_add, ix_mk, Int.toNat_natCast]
      refine ⟨⟨by omega, by omega⟩, ?_⟩
      refine m1.s1 hx fun H2 m2 s2 => ?_
      exact fin H2 _ m2 s2 rfl (k0 (by omega))
  refine hahead hk hb ha ?_
  refine bc (fun h => go b a (.inr ⟨rfl, rfl⟩) h) fun h => go a b (.inl ⟨rfl, rfl⟩) ?_
  rcases lk_total (key := key) hab with q | q
  · exact q
  · exact (h q).elim
end
end Go.Mz

/-
  Walks of layer 5: the Fibonacci heap: push, cut, lower.
-/
namespace Go.Mz

theorem Cn'.left {rt lf : Nat → Int} {b : Nat} : ∀ {t : List Nat} {a : Nat}, Cn' rt lf a t b → ∃ l : Nat, lf b = (l : Int)
  | [], a, h => ⟨a, h.2⟩
  | x :: t, _, h => Cn'.left (t := t) h.2.2

abbrev FwF (key : Nat → Int) (f : Fl) (L : Nat → List Nat) (S Rt : Nat → Prop) (ex : Option Nat) : Prop := Fw key f.par f.ch f.lf f.rt f.deg f.mrk L S Rt ex

section
variable {E : Value → Hp → Prop} {H : Hp} {eb q n lb lo lc : Nat} {best : Int} {f : Fl}

/-- the ring of the roots, of which the best one is known -/
structure RtR (key : Nat → Int) (f : Fl) (best : Int) (R : List Nat) : Prop where
  rg : Rg f.rt f.lf best R
  rn : R.Nodup
  ls : ∀ r ∈ R, ∀ b : Nat, best = b → ¬ lk key r b

theorem frootR {h : Nat} {R : List Nat} {kp : Option Addr} {key : Nat → Int} {K : Hp → Prop} (hM : FibM H eb q n best lb lo lc f) (hk : KeyM H q n kp key) (dq : q ≠ eb ∧ q ≠ lb) (dk : ∀ y, fpS kp y → y ≠ eb ∧ y ≠ lb) (hh : h < n)
    (hR : RtR key f best R) (hRn : ∀ r ∈ R, r < n) (hhR : h ∉ R) (h1 : R = [] → f.rt h = (h : Int) ∧ f.lf h = (h : Int))
    (k : ∀ H' best' f' R', FibM H' eb q n best' lb lo lc f' → RtR key f' best' R' → (∀ v, v ∈ R' ↔ v ∈ R ∨ v = h) → R'.length = R.length + 1 → (∀ v, v ≠ h → f'.par v = f.par v ∧ f'.mrk v = f.mrk v) → f'.par h = -1 ∧ f'.mrk h = false → f'.ch = f.ch → f'.deg = f.deg →
      (∀ v, v ∉ R → v ≠ h → f'.lf v = f.lf v ∧ f'.rt v = f.rt v) → Step (fun y => y = eb ∨ y = lb) H H' → K H') : heaps_fibonacci_root.call (some ⟨eb, 0, none⟩) h E H K := by
  refine froot hM hk dq dk hh (fun hb H' m' s' => ?_) fun b hb => ?_
  · have hnil : R = [] ∧ best = -1 := by
      rcases hR.rg with h | ⟨a, t, rfl, rfl, _⟩
      · exact h
      · omega
    obtain ⟨rfl, rfl⟩ := hnil
    obtain ⟨q1, q2⟩ := h1 rfl
    refine k H' h (f.top h) [h] m' ⟨.inr ⟨h, [], rfl, rfl, q1, q2⟩, by simp, fun r hr b hb => ?_⟩ (fun v => by simp) rfl (fun v hv => ⟨upf_ne hv, upf_ne hv⟩) ⟨upf_same, upf_same⟩ rfl rfl (fun v _ _ => ⟨rfl, rfl⟩) s'
    simp at hr
    have : b = h := by omega
    subst this
    subst hr
    exact nlk_self
  · subst hb
    rcases hR.rg with ⟨_, h⟩ | ⟨a, t, rfl, e, hc⟩
    · omega
    · have : a = b := by omega
      subst this
      obtain ⟨r, hr, hrt⟩ := hc.right
      have hrm : r ∈ a :: t := by
        rw [← hrt]
        cases t with
        | nil => simp
        | cons x t => simp
      refine ⟨r, hRn a (by simp), hr, hRn r hrm, fun H' m' s' => ?_⟩
      have hput := hc.put hR.rn hhR hr
      have hah : a ≠ h := fun e => hhR (by simp [e])
      have off : ∀ v, v ∉ a :: t → v ≠ h → ((f.top h).put h a r).lf v = f.lf v ∧ ((f.top h).put h a r).rt v = f.rt v := fun v hv hvh => by
        have e1 : v ≠ r := fun e => hv (e ▸ hrm)
        have e2 : v ≠ a := fun e => hv (by simp [e])
        refine ⟨?_, ?_⟩
        · show upf (upf f.lf h (a : Int)) r (h : Int) v = _
          rw [upf_ne e1, upf_ne hvh]
        · show upf (upf f.rt h (r : Int)) a (h : Int) v = _
          rw [upf_ne e2, upf_ne hvh]
      have hn := hR.rn
      have hn1 := List.nodup_cons.1 hn
      by_cases hl : lk key h a
      · rw [if_pos hl] at m'
        refine k H' h _ (h :: (t ++ [a])) m' ⟨.inr ⟨h, t ++ [a], rfl, rfl, Cn'.rot (t1 := []) hput⟩, ?_, fun r' hr' b hb => ?_⟩ (fun v => ?_) (by simp) (fun v hv => ⟨upf_ne hv, upf_ne hv⟩) ⟨upf_same, upf_same⟩ rfl rfl off s'
        · refine List.nodup_cons.2 ⟨fun h' => hhR ?_, List.nodup_append.2 ⟨hn1.2, by simp, fun x hx y hy e0 => ?_⟩⟩
          · simp at h' ⊢; rcases h' with h' | h'
            · exact .inr h'
            · exact .inl h'
          · simp at hy; exact hn1.1 (hy ▸ e0 ▸ hx)
        · have : b = h := by omega
          subst this
          have hold : r' ∈ a :: t → ¬ lk key r' b := fun hm hlk => hR.ls r' hm a rfl (hlk.trans hl)
          simp only [List.mem_cons, List.mem_append, List.mem_nil_iff, or_false] at hr'
          rcases hr' with rfl | hr' | rfl
          · exact nlk_self
          · exact hold (by simp [hr'])
          · exact hold (by simp)
        · simp only [List.mem_cons, List.mem_append, List.mem_nil_iff, or_false]
          constructor
          · rintro (h | h | h)
            · exact .inr h
            · exact .inl (.inr h)
            · exact .inl (.inl h)
          · rintro ((h | h) | h)
            · exact .inr (.inr h)
            · exact .inr (.inl h)
            · exact .inl h
      · rw [if_neg hl] at m'
        refine k H' a _ (a :: h :: t) m' ⟨.inr ⟨a, h :: t, rfl, rfl, hput⟩, ?_, fun r' hr' b hb => ?_⟩ (fun v => ?_) (by simp) (fun v hv => ⟨upf_ne hv, upf_ne hv⟩) ⟨upf_same, upf_same⟩ rfl rfl off s'
        · refine List.nodup_cons.2 ⟨fun h' => ?_, List.nodup_cons.2 ⟨fun h' => hhR (by simp [h']), hn1.2⟩⟩
          rcases List.mem_cons.1 h' with h' | h'
          · exact hah h'
          · exact hn1.1 h'
        · have : b = a := by omega
          subst this
          rcases List.mem_cons.1 hr' with rfl | hr'
          · exact nlk_self
          · rcases List.mem_cons.1 hr' with rfl | hr'
            · exact hl
            · exact hR.ls r' (by simp [hr']) b rfl
        · simp only [List.mem_cons]
          constructor
          · rintro (h | h | h)
            · exact .inl (.inl h)
            · exact .inr h
            · exact .inl (.inr h)
          · rintro ((h | h) | h)
            · exact .inl h
            · exact .inr (.inr h)
            · exact .inr (.inl h)

/-- all of a Fibonacci heap, between calls -/
structure FibA (key : Nat → Int) (f : Fl) (best : Int) (L : Nat → List Nat) (S : Nat → Prop) (R : List Nat) (ex : Option Nat) : Prop where
  fw : FwF key f L S (fun v => v ∈ R) ex
  ring : RtR key f best R
  ro : ∀ r ∈ R, f.par r = -1 ∧ f.mrk r = false

theorem fpush {v : Nat} {kp : Option Addr} {key : Nat → Int} {L : Nat → List Nat} {S : Nat → Prop} {R : List Nat} {K : Hp → Prop} (hM : FibM H eb q n best lb lo lc f) (hk : KeyM H q n kp key) (dq : q ≠ eb ∧ q ≠ lb) (dk : ∀ y, fpS kp y → y ≠ eb ∧ y ≠ lb)
    (hS : ∀ v, S v → v < n) (hA : FibA key f best L S R none) (hv : ¬ S v) (hvn : v < n)
    (kk : ∀ H' best' f' L' R', FibM H' eb q n best' lb lo lc f' → Step (fun y => y = eb ∨ y = lb) H H' → FibA key f' best' L' (fun w => S w ∨ w = v) R' none → K H') : heaps_fibonacci_push.call (some ⟨eb, 0, none⟩) v E H K := by
  refine heaps_fibonacci_push.of (heaps_fibonacci_push.run_eq ?_)
  unfold heaps_fibonacci_push.run_t
  simp only [nn_mk, get_at hM.cell, List.getElem?_cons_zero, List.getElem?_cons_succ, ldS_mk, Nat.zero_add]
  refine hM.row.st (α := Fbl) (by omega) (by omega) ((-1, -1, (v : Int), (v : Int), 0, false) : Fbl) fun H1 r1 s1 => ?_
  have s1' : Step (· = lb) H H1 := s1.weak fun y hy => by rw [fpS_mk] at hy; exact .inl hy
  have m1 : FibM H1 eb q n best lb lo lc ⟨upf f.par v (-1), upf f.ch v (-1), upf f.lf v (v : Int), upf f.rt v (v : Int), upf f.deg v 0, upf f.mrk v false⟩ := ⟨s1'.keep _ _ hM.cell hM.d, r1.congr fun w _ => by
    rw [Int.toNat_natCast]
    unfold Fl.at
    by_cases e : w = v
    · subst e; simp only [upf_same]
    · simp only [upf_ne e], hM.d⟩
  have s1'' : Step (fun y => y = eb ∨ y = lb) H H1 := s1'.weak fun _ h => .inl (.inr h)
  have hk1 := hk.keep s1' dq.2 fun y hy => (dk y hy).2
  have hAdd := hA.fw.add hv
  have hRS : ∀ r ∈ R, S r := hA.fw.rs
  have hvR : v ∉ R := fun h => hv (hRS v h)
  have hne : ∀ r ∈ R, r ≠ v := fun r hr e => hvR (e ▸ hr)
  have hR1 : RtR key ⟨upf f.par v (-1), upf f.ch v (-1), upf f.lf v (v : Int), upf f.rt v (v : Int), upf f.deg v 0, upf f.mrk v false⟩ best R := ⟨hA.ring.rg.cg (fun y hy => upf_ne (hne y hy)) fun y hy => upf_ne (hne y hy), hA.ring.rn, hA.ring.ls⟩
  refine frootR m1 hk1 dq dk hvn hR1 (fun r hr => hS r (hRS r hr)) hvR (fun _ => ⟨upf_same, upf_same⟩) fun H' best' f' R' m' hR' hmem _ h1 h2 h3 h4 h5 s' => ?_
  refine kk H' best' f' (upf L v []) R' m' (s1''.trans s' fun _ h => .inl h) ⟨?_, hR', fun r hr => ?_⟩
  · have hoff := hAdd.off (par' := f'.par) (lf' := f'.lf) (rt' := f'.rt) (mk' := f'.mrk) fun w hw hwR => by
      have hwv : w ≠ v := fun e => hwR (.inr e)
      have hwR' : w ∉ R := fun e => hwR (.inl e)
      obtain ⟨q1, q2⟩ := h1 w hwv
      obtain ⟨q3, q4⟩ := h5 w hwR' hwv
      exact ⟨q1, q3, q4, q2⟩
    have e3 : f'.ch = upf f.ch v (-1) := h3
    have e4 : f'.deg = upf f.deg v 0 := h4
    unfold FwF
    rw [e3, e4]
    exact hoff.cgR hmem
  · by_cases e : r = v
    · subst e; exact h2
    · have hrR : r ∈ R := ((hmem r).1 hr).resolve_right e
      obtain ⟨q1, q2⟩ := h1 r e
      obtain ⟨p1, p2⟩ := hA.ro r hrR
      have q1 : f'.par r = upf f.par v (-1) r := q1
      have q2 : f'.mrk r = upf f.mrk v false r := q2
      rw [q1, q2, upf_ne e, upf_ne e]
      exact ⟨p1, p2⟩

/-- one at hand, to be cut off: k: how many could be roots still -/
def CutJ (eb q n lb lo lc : Nat) (H H' : Hp) (keyF : Nat → Int) (S : Nat → Prop) (f0 : Option Addr) (h1 p4 : Int) (k : Nat) : Prop :=
  f0 = some ⟨eb, 0, none⟩ ∧ ∃ (h p : Nat) (best : Int) (f : Fl) (keyA : Nat → Int) (L : Nat → List Nat) (R : List Nat) (ex : Option Nat), h1 = h ∧ p4 = p ∧ FibM H' eb q n best lb lo lc f ∧ Step (fun y => y = eb ∨ y = lb) H H' ∧ FwF keyA f L S (fun v => v ∈ R) ex ∧ RtR keyF f best R ∧ (∀ r ∈ R, f.par r = -1 ∧ f.mrk r = false) ∧
    (ex = none ∨ ex = some h) ∧ S h ∧ f.par h = (p : Int) ∧ keyF = upf keyA h (keyF h) ∧ keyF h ≤ keyA h ∧ k = n - R.length

theorem fcut {h p : Nat} {kp : Option Addr} {keyA keyF : Nat → Int} {L : Nat → List Nat} {S : Nat → Prop} {R : List Nat} {K : Hp → Prop} (hM : FibM H eb q n best lb lo lc f) (hk : KeyM H q n kp keyF) (dq : q ≠ eb ∧ q ≠ lb) (dk : ∀ y, fpS kp y → y ≠ eb ∧ y ≠ lb)
    (hn : n ≤ 1024) (hS : ∀ v, S v → v < n) (hFw : FwF keyA f L S (fun v => v ∈ R) none) (hRt : RtR keyF f best R) (hro : ∀ r ∈ R, f.par r = -1 ∧ f.mrk r = false) (hh : S h) (hp : f.par h = (p : Int)) (hkey : keyF = upf keyA h (keyF h)) (hle : keyF h ≤ keyA h)
    (kk : ∀ H' best' f' L' R', FibM H' eb q n best' lb lo lc f' → Step (fun y => y = eb ∨ y = lb) H H' → FibA keyF f' best' L' S R' none → K H') : heaps_fibonacci_cut.call (some ⟨eb, 0, none⟩) h E H K := by
  refine heaps_fibonacci_cut.of (heaps_fibonacci_cut.run_eq ?_)
  unfold heaps_fibonacci_cut.run_t
  have hhn := hS h hh
  simp only [nn_mk, get_at hM.cell, List.getElem?_cons_zero, List.getElem?_cons_succ, ldS_mk, ldI_mk, Nat.zero_add, ix_mk, Int.toNat_natCast]
  refine ⟨⟨by omega, by omega⟩, ?_⟩
  rw [hM.g0 hhn, hp]
  simp only [ldI_mk]
  refine heaps_fibonacci_cut.l1_rule (fun f0 h1 p4 H' => ∃ k, CutJ eb q n lb lo lc H H' keyF S f0 h1 p4 k) (fun f0 h1 p4 H' => lm (CutJ eb q n lb lo lc H H' keyF S f0 h1 p4)) ?_ ⟨_, rfl, h, p, best, f, keyA, L, R, none, rfl, rfl, hM, .refl, hFw, hRt, hro, .inl rfl, hh, hp, hkey, hle, rfl⟩
  clear hM hFw hRt hro hh hp hkey hle hhn
  rintro f0 h1 p4 H1 ⟨k0, hk0⟩ X hX
  have hlm := (lm_of hk0).1
  clear hk0
  generalize hkk : lm (CutJ eb q n lb lo lc H H1 keyF S f0 h1 p4) = kq at hlm hX
  obtain ⟨rfl, h, p, best, f, keyA, L, R, ex, rfl, rfl, hM, s1, hFw, hRt, hro, hex, hh, hp, hkey, hle, hkR⟩ := hlm
  have hhn := hS h hh
  have hhR : h ∉ R := fun hm => by have := (hro h hm).1; omega
  obtain ⟨u, hu, hm⟩ := (hFw.al h hh).resolve_left hhR
  have hup : u = p := by have := (hFw.ls u hu h hm).2.2.2; omega
  subst hup
  have hun := hS u hu
  obtain ⟨l1, l2, hL⟩ := List.append_of_mem hm
  have hnd := hFw.nd u hu
  have hlen : (L u).length ≤ n := by
    have := List.Nodup.length_le_of_subset (l₁ := L u) (l₂ := List.range n) hnd fun w hw => List.mem_range.2 (hS w (hFw.ls u hu w hw).1)
    simpa using this
  have hdeg := hFw.dg u hu
  have hLS : ∀ w ∈ L u, S w ∧ w < n ∧ w ∉ R := fun w hw => ⟨(hFw.ls u hu w hw).1, hS w (hFw.ls u hu w hw).1, (hFw.ls u hu w hw).2.2.1⟩
  have hLpos : 0 < (L u).length := List.length_pos_of_mem hm
  have hrn : ∀ r ∈ R, r < n := fun r hr => hS r (hFw.rs r hr)
  have hRl : R.length ≤ n := by
    have := List.Nodup.length_le_of_subset (l₁ := R) (l₂ := List.range n) hRt.rn fun w hw => List.mem_range.2 (hrn w hw)
    simpa using this
  -- the ring, from the one at hand on
  have hring : Cn' f.rt f.lf h (l2 ++ l1) h ∧ f.ch u = ((l1.head?.getD h : Nat) : Int) := by
    rcases hFw.rg u hu with ⟨e, _⟩ | ⟨a, t, e, hch, hc⟩
    · rw [e] at hm; cases hm
    · rw [hL] at e
      cases l1 with
      | nil =>
        simp at e
        obtain ⟨rfl, rfl⟩ := e
        exact ⟨by simpa using hc, hch⟩
      | cons b l1 =>
        simp at e
        obtain ⟨rfl, rfl⟩ := e
        exact ⟨hc.rot, hch⟩
  obtain ⟨hring, hch⟩ := hring
  have hnr : (h :: (l2 ++ l1)).Nodup := by
    rw [hL] at hnd
    have e : (h :: (l2 ++ l1)).Perm (l1 ++ h :: l2) := ((List.perm_append_comm (l₁ := l2) (l₂ := l1)).cons h).trans (List.perm_middle).symm
    exact e.nodup_iff.2 hnd
  have hmr : ∀ w, w ∈ h :: (l2 ++ l1) → w ∈ L u := fun w hw => by
    rw [hL]
    simp only [List.mem_cons, List.mem_append] at hw ⊢
    rcases hw with hw | hw | hw
    · exact .inr (.inl hw)
    · exact .inr (.inr hw)
    · exact .inl hw
  obtain ⟨l, hl⟩ := hring.left
  obtain ⟨r, hr, _⟩ := hring.right
  obtain ⟨⟨hlm, hrm⟩, hlv, _⟩ := hring.leave hnr hl hr
  have hln := (hLS l (hmr l hlm)).2.1
  have hrn' := (hLS r (hmr r hrm)).2.1
  have hhu : h ≠ u := fun e => by
    have := (hFw.ls u hu h hm).2.1
    rw [e] at this
    exact nlk_self this
  -- behind the counting
  have go : ∀ (H2 : Hp) (x : Int), FibM H2 eb q n best lb lo lc { f with deg := upf f.deg u (f.deg u - 1), ch := upf f.ch u x } → Step (· = lb) H1 H2 → ((l1 = [] ∧ l2 = [] ∧ x = -1) ∨ (l1 = [] ∧ l2 ≠ [] ∧ x = r) ∨ (l1 ≠ [] ∧ x = f.ch u)) →
      heaps_fibonacci_cut.j1 (some ⟨eb, 0, none⟩) (h : Int) (u : Int) (some ⟨lb, lo + u * 6, none⟩) X E H2 K := fun H2 x m2 s2 hx => by
    refine heaps_fibonacci_cut.j1_eq ?_
    unfold heaps_fibonacci_cut.j1_t
    have s02 : Step (fun y => y = eb ∨ y = lb) H H2 := s1.trans s2 fun _ h => .inl (.inr h)
    refine fleave m2 hhn hl hln hr hrn' fun H3 m3 s3 => ?_
    have s03 := s02.trans s3 fun _ h => .inl (.inr h)
    have hk3 := hk.keep s03 (fun h => h.elim dq.1 dq.2) fun y hy h => h.elim (dk y hy).1 (dk y hy).2
    have offR : ∀ y, y ∉ L u → ((({ f with deg := upf f.deg u (f.deg u - 1), ch := upf f.ch u x } : Fl)).out h l r).lf y = f.lf y ∧ ((({ f with deg := upf f.deg u (f.deg u - 1), ch := upf f.ch u x } : Fl)).out h l r).rt y = f.rt y := fun y hy => by
      have e1 : y ≠ h := fun e => hy (e ▸ hm)
      have e2 : y ≠ l := fun e => hy (e ▸ hmr l hlm)
      have e3 : y ≠ r := fun e => hy (e ▸ hmr r hrm)
      refine ⟨?_, ?_⟩
      · show upf (upf f.lf r (l : Int)) h (h : Int) y = _
        rw [upf_ne e1, upf_ne e3]
      · show upf (upf f.rt l (r : Int)) h (h : Int) y = _
        rw [upf_ne e1, upf_ne e2]
    have hR3 : RtR keyF ((({ f with deg := upf f.deg u (f.deg u - 1), ch := upf f.ch u x } : Fl)).out h l r) best R := ⟨hRt.rg.cg (fun y hy => (offR y fun hy' => (hLS y hy').2.2 hy).2) fun y hy => (offR y fun hy' => (hLS y hy').2.2 hy).1, hRt.rn, hRt.ls⟩
    refine frootR m3 hk3 dq dk hhn hR3 hrn hhR (fun _ => ⟨upf_same, upf_same⟩) fun H4 best' f' R' m4 hR' hmem hlen' h1 h2 h3 h4 h5 s4 => ?_
    have s04 := s03.trans s4 fun _ h => .inl h
    have hum : f'.mrk u = f.mrk u := (h1 u fun e => hhu e.symm).2
    have hup : f'.par u = f.par u := (h1 u fun e => hhu e.symm).1
    simp only [nn_mk]
    rw [m4.g5 hun]
    simp only [ldB_mk]
    rw [hum]
    -- what holds whatever becomes of the mark
    have hcut : ∀ (mk' : Nat → Bool) (ex' : Option Nat), ((ex' = none ∧ (∀ v, v ≠ h → v ≠ u → mk' v = f.mrk v) ∧ (u ∈ R ∨ rkF f'.deg mk' u = rkF f.deg f.mrk u)) ∨ (ex' = some u ∧ ∀ v, v ≠ h → mk' v = f.mrk v)) →
        Fw keyF f'.par f'.ch f'.lf f'.rt f'.deg mk' (upf L u (l1 ++ l2)) S (fun v => v ∈ R') ex' := fun mk' ex' h6 => by
      have e3 : f'.ch = upf f.ch u x := h3
      have e4 : f'.deg = upf f.deg u (f.deg u - 1) := h4
      have := hFw.cut (x := keyF h) (par' := f'.par) (ch' := f'.ch) (lf' := f'.lf) (rt' := f'.rt) (deg' := f'.deg) (mk' := mk') (ex' := ex') hex hu hL hle (fun v hv => (h1 v hv).1) (fun v hv => by rw [e3, upf_ne hv]) (by rw [e4, upf_same]) (fun v hv => by rw [e4, upf_ne hv]) ?_ (fun v hv hvR hvL => ?_) h6
      · rw [← hkey] at this
        exact this.cgR hmem
      · -- the ring without it
        have hsub : ∀ y, y ∈ l1 ++ l2 → y ∉ R ∧ y ≠ h := fun y hy => by
          have hy' : y ∈ l2 ++ l1 := by simp only [List.mem_append] at hy ⊢; exact hy.symm
          exact ⟨(hLS y (hmr y (List.mem_cons_of_mem _ hy'))).2.2, fun e => (List.nodup_cons.1 hnr).1 (e ▸ hy')⟩
        have hbase : Rg ((({ f with deg := upf f.deg u (f.deg u - 1), ch := upf f.ch u x } : Fl)).out h l r).rt ((({ f with deg := upf f.deg u (f.deg u - 1), ch := upf f.ch u x } : Fl)).out h l r).lf x (l1 ++ l2) := by
          rcases hx with ⟨rfl, rfl, rfl⟩ | ⟨rfl, hne, rfl⟩ | ⟨hne, rfl⟩
          · exact .inl ⟨rfl, rfl⟩
          · cases l2 with
            | nil => exact (hne rfl).elim
            | cons y t =>
              obtain ⟨e, hc⟩ := hlv y t (by simp)
              exact .inr ⟨y, t, rfl, by rw [e], hc⟩
          · cases l1 with
            | nil => exact (hne rfl).elim
            | cons a l1 =>
              refine .inr ⟨a, l1 ++ l2, rfl, by rw [hch]; rfl, ?_⟩
              cases l2 with
              | nil =>
                obtain ⟨_, hc⟩ := hlv a l1 (by simp)
                rw [List.append_nil]; exact hc
              | cons y t =>
                obtain ⟨_, hc⟩ := hlv y (t ++ a :: l1) (by simp)
                exact hc.rot
        rw [e3, upf_same]
        exact hbase.cg (fun y hy => (h5 y (hsub y hy).1 (hsub y hy).2).2) fun y hy => (h5 y (hsub y hy).1 (hsub y hy).2).1
      · have hvh : v ≠ h := fun e => hvL (e ▸ hm)
        obtain ⟨q1, q2⟩ := h5 v hvR hvh
        obtain ⟨p1, p2⟩ := offR v hvL
        exact ⟨q1.trans p1, q2.trans p2⟩
    have hro' : ∀ r' ∈ R', r' ≠ u ∨ u ∈ R → f'.par r' = -1 ∧ f'.mrk r' = false := fun r' hr' _ => by
      by_cases e : r' = h
      · subst e; exact h2
      · obtain ⟨q1, q2⟩ := h1 r' e
        have q1 : f'.par r' = f.par r' := q1
        have q2 : f'.mrk r' = f.mrk r' := q2
        rw [q1, q2]
        exact hro r' (((hmem r').1 hr').resolve_right e)
    cases hmu : f.mrk u with
    | false =>
      refine bcb (fun _ => ?_) fun e => by cases e
      try simp only [nn_mk]
      rw [m4.g0 hun]
      simp only [ldI_mk]
      refine m4.s5 hun fun H5 m5 s5 => ?_
      have e4 : f'.deg = upf f.deg u (f.deg u - 1) := h4
      refine kk H5 best' _ _ R' m5 (s04.trans s5 fun _ h => .inl (.inr h)) ⟨hcut (upf f'.mrk u (decide (0 ≤ f'.par u))) none (.inl ⟨rfl, fun v hv hvu => ?_, ?_⟩), ⟨hR'.rg, hR'.rn, hR'.ls⟩, fun r' hr' => ?_⟩
      · rw [upf_ne hvu]; exact (h1 v hv).2
      · rcases hFw.al u hu with hR | ⟨w, hw, hwm⟩
        · exact .inl hR
        · right
          have := (hFw.ls w hw u hwm).2.2.2
          unfold rkF
          rw [upf_same, e4, upf_same, hup, this, hmu, decide_eq_true (show (0 : Int) ≤ (w : Int) by omega)]
          simp
      · show f'.par r' = -1 ∧ upf f'.mrk u (decide (0 ≤ f'.par u)) r' = false
        obtain ⟨q1, q2⟩ : f'.par r' = -1 ∧ f'.mrk r' = false := by
          by_cases e : r' = h
          · subst e; exact h2
          · obtain ⟨q1, q2⟩ := h1 r' e
            have q1 : f'.par r' = f.par r' := q1
            have q2 : f'.mrk r' = f.mrk r' := q2
            rw [q1, q2]
            exact hro r' (((hmem r').1 hr').resolve_right e)
        refine ⟨q1, ?_⟩
        by_cases e : r' = u
        · subst e; rw [upf_same, q1]; decide
        · rw [upf_ne e]; exact q2
    | true =>
      refine bcb (fun e => by cases e) fun _ => ?_
      have huR : u ∉ R := fun hR => by have := (hro u hR).2; rw [hmu] at this; cases this
      obtain ⟨w, hw, hwm⟩ := (hFw.al u hu).resolve_left huR
      have hpw := (hFw.ls w hw u hwm).2.2.2
      simp only [nn_mk, get_at m4.cell, List.getElem?_cons_zero, List.getElem?_cons_succ, ldS_mk, ldI_mk, Nat.zero_add, ix_mk, Int.toNat_natCast]
      refine ⟨⟨by omega, by omega⟩, ?_⟩
      rw [m4.g0 hun, hup, hpw]
      simp only [ldI_mk]
      have hJ : CutJ eb q n lb lo lc H H4 keyF S (some ⟨eb, 0, none⟩) (u : Int) (w : Int) (n - R'.length) := ⟨rfl, u, w, best', f', keyF, _, R', some u, rfl, rfl, m4, s04, hcut f'.mrk (some u) (.inr ⟨rfl, fun v hv => (h1 v hv).2⟩), hR', fun r' hr' => ?_, .inr rfl, hu, by rw [hup]; exact hpw, upf_self.symm, Int.le_refl _, rfl⟩
      · refine hX _ _ _ _ ⟨_, hJ⟩ ?_
        have h7 := (lm_of hJ).2
        have hRl' : R.length + 1 ≤ n := by
          have hn' : (h :: R).Nodup := List.nodup_cons.2 ⟨hhR, hRt.rn⟩
          have := List.Nodup.length_le_of_subset (l₁ := h :: R) (l₂ := List.range n) hn' fun y hy => by
            rcases List.mem_cons.1 hy with rfl | hy
            · exact List.mem_range.2 hhn
            · exact List.mem_range.2 (hrn y hy)
          simpa using this
        exact Nat.lt_of_le_of_lt h7 (by omega)
      · by_cases e : r' = h
        · subst e; exact h2
        · obtain ⟨q1, q2⟩ := h1 r' e
          have q1 : f'.par r' = f.par r' := q1
          have q2 : f'.mrk r' = f.mrk r' := q2
          rw [q1, q2]
          exact hro r' (((hmem r').1 hr').resolve_right e)
  refine heaps_fibonacci_cut.b1_eq ?_
  unfold heaps_fibonacci_cut.b1_t
  refine bc (fun _ => ?_) fun h => by omega
  simp only [nn_mk, get_at hM.cell, List.getElem?_cons_zero, List.getElem?_cons_succ, ldS_mk, ldI_mk, Nat.zero_add, ix_mk, Int.toNat_natCast]
  refine ⟨⟨by omega, by omega⟩, ?_⟩
  rw [hM.g4 hun]
  simp only [ldI_mk]
  rw [i64w (by omega) (by omega)]
  refine hM.s4 hun fun H2 m2 s2 => ?_
  rw [m2.g4 hun]
  simp only [ldI_mk]
  refine bc (fun hd => ?_) fun hd => ?_
  · have hd : upf f.deg u (f.deg u - 1) u = 0 := hd
    rw [upf_same] at hd
    have hl0 : l1 = [] ∧ l2 = [] := by
      have : (L u).length = 1 := by omega
      rw [hL] at this
      simp at this
      have h1 : l1.length = 0 := by omega
      have h2 : l2.length = 0 := by omega
      exact ⟨List.length_eq_zero_iff.1 h1, List.length_eq_zero_iff.1 h2⟩
    refine m2.s1 hun fun H3 m3 s3 => ?_
    exact go H3 (-1) m3 (s2.trans s3 fun _ h => .inl h) (.inl ⟨hl0.1, hl0.2, rfl⟩)
  · have hd : ¬ upf f.deg u (f.deg u - 1) u = 0 := hd
    rw [upf_same] at hd
    rw [m2.g1 hun]
    simp only [ldI_mk]
    refine bc (fun hc => ?_) fun hc => ?_
    · have hc : f.ch u = (h : Int) := hc
      have hl1 : l1 = [] := by
        cases l1 with
        | nil => rfl
        | cons a l1 =>
          exfalso
          rw [hch] at hc
          have hc : ((a : Nat) : Int) = h := hc
          have : a = h := by omega
          exact (List.nodup_cons.1 hnr).1 (by simp [← this])
      have hl2 : l2 ≠ [] := fun e => by
        rw [hL, hl1, e] at hdeg
        simp at hdeg
        omega
      simp only [nn_mk, get_at m2.cell, List.getElem?_cons_zero, List.getElem?_cons_succ, ldS_mk, ldI_mk, Nat.zero_add, ix_mk, Int.toNat_natCast]
      refine ⟨⟨by omega, by omega⟩, ?_⟩
      rw [m2.g3 hhn]
      simp only [ldI_mk]
      have e : ({ f with deg := upf f.deg u (f.deg u - 1) } : Fl).rt h = (r : Int) := hr
      rw [e]
      refine m2.s1 hun fun H3 m3 s3 => ?_
      exact go H3 r m3 (s2.trans s3 fun _ h => .inl h) (.inr (.inl ⟨hl1, hl2, rfl⟩))
    · have hc : ¬ f.ch u = (h : Int) := hc
      have hl1 : l1 ≠ [] := fun e => by
        rw [e] at hch
        exact hc hch
      have m2' : FibM H2 eb q n best lb lo lc { f with deg := upf f.deg u (f.deg u - 1), ch := upf f.ch u (f.ch u) } := by
        rw [upf_self]; exact m2
      exact go H2 (f.ch u) m2' s2 (.inr (.inr ⟨hl1, rfl⟩))
end
end Go.Mz

/-
  Walks of layer 5: the Fibonacci heap: lower, ring.
-/
namespace Go.Mz

theorem Fw.low {key par ch lf rt deg : Nat → Int} {mk : Nat → Bool} {L : Nat → List Nat} {S Rt : Nat → Prop} {ex : Option Nat} {h : Nat} {x : Int} (hf : Fw key par ch lf rt deg mk L S Rt ex) (hx : x ≤ key h) (hp : ∀ u, S u → h ∈ L u → lk (upf key h x) u h) :
    Fw (upf key h x) par ch lf rt deg mk L S Rt ex :=
  ⟨hf.rs, hf.nd, fun u hu v hv => by
    obtain ⟨q1, q2, q3, q4⟩ := hf.ls u hu v hv
    refine ⟨q1, ?_, q3, q4⟩
    by_cases e : v = h
    · subst e; exact hp u hu hv
    · unfold lk at *
      rw [upf_ne e]
      by_cases e' : u = h
      · subst e'; rw [upf_same]; omega
      · rw [upf_ne e']; exact q2, hf.al, hf.rg, hf.dg, hf.ct⟩

section
variable {E : Value → Hp → Prop} {H : Hp} {eb q n lb lo lc : Nat} {best : Int} {f : Fl}

/-- there is a best one, if there is any -/
theorem FibA.bst {key : Nat → Int} {L : Nat → List Nat} {S : Nat → Prop} {R : List Nat} (hA : FibA key f best L S R none) (hS : ∀ v, S v → v < n) {v : Nat} (hv : S v) : ∃ b t, R = b :: t ∧ best = (b : Int) ∧ S b ∧ ∀ v, S v → ¬ lk key v b := by
  rcases hA.ring.rg with ⟨rfl, _⟩ | ⟨b, t, rfl, hb, hc⟩
  · exact (hA.fw.empty hS (fun r hr => by cases hr) v hv).elim
  · exact ⟨b, t, rfl, hb, hA.fw.rs b (by simp), hA.fw.least hS (by simp) fun r hr => hA.ring.ls r hr b hb⟩

theorem flower {h : Nat} {x : Int} {kp : Option Addr} {key : Nat → Int} {L : Nat → List Nat} {S : Nat → Prop} {R : List Nat} {K : Hp → Prop} (hM : FibM H eb q n best lb lo lc f) (hk : KeyM H q n kp (upf key h x)) (dq : q ≠ eb ∧ q ≠ lb) (dk : ∀ y, fpS kp y → y ≠ eb ∧ y ≠ lb)
    (hn : n ≤ 1024) (hS : ∀ v, S v → v < n) (hA : FibA key f best L S R none) (hh : S h) (hx : x ≤ key h)
    (kk : ∀ H' best' f' L' R', FibM H' eb q n best' lb lo lc f' → Step (fun y => y = eb ∨ y = lb) H H' → FibA (upf key h x) f' best' L' S R' none → K H') : heaps_fibonacci_lower.call (some ⟨eb, 0, none⟩) h E H K := by
  have hhn := hS h hh
  refine heaps_fibonacci_lower.of (heaps_fibonacci_lower.run_eq ?_)
  unfold heaps_fibonacci_lower.run_t
  simp only [nn_mk, get_at hM.cell, List.getElem?_cons_zero, List.getElem?_cons_succ, ldS_mk, ldI_mk, Nat.zero_add, ix_mk, Int.toNat_natCast]
  refine ⟨⟨by omega, by omega⟩, ?_⟩
  rw [hM.g0 hhn]
  simp only [ldI_mk]
  -- where the best one is so still
  have done : ∀ (H' : Hp) best' f' L' R', FibM H' eb q n best' lb lo lc f' → Step (fun y => y = eb ∨ y = lb) H H' → FibA (upf key h x) f' best' L' S R' none → heaps_fibonacci_lower.j1 (some ⟨eb, 0, none⟩) (h : Int) E H' K := fun H' best' f' L' R' m' s' hA' => by
    obtain ⟨b, t, hRb, hb, Sb, hl⟩ := hA'.bst hS hh
    refine heaps_fibonacci_lower.j1_eq ?_
    unfold heaps_fibonacci_lower.j1_t
    simp only [nn_mk, get_at m'.cell, List.getElem?_cons_zero, List.getElem?_cons_succ, ldP_mk, ldS_mk, ldI_mk, Nat.zero_add, ix_mk, Int.toNat_natCast]
    rw [hb]
    refine hahead (hk.keep s' (fun h => h.elim dq.1 dq.2) fun y hy h => h.elim (dk y hy).1 (dk y hy).2) hhn (hS b Sb) ?_
    refine bc (fun hlk => (hl h hh hlk).elim) fun _ => kk H' best' f' L' R' m' s' hA'
  refine bc (fun hpar => ?_) fun hpar => ?_
  · -- not a root
    have hhR : h ∉ R := fun hm => by have := (hA.ro h hm).1; omega
    obtain ⟨u, hu, hm⟩ := (hA.fw.al h hh).resolve_left hhR
    have hup := (hA.fw.ls u hu h hm).2.2.2
    have hlk := (hA.fw.ls u hu h hm).2.1
    have huh : u ≠ h := fun e => by rw [e] at hlk; exact nlk_self hlk
    have hRt : RtR (upf key h x) f best R := ⟨hA.ring.rg, hA.ring.rn, fun r hr b hb => by
      have hbR : b ∈ R := by
        rcases hA.ring.rg with ⟨rfl, _⟩ | ⟨a, t, rfl, hba, _⟩
        · cases hr
        · have : a = b := by omega
          simp [this]
      have h1 := hA.ring.ls r hr b hb
      have n1 : r ≠ h := fun e => hhR (e ▸ hr)
      have n2 : b ≠ h := fun e => hhR (e ▸ hbR)
      unfold lk at *
      rw [upf_ne n1, upf_ne n2]
      exact h1⟩
    try simp only [nn_mk, get_at hM.cell, List.getElem?_cons_zero, List.getElem?_cons_succ, ldP_mk, ldS_mk, ldI_mk, Nat.zero_add, ix_mk, Int.toNat_natCast]
    rw [hup]
    refine hahead hk hhn (hS u hu) ?_
    refine bc (fun hl => ?_) fun hl => ?_
    · refine fcut hM hk dq dk hn hS hA.fw hRt hA.ro hh hup (by rw [upf_same]) (by rw [upf_same]; exact hx) fun H' best' f' L' R' m' s' hA' => ?_
      exact done H' best' f' L' R' m' s' hA'
    · refine done H best f L R hM .refl ⟨hA.fw.low hx fun w hw hwm => ?_, hRt, hA.ro⟩
      have : w = u := hA.fw.un hw hu hwm hm
      subst this
      exact (lk_total huh).resolve_right hl
  · have hhR : h ∈ R := by
      rcases hA.fw.al h hh with hR | ⟨u, hu, hm⟩
      · exact hR
      · have := (hA.fw.ls u hu h hm).2.2.2; omega
    have hF : FwF (upf key h x) f L S (fun v => v ∈ R) none := hA.fw.low hx fun u hu hm => ((hA.fw.ls u hu h hm).2.2.1 hhR).elim
    obtain ⟨b, t, hRb, hb, Sb, _⟩ := hA.bst hS hh
    have hold : ∀ r ∈ R, r ≠ h → ¬ lk key r b := fun r hr _ => hA.ring.ls r hr b hb
    refine heaps_fibonacci_lower.j1_eq ?_
    unfold heaps_fibonacci_lower.j1_t
    simp only [nn_mk, get_at hM.cell, List.getElem?_cons_zero, List.getElem?_cons_succ, ldP_mk, ldS_mk, ldI_mk, Nat.zero_add, ix_mk, Int.toNat_natCast]
    rw [hb]
    refine hahead hk hhn (hS b Sb) ?_
    refine bc (fun hl => ?_) fun hl => ?_
    · have hbh : b ≠ h := fun e => by rw [e] at hl; exact nlk_self hl
      try simp only [nn_mk, Nat.zero_add]
      refine hM.setB fun H1 m1 s1 => ?_
      have hring : ∃ R', Rg f.rt f.lf (h : Int) R' ∧ R'.Perm R := by
        rcases hA.ring.rg with ⟨e, _⟩ | ⟨a, t', e, hba, hc⟩
        · rw [e] at hhR; cases hhR
        · have hab : a = b := by omega
          subst hab
          have hht : h ∈ t' := by
            rw [e] at hhR
            rcases List.mem_cons.1 hhR with q | q
            · exact (hbh q.symm).elim
            · exact q
          obtain ⟨t1, t2, rfl⟩ := List.append_of_mem hht
          refine ⟨h :: (t2 ++ a :: t1), .inr ⟨h, _, rfl, rfl, hc.rot⟩, ?_⟩
          rw [e]
          have p1 : (h :: (t2 ++ a :: t1)).Perm ((h :: t2) ++ (a :: t1)) := .refl _
          have p2 : (a :: (t1 ++ h :: t2)).Perm ((a :: t1) ++ (h :: t2)) := .refl _
          exact p1.trans (List.perm_append_comm.trans p2.symm)
      obtain ⟨R', hrg, hperm⟩ := hring
      refine kk H1 h f L R' m1 (s1.weak fun _ h => .inl (.inl h)) ⟨hF.cgR fun v => hperm.mem_iff, ⟨hrg, hperm.nodup_iff.2 hA.ring.rn, fun r hr b' hb' => ?_⟩, fun r hr => hA.ro r (hperm.mem_iff.1 hr)⟩
      have : b' = h := by omega
      subst this
      by_cases e : r = b'
      · subst e; exact nlk_self
      · have h1 := hold r (hperm.mem_iff.1 hr) e
        intro h2
        have h3 := h2.trans hl
        unfold lk at h1 h3
        rw [upf_ne e, upf_ne hbh] at h3
        exact h1 h3
    · refine kk H best f L R hM .refl ⟨hF, ⟨hA.ring.rg, hA.ring.rn, fun r hr b' hb' => ?_⟩, hA.ro⟩
      have : b' = b := by omega
      subst this
      by_cases e : r = h
      · subst e; exact hl
      · have h1 := hold r hr e
        unfold lk at *
        rw [upf_ne e]
        by_cases e' : b' = h
        · subst e'; rw [upf_same]; omega
        · rw [upf_ne e']; exact h1

/-- all of a ring, in a list -/
theorem fring {c : Int} {l : List Nat} {K : Option Addr → Nat → Nat → Hp → Prop} (hM : FibM H eb q n best lb lo lc f) (hc : Rg f.rt f.lf c l) (hl : ∀ v ∈ l, v < n) (hnd : l.Nodup) (hn : n ≤ 1024)
    (kk : ∀ H' p cc, Step (fun _ => False) H H' → Row H' p l.length cc (lsF l) → (∀ y, fpS p y → H y = none) → K p l.length cc H') : heaps_fibonacci_ring.call (some ⟨eb, 0, none⟩) c E H K := by
  refine heaps_fibonacci_ring.of (heaps_fibonacci_ring.run_eq ?_)
  unfold heaps_fibonacci_ring.run_t
  rcases hc with ⟨rfl, rfl⟩ | ⟨a, t, rfl, rfl, hc⟩
  · refine bc (fun _ => ?_) fun h => absurd (by decide) h
    exact kk H none 0 .refl Row.nil fun y hy => (by rw [fpS_none] at hy; exact hy.elim)
  · refine bc (fun h => by omega) fun _ => ?_
    have hlen : (a :: t).length ≤ 1024 := by
      have := List.Nodup.length_le_of_subset (l₁ := a :: t) (l₂ := List.range n) hnd fun w hw => List.mem_range.2 (hl w hw)
      simp at this ⊢; omega
    have han := hl a (by simp)
    refine nwk fun b1 H1 hb1 e1 s1 => ?_
    have m1 := hM.keep s1 (fun h => h) fun h => h
    simp only [nn_mk, get_at m1.cell, List.getElem?_cons_zero, List.getElem?_cons_succ, ldS_mk, ldI_mk, Nat.zero_add, ix_mk, Int.toNat_natCast]
    refine ⟨⟨by omega, by omega⟩, ?_⟩
    rw [m1.g3 han]
    have r1 : Row H1 (some ⟨b1, 0, none⟩) 1 1 (lsF [a]) := ⟨Nat.le_refl _, by decide, .inr ⟨b1, 0, _, rfl, e1, ⟨by show 0 + 1 * 1 ≤ 1; decide, rfl⟩, fun i hi j hj => by
      have hw : El.w Int = 1 := rfl
      have : i = 0 := by omega
      have : j = 0 := by omega
      subst_vars; rfl⟩⟩
    have live := hM.live
    have hstart : f.rt a = ((t.head?.getD a : Nat) : Int) := by
      obtain ⟨r, hr, hrt⟩ := hc.right
      rw [hr, hrt]
    simp only [ldI_mk]
    rw [hstart]
    refine heaps_fibonacci_ring.l1_rule (fun f0 h1 op on oc n6 H' => f0 = some ⟨eb, 0, none⟩ ∧ h1 = a ∧ ∃ t1 t2, t = t1 ++ t2 ∧ on = (a :: t1).length ∧ n6 = ((t2.head?.getD a : Nat) : Int) ∧ Step (fun _ => False) H H' ∧ Row H' op (a :: t1).length oc (lsF (a :: t1)) ∧ ∀ y, fpS op y → H y = none)
      (fun f0 h1 op on oc n6 H' => t.length + 1 - on) ?_ ⟨rfl, rfl, [], t, rfl, rfl, rfl, s1, r1, fun y hy => (by rw [fpS_mk] at hy; exact hy ▸ hb1)⟩
    rintro f0 h1 op on oc n6 H2 ⟨rfl, rfl, t1, t2, rfl, rfl, rfl, s2, r2, f2⟩ X hX
    refine heaps_fibonacci_ring.b1_eq ?_
    unfold heaps_fibonacci_ring.b1_t
    cases t2 with
    | nil =>
      refine bcn (fun h => (h rfl).elim) fun _ => ?_
      rw [List.append_nil] at kk
      exact kk H2 op oc s2 r2 f2
    | cons x t2 =>
      have hxa : x ≠ a := fun e => (List.nodup_cons.1 hnd).1 (by simp [e])
      have hxn := hl x (by simp)
      refine bcn (fun _ => ?_) fun h => ?_
      · show nw H2 ⟨[.int .i64 (x : Int)], 3⟩ _
        have hlt : (a :: t1).length + 1 ≤ 1024 := by simp at hlen ⊢; omega
        refine r2.app (α := Int) (x : Int) rfl (by omega) (by decide) fun op' oc' H3 r3 s3 f3 => ?_
        have s03 := s2.own s3 f2
        have m3 := hM.keep s03 (fun h => h) fun h => h
        simp only [nn_mk, get_at m3.cell, List.getElem?_cons_zero, List.getElem?_cons_succ, ldS_mk, ldI_mk, Nat.zero_add, ix_mk]
        refine ⟨⟨by show (0 : Int) ≤ (x : Int); omega, by show (x : Int) < _; omega⟩, ?_⟩
        have ex : ((x :: t2).head?.getD a : Nat) = x := rfl
        rw [ex]
        simp only [Int.toNat_natCast]
        rw [m3.g3 hxn]
        simp only [ldI_mk]
        have hnext : f.rt x = ((t2.head?.getD a : Nat) : Int) := by
          obtain ⟨r, hr, hrt⟩ := ((Cn'.app.1 hc).2).right
          rw [hr, hrt]
        rw [hnext]
        rw [lsF_app] at r3
        refine hX _ _ _ _ _ _ _ ⟨rfl, rfl, t1 ++ [x], t2, by simp, by simp, rfl, s03, by simpa using r3, fun y hy => (f3 y hy).elim (f2 y) (s2.mono y)⟩ (by simp; omega)
      · have h : ((x : Nat) : Int) = a := h
        omega
end
end Go.Mz

/-
  Walks of layer 5: the Fibonacci heap: pop.
-/
namespace Go.Mz

/-- a tree's root that stands by itself -/
def Sgl (f : Fl) (v : Nat) : Prop := f.par v = -1 ∧ f.mrk v = false ∧ f.rt v = (v : Int) ∧ f.lf v = (v : Int)

/-- it stands in the table -/
def InB (B : Nat → Int) (v : Nat) : Prop := ∃ d, d < 64 ∧ B d = (v : Int) + 1

/-- the table: at each number of children a tree's root, or none -/
def FiB (f : Fl) (S : Nat → Prop) (B : Nat → Int) : Prop := ∀ d, d < 64 → B d = 0 ∨ ∃ v : Nat, B d = (v : Int) + 1 ∧ S v ∧ f.deg v = (d : Int) ∧ Sgl f v

theorem FiB.uniq {f : Fl} {S : Nat → Prop} {B : Nat → Int} (h : FiB f S B) {v d : Nat} (hd : d < 64) (hB : B d = (v : Int) + 1) : f.deg v = (d : Int) ∧ S v ∧ Sgl f v := by
  rcases h d hd with h0 | ⟨w, h1, h2, h3, h4⟩
  · omega
  · have : w = v := by omega
    subst this
    exact ⟨h3, h2, h4⟩

theorem lds_ints {H : Hp} {b : Nat} {K : List Value → Prop} : ∀ {m o : Nat} {g : Nat → Int}, (∀ j, j < m → H.get b (o + j) = some (.int .i64 (g j))) → K ((List.range m).map fun j => Value.int .i64 (g j)) → lds (List.replicate m (.i .i64)) H b o K
  | 0, o, g, _, hk => hk
  | m + 1, o, g, hg, hk => by
    show ldI .i64 (H.get b o) _
    have h0 := hg 0 (by omega)
    rw [Nat.add_zero] at h0
    rw [h0]
    show lds (List.replicate m (.i .i64)) H b (o + 1) fun vs => K (Value.int .i64 (g 0) :: vs)
    refine lds_ints (K := fun vs => K (Value.int .i64 (g 0) :: vs)) (g := fun j => g (j + 1)) (fun j hj => by rw [show o + 1 + j = o + (j + 1) by omega]; exact hg (j + 1) (by omega)) ?_
    rw [List.range_succ_eq_map, List.map_cons, List.map_map] at hk
    exact hk

section
variable {E : Value → Hp → Prop} {H : Hp} {eb q n lb lo lc : Nat} {f : Fl}

/-- one at hand, to be put into the table: k: how many stand there -/
def PopJ (eb q n lb lo lc : Nat) (H H' : Hp) (bst : Int) (key : Nat → Int) (S : Nat → Prop) (ap : Option Addr) (ac : Nat) (A : List Nat) (i bb : Nat) (f0 : Option Addr) (b5 : Nat) (h5 : Int) (tp : Option Addr) (tn tc : Nat) (t32 t33 : Int) (k : Nat) : Prop :=
  f0 = some ⟨eb, 0, none⟩ ∧ b5 = bb ∧ tp = ap ∧ tn = A.length ∧ tc = ac ∧ t32 = (A.length : Int) ∧ t33 = (i : Int) ∧ ∃ (h : Nat) (f : Fl) (L : Nat → List Nat) (B : Nat → Int), h5 = h ∧ FibM H' eb q n bst lb lo lc f ∧ Row H' (some ⟨bb, 0, none⟩) 64 64 B ∧ Row H' ap A.length ac (lsF A) ∧ Step (fun y => y = eb ∨ y = lb) H H' ∧
    FwF key f L S (fun v => v ∈ A.drop (i + 1) ∨ v = h ∨ InB B v) none ∧ FiB f S B ∧ (∀ v ∈ A.drop (i + 1), ¬ InB B v ∧ v ≠ h) ∧ ¬ InB B h ∧ Sgl f h ∧ k = cnt (fun d => decide (B d ≠ 0)) 64

theorem fpop {b : Nat} {kp : Option Addr} {key : Nat → Int} {L : Nat → List Nat} {S : Nat → Prop} {T : List Nat} {K : Hp → Prop} (hM : FibM H eb q n (b : Int) lb lo lc f) (hk : KeyM H q n kp key) (dq : q ≠ eb ∧ q ≠ lb) (dk : ∀ y, fpS kp y → y ≠ eb ∧ y ≠ lb)
    (hn : n ≤ 1024) (hS : ∀ v, S v → v < n) (hA : FibA key f (b : Int) L S (b :: T) none)
    (kk : ∀ H' best' f' L' R', FibM H' eb q n best' lb lo lc f' → Step (fun y => y = eb ∨ y = lb) H H' → FibA key f' best' L' (fun w => S w ∧ w ≠ b) R' none → K H') : heaps_fibonacci_pop.call (some ⟨eb, 0, none⟩) E H K := by
  have Sb := hA.fw.rs b (by simp)
  have hbn := hS b Sb
  have live := hM.live
  obtain ⟨C, hC⟩ : ∃ C, L b = C := ⟨_, rfl⟩
  have hCl : ∀ v ∈ C, S v ∧ v < n ∧ v ∉ b :: T := fun v hv => by
    rw [← hC] at hv
    obtain ⟨q1, q2, q3, q4⟩ := hA.fw.ls b Sb v hv
    exact ⟨q1, hS v q1, q3⟩
  have hCd : C.Nodup := by rw [← hC]; exact hA.fw.nd b Sb
  have hTl : ∀ v ∈ b :: T, S v ∧ v < n := fun v hv => ⟨hA.fw.rs v hv, hS v (hA.fw.rs v hv)⟩
  have hTd := hA.ring.rn
  have hTd1 := List.nodup_cons.1 hTd
  have hAd : (C ++ T).Nodup := List.nodup_append.2 ⟨hCd, hTd1.2, fun x hx y hy e => (hCl x hx).2.2 (by subst e; simp [hy])⟩
  have hAn : ∀ v ∈ C ++ T, v < n := fun v hv => by
    rcases List.mem_append.1 hv with h | h
    · exact (hCl v h).2.1
    · exact (hTl v (by simp [h])).2
  have hAlen : (C ++ T).length ≤ 1024 := by
    have := List.Nodup.length_le_of_subset (l₁ := C ++ T) (l₂ := List.range n) hAd fun w hw => List.mem_range.2 (hAn w hw)
    rw [List.length_range] at this
    omega
  have hrgC : Rg f.rt f.lf (f.ch b) C := by rw [← hC]; exact hA.fw.rg b Sb
  have hkf : ∀ {H'}, Step (fun y => y = eb ∨ y = lb) H H' → KeyM H' q n kp key := fun s => hk.keep s (fun h => h.elim dq.1 dq.2) fun y hy h => h.elim (dk y hy).1 (dk y hy).2
  refine heaps_fibonacci_pop.of (heaps_fibonacci_pop.run_eq ?_)
  unfold heaps_fibonacci_pop.run_t
  simp only [nn_mk, get_at hM.cell, List.getElem?_cons_zero, List.getElem?_cons_succ, ldS_mk, ldI_mk, Nat.zero_add, ix_mk, Int.toNat_natCast]
  refine ⟨⟨by omega, by omega⟩, ?_⟩
  rw [hM.g1 hbn]
  simp only [ldI_mk]
  try simp only [nn_mk, get_at hM.cell, List.getElem?_cons_zero, List.getElem?_cons_succ, ldS_mk, ldI_mk, Nat.zero_add, ix_mk, Int.toNat_natCast]
  refine fring hM hrgC (fun v hv => (hCl v hv).2.1) hCd hn fun H1 p1 c1 s1 r1 f1 => ?_
  have m1 := hM.keep s1 (fun h => h) fun h => h
  simp only [get_at m1.cell, List.getElem?_cons_zero, List.getElem?_cons_succ, ldI_mk]
  refine ⟨trivial, ?_⟩
  refine fring m1 hA.ring.rg (fun v hv => (hTl v hv).2) hTd hn fun H2 p2 c2 s2 r2 f2 => ?_
  have s02 := s1.and s2
  refine ⟨⟨by decide, by simp; omega⟩, ?_⟩
  have r1' := r1.keep s2 fun _ _ h => h
  have rd := r2.drop (l := 1) (by simp)
  have e1 : (b :: T).length - 1 = T.length := by simp
  rw [e1] at rd ⊢
  have rd' : Row H2 (slp p2 1 c2 1) T.length (c2 - 1) (lsF T) := rd.congr fun i _ => by unfold lsF; simp
  refine r1'.appR (α := Int) rd' rfl (by simp at hAlen; omega) (by decide) fun ap ac H3 r3 s3 f3 => ?_
  rw [lsF_apps] at r3
  have elen : C.length + T.length = (C ++ T).length := by simp
  rw [elen] at r3 ⊢
  have s03 : Step (fun _ => False) H H3 := s02.own s3 f1
  have fa : ∀ y, fpS ap y → H y = none := fun y hy => (f3 y hy).elim (f1 y) (s02.mono y)
  refine nwk fun bb H4 hbb eb4 s4 => ?_
  have s04 := s03.and s4
  have fbb : H bb = none := s03.mono _ hbb
  have r4 := r3.keep s4 fun _ _ h => h
  have m4 := hM.keep s04 (fun h => h) fun h => h
  have rB4 : Row H4 (some ⟨bb, 0, none⟩) 64 64 (fun _ => (0 : Int)) := ⟨Nat.le_refl _, by decide, .inr ⟨bb, 0, _, rfl, eb4, ⟨by show 0 + 64 * 1 ≤ _; simp, rfl⟩, fun i hi j hj => by
    have hw : El.w Int = 1 := rfl
    have : j = 0 := by omega
    subst this
    rw [hw, Nat.zero_add, Nat.mul_one, Nat.add_zero, List.getElem?_replicate, if_pos hi]; rfl⟩⟩
  have dbb : bb ≠ eb ∧ bb ≠ lb := ⟨fun e => live.1 (e ▸ fbb), fun e => live.2 (e ▸ fbb)⟩
  have dap : ∀ y, fpS ap y → y ≠ eb ∧ y ≠ lb ∧ y ≠ bb := fun y hy => ⟨fun e => live.1 (e ▸ fa y hy), fun e => live.2 (e ▸ fa y hy), fun e => r3.live hy (e ▸ hbb)⟩
  have hpop := hA.fw.pop (r := b) (by simp)
  have hS' : ∀ v, (S v ∧ v ≠ b) → v < n := fun v hv => hS v hv.1
  obtain ⟨A, hAe⟩ : ∃ A, C ++ T = A := ⟨_, rfl⟩
  rw [hAe] at r4 hAd hAn hAlen ⊢
  have hFw0 : FwF key f L (fun v => S v ∧ v ≠ b) (fun v => v ∈ A.drop 0 ∨ InB (fun _ => 0) v) none := hpop.cgR fun v => by
    rw [List.drop_zero, ← hAe, hC]
    constructor
    · rintro (h | ⟨d, _, h0⟩)
      · rcases List.mem_append.1 h with h | h
        · exact .inr h
        · exact .inl ⟨by simp [h], fun e => hTd1.1 (e ▸ h)⟩
      · have h0 : (0 : Int) = (v : Int) + 1 := h0
        omega
    · rintro (⟨h1, h2⟩ | h)
      · rcases List.mem_cons.1 h1 with h | h
        · exact (h2 h).elim
        · exact .inl (List.mem_append_right _ h)
      · exact .inl (List.mem_append_left _ h)
  -- the trees, one by one
  refine heaps_fibonacci_pop.l1_rule (fun f0 b5 tp tn tc t32 t33 H' => f0 = some ⟨eb, 0, none⟩ ∧ b5 = bb ∧ tp = ap ∧ tn = A.length ∧ tc = ac ∧ t32 = (A.length : Int) ∧ ∃ (i : Nat) (f : Fl) (L : Nat → List Nat) (B : Nat → Int), t33 = i ∧ i ≤ A.length ∧ FibM H' eb q n (b : Int) lb lo lc f ∧ Row H' (some ⟨bb, 0, none⟩) 64 64 B ∧ Row H' ap A.length ac (lsF A) ∧ Step (fun y => y = eb ∨ y = lb) H H' ∧
      FwF key f L (fun v => S v ∧ v ≠ b) (fun v => v ∈ A.drop i ∨ InB B v) none ∧ FiB f (fun v => S v ∧ v ≠ b) B ∧ (∀ v ∈ A.drop i, ¬ InB B v))
    (fun f0 b5 tp tn tc t32 t33 H' => A.length - t33.toNat) ?_ ⟨rfl, rfl, rfl, rfl, rfl, rfl, 0, f, L, fun _ => 0, rfl, Nat.zero_le _, m4, rB4, r4, s04.weak fun _ h => h.elim, hFw0, fun d _ => .inl rfl, fun v _ ⟨d, _, h⟩ => by have h : (0 : Int) = (v : Int) + 1 := h; omega⟩
  clear hFw0 m4 rB4 r4 s4 eb4 hpop
  rintro f0 b5 tp tn tc t32 t33 H5 ⟨rfl, rfl, rfl, rfl, rfl, rfl, i, f, L, B, rfl, hi, hM, rB, rA, s5, hFw, hFB, hdis⟩ X hX
  refine heaps_fibonacci_pop.b1_eq ?_
  unfold heaps_fibonacci_pop.b1_t
  refine bc (fun hlt => ?_) fun hge => ?_
  · have hiA : i < A.length := by omega
    obtain ⟨h, hh⟩ : ∃ h, A[i] = h := ⟨_, rfl⟩
    have hdrop : A.drop i = h :: A.drop (i + 1) := by rw [List.drop_eq_getElem_cons hiA, hh]
    have hhA : h ∈ A := by rw [← hh]; exact List.getElem_mem hiA
    have hhn := hAn h hhA
    have hlf : lsF A i = (h : Int) := lsF_at hdrop
    have hhR : h ∈ A.drop i := by rw [hdrop]; simp
    have hdd : (h :: A.drop (i + 1)).Nodup := by rw [← hdrop]; exact hAd.sublist (List.drop_sublist _ _)
    have hhd := (List.nodup_cons.1 hdd).1
    refine rA.ixI (by omega) (by omega) ?_
    simp only [Int.toNat_natCast, nn_mk, get_at hM.cell, List.getElem?_cons_zero, List.getElem?_cons_succ, ldS_mk, ldI_mk, Nat.zero_add, ix_mk]
    rw [hlf]
    simp only [Int.toNat_natCast]
    refine ⟨⟨by omega, by omega⟩, ?_⟩
    refine hM.s2 hhn fun H6 m6 s6 => ?_
    refine ⟨⟨by omega, by omega⟩, ?_⟩
    refine m6.s3 hhn fun H7 m7 s7 => ?_
    refine ⟨⟨by omega, by omega⟩, ?_⟩
    refine m7.s0 hhn fun H8 m8 s8 => ?_
    refine ⟨⟨by omega, by omega⟩, ?_⟩
    refine m8.s5 hhn fun H9 m9 s9 => ?_
    have s59 : Step (· = lb) H5 H9 := ((s6.trans s7 fun _ h => .inl h).trans s8 fun _ h => .inl h).trans s9 fun _ h => .inl h
    have rB9 := rB.keep s59 fun y hy h => by rw [fpS_mk] at hy; exact dbb.2 (hy.symm.trans h)
    have rA9 := rA.keep s59 fun y hy h => (dap y hy).2.1 h
    have s09 := s5.trans s59 fun _ h => .inl (.inr h)
    have hnB : ¬ InB B h := hdis h hhR
    have hsg : ∀ v, v ≠ h → Sgl f v → Sgl ⟨upf f.par h (-1), f.ch, upf f.lf h (h : Int), upf f.rt h (h : Int), f.deg, upf f.mrk h false⟩ v := fun v hv ⟨q1, q2, q3, q4⟩ => ⟨by show upf f.par h (-1) v = _; rw [upf_ne hv]; exact q1, by show upf f.mrk h false v = _; rw [upf_ne hv]; exact q2, by show upf f.rt h (h : Int) v = _; rw [upf_ne hv]; exact q3, by show upf f.lf h (h : Int) v = _; rw [upf_ne hv]; exact q4⟩
    have hFw9 : FwF key ⟨upf f.par h (-1), f.ch, upf f.lf h (h : Int), upf f.rt h (h : Int), f.deg, upf f.mrk h false⟩ L (fun v => S v ∧ v ≠ b) (fun v => v ∈ A.drop (i + 1) ∨ v = h ∨ InB B v) none := by
      have h1 : FwF key f L (fun v => S v ∧ v ≠ b) (fun v => v ∈ A.drop (i + 1) ∨ v = h ∨ InB B v) none := hFw.cgR fun v => by rw [hdrop, List.mem_cons]; exact ⟨fun h => by rcases h with h | h | h <;> simp [h], fun h => by rcases h with (h | h) | h <;> simp [h]⟩
      exact h1.off fun v _ hv => by
        have hvh : v ≠ h := fun e => hv (.inr (.inl e))
        exact ⟨upf_ne hvh, upf_ne hvh, upf_ne hvh, upf_ne hvh⟩
    have hFB9 : FiB ⟨upf f.par h (-1), f.ch, upf f.lf h (h : Int), upf f.rt h (h : Int), f.deg, upf f.mrk h false⟩ (fun v => S v ∧ v ≠ b) B := fun d hd => by
      rcases hFB d hd with h0 | ⟨v, q1, q2, q3, q4⟩
      · exact .inl h0
      · exact .inr ⟨v, q1, q2, q3, hsg v (fun e => hnB ⟨d, hd, e ▸ q1⟩) q4⟩
    have J0 : PopJ eb q n lb lo lc H H9 (b : Int) key (fun v => S v ∧ v ≠ b) tp tc A i b5 (some ⟨eb, 0, none⟩) b5 (h : Int) tp A.length tc (A.length : Int) (i : Int) (cnt (fun d => decide (B d ≠ 0)) 64) :=
      ⟨rfl, rfl, rfl, rfl, rfl, rfl, rfl, h, _, L, B, rfl, m9, rB9, rA9, s09, hFw9, hFB9, fun v hv => ⟨hdis v (by rw [hdrop]; simp [hv]), fun e => hhd (e ▸ hv)⟩, hnB, ⟨upf_same, upf_same, upf_same, upf_same⟩, rfl⟩
    refine heaps_fibonacci_pop.l2_rule (fun f0 b5' h5 tp' tn tc' t32 t33 H' => ∃ k, PopJ eb q n lb lo lc H H' (b : Int) key (fun v => S v ∧ v ≠ b) tp tc A i b5 f0 b5' h5 tp' tn tc' t32 t33 k) (fun f0 b5' h5 tp' tn tc' t32 t33 H' => lm (PopJ eb q n lb lo lc H H' (b : Int) key (fun v => S v ∧ v ≠ b) tp tc A i b5 f0 b5' h5 tp' tn tc' t32 t33)) ?_ ⟨_, J0⟩
    clear J0 hFB9 hFw9 hsg hnB s09 rA9 rB9 s59 m9 m8 m7 m6 s6 s7 s8 s9 hFB hFw hdis hM rB rA s5 hlf hhR hdd hhd hhA hhn hh hdrop
    rintro f0 b5' h5 tp' tn tc' t32 t33 HA ⟨k0, hk0⟩ Y hY
    have hlm := (lm_of hk0).1
    clear hk0
    generalize hkk : lm (PopJ eb q n lb lo lc H HA (b : Int) key (fun v => S v ∧ v ≠ b) tp tc A i b5 f0 b5' h5 tp' tn tc' t32 t33) = kq at hlm hY
    obtain ⟨rfl, rfl, rfl, rfl, rfl, rfl, rfl, h, f, L, B, rfl, hM, rB, rA, sA, hFw, hFB, hdis, hnB, hsgl, hkq⟩ := hlm
    have hRh : h ∈ A.drop (i + 1) ∨ h = h ∨ InB B h := .inr (.inl rfl)
    have hSh := hFw.rs h hRh
    have hhn := hS' h hSh
    have hfew := hFw.few hS' hn hSh
    have hdeg : f.deg h = ((L h).length : Int) := hFw.dg h hSh
    obtain ⟨d, hd⟩ : ∃ d, (L h).length = d := ⟨_, rfl⟩
    rw [hd] at hfew hdeg
    refine heaps_fibonacci_pop.b2_eq ?_
    unfold heaps_fibonacci_pop.b2_t
    simp only [nn_mk, get_at hM.cell, List.getElem?_cons_zero, List.getElem?_cons_succ, ldS_mk, ldI_mk, Nat.zero_add]
    rw [ix_mk]
    refine ⟨⟨by omega, by omega⟩, ?_⟩
    simp only [Int.toNat_natCast]
    rw [hM.g4 hhn, hdeg]
    simp only [ldI_mk]
    refine rB.ixI (by omega) (by omega) ?_
    rcases hFB d (by omega) with hB0 | ⟨o, hBo, hSo, hdo, hso⟩
    · have hz : IntKind.wrap .i64 (B ((d : Int)).toNat - 1) = -1 := by rw [Int.toNat_natCast, hB0]; exact i64w (by omega) (by omega)
      refine bc (fun _ => ?_) fun h => (h (by rw [hz]; decide)).elim
      refine rB.stI (by omega) (by omega) _ fun HB rB' sB => ?_
      rw [i64w (by omega) (by omega)] at rB'
      simp only [Int.toNat_natCast] at rB'
      replace sB : Step (· = b5') HA HB := sB.weak fun y hy => by rw [fpS_mk] at hy; exact .inl hy
      refine heaps_fibonacci_pop.j1_eq ?_
      unfold heaps_fibonacci_pop.j1_t
      rw [i64w (by omega) (by omega)]
      have hInB : ∀ v, InB (upf B d ((h : Int) + 1)) v ↔ v = h ∨ InB B v := fun v => by
        constructor
        · rintro ⟨d', h1, h2⟩
          by_cases e : d' = d
          · subst e; rw [upf_same] at h2; left; omega
          · rw [upf_ne e] at h2; exact .inr ⟨d', h1, h2⟩
        · rintro (rfl | ⟨d', h1, h2⟩)
          · exact ⟨d, by omega, upf_same⟩
          · refine ⟨d', h1, ?_⟩
            rw [upf_ne (fun e => by rw [e, hB0] at h2; omega)]; exact h2
      refine hX _ _ _ _ _ _ _ _ ⟨rfl, rfl, rfl, rfl, rfl, rfl, i + 1, f, L, _, by omega, by omega, hM.keep sB (fun h => dbb.1 h.symm) fun h => dbb.2 h.symm, rB', rA.keep sB fun y hy h => (dap y hy).2.2 h, sA.trans sB fun y hy => .inr (hy ▸ fbb), hFw.cgR fun v => by rw [hInB], fun d' hd' => ?_, fun v hv hh => ?_⟩ (by omega)
      · by_cases e : d' = d
        · subst e; exact .inr ⟨h, upf_same, hSh, hdeg, hsgl⟩
        · rw [upf_ne e]; exact hFB d' hd'
      · rcases (hInB v).1 hh with q | q
        · exact (hdis v hv).2 q
        · exact (hdis v hv).1 q
    · have hon := hS' o hSo
      have hoB : InB B o := ⟨d, by omega, hBo⟩
      have hoh : o ≠ h := fun e => hnB (e ▸ hoB)
      have hz : IntKind.wrap .i64 (B ((d : Int)).toNat - 1) = (o : Int) := by rw [Int.toNat_natCast, hBo, i64w (by omega) (by omega)]; omega
      refine bc (fun h => by rw [hz] at h; omega) fun _ => ?_
      rw [hz]
      refine rB.stI (by omega) (by omega) _ fun HB rB' sB => ?_
      simp only [Int.toNat_natCast] at rB'
      replace sB : Step (· = b5') HA HB := sB.weak fun y hy => by rw [fpS_mk] at hy; exact .inl hy
      have mB := hM.keep sB (fun h => dbb.1 h.symm) fun h => dbb.2 h.symm
      have rAB := rA.keep sB fun y hy h => (dap y hy).2.2 h
      have s0B : Step (fun y => y = eb ∨ y = lb) H HB := sA.trans sB fun y hy => .inr (hy ▸ fbb)
      have hInB : ∀ v, InB (upf B d 0) v ↔ InB B v ∧ v ≠ o := fun v => by
        constructor
        · rintro ⟨d', h1, h2⟩
          have e : d' ≠ d := fun e => by subst e; rw [upf_same] at h2; omega
          rw [upf_ne e] at h2
          refine ⟨⟨d', h1, h2⟩, fun ev => ?_⟩
          subst ev
          have := (hFB.uniq h1 h2).1
          omega
        · rintro ⟨⟨d', h1, h2⟩, hv⟩
          refine ⟨d', h1, ?_⟩
          rw [upf_ne (fun e => by subst e; omega)]; exact h2
      have hRo : o ∈ A.drop (i + 1) ∨ o = h ∨ InB B o := .inr (.inr hoB)
      have hdo' : f.deg h = f.deg o := by rw [hdeg, hdo]
      refine funder mB (hkf s0B) hhn hon (fun e => hoh e.symm) (fun x hx => by
        rcases hx with rfl | rfl
        · rw [hdeg]; omega
        · rw [hdo]; omega) fun x y hxy hl => ?_
      have hx : (x ∈ A.drop (i + 1) ∨ x = h ∨ InB B x) ∧ S x ∧ x ≠ b ∧ x < n ∧ Sgl f x ∧ f.deg x = (d : Int) := by
        rcases hxy with ⟨rfl, _⟩ | ⟨rfl, _⟩
        · exact ⟨hRh, hSh.1, hSh.2, hhn, hsgl, hdeg⟩
        · exact ⟨hRo, hSo.1, hSo.2, hon, hso, hdo⟩
      have hy : (y ∈ A.drop (i + 1) ∨ y = h ∨ InB B y) ∧ S y ∧ y ≠ b ∧ y < n ∧ Sgl f y ∧ f.deg y = (d : Int) := by
        rcases hxy with ⟨_, rfl⟩ | ⟨_, rfl⟩
        · exact ⟨hRo, hSo.1, hSo.2, hon, hso, hdo⟩
        · exact ⟨hRh, hSh.1, hSh.2, hhn, hsgl, hdeg⟩
      have hxy' : x ≠ y := by
        rcases hxy with ⟨rfl, rfl⟩ | ⟨rfl, rfl⟩
        · exact fun e => hoh e.symm
        · exact hoh
      have cov : ∀ z, (z = h ∨ z = o) ↔ (z = x ∨ z = y) := fun z => by
        rcases hxy with ⟨rfl, rfl⟩ | ⟨rfl, rfl⟩
        · exact Iff.rfl
        · exact or_comm
      -- what holds behind the link
      have fin : ∀ (HC : Hp) (f' : Fl) (L' : Nat → List Nat), FibM HC eb q n (b : Int) lb lo lc f' → Step (· = lb) HB HC → FwF key f' L' (fun v => S v ∧ v ≠ b) (fun v => (v ∈ A.drop (i + 1) ∨ v = h ∨ InB B v) ∧ v ≠ y) none →
          (∀ v, (v ∈ A.drop (i + 1) ∨ v = h ∨ InB B v) → v ≠ y → Sgl f v → Sgl f' v) → (∀ v, v ≠ x → f'.deg v = f.deg v) → Y (heaps_fibonacci_pop.f2 (some ⟨eb, 0, none⟩) b5' (x : Int) tp' A.length tc' (A.length : Int) (i : Int)) HC := fun HC f' L' mC sC hF' hsg' hdg' => by
        have rBC := rB'.keep sC fun z hz h => by rw [fpS_mk] at hz; exact dbb.2 (hz.symm.trans h)
        have rAC := rAB.keep sC fun z hz h => (dap z hz).2.1 h
        have hJ : PopJ eb q n lb lo lc H HC (b : Int) key (fun v => S v ∧ v ≠ b) tp' tc' A i b5' (some ⟨eb, 0, none⟩) b5' (x : Int) tp' A.length tc' (A.length : Int) (i : Int) (cnt (fun z => decide (upf B d 0 z ≠ 0)) 64) := by
          refine ⟨rfl, rfl, rfl, rfl, rfl, rfl, rfl, x, f', L', _, rfl, mC, rBC, rAC, s0B.trans sC fun _ h => .inl (.inr h), hF'.cgR fun v => ?_, fun d' hd' => ?_, fun v hv => ⟨fun hh => (hdis v hv).1 ((hInB v).1 hh).1, fun e => ?_⟩, fun hh => ?_, hsg' x hx.1 hxy' hx.2.2.2.2.1, rfl⟩
          · rw [hInB]
            constructor
            · rintro (h1 | h1 | ⟨h1, h2⟩)
              · refine ⟨.inl h1, fun e => ?_⟩
                subst e
                rcases (cov v).2 (.inr rfl) with e | e
                · exact (hdis v h1).2 e
                · exact (hdis v h1).1 (e ▸ hoB)
              · subst h1; exact ⟨hx.1, hxy'⟩
              · refine ⟨.inr (.inr h1), fun e => ?_⟩
                subst e
                rcases (cov v).2 (.inr rfl) with e | e
                · exact hnB (e ▸ h1)
                · exact h2 e
            · rintro ⟨h1 | h1 | h1, h2⟩
              · exact .inl h1
              · exact .inr (.inl (((cov v).1 (.inl h1)).resolve_right h2))
              · by_cases e : v = o
                · exact .inr (.inl (((cov v).1 (.inr e)).resolve_right h2))
                · exact .inr (.inr ⟨h1, e⟩)
          · by_cases e : d' = d
            · subst e; exact .inl upf_same
            · rw [upf_ne e]
              rcases hFB d' hd' with h0 | ⟨v, q1, q2, q3, q4⟩
              · exact .inl h0
              · have hvx : v ≠ x := fun e' => by rw [e', hx.2.2.2.2.2] at q3; omega
                have hvy : v ≠ y := fun e' => by rw [e', hy.2.2.2.2.2] at q3; omega
                exact .inr ⟨v, q1, q2, by rw [hdg' v hvx]; exact q3, hsg' v (.inr (.inr ⟨d', hd', q1⟩)) hvy q4⟩
          · subst e
            rcases (cov v).2 (.inl rfl) with e | e
            · exact (hdis v hv).2 e
            · exact (hdis v hv).1 (e ▸ hoB)
          · obtain ⟨h1, h2⟩ := (hInB x).1 hh
            rcases (cov x).2 (.inl rfl) with e | e
            · exact hnB (e ▸ h1)
            · exact h2 e
        refine hY _ _ _ _ _ _ _ _ _ ⟨_, hJ⟩ ?_
        have h7 := (lm_of hJ).2
        have h8 : cnt (fun z => decide (B z ≠ 0)) 64 = cnt (fun z => decide (upf B d 0 z ≠ 0)) 64 + 1 := cnt_less (b := d) (by omega) (by simp [hBo]; omega) (by simp [upf_same]) fun z _ hz => by simp [upf_ne hz]
        exact Nat.lt_of_le_of_lt h7 (by omega)
      have hLx : ∀ c ∈ L x, ¬ (c ∈ A.drop (i + 1) ∨ c = h ∨ InB B c) ∧ c < n ∧ c ≠ y := fun c hc => by
        obtain ⟨q1, q2, q3, q4⟩ := hFw.ls x ⟨hx.2.1, hx.2.2.1⟩ c hc
        exact ⟨q3, hS' c q1, fun e => q3 (e ▸ hy.1)⟩
      refine ⟨fun hc HC mC sC => ?_, fun c hc => ?_⟩
      · have hL0 : L x = [] := by
          rcases hFw.rg x ⟨hx.2.1, hx.2.2.1⟩ with h | ⟨a, t, _, h, _⟩
          · exact h.1
          · omega
        have hlink := hFw.link (par' := upf f.par y (x : Int)) (ch' := upf f.ch x (y : Int)) (lf' := f.lf) (rt' := f.rt) (deg' := upf f.deg x (f.deg x + 1)) (l' := [y]) hx.1 hy.1 hxy' hl (by rw [hx.2.2.2.2.2, hy.2.2.2.2.2]) hy.2.2.2.2.1.2.1 (by rw [hL0]) upf_same (fun v hv => upf_ne hv) (fun v hv => upf_ne hv) upf_same (fun v hv => upf_ne hv) (.inr ⟨y, [], rfl, upf_same, hy.2.2.2.2.1.2.2.1, hy.2.2.2.2.1.2.2.2⟩) fun v _ _ _ => ⟨rfl, rfl⟩
        refine fin HC _ _ mC sC hlink (fun v _ hv hs => ⟨?_, hs.2.1, hs.2.2.1, hs.2.2.2⟩) fun v hv => upf_ne hv
        show upf f.par y (x : Int) v = -1
        rw [upf_ne hv]; exact hs.1
      · obtain ⟨t, hLc, hcn⟩ : ∃ t, L x = c :: t ∧ Cn' f.rt f.lf c t c := by
          rcases hFw.rg x ⟨hx.2.1, hx.2.2.1⟩ with h | ⟨a, t, h1, h2, h3⟩
          · omega
          · have : a = c := by omega
            subst this
            exact ⟨t, h1, h3⟩
        obtain ⟨r, hr, hrt⟩ := hcn.right
        have hrm : r ∈ L x := by
          rw [hLc, ← hrt]
          cases t with
          | nil => simp
          | cons z t => simp
        have hcm : c ∈ L x := by rw [hLc]; simp
        refine ⟨r, (hLx c hcm).2.1, hr, (hLx r hrm).2.1, fun HC mC sC => ?_⟩
        have hnd : (c :: t).Nodup := by rw [← hLc]; exact hFw.nd x ⟨hx.2.1, hx.2.2.1⟩
        have hyL : y ∉ c :: t := fun hm => (hLx y (by rw [hLc]; exact hm)).2.2 rfl
        have hput := hcn.put hnd hyL hr
        have off : ∀ v, v ≠ y → v ∉ L x → (f.und x y (some (c, r))).lf v = f.lf v ∧ (f.und x y (some (c, r))).rt v = f.rt v := fun v hv hvL => by
          have e1 : v ≠ r := fun e => hvL (e ▸ hrm)
          have e2 : v ≠ c := fun e => hvL (e ▸ hcm)
          refine ⟨?_, ?_⟩
          · show upf (upf f.lf y (c : Int)) r (y : Int) v = _
            rw [upf_ne e1, upf_ne hv]
          · show upf (upf f.rt y (r : Int)) c (y : Int) v = _
            rw [upf_ne e2, upf_ne hv]
        have hlink := hFw.link (par' := upf f.par y (x : Int)) (ch' := f.ch) (lf' := (f.und x y (some (c, r))).lf) (rt' := (f.und x y (some (c, r))).rt) (deg' := upf f.deg x (f.deg x + 1)) (l' := c :: y :: t) hx.1 hy.1 hxy' hl (by rw [hx.2.2.2.2.2, hy.2.2.2.2.2]) hy.2.2.2.2.1.2.1 (by rw [hLc]; exact List.Perm.swap _ _ _) upf_same (fun v hv => upf_ne hv) (fun v hv => rfl) upf_same (fun v hv => upf_ne hv) (.inr ⟨c, y :: t, rfl, hc, hput⟩) fun v hv hvR hvL => off v (fun e => hvR (e ▸ hy.1)) hvL
        refine fin HC _ _ mC sC hlink (fun v hvR hv hs => ?_) fun v hv => upf_ne hv
        obtain ⟨q1, q2⟩ := off v hv fun hm => (hLx v hm).1 hvR
        refine ⟨?_, hs.2.1, by rw [q2]; exact hs.2.2.1, by rw [q1]; exact hs.2.2.2⟩
        show upf f.par y (x : Int) v = -1
        rw [upf_ne hv]; exact hs.1
  · have : i = A.length := by omega
    subst this
    clear hX
    rw [List.drop_length] at hFw hdis
    refine heaps_fibonacci_pop.j2_eq ?_
    unfold heaps_fibonacci_pop.j2_t
    simp only [nn_mk, Nat.zero_add]
    refine hM.setB fun H6 m6 s6 => ?_
    have s06 := s5.trans s6 fun _ h => .inl (.inl h)
    have rB6 := rB.keep s6 fun y hy h => by rw [fpS_mk] at hy; exact dbb.1 (hy.symm.trans h)
    refine lds_ints (g := B) (fun j hj => by
      have := rB6.getF (α := Int) (i := j) (j := 0) hj (by decide)
      have hw : El.w Int = 1 := rfl
      rw [hw] at this
      rw [show 0 + j = 0 + j * 1 + 0 by omega]
      exact this) ?_
    refine heaps_fibonacci_pop.l3_rule (fun f0 t95 t96 H' => f0 = some ⟨eb, 0, none⟩ ∧ t95 = ((List.range 64).map fun j => Value.int .i64 (B j)) ∧ ∃ (d : Nat) (best : Int) (f' : Fl) (R : List Nat), t96 = d ∧ d ≤ 64 ∧ FibM H' eb q n best lb lo lc f' ∧ Step (fun y => y = eb ∨ y = lb) H H' ∧ FwF key f' L (fun v => S v ∧ v ≠ b) (fun v => InB B v) none ∧ RtR key f' best R ∧ (∀ r ∈ R, f'.par r = -1 ∧ f'.mrk r = false) ∧ (∀ v, v ∈ R ↔ ∃ d', d' < d ∧ B d' = (v : Int) + 1) ∧ f'.deg = f.deg ∧ ∀ v, InB B v → v ∉ R → Sgl f' v)
      (fun f0 t95 t96 H' => 64 - t96.toNat) ?_ ⟨rfl, rfl, 0, -1, f, [], rfl, by omega, m6, s06, hFw.cgR fun v => ⟨fun h => .inr h, fun h => h.elim (fun h => by cases h) id⟩, ⟨.inl ⟨rfl, rfl⟩, List.nodup_nil, fun r hr => by cases hr⟩, fun r hr => (by cases hr), fun v => ⟨fun h => (by cases h), fun ⟨d', h, _⟩ => by omega⟩, rfl, fun v ⟨d, h1, h2⟩ _ => (hFB.uniq h1 h2).2.2⟩
    rintro f0 t95 t96 H7 ⟨rfl, rfl, d, best, f', R, rfl, hd, m7, s7, hF7, hR7, hro7, hmem, hdeg7, hsg7⟩ X hX
    refine heaps_fibonacci_pop.b3_eq ?_
    unfold heaps_fibonacci_pop.b3_t
    refine bc (fun hlt => ?_) fun hge => ?_
    · refine ⟨⟨by omega, by omega⟩, ?_⟩
      have hget : (((List.range 64).map fun j => Value.int .i64 (B j)))[((d : Int)).toNat]? = some (Value.int .i64 (B d)) := by
        rw [Int.toNat_natCast, List.getElem?_map, List.getElem?_range (by omega)]; rfl
      rw [hget]
      simp only [ldI_mk]
      have next : ∀ (H' : Hp) (best : Int) (f' : Fl) (R : List Nat), FibM H' eb q n best lb lo lc f' → Step (fun y => y = eb ∨ y = lb) H H' → FwF key f' L (fun v => S v ∧ v ≠ b) (fun v => InB B v) none → RtR key f' best R → (∀ r ∈ R, f'.par r = -1 ∧ f'.mrk r = false) → (∀ v, v ∈ R ↔ ∃ d', d' < d + 1 ∧ B d' = (v : Int) + 1) → f'.deg = f.deg → (∀ v, InB B v → v ∉ R → Sgl f' v) →
          heaps_fibonacci_pop.j3 (some ⟨eb, 0, none⟩) ((List.range 64).map fun j => Value.int .i64 (B j)) (d : Int) X E H' K := fun H' best f' R q1 q2 q3 q4 q5 q6 q7 q8 => by
        refine heaps_fibonacci_pop.j3_eq ?_
        unfold heaps_fibonacci_pop.j3_t
        rw [i64w (by omega) (by omega)]
        exact hX _ _ _ _ ⟨rfl, rfl, d + 1, best, f', R, by omega, by omega, q1, q2, q3, q4, q5, q6, q7, q8⟩ (by omega)
      rcases hFB d (by omega) with hB0 | ⟨v, hBv, hSv, hdv, _⟩
      · refine bc (fun h => by omega) fun _ => ?_
        refine next H7 best f' R m7 s7 hF7 hR7 hro7 (fun v => ?_) hdeg7 hsg7
        rw [hmem]
        constructor
        · rintro ⟨d', h1, h2⟩; exact ⟨d', by omega, h2⟩
        · rintro ⟨d', h1, h2⟩
          refine ⟨d', ?_, h2⟩
          by_cases e : d' = d
          · subst e; omega
          · omega
      · refine bc (fun _ => ?_) fun h => by omega
        have hvn := hS' v hSv
        have hvR : v ∉ R := fun hm => by
          obtain ⟨d', h1, h2⟩ := (hmem v).1 hm
          have := (hFB.uniq (by omega) h2).1
          omega
        have hvB : InB B v := ⟨d, by omega, hBv⟩
        have hRB : ∀ r ∈ R, InB B r := fun r hr => by
          obtain ⟨d', h1, h2⟩ := (hmem r).1 hr
          exact ⟨d', by omega, h2⟩
        have hs := hsg7 v hvB hvR
        rw [hBv, i64w (by omega) (by omega), show (v : Int) + 1 - 1 = (v : Int) by omega]
        refine frootR m7 (hkf s7) dq dk hvn hR7 (fun r hr => hS' r (hF7.rs r (hRB r hr))) hvR (fun _ => ⟨hs.2.2.1, hs.2.2.2⟩) fun H8 best' f8 R' m8 hR8 hmem8 _ h1 h2 h3 h4 h5 s8 => ?_
        refine next H8 best' f8 R' m8 (s7.trans s8 fun _ h => .inl h) ?_ hR8 (fun r hr => ?_) (fun w => ?_) (h4.trans hdeg7) fun w hw hwR => ?_
        · have hoff := hF7.off (par' := f8.par) (lf' := f8.lf) (rt' := f8.rt) (mk' := f8.mrk) fun w hw hwB => by
            have hwv : w ≠ v := fun e => hwB (e ▸ hvB)
            obtain ⟨q1, q2⟩ := h1 w hwv
            obtain ⟨q3, q4⟩ := h5 w (fun hm => hwB (hRB w hm)) hwv
            exact ⟨q1, q3, q4, q2⟩
          unfold FwF
          rw [h3, h4]
          exact hoff
        · by_cases e : r = v
          · subst e; exact h2
          · obtain ⟨q1, q2⟩ := h1 r e
            rw [q1, q2]
            exact hro7 r (((hmem8 r).1 hr).resolve_right e)
        · rw [hmem8, hmem]
          constructor
          · rintro (⟨d', h1, h2⟩ | rfl)
            · exact ⟨d', by omega, h2⟩
            · exact ⟨d, by omega, hBv⟩
          · rintro ⟨d', h1, h2⟩
            by_cases e : d' = d
            · subst e; right; omega
            · exact .inl ⟨d', by omega, h2⟩
        · have hwv : w ≠ v := fun e => hwR ((hmem8 w).2 (.inr e))
          have hwR0 : w ∉ R := fun hm => hwR ((hmem8 w).2 (.inl hm))
          obtain ⟨p1, p2, p3, p4⟩ := hsg7 w hw hwR0
          obtain ⟨q1, q2⟩ := h1 w hwv
          obtain ⟨q3, q4⟩ := h5 w hwR0 hwv
          exact ⟨by rw [q1]; exact p1, by rw [q2]; exact p2, by rw [q4]; exact p3, by rw [q3]; exact p4⟩
    · have : d = 64 := by omega
      subst this
      exact kk H7 best f' L R m7 s7 ⟨hF7.cgR fun v => hmem v, hR7, hro7⟩
end
end Go.Mz

/-
  Layer 5: the Fibonacci heap does what a kind of heap must do; New of that kind.
-/
namespace Go.Mz
section
variable {E : Value → Hp → Prop}

structure FibI (H : Hp) (eb q n : Nat) (key : Nat → Int) (S : Nat → Bool) (FP : Nat → Prop) (best : Int) (lb lo lc : Nat) (f : Fl) (L : Nat → List Nat) (R : List Nat) : Prop where
  mem : FibM H eb q n best lb lo lc f
  fa : FibA key f best L (fun v => S v = true) R none
  fp : ∀ y, FP y ↔ y = eb ∨ y = lb

theorem FibA.cgk {key key' : Nat → Int} {f : Fl} {best : Int} {L : Nat → List Nat} {S : Nat → Prop} {R : List Nat} {ex : Option Nat} (h : FibA key f best L S R ex) (hk : ∀ v, S v → key v = key' v) : FibA key' f best L S R ex :=
  ⟨h.fw.cgk hk, ⟨h.ring.rg, h.ring.rn, fun r hr b hb => by
    have hbR : b ∈ R := by
      rcases h.ring.rg with ⟨rfl, _⟩ | ⟨a, t, rfl, hba, _⟩
      · cases hr
      · have : a = b := by omega
        simp [this]
    have h1 := h.ring.ls r hr b hb
    unfold lk at *
    rw [← hk r (h.fw.rs r hr), ← hk b (h.fw.rs b hbR)]
    exact h1⟩, h.ro⟩

theorem FibA.cgS {key : Nat → Int} {f : Fl} {best : Int} {L : Nat → List Nat} {S S' : Nat → Prop} {R : List Nat} {ex : Option Nat} (h : FibA key f best L S R ex) (hS : ∀ v, S' v ↔ S v) : FibA key f best L S' R ex := by
  have : S' = S := funext fun v => propext (hS v)
  rw [this]; exact h

def fibEng (E : Value → Hp → Prop) : Engine E where
  t := 95
  rad := False
  Inv := fun H eb q n key last S FP => ∃ best lb lo lc f L R, FibI H eb q n key S FP best lb lo lc f L R
  keep := fun ⟨best, lb, lo, lc, f, L, R, h⟩ s hF => ⟨best, lb, lo, lc, f, L, R, h.mem.keep s (hF _ ((h.fp _).2 (.inl rfl))) (hF _ ((h.fp _).2 (.inr rfl))), h.fa, h.fp⟩
  live := fun ⟨best, lb, lo, lc, f, L, R, h⟩ y hy => by
    rcases (h.fp y).1 hy with rfl | rfl
    · exact h.mem.live.1
    · exact h.mem.live.2
  cg := fun ⟨best, lb, lo, lc, f, L, R, h⟩ hk => ⟨best, lb, lo, lc, f, L, R, h.mem, h.fa.cgk hk, h.fp⟩
  push := fun {H eb q n v key last S FP kp K} ⟨best, lb, lo, lc, f, L, R, h⟩ hk hq hkp hn hS hv hSv _ kk => by
    have d : ∀ y, ¬ FP y → y ≠ eb ∧ y ≠ lb := fun y hy => ⟨fun e => hy ((h.fp y).2 (.inl e)), fun e => hy ((h.fp y).2 (.inr e))⟩
    refine ⟨92, by kernel_rfl, fpush h.mem hk (d _ hq) (fun y hy => d y (hkp y hy)) hS h.fa (by rw [hSv]; exact fun e => by cases e) hv fun H' best' f' L' R' hM s hF => ?_⟩
    refine kk H' (fun y => y = eb ∨ y = lb) ⟨best', lb, lo, lc, f', L', R', hM, hF.cgS fun w => ?_, fun y => Iff.rfl⟩ (s.weak fun y hy => .inl ((h.fp y).2 hy)) fun y hy => .inl ((h.fp y).2 hy)
    by_cases e : w = v
    · subst e; simp [upf_same]
    · rw [upf_ne e]; simp [e]
  lower := fun {H eb q n v key x last S FP kp K} ⟨best, lb, lo, lc, f, L, R, h⟩ hk hq hkp hn hS hSv hx _ kk => by
    have d : ∀ y, ¬ FP y → y ≠ eb ∧ y ≠ lb := fun y hy => ⟨fun e => hy ((h.fp y).2 (.inl e)), fun e => hy ((h.fp y).2 (.inr e))⟩
    refine ⟨90, by kernel_rfl, flower h.mem hk (d _ hq) (fun y hy => d y (hkp y hy)) hn hS h.fa hSv (by omega) fun H' best' f' L' R' hM s hF => ?_⟩
    exact kk H' (fun y => y = eb ∨ y = lb) ⟨best', lb, lo, lc, f', L', R', hM, hF, fun y => Iff.rfl⟩ (s.weak fun y hy => .inl ((h.fp y).2 hy)) fun y hy => .inl ((h.fp y).2 hy)
  top := fun {H eb q n key last S FP kp K} ⟨best, lb, lo, lc, f, L, R, h⟩ hk hn hS ⟨v, hv⟩ kk => by
    obtain ⟨b, t, hR, hb, Sb, hl⟩ := h.fa.bst hS hv
    have hc : heaps_fibonacci_top.call (some ⟨eb, 0, none⟩) E H fun u H' => K u H' := by
      refine heaps_fibonacci_top.of (heaps_fibonacci_top.run_eq ?_)
      unfold heaps_fibonacci_top.run_t
      simp only [nn_mk, get_at h.mem.cell, List.getElem?_cons_zero, List.getElem?_cons_succ, ldI_mk, Nat.zero_add]
      rw [hb]
      exact kk b H .refl Sb hl
    exact ⟨93, by kernel_rfl, hc⟩
  pop := fun {H eb q n w key last S FP kp K} ⟨best, lb, lo, lc, f, L, R, h⟩ hk hq hkp hn hS hw hleast kk => by
    have d : ∀ y, ¬ FP y → y ≠ eb ∧ y ≠ lb := fun y hy => ⟨fun e => hy ((h.fp y).2 (.inl e)), fun e => hy ((h.fp y).2 (.inr e))⟩
    obtain ⟨b, t, hR, hb, Sb, hl⟩ := h.fa.bst hS hw
    have e0 : b = w := least_uniq Sb hw hl hleast
    subst e0 hR hb
    refine ⟨91, by kernel_rfl, fpop h.mem hk (d _ hq) (fun y hy => d y (hkp y hy)) hn hS h.fa fun H' best' f' L' R' hM s hF => ?_⟩
    refine kk H' (fun y => y = eb ∨ y = lb) ⟨best', lb, lo, lc, f', L', R', hM, hF.cgS fun u => ?_, fun y => Iff.rfl⟩ (s.weak fun y hy => .inl ((h.fp y).2 hy)) fun y hy => .inl ((h.fp y).2 hy)
    by_cases e : u = b
    · subst e; simp [upf_same]
    · rw [upf_ne e]; simp [e]

theorem qnew3 {n : Int} {H : Hp} {K : Option Addr → Int → Hp → Prop} (h0 : 0 ≤ n) (h1 : n ≤ 1024) (k : ∀ H' q FP, Qu (fibEng E) H' q n.toNat 3 (fun _ => 0) 0 (fun _ => false) FP → Step (fun _ => False) H H' → (∀ y, FP y → H y = none) → K (some ⟨q, 0, none⟩) 0 H') : heaps_New.call 3 n E H K := by
  refine heaps_New.of (heaps_New.run_eq ?_)
  unfold heaps_New.run_t
  refine bc (fun h => by omega) fun _ => ?_
  refine bc (fun h => by omega) fun _ => ?_
  refine bc (fun h => by omega) fun _ => ?_
  refine bc (fun h => by omega) fun _ => ?_
  refine Row.mkI h0 (by omega) fun kb H1 hkb rk s1 => ?_
  refine Row.mkB h0 (by omega) fun hb H2 hhb rh s2 => ?_
  refine ⟨trivial, ?_⟩
  refine nwk fun q H3 hq e3 s3 => ?_
  have hN : New0 H H3 n.toNat 3 q kb hb := ⟨e3, rk.keep (s2.and s3) fun _ _ h => h, rh.keep s3 fun _ _ h => h, (s1.and s2).mono _ hq, hkb, s1.mono _ hhb,
    ne_of_live hq ((rk.keep s2 fun _ _ h => h).live ⟨0, rfl⟩), ne_of_live hq (rh.live ⟨0, rfl⟩), ne_of_live hhb (rk.live ⟨0, rfl⟩), (s1.and s2).and s3⟩
  refine bc (fun h => absurd h (by decide)) fun _ => ?_
  refine bc (fun h => absurd h (by decide)) fun _ => ?_
  refine bc (fun _ => ?_) fun h => absurd rfl h
  refine Row.make ((0, 0, 0, 0, 0, false) : Fbl) rfl h0 (by omega) (by decide) fun pb H4 hpb rp s4 => ?_
  refine nwk fun eb H5 heb e5 s5 => ?_
  refine ⟨trivial, ?_⟩
  have rp5 := rp.keep s5 fun _ _ h => h
  have dp : eb ≠ pb := fun e => rp.live ⟨0, rfl⟩ (e ▸ heb)
  refine hN.fin (g := fibEng E) (FE := fun y => y = eb ∨ y = pb) (by omega) ⟨fun h => h.elim, fun h => by omega⟩ (s4.and s5) ⟨-1, pb, 0, n.toNat, ⟨fun _ => 0, fun _ => 0, fun _ => 0, fun _ => 0, fun _ => 0, fun _ => false⟩, fun _ => [], [], ⟨e5, rp5, dp⟩, ⟨⟨fun v hv => (by cases hv), fun v hv => (by cases hv), fun u hu => (by cases hu), fun v hv => (by cases hv), fun v hv => (by cases hv), fun v hv => (by cases hv), fun v hv => (by cases hv)⟩, ⟨.inl ⟨rfl, rfl⟩, List.nodup_nil, fun r hr => (by cases hr)⟩, fun r hr => (by cases hr)⟩, fun y => Iff.rfl⟩ (fun y hy => ?_) fun H' FP hQ s' hf => k H' q FP hQ s' hf
  rcases hy with rfl | rfl
  · exact s4.mono _ heb
  · exact hpb
end
end Go.Mz

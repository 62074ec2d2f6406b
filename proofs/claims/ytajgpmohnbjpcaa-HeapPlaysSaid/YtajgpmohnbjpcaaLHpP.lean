/-
  HeapPlays, walked: whatever the kind, the size and the script, it answers true and leaves what was there as it was.
-/
import Derived.Test.YtajgpmohnbjpcaaReB
import Derived.Test.YtajgpmohnbjpcaaLHpL
import Derived.Test.YtajgpmohnbjpcaaGLawP
set_option linter.unusedSimpArgs false
set_option linter.unusedVariables false
namespace Go.Mz

theorem cnt_list : ∀ {l : List Nat} {S : Nat → Bool} {n : Nat}, l.Nodup → (∀ v, v ∈ l ↔ S v = true) → (∀ v, S v = true → v < n) → cnt S n = l.length
  | [], S, n, _, hm, _ => by
    rw [cnt_none fun v _ => by
      cases hh : S v with
      | false => rfl
      | true => exact absurd ((hm v).2 hh) (by simp)]; rfl
  | v :: l, S, n, hnd, hm, hs => by
    have hv : S v = true := (hm v).1 (by simp)
    have hnd' := List.nodup_cons.1 hnd
    have h1 := cnt_less (p := S) (q := upf S v false) (hs v hv) hv upf_same fun i _ hne => (upf_ne hne).symm
    have h2 := cnt_list (l := l) (S := upf S v false) (n := n) hnd'.2 (fun u => by
      by_cases e : u = v
      · subst e; rw [upf_same]; exact ⟨fun h => absurd h hnd'.1, fun h => by cases h⟩
      · rw [upf_ne e, ← hm u]; simp [e]) (fun u hu => by
      by_cases e : u = v
      · subst e; rw [upf_same] at hu; cases hu
      · rw [upf_ne e] at hu; exact hs u hu)
    rw [h1, h2]; rfl

section
variable {E : Value → Hp → Prop}

/-- the queue and the document's hold the same -/
structure Rel (g : Engine E) (H0 H : Hp) (q n : Nat) (kind : Int) (key : Nat → Int) (last : Int) (S : Nat → Bool) (FP : Nat → Prop) (p : Option Addr) (c : Nat) (l : List Nat) : Prop where
  o : QO g H0 H q n kind key last S FP
  i : Itm H p c key l
  nd : l.Nodup
  mem : ∀ v, v ∈ l ↔ S v = true
  sep : ∀ y, fpS p y → ¬ FP y

variable {g : Engine E} {H0 H : Hp} {q n : Nat} {kind : Int} {key : Nat → Int} {last : Int} {S : Nat → Bool} {FP : Nat → Prop} {p : Option Addr} {c : Nat} {l : List Nat}

theorem Rel.new {H' : Hp} (h : Rel g H0 H q n kind key last S FP p c l) (s : Step (fun _ => False) H H') : Rel g H0 H' q n kind key last S FP p c l :=
  ⟨h.o.keep s (fun _ h => h.elim) fun _ _ h => h, h.i.keep s fun _ _ h => h, h.nd, h.mem, h.sep⟩

theorem Rel.put {H' : Hp} {b : Nat} (h : Rel g H0 H q n kind key last S FP p c l) (s : Step (· = b) H H') (h0 : H0 b = none) (h1 : ¬ FP b) (h2 : ¬ fpS p b) : Rel g H0 H' q n kind key last S FP p c l :=
  ⟨h.o.keep s (fun y hy => hy ▸ h0) fun y hy e => h1 (e ▸ hy), h.i.keep s fun y hy e => h2 (e ▸ hy), h.nd, h.mem, h.sep⟩

theorem Rel.len (h : Rel g H0 H q n kind key last S FP p c l) : cnt S n = l.length := cnt_list h.nd h.mem h.o.qu.sub
theorem Rel.small (h : Rel g H0 H q n kind key last S FP p c l) : l.length ≤ 1024 := by
  have h1 := h.len; have h2 := cnt_le S n; have h3 := h.o.qu.nle
  omega

/-- what stands in the way of neither -/
structure Away (H : Hp) (FP : Nat → Prop) (p : Option Addr) (b : Nat) : Prop where
  a : ¬ FP b
  b : ¬ fpS p b

theorem Rel.away (h : Rel g H0 H q n kind key last S FP p c l) {b : Nat} (hb : H b = none) : Away H FP p b := ⟨fun hh => h.o.qu.live b hh hb, fun hh => h.i.live hh hb⟩

/-- both have moved -/
theorem Rel.move {H1 H2 H' : Hp} {key' : Nat → Int} {last' : Int} {S' : Nat → Bool} {FP' : Nat → Prop} {p' : Option Addr} {c' : Nat} {l' : List Nat} (h : Rel g H0 H q n kind key last S FP p c l) (s1 : Step (fun _ => False) H H1) (i1 : Itm H1 p' c' key' l') (f1 : ∀ y, fpS p' y → H y = none) (s2 : Step (fun _ => False) H1 H2)
    (q2 : Qu g H' q n kind key' last' S' FP') (s : Step FP H2 H') (f2 : ∀ y, FP' y → FP y ∨ H2 y = none) (nd : l'.Nodup) (mem : ∀ v, v ∈ l' ↔ S' v = true) : Rel g H0 H' q n kind key' last' S' FP' p' c' l' := by
  have hs : ∀ y, fpS p' y → ¬ FP y := fun y hy hf => h.o.qu.live y hf (f1 y hy)
  have i2 := i1.keep s2 fun _ _ h => h
  exact ⟨(h.o.keep (s1.and s2) (fun _ h => h.elim) fun _ _ h => h).next q2 s f2, i2.keep s hs, nd, mem, fun y hy hf => (f2 y hf).elim (hs y hy) fun e => i2.live hy e⟩

theorem lstep {ok oh ox : Int} {K : Int → Int → Option Addr → Nat → Nat → Int → Bool → Hp → Prop} (hR : Rel g H0 H q n kind key last S FP p c l) (hx : ox ≤ 9223372036854775807)
    (k : ∀ H' key' last' S' FP' p' c' l', Rel g H0 H' q n kind key' last' S' FP' p' c' l' → Step (fun y => FP y ∨ H y = none) H H' → (∀ y, FP' y → FP y ∨ H y = none) → (∀ y, fpS p' y → fpS p y ∨ H y = none) → (ok = 2 → S ≠ (fun _ => false) → ∃ w, S w = true ∧ S' = upf S w false) → K kind n p' l'.length c' last' true H') :
    compasslaw05_step.call (some ⟨q, 0, none⟩) kind n p l.length c last ok oh ox E H K := by
  have hsm := hR.small
  refine compasslaw05_step.of (compasslaw05_step.run_eq ?_)
  unfold compasslaw05_step.run_t
  refine nwk fun b1 H1 hb1 e1 s1 => ?_
  refine nwk fun b2 H2 hb2 e2 s2 => ?_
  refine nwk fun b3 H3 hb3 e3 s3 => ?_
  have e13 := (s2.and s3).keep _ _ e1 fun h => h
  have e23 := s3.keep _ _ e2 fun h => h
  have s03 := (s1.and s2).and s3
  have hR3 := hR.new s03
  have fb3 : H b3 = none := (s1.and s2).mono _ hb3
  have f03 : H0 b3 = none := hR.o.st.mono _ fb3
  have live3 : ∀ {b : Nat} {x : Blk}, H3 b = some x → H3 b ≠ none := fun h h' => by rw [h] at h'; cases h'
  -- the end: the document's queue is told
  have fin : ∀ {H7 : Hp} {key7 : Nat → Int} {last7 : Int} {S7 : Nat → Bool} {FP7 : Nat → Prop} {p7 : Option Addr} {c7 : Nat} {l7 : List Nat}, Rel g H0 H7 q n kind key7 last7 S7 FP7 p7 c7 l7 → Step FP H3 H7 → H7 b3 = some ⟨[.int .i64 0, .int .i64 0, .slice none 0 0, .int .i64 0], 40⟩ →
      (∀ y, FP7 y → FP y ∨ H3 y = none) → (∀ y, fpS p7 y → fpS p y ∨ H3 y = none) → (ok = 2 → S ≠ (fun _ => false) → ∃ w, S w = true ∧ S7 = upf S w false) →
      ∀ t : Bool, t = true → stC H7 b3 0 [.int .i64 kind, .int .i64 (n : Int), .slice p7 l7.length c7, .int .i64 last7] (fun H8 => ldI .i64 (H8.get b3 0) fun x1 => ldI .i64 (H8.get b3 1) fun x2 => ldS (H8.get b3 2) fun x3p x3n x3c => ldI .i64 (H8.get b3 3) fun x4 => K x1 x2 x3p x3n x3c x4 t H8) := by
    intro H7 key7 last7 S7 FP7 p7 c7 l7 hR7 s7 e7 hF hP hS t ht
    subst ht
    refine stk e7 rfl rfl fun H8 e8 s8 => ?_
    simp only [get_at e8, List.getElem?_cons_zero, List.getElem?_cons_succ, ldI_mk, ldS_mk]
    have n1 : ¬ FP7 b3 := fun h => (hF _ h).elim (fun h => hR.o.qu.live _ h fb3) (live3 e3)
    have n2 : ¬ fpS p7 b3 := fun h => (hP _ h).elim (fun h => hR.i.live h fb3) (live3 e3)
    refine k H8 _ _ _ _ _ _ _ (hR7.put s8 f03 n1 n2) ?_ (fun y hy => (hF y hy).imp id (s03.mono y)) (fun y hy => (hP y hy).imp id (s03.mono y)) hS
    have t1 : Step (fun y => FP y ∨ H y = none) H H3 := s03.weak fun _ h => h.elim
    have t2 : Step (fun y => FP y ∨ H y = none) H H7 := t1.trans s7 fun y hy => .inl (.inl hy)
    exact t2.trans s8 fun y hy => .inl (.inr (hy ▸ fb3))
  have sF : ∀ {H4 : Hp}, Step (fun _ => False) H3 H4 → Step FP H3 H4 := fun s => s.weak fun _ h => h.elim
  have i3 := hR3.i
  simp only [get_at e23, List.getElem?_cons_zero, List.getElem?_cons_succ, ldI_mk, ldS_mk]
  refine bc (fun ho => ?_) fun ho0 => bc (fun ho => ?_) fun ho1 => bc (fun ho => ?_) fun ho2 => bc (fun ho => ?_) fun ho3 => bc (fun ho => ?_) fun ho4 => ?_
  -- Push
  · simp only [get_at e13, List.getElem?_cons_zero, List.getElem?_cons_succ, ldI_mk, ldS_mk]
    refine rpush5 i3 hsm hR.mem (fun hb H4 s4 => ?_) fun hz hnl H4 p4 c4 s4 i4 f4 => ?_
    · refine nwst rfl rfl fun b4 H6 hb4 e4 s6 => ?_
      have s36 := s4.and s6
      have e26 := s36.keep _ _ e23 fun h => h
      simp only [get_at e4, get_at e26, List.getElem?_cons_zero, List.getElem?_cons_succ, ldI_mk, ldS_mk]
      refine qpush hx (hR3.new s36).o.qu (fun _ => ?_) fun h => (hb h).elim
      simp only [get_at e4, List.getElem?_cons_zero, List.getElem?_cons_succ, ldI_mk, ldS_mk]
      exact ⟨trivial, fin (hR3.new s36) (sF s36) (s36.keep _ _ e3 fun h => h) (fun y h => .inl h) (fun y h => .inl h) (fun h => by omega) _ (by simp)⟩
    · refine nwst rfl rfl fun b4 H6 hb4 e4 s6 => ?_
      have s36 := s4.and s6
      have e26 := s36.keep _ _ e23 fun h => h
      simp only [get_at e4, get_at e26, List.getElem?_cons_zero, List.getElem?_cons_succ, ldI_mk, ldS_mk]
      refine qpush hx (hR3.new s36).o.qu (fun h => (h hz).elim) fun _ H7 FP7 q7 s7 f7 => ?_
      have nb4 : ¬ FP b4 := ((hR3.new s4).away hb4).a
      have e47 := s7.keep _ _ e4 nb4
      simp only [get_at e47, List.getElem?_cons_zero, List.getElem?_cons_succ, ldI_mk, ldS_mk]
      refine ⟨trivial, ?_⟩
      have hSv : S oh.toNat = false := by
        cases hh : S oh.toNat with
        | false => rfl
        | true => exact absurd ((hR.mem _).2 hh) hnl
      have hR7 := hR3.move s4 i4 f4 s6 q7 s7 f7 (by rw [List.nodup_append]; exact ⟨hR.nd, by simp, fun x hx y hy => by simp at hy; subst hy; exact fun e => hnl (e ▸ hx)⟩) (fun v => by
        rw [List.mem_append, List.mem_singleton, hR.mem]
        by_cases e : v = oh.toNat
        · subst e; simp [upf_same]
        · rw [upf_ne e]; simp [e])
      exact fin hR7 ((sF s36).trans s7 fun y hy => .inl hy) (s7.keep _ _ (s36.keep _ _ e3 fun h => h) (hR.away fb3).a) (fun y hy => (f7 y hy).imp id (s36.mono y)) (fun y hy => .inr (f4 y hy)) (fun h => by omega) _ (by simp)
  -- Lower
  · simp only [get_at e13, List.getElem?_cons_zero, List.getElem?_cons_succ, ldI_mk, ldS_mk]
    refine rlower5 i3 hsm hR.nd hR.mem (fun hb H4 s4 => ?_) fun hz l1 l2 H4 p4 c4 hsp s4 i4 f4 => ?_
    · refine nwst rfl rfl fun b4 H6 hb4 e4 s6 => ?_
      have s36 := s4.and s6
      have e26 := s36.keep _ _ e23 fun h => h
      simp only [get_at e4, get_at e26, List.getElem?_cons_zero, List.getElem?_cons_succ, ldI_mk, ldS_mk]
      refine qlower (hR3.new s36).o.qu (fun _ => ?_) fun h => (hb h).elim
      simp only [get_at e4, List.getElem?_cons_zero, List.getElem?_cons_succ, ldI_mk, ldS_mk]
      exact ⟨trivial, fin (hR3.new s36) (sF s36) (s36.keep _ _ e3 fun h => h) (fun y h => .inl h) (fun y h => .inl h) (fun h => by omega) _ (by simp)⟩
    · refine nwst rfl rfl fun b4 H6 hb4 e4 s6 => ?_
      have s36 := s4.and s6
      have e26 := s36.keep _ _ e23 fun h => h
      simp only [get_at e4, get_at e26, List.getElem?_cons_zero, List.getElem?_cons_succ, ldI_mk, ldS_mk]
      refine qlower (hR3.new s36).o.qu (fun h => (h hz).elim) fun _ H7 FP7 q7 s7 f7 => ?_
      have nb4 : ¬ FP b4 := ((hR3.new s4).away hb4).a
      have e47 := s7.keep _ _ e4 nb4
      simp only [get_at e47, List.getElem?_cons_zero, List.getElem?_cons_succ, ldI_mk, ldS_mk]
      refine ⟨trivial, ?_⟩
      have hnd := hR.nd
      rw [hsp] at hnd
      have hnd2 := List.nodup_cons.1 ((List.perm_middle.nodup_iff).1 hnd)
      have hR7 := hR3.move s4 i4 f4 s6 q7 s7 f7 (by rw [List.nodup_append]; exact ⟨hnd2.2, by simp, fun x hx y hy => by simp at hy; subst hy; exact fun e => hnd2.1 (e ▸ hx)⟩) (fun v => by
        rw [← hR.mem, hsp]
        simp only [List.mem_append, List.mem_cons, List.not_mem_nil, or_false]
        constructor
        · rintro ((h | h) | h)
          · exact .inl h
          · exact .inr (.inr h)
          · exact .inr (.inl h)
        · rintro (h | h | h)
          · exact .inl (.inl h)
          · exact .inr h
          · exact .inl (.inr h))
      exact fin hR7 ((sF s36).trans s7 fun y hy => .inl hy) (s7.keep _ _ (s36.keep _ _ e3 fun h => h) (hR.away fb3).a) (fun y hy => (f7 y hy).imp id (s36.mono y)) (fun y hy => .inr (f4 y hy)) (fun h => by omega) _ (by simp)
  -- Pop
  · simp only [get_at e13, List.getElem?_cons_zero, List.getElem?_cons_succ, ldI_mk, ldS_mk]
    refine rpop5 i3 hsm (fun hnil H4 s4 => ?_) fun w l1 l2 H4 p4 c4 hsp hl s4 i4 f4 => ?_
    · refine nwk fun b6 H5 hb6 e6 s5 => ?_
      refine nwk fun b7 H6 hb7 e7 s6 => ?_
      have e66 := s6.keep _ _ e6 fun h => h
      have d67 : b7 ≠ b6 := fun h => by rw [h, e6] at hb7; cases hb7
      have fb6 : H b6 = none := (s03.and s4).mono _ hb6
      have fb7 : H b7 = none := ((s03.and s4).and s5).mono _ hb7
      refine stk e66 rfl rfl fun H7 e67 s7 => ?_
      have e77 := s7.keep _ _ e7 d67
      refine stk e77 rfl rfl fun H8 e78 s8 => ?_
      have e68 := s8.keep _ _ e67 fun h => d67 h.symm
      have a6 := hR.away fb6
      have a7 := hR.away fb7
      have hR8 := ((hR3.new (s4.and (s5.and s6))).put s7 (hR.o.st.mono _ fb6) a6.a a6.b).put s8 (hR.o.st.mono _ fb7) a7.a a7.b
      have s38 : Step (fun _ => False) H3 H8 := ((s4.and (s5.and s6)).own s7 fun y hy => hy ▸ s4.mono _ hb6).own s8 fun y hy => hy ▸ s4.mono _ (s5.mono _ hb7)
      refine qpop hR8.o.qu (fun h0 => ?_) fun w H9 FP9 hw => absurd ((hR.mem w).2 hw) (by rw [hnil]; simp)
      simp only [get_at e68, get_at e78, List.getElem?_cons_zero, List.getElem?_cons_succ, ldI_mk, ldS_mk]
      refine bc (fun _ => ?_) fun h => (h (by simp)).elim
      refine bc (fun _ => ?_) fun h => (h (by simp)).elim
      exact fin hR8 (sF s38) (s38.keep _ _ e3 fun h => h) (fun y h => .inl h) (fun y h => .inl h) (fun _ hne => (hne (funext h0)).elim) _ (by simp)
    · refine nwk fun b6 H5 hb6 e6 s5 => ?_
      refine nwk fun b7 H6 hb7 e7 s6 => ?_
      have e66 := s6.keep _ _ e6 fun h => h
      have d67 : b7 ≠ b6 := fun h => by rw [h, e6] at hb7; cases hb7
      have fb6 : H b6 = none := (s03.and s4).mono _ hb6
      have fb7 : H b7 = none := ((s03.and s4).and s5).mono _ hb7
      refine stk e66 rfl rfl fun H7 e67 s7 => ?_
      have e77 := s7.keep _ _ e7 d67
      refine stk e77 rfl rfl fun H8 e78 s8 => ?_
      have e68 := s8.keep _ _ e67 fun h => d67 h.symm
      have a6 := hR.away fb6
      have a7 := hR.away fb7
      have s48 : Step (fun _ => False) H4 H8 := ((s5.and s6).own s7 fun y hy => hy ▸ hb6).own s8 fun y hy => hy ▸ s5.mono _ hb7
      have s38 := s4.and s48
      refine qpop (hR3.new s38).o.qu (fun h0 => ?_) fun w' H9 FP9 hw' hl' q9 s9 f9 => ?_
      · have hw : S w = true := (hR.mem w).1 (by rw [hsp]; simp)
        rw [h0 w] at hw; cases hw
      · have hw : S w = true := (hR.mem w).1 (by rw [hsp]; simp)
        have ew : w' = w := least_uniq hw' hw hl' fun u hu => hl u ((hR.mem u).2 hu)
        subst ew
        have e69 := s9.keep _ _ e68 a6.a
        have e79 := s9.keep _ _ e78 a7.a
        simp only [get_at e69, get_at e79, List.getElem?_cons_zero, List.getElem?_cons_succ, ldI_mk, ldS_mk]
        have hnd := hR.nd
        rw [hsp] at hnd
        have hnd2 := List.nodup_cons.1 ((List.perm_middle.nodup_iff).1 hnd)
        have hR9 := hR3.move s4 i4 f4 s48 q9 s9 f9 hnd2.2 (fun v => by
          by_cases e : v = w'
          · subst e; rw [upf_same]; exact ⟨fun h => absurd h hnd2.1, fun h => by cases h⟩
          · rw [upf_ne e, ← hR.mem, hsp]; simp [e])
        refine bc (fun _ => ?_) fun h => (h (by simp)).elim
        refine bc (fun _ => ?_) fun h => (h (by simp)).elim
        exact fin hR9 ((sF s38).trans s9 fun y hy => .inl hy) (s9.keep _ _ (s38.keep _ _ e3 fun h => h) (hR.away fb3).a) (fun y hy => (f9 y hy).imp id (s38.mono y)) (fun y hy => .inr (f4 y hy)) (fun _ _ => ⟨w', hw, rfl⟩) _ (by simp)
  -- Top
  · simp only [get_at e13, List.getElem?_cons_zero, List.getElem?_cons_succ, ldI_mk, ldS_mk]
    have both : ∀ (H4 : Hp) (w x cd : Int), Step (fun _ => False) H3 H4 → (∀ {K' : Int → Int → Int → Hp → Prop} {H5 : Hp}, Step (fun _ => False) H4 H5 → (∀ H6, Step (fun _ => False) H5 H6 → K' w x cd H6) → heaps_Queue_Top.call (some ⟨q, 0, none⟩) E H5 K') →
        nw H4 ⟨[.int .i64 0, .int .i64 0], 107⟩ (fun b_8 H_24 => stC H_24 b_8 0 [.int .i64 w, .int .i64 x] fun H_25 => heaps_Queue_Top.call (some ⟨q, 0, none⟩) E H_25 fun r_15 r_16 r_17 H_26 =>
          ldI .i64 (H_26.get b1 0) fun x_68 => ldI .i64 (H_26.get b1 1) fun x_69 => ldS (H_26.get b1 2) fun x_70p x_70n x_70c => ldI .i64 (H_26.get b1 3) fun x_71 => ldI .i64 (H_26.get b_8 0) fun x_72 =>
          bcase (decide ((r_15 : Int) = x_72)) (ldI .i64 (H_26.get b_8 1) fun x_73 => bcase (decide ((r_16 : Int) = x_73))
            (stC H_26 b3 0 [.int .i64 x_68, .int .i64 x_69, .slice x_70p x_70n x_70c, .int .i64 x_71] fun H_27 => ldI .i64 (H_27.get b3 0) fun x_74 => ldI .i64 (H_27.get b3 1) fun x_75 => ldS (H_27.get b3 2) fun x_76p x_76n x_76c => ldI .i64 (H_27.get b3 3) fun x_77 => K x_74 x_75 x_76p x_76n x_76c x_77 (decide ((r_17 : Int) = cd)) H_27)
            (stC H_26 b3 0 [.int .i64 x_68, .int .i64 x_69, .slice x_70p x_70n x_70c, .int .i64 x_71] fun H_28 => ldI .i64 (H_28.get b3 0) fun x_78 => ldI .i64 (H_28.get b3 1) fun x_79 => ldS (H_28.get b3 2) fun x_80p x_80n x_80c => ldI .i64 (H_28.get b3 3) fun x_81 => K x_78 x_79 x_80p x_80n x_80c x_81 false H_28))
            (stC H_26 b3 0 [.int .i64 x_68, .int .i64 x_69, .slice x_70p x_70n x_70c, .int .i64 x_71] fun H_29 => ldI .i64 (H_29.get b3 0) fun x_82 => ldI .i64 (H_29.get b3 1) fun x_83 => ldS (H_29.get b3 2) fun x_84p x_84n x_84c => ldI .i64 (H_29.get b3 3) fun x_85 => K x_82 x_83 x_84p x_84n x_84c x_85 false H_29)) := by
      intro H4 w x cd s4 hq
      refine nwst rfl rfl fun b8 H5 hb8 e8 s5 => ?_
      refine hq s5 fun H6 s6 => ?_
      have s36 := (s4.and s5).and s6
      have e16 := s36.keep _ _ e13 fun h => h
      have e86 := s6.keep _ _ e8 fun h => h
      simp only [get_at e16, get_at e86, List.getElem?_cons_zero, List.getElem?_cons_succ, ldI_mk, ldS_mk]
      refine bc (fun _ => ?_) fun h => (h (by simp)).elim
      refine bc (fun _ => ?_) fun h => (h (by simp)).elim
      exact fin (hR3.new s36) (sF s36) (s36.keep _ _ e3 fun h => h) (fun y h => .inl h) (fun y h => .inl h) (fun h => by omega) _ (by simp)
    refine rtop5 i3 hsm (fun hnil H4 s4 => both H4 0 0 4 s4 fun s5 hk => ?_) fun w hw hl H4 s4 => both H4 w (key w) 0 s4 fun s5 hk => ?_
    · exact qtop (hR3.new (s4.and s5)).o.qu (fun _ => hk _ .refl) fun w H6 s6 hw' => absurd ((hR.mem w).2 hw') (by rw [hnil]; simp)
    · have hSw := (hR.mem w).1 hw
      refine qtop (hR3.new (s4.and s5)).o.qu (fun h0 => by rw [h0 w] at hSw; cases hSw) fun w' H6 s6 hw' hl' => ?_
      have ew : w' = w := least_uniq hw' hSw hl' fun u hu => hl u ((hR.mem u).2 hu)
      subst ew
      exact hk H6 s6
  -- Key
  · simp only [get_at e13, List.getElem?_cons_zero, List.getElem?_cons_succ, ldI_mk, ldS_mk]
    refine rkey5 i3 hsm hR.mem fun H4 s4 => ?_
    have e24 := s4.keep _ _ e23 fun h => h
    have e14 := s4.keep _ _ e13 fun h => h
    simp only [get_at e24, List.getElem?_cons_zero, List.getElem?_cons_succ, ldI_mk, ldS_mk]
    refine qkey (hR3.new s4).o.qu ?_
    simp only [get_at e14, List.getElem?_cons_zero, List.getElem?_cons_succ, ldI_mk, ldS_mk]
    refine bc (fun _ => ?_) fun h => (h (by simp)).elim
    exact fin (hR3.new s4) (sF s4) (s4.keep _ _ e3 fun h => h) (fun y h => .inl h) (fun y h => .inl h) (fun h => by omega) _ (by simp)
  -- nothing
  · simp only [get_at e13, List.getElem?_cons_zero, List.getElem?_cons_succ, ldI_mk, ldS_mk]
    exact fin hR3 .refl e3 (fun y h => .inl h) (fun y h => .inl h) (fun h => (ho2 h).elim) _ rfl

/-- what holds at each round's head of drained -/
def DrJ (g : Engine E) (H0 : Hp) (q n : Nat) (kind : Int) (b1 : Nat) (q0 : Option Addr) (w3 : Nat) (ok5 : Bool) (H' : Hp) (k : Nat) : Prop :=
  q0 = some ⟨q, 0, none⟩ ∧ w3 = b1 ∧ ok5 = true ∧ ∃ key last S FP p c l, Rel g H0 H' q n kind key last S FP p c l ∧ H' b1 = some ⟨[.int .i64 kind, .int .i64 (n : Int), .slice p l.length c, .int .i64 last], 40⟩ ∧ Away H' FP p b1 ∧ cnt S n = k

theorem ldrained {K : Bool → Hp → Prop} (hR : Rel g H0 H q n kind key last S FP p c l) (kk : ∀ H', Step (fun _ => False) H0 H' → K true H') : compasslaw05_drained.call (some ⟨q, 0, none⟩) kind n p l.length c last E H K := by
  refine compasslaw05_drained.of (compasslaw05_drained.run_eq ?_)
  unfold compasslaw05_drained.run_t
  refine nwk fun b1 H1 hb1 e1 s1 => ?_
  have f1 : H0 b1 = none := hR.o.st.mono _ hb1
  have aw := hR.away hb1
  refine compasslaw05_drained.l1_rule (fun q0 w3 ok5 H' => ∃ k, DrJ g H0 q n kind b1 q0 w3 ok5 H' k) (fun q0 w3 ok5 H' => lm (DrJ g H0 q n kind b1 q0 w3 ok5 H')) ?_ ⟨_, rfl, rfl, rfl, key, last, S, FP, p, c, l, hR.new s1, e1, ⟨aw.a, aw.b⟩, rfl⟩
  rintro q0 w3 ok5 H2 ⟨k0, hk0⟩ X hX
  have hlm := (lm_of hk0).1
  generalize hkk : lm (DrJ g H0 q n kind b1 q0 w3 ok5 H2) = kq at hlm hX
  obtain ⟨rfl, rfl, rfl, key2, last2, S2, FP2, p2, c2, l2, hR2, e2, aw2, hc2⟩ := hlm
  have hlen := hR2.len
  have hsm := hR2.small
  refine compasslaw05_drained.b1_eq ?_
  unfold compasslaw05_drained.b1_t
  refine qlen hR2.o.qu ?_
  refine bc (fun hpos => ?_) fun hnon => ?_
  · refine bcb (fun _ => ?_) fun h => by cases h
    simp only [get_at e2, List.getElem?_cons_zero, List.getElem?_cons_succ, ldI_mk, ldS_mk]
    refine qlen hR2.o.qu ?_
    simp only [get_at e2, List.getElem?_cons_zero, List.getElem?_cons_succ, ldI_mk, ldS_mk]
    refine ⟨trivial, ?_⟩
    refine bcn (fun h => (h (by rw [hlen])).elim) fun _ => ?_
    try simp only [get_at e2, List.getElem?_cons_zero, List.getElem?_cons_succ, ldI_mk, ldS_mk]
    refine lstep hR2 (by decide) fun H3 key3 last3 S3 FP3 p3 c3 l3 hR3 s3 f3 g3 hpop => ?_
    have e3 := s3.keep _ _ e2 fun h => h.elim aw2.a fun h => by rw [e2] at h; cases h
    have live2 : H2 w3 ≠ none := fun h => by rw [e2] at h; cases h
    have n3 : ¬ FP3 w3 := fun h => (f3 _ h).elim aw2.a live2
    have m3 : ¬ fpS p3 w3 := fun h => (g3 _ h).elim aw2.b live2
    refine stk e3 rfl rfl fun H4 e4 s4 => ?_
    have hR4 := hR3.put s4 f1 n3 m3
    obtain ⟨w, hw, hS3⟩ := hpop rfl (fun h => by rw [h, cnt_none fun _ _ => rfl] at hpos; exact absurd hpos (by decide))
    have hcn := cnt_less (p := S2) (q := S3) (n := n) (hR2.o.qu.sub w hw) hw (by rw [hS3, upf_same]) fun i _ hne => by rw [hS3, upf_ne hne]
    have hJ : DrJ g H0 q n kind w3 (some ⟨q, 0, none⟩) w3 true H4 (cnt S3 n) := ⟨rfl, rfl, rfl, key3, last3, S3, FP3, p3, c3, l3, hR4, e4, ⟨n3, m3⟩, rfl⟩
    have h1 := (lm_of hJ).2
    exact hX _ _ _ _ ⟨_, hJ⟩ (by omega)
  · refine compasslaw05_drained.j1_eq ?_
    unfold compasslaw05_drained.j1_t
    refine bcb (fun _ => ?_) fun h => by cases h
    simp only [get_at e2, List.getElem?_cons_zero, List.getElem?_cons_succ, ldI_mk, ldS_mk]
    have : l2.length = 0 := by omega
    rw [this]
    exact kk H2 hR2.o.st

theorem lplays5 {kind n : Int} {sp : Option Addr} {sn sc : Nat} {sf : Nat → Int × Int × Int} {H : Hp} {K : Bool → Hp → Prop} (hsc : Rdr H sp sn sf) (hn : sn < 2 ^ 63) (hr : ∀ i, i < sn → (sf i).2.2 ≤ 9223372036854775807)
    (kk : ∀ H', Step (fun _ => False) H H' → K true H') : compasslaw05_HeapPlays.call kind n sp sn sc E H K := by
  refine compasslaw05_HeapPlays.of (compasslaw05_HeapPlays.run_eq ?_)
  unfold compasslaw05_HeapPlays.run_t
  refine lawake5 fun H1 s1 => ?_
  refine bcb (fun h => by cases h) fun _ => ?_
  refine qnewK (fun h0 => ?_) fun h0 hk1 hk4 hn0 hn1 g H2 q FP hq s2 f2 => ?_
  · refine rnew5 (fun _ H3 s3 => ?_) fun h => (h0 h).elim
    refine nwst rfl rfl fun b1 H5 hb1 e1 s5 => ?_
    refine bcn (fun h => (h rfl).elim) fun _ => ?_
    have : (!((Option.isNone (none : Option Addr)) == (!decide (newC kind n = 0)))) = false := by rw [decide_eq_false h0]; rfl
    rw [this]
    refine bcb (fun h => by cases h) fun _ => ?_
    exact bcb (fun _ => kk H5 ((s1.and s3).and s5)) fun h => by cases h
  refine rnew5 (fun h => (h h0).elim) fun _ H3 s3 => ?_
  refine nwst rfl rfl fun b1 H5 hb1 e1 s5 => ?_
  refine bcn (fun h => (h rfl).elim) fun _ => ?_
  refine bcb (fun h => by cases h) fun _ => ?_
  refine bcb (fun h => by cases h) fun _ => ?_
  have s35 := s3.and s5
  have s15 := s2.and s35
  obtain ⟨m, rfl⟩ : ∃ m : Nat, n = m := ⟨n.toNat, by omega⟩
  simp only [Int.toNat_natCast] at hq
  have f1 : H1 b1 = none := s2.mono _ (s3.mono _ hb1)
  have hR5 : Rel g H1 H5 q m kind (fun _ => 0) 0 (fun _ => false) FP none 0 [] := ⟨⟨hq.keep s35 fun _ _ h => h, s15, f2⟩, Row.nil, List.nodup_nil, fun v => ⟨fun h => (by cases h), fun h => (by cases h)⟩, fun y hy => by rw [fpS_none] at hy; exact hy.elim⟩
  have a5 : ¬ FP b1 := fun h => (hq.keep s3 fun _ _ h => h).live _ h hb1
  refine compasslaw05_HeapPlays.l1_rule (fun q7 w9 t40p t40n t40c t41 t42 H' => q7 = some ⟨q, 0, none⟩ ∧ w9 = b1 ∧ t40p = sp ∧ t40n = sn ∧ t41 = (sn : Int) ∧ ∃ i : Nat, ∃ key last S FP p c l, t42 = (i : Int) ∧ i ≤ sn ∧ Rel g H1 H' q m kind key last S FP p c l ∧ H' b1 = some ⟨[.int .i64 kind, .int .i64 (m : Int), .slice p l.length c, .int .i64 last], 40⟩ ∧ Away H' FP p b1)
    (fun q7 w9 t40p t40n t40c t41 t42 H' => sn - t42.toNat) ?_ ⟨rfl, rfl, rfl, rfl, rfl, 0, _, _, _, FP, none, 0, [], rfl, Nat.zero_le _, hR5, e1, ⟨a5, fun h => by rw [fpS_none] at h; exact h⟩⟩
  rintro q7 w9 t40p t40n t40c t41 t42 H6 ⟨rfl, rfl, rfl, rfl, rfl, i, key, last, S, FP6, p, c, l, rfl, hi, hR6, e6, aw6⟩ X hX
  have hs6 : Rdr H6 t40p t40n sf := (hsc.keep s1 fun _ _ _ h => h).keep hR6.o.st fun _ _ _ h => h
  refine compasslaw05_HeapPlays.b1_eq ?_
  unfold compasslaw05_HeapPlays.b1_t
  refine bc (fun hlt => ?_) fun hge => ?_
  · have htn : i < t40n := by omega
    refine hs6.op3 (by omega) (by omega) ?_
    rw [Int.toNat_natCast]
    have hri := hr i htn
    generalize hop : sf i = op at hri ⊢
    obtain ⟨ok, oh, ox⟩ := op
    simp only at hri ⊢
    refine nwst rfl rfl fun b2 H7 hb2 e2 s7 => ?_
    have e67 := s7.keep _ _ e6 fun h => h
    simp only [get_at e67, get_at e2, List.getElem?_cons_zero, List.getElem?_cons_succ, ldI_mk, ldS_mk]
    have hR7 := hR6.new s7
    refine lstep hR7 hri fun H8 key8 last8 S8 FP8 p8 c8 l8 hR8 s8 f8 g8 _ => ?_
    have live7 : H7 w9 ≠ none := fun h => by rw [e67] at h; cases h
    have e68 := s8.keep _ _ e67 fun h => h.elim aw6.a live7
    have n8 : ¬ FP8 w9 := fun h => (f8 _ h).elim aw6.a live7
    have m8 : ¬ fpS p8 w9 := fun h => (g8 _ h).elim aw6.b live7
    refine stk e68 rfl rfl fun H9 e9 s9 => ?_
    have hR9 := hR8.put s9 f1 n8 m8
    refine bcb (fun h => by cases h) fun _ => ?_
    simp only [get_at e9, List.getElem?_cons_zero, List.getElem?_cons_succ, ldI_mk, ldS_mk]
    refine qlen hR9.o.qu ?_
    simp only [get_at e9, List.getElem?_cons_zero, List.getElem?_cons_succ, ldI_mk, ldS_mk]
    refine ⟨trivial, ?_⟩
    refine bcn (fun h => (h (by rw [hR9.len])).elim) fun _ => ?_
    rw [i64w (by omega) (by omega)]
    exact hX _ _ _ _ _ _ _ _ ⟨rfl, rfl, rfl, rfl, rfl, i + 1, key8, last8, S8, FP8, p8, c8, l8, by omega, by omega, hR9, e9, ⟨n8, m8⟩⟩ (by omega)
  · refine compasslaw05_HeapPlays.j1_eq ?_
    unfold compasslaw05_HeapPlays.j1_t
    simp only [get_at e6, List.getElem?_cons_zero, List.getElem?_cons_succ, ldI_mk, ldS_mk]
    exact ldrained hR6 fun H' st => kk H' (s1.and st)
end
end Go.Mz

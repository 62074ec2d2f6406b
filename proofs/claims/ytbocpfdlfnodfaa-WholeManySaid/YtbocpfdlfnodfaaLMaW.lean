/-
  WholeMany, walked: whatever the graph and the room, it answers true and leaves what was there as it was.
-/
import Derived.Test.YtbocpfdlfnodfaaPkQ
import Derived.Test.YtbocpfdlfnodfaaMnX
import Derived.Test.YtbocpfdlfnodfaaRefB
import Derived.Test.YtbocpfdlfnodfaaPkT
import Derived.Test.YtbocpfdlfnodfaaGLMW
set_option linter.unusedSimpArgs false
set_option linter.unusedVariables false
namespace Go.Mz

theorem tdeg_onlyW {e : Nat → Edg} {T : Nat → Bool} {v : Int} {x : Nat} : ∀ {i : Nat}, (∀ j, j < i → T j = true → ¬ lp (e j)) → (∀ j, j < i → T j = true → ((e j).fr = v ∨ (e j).to = v) → j = x) → tdeg e T i v ≤ 1
  | 0, _, _ => Nat.zero_le _
  | i + 1, h1, h2 => by
    show tdeg e T i v + (if T i = true then _ else 0) ≤ 1
    have ih := tdeg_onlyW (i := i) (fun j hj => h1 j (by omega)) fun j hj => h2 j (by omega)
    by_cases hT : T i = true
    · rw [if_pos hT]
      have hl := h1 i (by omega) hT
      unfold lp at hl
      by_cases ht : (e i).fr = v ∨ (e i).to = v
      · have hx := h2 i (by omega) hT ht
        have h0 : tdeg e T i v = 0 := by
          have : ∀ k, k ≤ i → tdeg e T k v = 0 := by
            intro k
            induction k with
            | zero => intro _; rfl
            | succ k ih' =>
              intro hk
              show tdeg e T k v + (if T k = true then _ else 0) = 0
              rw [ih' (by omega)]
              by_cases hTk : T k = true
              · rw [if_pos hTk]
                have n1 : ¬ (e k).fr = v := fun hh => by have := h2 k (by omega) hTk (.inl hh); omega
                have n2 : ¬ (e k).to = v := fun hh => by have := h2 k (by omega) hTk (.inr hh); omega
                rw [if_neg n1, if_neg n2]
              · rw [if_neg hTk]
          exact this i (Nat.le_refl _)
        rw [h0]
        split <;> split <;> first | omega | (rename_i a b; exact absurd (a.trans b.symm) hl)
      · have n1 : ¬ (e i).fr = v := fun hh => ht (.inl hh)
        have n2 : ¬ (e i).to = v := fun hh => ht (.inr hh)
        rw [if_neg n1, if_neg n2]; omega
    · rw [if_neg hT]; omega

theorem tdeg_or {e : Nat → Edg} {T U : Nat → Bool} {v : Int} : ∀ {i : Nat}, tdeg e (fun j => T j || U j) i v ≤ tdeg e T i v + tdeg e U i v
  | 0 => Nat.le_refl _
  | i + 1 => by
    have ih := tdeg_or (e := e) (T := T) (U := U) (v := v) (i := i)
    show tdeg e _ i v + (if (T i || U i) = true then _ else 0) ≤ tdeg e T i v + (if T i = true then _ else 0) + (tdeg e U i v + (if U i = true then _ else 0))
    cases hT : T i <;> cases hU : U i <;> simp <;> omega

theorem cnt_orW {T U : Nat → Bool} : ∀ {i : Nat}, (∀ j, j < i → U j = true → T j = false) → cnt T i + cnt U i ≤ cnt (fun j => T j || U j) i
  | 0, _ => Nat.le_refl _
  | i + 1, h => by
    have ih := cnt_orW (T := T) (U := U) (i := i) fun j hj => h j (by omega)
    have h1 := h i (by omega)
    simp only [cnt]
    by_cases hU : U i = true
    · have hT : ¬ T i = true := by rw [h1 hU]; decide
      rw [if_neg hT, if_pos hU, if_pos (by simp [hU])]; omega
    · by_cases hT : T i = true
      · rw [if_pos hT, if_neg hU, if_pos (by simp [hT])]; omega
      · rw [if_neg hT, if_neg hU]; omega

/-- what is taken so far, and what is left -/
structure Lft (N : Int) (n : Nat) (e : Nat → Edg) (k tk L : Nat) (el : Nat → Edg) (π : Nat → Nat) (T : Nat → Bool) : Prop where
  wh : ∀ x, x < L → π x < n ∧ el x = e (π x) ∧ T (π x) = false
  inj : ∀ x y, x < L → y < L → π x = π y → x = y
  Ln : L ≤ n
  nl : ∀ i, i < n → T i = true → ¬ lp (e i)
  deg : ∀ v : Nat, v < N.toNat → tdeg e T n (v : Int) ≤ k
  cnt : tk ≤ cnt T n
  first : k = 0 → L = n ∧ ∀ x, x < n → el x = e x
  mx : 1 ≤ k → ∀ o ko, Tkn N n e o ko (fun _ => 1) → ko ≤ tk

theorem Lft.start {N : Int} {n : Nat} {e el : Nat → Edg} (h : ∀ x, x < n → el x = e x) : Lft N n e 0 0 n el (fun x => x) (fun _ => false) where
  wh := fun x hx => ⟨hx, h x hx, rfl⟩
  inj := fun x y _ _ h => h
  Ln := Nat.le_refl _
  nl := fun i _ h => (by cases h)
  deg := fun v hv => Nat.le_of_eq (tdeg_none fun j _ => rfl)
  cnt := Nat.zero_le _
  first := fun _ => ⟨rfl, h⟩
  mx := fun h => by omega

theorem Lft.right {N : Int} {n k tk L : Nat} {e el : Nat → Edg} {π : Nat → Nat} {T : Nat → Bool} (h : Lft N n e k tk L el π T) (hr : Right N n e) : Right N L el :=
  ⟨hr.N0, hr.N1, Nat.le_trans h.Ln hr.n1, fun x hx => by obtain ⟨a, b, _⟩ := h.wh x hx; rw [b]; exact hr.ed _ a⟩

theorem Tkn.congrE {N : Int} {n : Nat} {e e' : Nat → Edg} {o : Nat → Int} {ko : Nat} {b : Int → Int} (h : Tkn N n e o ko b) (he : ∀ x, x < n → e' x = e x) : Tkn N n e' o ko b := by
  have hx : ∀ i, i < ko → e' (o i).toNat = e (o i).toNat := fun i hi => he _ (by have := h.ris i hi; omega)
  have hd : ∀ v k, k ≤ ko → dg e' o k v = dg e o k v := fun v k => by
    induction k with
    | zero => intro _; rfl
    | succ k ih =>
      intro hk
      show dg e' o k v + _ + _ = dg e o k v + _ + _
      rw [ih (by omega), hx k (by omega)]
  refine ⟨h.ris, fun i hi => by rw [hx i hi]; exact h.nl i hi, fun v h0 h1 h2 => ?_⟩
  rw [hd v ko (Nat.le_refl _)] at h2 ⊢
  exact h.mst v h0 h1 h2

open Classical in
/-- one more matching is taken -/
theorem Lft.next {N : Int} {n k tk L mn q : Nat} {e el : Nat → Edg} {π : Nat → Nat} {T : Nat → Bool} {m set : Nat → Int} (h : Lft N n e k tk L el π T) (hr : Right N n e) (hL : LrgP N L el m mn set q) {r : Nat → Nat} {L' : Nat} {el' : Nat → Edg} (hr1 : ∀ y, y < L' → r y < L ∧ ¬ In m mn (r y : Int) ∧ el' y = el (r y)) (hri : ∀ x y, x < L' → y < L' → r x = r y → x = y) (hL' : L' ≤ L) :
    ∃ π' T', Lft N n e (k + 1) (tk + mn) L' el' π' T' := by
  obtain ⟨U, hU⟩ : ∃ U : Nat → Bool, ∀ j, U j = true ↔ ∃ x : Nat, In m mn (x : Int) ∧ x < L ∧ π x = j := ⟨fun j => decide (∃ x : Nat, In m mn (x : Int) ∧ x < L ∧ π x = j), fun j => decide_eq_true_iff⟩
  have hN0 := hr.N0
  have hris := hL.tk.ris
  have hUT : ∀ j, U j = true → T j = false := fun j hj => by obtain ⟨x, _, hx, rfl⟩ := (hU j).1 hj; exact (h.wh x hx).2.2
  have hUl : ∀ j, j < n → U j = true → ¬ lp (e j) := fun j _ hj => by
    obtain ⟨x, ⟨i, hi, ei⟩, hx, rfl⟩ := (hU j).1 hj
    have := hL.tk.nl i hi
    rw [ei, Int.toNat_natCast, (h.wh x hx).2.1] at this
    exact this
  have hUd : ∀ v : Nat, v < N.toNat → tdeg e U n (v : Int) ≤ 1 := fun v hv => by
    by_cases hex : ∃ x : Nat, In m mn (x : Int) ∧ x < L ∧ ((el x).fr = (v : Int) ∨ (el x).to = (v : Int))
    · obtain ⟨x, h1, h2, h3⟩ := hex
      refine tdeg_onlyW (x := π x) hUl fun j hj hUj ht => ?_
      obtain ⟨y, hy, hyL, rfl⟩ := (hU j).1 hUj
      rw [← (h.wh y hyL).2.1] at ht
      rw [hL.tk.uniq (v := (v : Int)) (by omega) (by omega) hy h1 ht h3]
    · refine tdeg_onlyW (x := 0) hUl fun j hj hUj ht => ?_
      obtain ⟨y, hy, hyL, rfl⟩ := (hU j).1 hUj
      rw [← (h.wh y hyL).2.1] at ht
      exact (hex ⟨y, hy, hyL, ht⟩).elim
  have hUc : mn ≤ Go.Mz.cnt U n := by
    have h1 : Go.Mz.cnt (fun _ => true) mn ≤ Go.Mz.cnt U n := by
      refine cnt_injN (fun i => π (m i).toNat) (fun i hi _ => ?_) fun i j hi hj _ _ heq => ?_
      · have h2 := hris i hi
        have h3 : (m i).toNat < L := by omega
        exact ⟨(h.wh _ h3).1, (hU _).2 ⟨(m i).toNat, ⟨i, hi, by omega⟩, h3, rfl⟩⟩
      · have h2 := hris i hi
        have h3 := hris j hj
        have h4 := h.inj _ _ (by omega) (by omega) heq
        have h5 : m i = m j := by omega
        rcases Nat.lt_trichotomy i j with hl | he | hl
        · have := Ris.lt hris hl hj; omega
        · exact he
        · have := Ris.lt hris hl hi; omega
    have h2 : Go.Mz.cnt (fun _ => true) mn = mn := by
      clear h1 hL hUd hUl hUT hU hris hr1
      induction mn with
      | zero => rfl
      | succ z ih => simp only [Go.Mz.cnt]; rw [ih]; rfl
    omega
  refine ⟨fun y => π (r y), fun j => T j || U j, ⟨fun y hy => ?_, fun x y hx hy he => ?_, Nat.le_trans hL' h.Ln, fun i hi ht => ?_, fun v hv => ?_, ?_, fun h => by omega, fun _ o ko ho => ?_⟩⟩
  · obtain ⟨h1, h2, h3⟩ := hr1 y hy
    obtain ⟨p1, p2, p3⟩ := h.wh _ h1
    refine ⟨p1, by rw [h3, p2], ?_⟩
    show (T (π (r y)) || U (π (r y))) = false
    rw [p3, Bool.false_or]
    cases hUy : U (π (r y))
    · rfl
    · obtain ⟨x, hx, hxL, he⟩ := (hU _).1 hUy
      rw [h.inj _ _ hxL h1 he] at hx
      exact (h2 hx).elim
  · exact hri x y hx hy (h.inj _ _ (hr1 x hx).1 (hr1 y hy).1 he)
  · have ht' : (T i || U i) = true := ht
    rw [Bool.or_eq_true] at ht'
    exact ht'.elim (h.nl i hi) (hUl i hi)
  · have h1 := tdeg_or (e := e) (T := T) (U := U) (v := (v : Int)) (i := n)
    have h2 := h.deg v hv
    have h3 := hUd v hv
    omega
  · have h1 := cnt_orW (T := T) (U := U) (i := n) fun j _ hj => hUT j hj
    have h2 := h.cnt
    omega
  · by_cases hk : 1 ≤ k
    · have := h.mx hk o ko ho; omega
    · obtain ⟨h1, h2⟩ := h.first (by omega)
      subst h1
      have h3 := barrier_bound (set := set) (q := q) (h.right hr) (ho.congrE h2)
      have h4 := hL.eq
      omega

section
variable {E : Value → Hp → Prop}

/-- the place where what is left lies -/
structure LftR (H0 H : Hp) (N : Int) (b : Nat) (L : Nat) (el : Nat → Edg) : Prop where
  st : Step (fun _ => False) H0 H
  ex : ∃ p c, H b = some ⟨[.int .i64 N, .slice p L c], 24⟩ ∧ Row H p L c el ∧ (∀ y, fpS p y → H0 y = none) ∧ ¬ fpS p b
  bn : H0 b = none

open Classical in
theorem lwm2 {N ro : Int} {n : Nat} {e : Nat → Edg} {mp : Option Addr} {mn mc le : Nat} {g : Nat → Int} {b : Nat → Int} {bn : Nat} {cv : Nat → Int} {q : Nat} {H0 H : Hp} {K : Bool → Hp → Prop} (hr : Right N n e) (hbd : Bnd N b bn) (hgs : Gsz e (cps e n b) N.toNat n) (hP : MnyP N n e b g mn cv q) (hro0 : 0 ≤ ro) (hro1 : ro ≤ 20) (hb : ∀ v, v < N.toNat → b v = ro) {el0 : Nat → Edg} (hel : ∀ x, x < n → el0 x = e x) (hL0 : LftR H0 H N le n el0)
    (kk : ∀ H', Step (fun _ => False) H0 H' → K true H') : compasstop_WholeMany.j2 ro mp mn mc le E H K := by
  have hn1 := hr.n1
  have hN0 := hr.N0; have hN1 := hr.N1
  refine compasstop_WholeMany.j2_eq ?_
  unfold compasstop_WholeMany.j2_t
  refine compasstop_WholeMany.l2_rule (fun ro' mp' mn' mc' le' ta k15 H' => ro' = ro ∧ mp' = mp ∧ mn' = mn ∧ mc' = mc ∧ le' = le ∧ ∃ (k tk L : Nat) (el : Nat → Edg) (π : Nat → Nat) (T : Nat → Bool), k15 = k ∧ (k : Int) ≤ ro ∧ ta = tk ∧ tk ≤ 4096 * k ∧ Lft N n e k tk L el π T ∧ LftR H0 H' N le L el)
    (fun ro' mp' mn' mc' le' ta k15 H' => (ro - k15).toNat) ?_ ⟨rfl, rfl, rfl, rfl, rfl, 0, 0, n, el0, _, _, rfl, hro0, rfl, by omega, Lft.start hel, hL0⟩
  rintro ro' mp' mn' mc' le' ta k15 H1 ⟨rfl, rfl, rfl, rfl, rfl, k, tk, L, el, π, T, rfl, hk, rfl, htk, hL, hR⟩ X hX
  obtain ⟨p, c, e1, r1, f1, n1⟩ := hR.ex
  have hLn := hL.Ln
  refine compasstop_WholeMany.b2_eq ?_
  unfold compasstop_WholeMany.b2_t
  refine bc (fun hlt => ?_) fun hge => ?_
  · simp only [get_at e1, List.getElem?_cons_zero, List.getElem?_cons_succ, ldI_mk, ldS_mk]
    refine sBlo r1.rdr (by omega) fun H2 p2 n2 c2 g2 sp sn sc sv s2 q1 q2 _ _ _ l1 _ hB => ?_
    rcases hB with ⟨h, _⟩ | ⟨hz, hr2, hA⟩
    · exact (h (chk_zero.2 (hL.right hr))).elim
    · refine bcn (fun h => (h hz).elim) fun _ => ?_
      have e12 := s2.keep _ _ e1 fun h => h
      have r12 := r1.keep s2 fun _ _ h => h
      have s02 := hR.st.and s2
      have hlrg : LrgP N L el g2 n2 sv sn := by
        have := hA.lrg
        rwa [show ((N.toNat : Nat) : Int) = N by omega] at this
      have hn2 := hlrg.tk.ris.len
      simp only [get_at e12, List.getElem?_cons_zero, List.getElem?_cons_succ, ldI_mk, ldS_mk]
      rw [i64w (by omega) (by omega)]
      obtain ⟨P, hP'⟩ : ∃ P : Nat → Bool, ∀ x, P x = true ↔ ¬ In g2 n2 (x : Int) := ⟨fun x => decide (¬ In g2 n2 (x : Int)), fun x => decide_eq_true_iff⟩
      have hlen : ∀ v, (pk P v).length ≤ v := fun v => by rw [pk_len]; exact cnt_le _ _
      refine compasstop_WholeMany.l3_rule (fun ro2 mp2 mn2 mc2 le2 ta k15 np nn nc rp rn rc tp tn tc t104 t105 H' => ro2 = ro' ∧ mp2 = mp' ∧ mn2 = mn' ∧ mc2 = mc' ∧ le2 = le' ∧ ta = (tk : Int) + n2 ∧ k15 = k ∧ np = p2 ∧ nn = n2 ∧ nc = c2 ∧ tp = p ∧ tn = L ∧ tc = c ∧ t104 = L ∧ ∃ (x : Nat) (f : Nat → Edg), t105 = x ∧ x ≤ L ∧ rn = (pk P x).length ∧ Step (fun _ => False) H2 H' ∧ Row H' rp rn rc f ∧ (∀ y, y < rn → f y = el (lsF (pk P x) y).toNat) ∧ (∀ y, fpS rp y → H2 y = none))
        (fun ro' mp' mn' mc' le' ta k15 np nn nc rp rn rc tp tn tc t104 t105 H' => L - t105.toNat) ?_ ⟨rfl, rfl, rfl, rfl, rfl, rfl, rfl, rfl, rfl, rfl, rfl, rfl, rfl, rfl, 0, fun _ => (0, 0, 0, 0), rfl, Nat.zero_le _, rfl, .refl, Row.nil, fun y hy => by omega, fun y h => by rw [fpS_none] at h; exact h.elim⟩
      rintro ro' mp' mn' mc' le' ta k15 np nn nc rp rn rc tp tn tc t104 t105 H3 ⟨rfl, rfl, rfl, rfl, rfl, rfl, rfl, rfl, rfl, rfl, rfl, rfl, rfl, rfl, x, f, rfl, hx, rfl, s3, rf, hf, ff⟩ Y hY
      have e13 := s3.keep _ _ e12 fun h => h
      have r13 := r12.keep s3 fun _ _ h => h
      refine compasstop_WholeMany.b3_eq ?_
      unfold compasstop_WholeMany.b3_t
      refine bc (fun hlt2 => ?_) fun hge2 => ?_
      · have hxL : x < tn := by omega
        refine r13.rdr.edge (by omega) (by omega) ?_
        rw [Int.toNat_natCast]
        refine nwst rfl rfl fun b4 H4 hb4 e4 s4 => ?_
        have s34 := s3.and s4
        have next : ∀ {H5 : Hp} {rp5 : Option Addr} {rc5 : Nat} {f5 : Nat → Edg}, Step (fun _ => False) H2 H5 → Row H5 rp5 (pk P (x + 1)).length rc5 f5 → (∀ y, y < (pk P (x + 1)).length → f5 y = el (lsF (pk P (x + 1)) y).toNat) → (∀ y, fpS rp5 y → H2 y = none) → compasstop_WholeMany.j3 ro' mp' mn' mc' le' ((tk : Int) + nn) (k : Int) np nn nc rp5 (pk P (x + 1)).length rc5 tp tn tc (tn : Int) (x : Int) X Y E H5 K := by
          intro H5 rp5 rc5 f5 s5 r5 hf5 ff5
          refine compasstop_WholeMany.j3_eq ?_
          unfold compasstop_WholeMany.j3_t
          rw [i64w (by omega) (by omega)]
          exact hY _ _ _ _ _ _ _ _ _ _ _ _ _ _ _ _ _ _ _ ⟨rfl, rfl, rfl, rfl, rfl, rfl, rfl, rfl, rfl, rfl, rfl, rfl, rfl, rfl, x + 1, f5, by omega, by omega, rfl, s5, r5, hf5, ff5⟩ (by omega)
        refine rhas (q1.keep s34 fun _ _ h => h).rdr (by omega) (fun hin => ?_) fun hin => ?_
        · refine bcb (fun h => by cases h) fun _ => ?_
          have hPx : ¬ P x = true := fun h => (hP' x).1 h hin
          have e5 : pk P (x + 1) = pk P x := by rw [pk_succ, if_neg hPx]
          have := next (rp5 := rp) (rc5 := rc) (f5 := f) s34 (by rw [e5]; exact rf.keep s4 fun _ _ h => h) (by rw [e5]; exact hf) ff
          rwa [e5] at this
        · refine bcb (fun _ => ?_) fun h => by cases h
          have hPx : P x = true := (hP' x).2 hin
          have e5 : pk P (x + 1) = pk P x ++ [x] := by rw [pk_succ, if_pos hPx]
          have hl1 : (pk P x).length + 1 = (pk P (x + 1)).length := by rw [e5]; simp
          have := hlen x
          simp only [get_at e4, List.getElem?_cons_zero, List.getElem?_cons_succ, ldI_mk, ldS_mk]
          refine Row.appW (α := Edg) (rf.keep s4 fun _ _ h => h) (el x) rfl (by omega) (by omega) fun p9 c9 H6 r9 s6 f9 => ?_
          rw [hl1] at r9 ⊢
          refine next (s34.trans s6 fun y hy => .inr (ff y hy)) r9 (fun y hy => ?_) fun y hy => (f9 y hy).elim (ff y) (s34.mono y)
          rw [e5]
          by_cases ey : y = (pk P x).length
          · rw [ey, upf_same, lsF_last, Int.toNat_natCast]
          · rw [upf_ne ey, lsF_left (by omega)]; exact hf y (by omega)
      · clear hY
        have hxL : x = tn := by omega
        subst hxL
        refine compasstop_WholeMany.j4_eq ?_
        unfold compasstop_WholeMany.j4_t
        refine stp e13 (by simp) rfl fun H5 e5 s5 => ?_
        replace e5 : H5 le' = some ⟨[.int .i64 N, .slice rp (pk P x).length rc], 24⟩ := e5
        have nrp : ¬ fpS rp le' := fun h => by have := ff _ h; rw [e12] at this; cases this
        have hri := pk_ris (P := P) (n := x)
        obtain ⟨π', T', hnx⟩ := hL.next hr hlrg (r := fun y => (lsF (pk P x) y).toNat) (L' := (pk P x).length) (el' := f) (fun y hy => by
          have h1 := hri y hy
          rw [lsF_get hy, Int.toNat_natCast]
          have hm : (pk P x)[y] ∈ pk P x := List.getElem_mem hy
          rw [pk_mem] at hm
          refine ⟨hm.1, (hP' _).1 hm.2, ?_⟩
          have := hf y hy
          rwa [lsF_get hy, Int.toNat_natCast] at this) (fun y z hy hz he => by
          have h1 := hri y hy
          have h2 := hri z hz
          have h5 : lsF (pk P x) y = lsF (pk P x) z := by
            have he' : (lsF (pk P x) y).toNat = (lsF (pk P x) z).toNat := he
            omega
          rcases Nat.lt_trichotomy y z with hl | he | hl
          · have := Ris.lt hri hl hz; omega
          · exact he
          · have := Ris.lt hri hl hy; omega) (hlen x)
        rw [i64w (by omega) (by omega)]
        refine hX _ _ _ _ _ _ _ _ ⟨rfl, rfl, rfl, rfl, rfl, k + 1, tk + nn, _, f, π', T', by omega, by omega, by omega, by omega, hnx, ⟨(s02.and s3).own s5 fun y hy => hy ▸ hR.bn, ⟨rp, rc, e5, rf.keep s5 fun y hy h => nrp (h ▸ hy), fun y hy => s02.mono y (ff y hy), nrp⟩, hR.bn⟩⟩ (by omega)
  · clear hX
    have hkr : (k : Int) = ro' := by omega
    refine compasstop_WholeMany.j5_eq ?_
    unfold compasstop_WholeMany.j5_t
    have hmk := marks_tkn (N := N) (n := n) (e := e) (b := b) (T := T) hL.nl fun v hv => by
      have := hL.deg v hv
      rw [hb v hv]; omega
    have h1 := many_bound hr hbd hgs hP hmk
    rw [pk_len] at h1
    have h2 := hL.cnt
    refine bct (by omega) ?_
    refine bcn (fun _ => kk H1 hR.st) fun h1r => ?_
    have h3 := hL.mx (by omega) g mn' ⟨hP.tk.ris, hP.tk.nl, fun v h0 h1' hz => by
      have h4 := hP.tk.mst v h0 h1' hz
      have h5 : (dg e g mn' v : Int) ≤ b v.toNat := h4
      rw [hb _ (by omega)] at h5
      show (dg e g mn' v : Int) ≤ 1
      omega⟩
    rw [decide_eq_true (by omega)]
    exact kk H1 hR.st

theorem ed1_right : Right 2 1 fun _ => (0, 1, 0, 0) := by
  refine ⟨by decide, by decide, by decide, fun i hi => ?_⟩
  constructor <;> decide

theorem ed1_tkn : Tkn 2 1 (fun _ => (0, 1, 0, 0)) (fun i => (i : Int)) 1 fun _ => 1 := by
  refine ⟨fun i hi => ?_, fun i hi => by decide, fun v h0 h1 _ => ?_⟩
  · show (0 : Int) ≤ i ∧ (i : Int) < ((1 : Nat) : Int) ∧ (0 < i → ((i - 1 : Nat) : Int) < (i : Int))
    omega
  · have : v = 0 ∨ v = 1 := by omega
    rcases this with rfl | rfl <;> decide

theorem lwhole {N ro : Int} {ep : Option Addr} {n ec : Nat} {e : Nat → Edg} {H : Hp} {K : Bool → Hp → Prop} (he : Rdr H ep n e) (hn : n < 2 ^ 43) (ha : SlAt H ep)
    (kk : ∀ H', Step (fun _ => False) H H' → K true H') : compasstop_WholeMany.call N ep n ec ro E H K := by
  refine compasstop_WholeMany.of (compasstop_WholeMany.run_eq ?_)
  unfold compasstop_WholeMany.run_t
  refine nwk fun b1 H1 hb1 e1 s1 => ?_
  refine nwk fun b2 H2 hb2 e2 s2 => ?_
  have e12 := s2.keep _ _ e1 fun h => h
  have s02 := s1.and s2
  have he2 : Rdr H2 (some ⟨b2, 0, none⟩) 1 fun _ => ((0, 1, 0, 0) : Edg) := fun i hi => ⟨b2, 0, rfl, fun j hj => by
    have hi' : i = 0 := by omega
    have hj' : j = 0 ∨ j = 1 ∨ j = 2 ∨ j = 3 := by have : El.w (Int × Int × Int × Int) = 4 := rfl; omega
    rw [get_at e2]
    subst hi'
    rcases hj' with rfl | rfl | rfl | rfl <;> rfl⟩
  refine sBlo he2 (by decide) fun H3 mp0 mn0 mc0 g0 cp0 cn0 cc0 cv0 s3 _ _ _ _ _ _ _ hF0 => ?_
  have h1 : mn0 = 1 ∧ chk 2 1 (fun _ => (0, 1, 0, 0)) = 0 := by
    rcases hF0 with ⟨h, _⟩ | ⟨hz, hr, hA⟩
    · exact (h (chk_zero.2 ed1_right)).elim
    · have hL : LrgP 2 1 (fun _ => (0, 1, 0, 0)) g0 mn0 cv0 cn0 := hA.lrg
      have h2 := barrier_bound (set := cv0) (q := cn0) ed1_right ed1_tkn
      have h3 := hL.eq
      have h4 := hL.tk.ris.len
      exact ⟨by omega, hz⟩
  rw [h1.2]
  obtain ⟨rfl, _⟩ := h1
  refine bcn (fun h => (h rfl).elim) fun _ => ?_
  refine bcn (fun h => (h rfl).elim) fun _ => ?_
  have e13 := s3.keep _ _ e12 fun h => h
  have s03 := s02.and s3
  simp only [get_at e13, List.getElem?_cons_zero, List.getElem?_cons_succ, ldI_mk, ldS_mk]
  refine bc (fun _ => kk H3 s03) fun hN0 => ?_
  try simp only [get_at e13, List.getElem?_cons_zero, List.getElem?_cons_succ, ldI_mk, ldS_mk]
  refine bc (fun _ => kk H3 s03) fun hN1 => ?_
  refine bc (fun _ => kk H3 s03) fun hr0 => ?_
  refine bc (fun _ => kk H3 s03) fun hr1 => ?_
  try simp only [get_at e13, List.getElem?_cons_zero, List.getElem?_cons_succ, ldI_mk, ldS_mk]
  obtain ⟨M, hM⟩ : ∃ M : Nat, N = M := ⟨N.toNat, by omega⟩
  subst hM
  refine Row.mkI (by omega) (by omega) fun b4 H4 hb4 r4 s4 => ?_
  have e14 := s4.keep _ _ e13 fun h => h
  have d14 : b1 ≠ b4 := fun h => by rw [h, hb4] at e13; cases e13
  rw [Int.toNat_natCast] at r4 ⊢
  have s04 := s03.and s4
  refine compasstop_WholeMany.l1_rule (fun ro' g2 op on oc t57 t58 H' => ro' = ro ∧ g2 = b1 ∧ op = some ⟨b4, 0, none⟩ ∧ on = M ∧ oc = M ∧ t57 = M ∧ ∃ (i : Nat) (f : Nat → Int), t58 = i ∧ i ≤ M ∧ Step (fun y => y = b4) H4 H' ∧ Row H' (some ⟨b4, 0, none⟩) M M f ∧ ∀ v, v < i → f v = ro)
    (fun ro' g2 op on oc t57 t58 H' => M - t58.toNat) ?_ ⟨rfl, rfl, rfl, rfl, rfl, rfl, 0, _, rfl, Nat.zero_le _, .refl, r4, fun v hv => by omega⟩
  rintro ro' g2 op on oc t57 t58 H5 ⟨rfl, rfl, rfl, rfl, rfl, rfl, i, f, rfl, hi, s5, r5, hf⟩ X hX
  have e15 := s5.keep _ _ e14 d14
  refine compasstop_WholeMany.b1_eq ?_
  unfold compasstop_WholeMany.b1_t
  refine bc (fun hlt => ?_) fun hge => ?_
  · refine r5.stI (by omega) (by omega) _ fun H6 r6 s6 => ?_
    rw [i64w (by omega) (by omega)]
    refine hX _ _ _ _ _ _ _ _ ⟨rfl, rfl, rfl, rfl, rfl, rfl, i + 1, _, by omega, by omega, s5.trans s6 fun y hy => .inl (fpS_mk.1 hy), r6, fun v hv => ?_⟩ (by omega)
    rw [Int.toNat_natCast]
    by_cases ev : v = i
    · subst ev; rw [upf_same]
    · rw [upf_ne ev]; exact hf v (by omega)
  · clear hX
    have hiM : i = oc := by omega
    subst hiM
    have s05 : Step (fun _ => False) H H5 := s04.own s5 fun y hy => hy ▸ s03.mono _ hb4
    refine compasstop_WholeMany.j1_eq ?_
    unfold compasstop_WholeMany.j1_t
    simp only [get_at e15, List.getElem?_cons_zero, List.getElem?_cons_succ, ldI_mk, ldS_mk]
    refine sMany (he.keep s05 fun _ _ _ h => h) (by omega) r5.rdr (by omega) fun H6 mp mn mc g cp cn cc cv c s6 r1 r2 f1 f2 f12 l1 l2 hF => ?_
    have e16 := s6.keep _ _ e15 fun h => h
    have s06 := s05.and s6
    rcases hF with ⟨hbad, h0, _⟩ | ⟨hc, hr, hbd, hgs, hP⟩
    · refine bcn (fun _ => ?_) fun h => (hbad.ne h).elim
      rw [decide_eq_true (by omega)]
      exact kk H6 s06
    · refine bcn (fun h => (h hc).elim) fun _ => ?_
      have hn1 := hr.n1
      simp only [get_at e16, List.getElem?_cons_zero, List.getElem?_cons_succ, ldI_mk, ldS_mk]
      refine nwk fun b7 H7 hb7 e7 s7 => ?_
      have e17 := s7.keep _ _ e16 fun h => h
      have s07 := s06.and s7
      simp only [get_at e17, List.getElem?_cons_zero, List.getElem?_cons_succ, ldI_mk, ldS_mk]
      have last : ∀ {H8 : Hp} {b8 c8 : Nat} {p8 : Option Addr}, H8 b8 = some ⟨[.int .i64 (i : Int), .slice p8 n c8], 24⟩ → Step (fun _ => False) H6 H8 → Row H8 p8 n c8 e → (∀ y, fpS p8 y → H6 y = none) → ¬ fpS p8 b8 → H6 b8 = none → compasstop_WholeMany.j2 ro' mp mn mc b8 E H8 K := by
        intro H8 b8 c8 p8 e8 s8 r8 f8 n8 hb8
        exact lwm2 hr hbd hgs hP (by omega) (by omega) (fun v hv => hf v (by omega)) (fun x _ => rfl) ⟨s8, ⟨p8, c8, e8, r8, f8, n8⟩, hb8⟩ fun H' s => kk H' (s06.and s)
      constructor
      · refine nwk fun b8 H8 hb8 e8 s8 => ?_
        have e18 := s8.keep _ _ e17 fun h => h
        have e78 := s8.keep _ _ e7 fun h => h
        have d78 : b8 ≠ b7 := fun h => by rw [h, e7] at hb8; cases hb8
        have s08 := s07.and s8
        refine Rdr.dupZ (α := Edg) (he.keep s08 fun _ _ _ h => h) (ha.keep s08) e78 rfl rfl (by omega) (by omega) fun p9 c9 H9 r9 s9 f9 => ?_
        have d17 : g2 ≠ b7 := fun h => by rw [h, hb7] at e16; cases e16
        have e19 := s9.keep _ _ e18 d17
        have e89 := s9.keep _ _ e8 d78
        simp only [get_at e19, List.getElem?_cons_zero, List.getElem?_cons_succ, ldI_mk, ldS_mk]
        refine ⟨trivial, ?_⟩
        refine stk e89 rfl rfl fun H10 e10 s10 => ?_
        have n8 : ¬ fpS p9 b8 := fun h => (f9 _ h).elim d78 fun h => by rw [e8] at h; cases h
        have hb86 : H6 b8 = none := s7.mono _ hb8
        exact last e10 (((s7.and s8).own s9 fun y hy => hy ▸ hb7).own s10 fun y hy => hy ▸ hb86) (r9.keep s10 fun y hy h => n8 (h ▸ hy)) (fun y hy => (f9 y hy).elim (fun h => h ▸ hb7) ((s7.and s8).mono y)) n8 hb86
      · refine Rdr.dupZ (α := Edg) (he.keep s07 fun _ _ _ h => h) (ha.keep s07) e7 rfl rfl (by omega) (by omega) fun p9 c9 H9 r9 s9 f9 => ?_
        have d17 : g2 ≠ b7 := fun h => by rw [h, hb7] at e16; cases e16
        have e19 := s9.keep _ _ e17 d17
        simp only [get_at e19, List.getElem?_cons_zero, List.getElem?_cons_succ, ldI_mk, ldS_mk]
        refine ⟨trivial, ?_⟩
        have s69 := s7.own s9 fun y hy => hy ▸ hb7
        refine nwst rfl rfl fun b10 H10 hb10 e10 s10 => ?_
        exact last e10 (s69.and s10) (r9.keep s10 fun _ _ h => h) (fun y hy => (f9 y hy).elim (fun h => h ▸ hb7) (s7.mono y)) (fun h => r9.live h hb10) (s69.mono _ hb10)
end
end Go.Mz

/-
  Joined: SpS, SpT, SfI, SpK, SpB, SpR, SpF, SpN.
-/
import Derived.Test.YthcehonpfnmpiaaGreatPkU
import Derived.Test.YthcehonpfnmpiaaGreatPkM
import Derived.Test.YthcehonpfnmpiaaGreatGCmp
import Derived.Test.YthcehonpfnmpiaaGreatGSpa
import Derived.Test.YthcehonpfnmpiaaGreatMzW
import Derived.Test.YthcehonpfnmpiaaGreatShp
import Derived.Test.YthcehonpfnmpiaaGreatPkP
import Derived.Test.YthcehonpfnmpiaaGreatSoI
import Derived.Test.YthcehonpfnmpiaaGreatPkG
set_option linter.unusedSimpArgs false
set_option linter.unusedVariables false
/-
  Walks of layer 10: comparing, the joiner that joins the ends of edges and keeps those that joined something.
-/
namespace Go.Mz

/-- how two numbers compare -/
def cmpI (x y : Int) : Int := if x < y then -1 else if y < x then 1 else 0

/-- how two edges compare -/
def ahC (e : Nat → Edg) (a b : Nat) : Int := if cmpI (e a).co (e b).co = 0 then cmpI (a : Int) (b : Int) else cmpI (e a).co (e b).co

theorem cmpI_lt {x y : Int} (h : x < y) : cmpI x y = -1 := if_pos h
theorem cmpI_gt {x y : Int} (h : y < x) : cmpI x y = 1 := by unfold cmpI; rw [if_neg (by omega), if_pos h]
theorem cmpI_eq {x : Int} : cmpI x x = 0 := by unfold cmpI; rw [if_neg (by omega), if_neg (by omega)]
theorem cmpI_neg {x y : Int} : cmpI x y < 0 ↔ x < y := by
  rcases Int.lt_trichotomy x y with h | h | h
  · rw [cmpI_lt h]; omega
  · subst h; rw [cmpI_eq]; omega
  · rw [cmpI_gt h]; omega

theorem ahC_neg {e : Nat → Edg} {a b : Nat} : ahC e a b < 0 ↔ ahd e a b := by
  unfold ahC ahd
  rcases Int.lt_trichotomy (e a).co (e b).co with h | h | h
  · rw [cmpI_lt h, if_neg (by omega)]; omega
  · rw [h, cmpI_eq, if_pos rfl, cmpI_neg]; omega
  · rw [cmpI_gt h, if_neg (by omega)]; omega

section
variable {E : Value → Hp → Prop}

theorem RightE.nt {N : Int} {x : Edg} (h : RightE N x) : ∃ u v : Nat, x.fr = u ∧ x.to = v ∧ u < N.toNat ∧ v < N.toNat :=
  ⟨x.fr.toNat, x.to.toNat, by have := h.f0; omega, by have := h.t0; omega, by have := h.f0; have := h.f1; omega, by have := h.t0; have := h.t1; omega⟩

theorem cnan {x : Int} {H : Hp} {K : Bool → Hp → Prop} (k : K false H) : cmp_isNaN.call x E H K := by
  refine cmp_isNaN.of (cmp_isNaN.run_eq ?_)
  unfold cmp_isNaN.run_t
  simpa using k

theorem cnanI {x : Int} {H : Hp} {K : Bool → Hp → Prop} (k : K false H) : cmp_isNaN_int.call x E H K := by
  refine cmp_isNaN_int.of (cmp_isNaN_int.run_eq ?_)
  unfold cmp_isNaN_int.run_t
  simpa using k

theorem ccmp {x y : Int} {H : Hp} {K : Int → Hp → Prop} (k : K (cmpI x y) H) : cmp_Compare.call x y E H K := by
  refine cmp_Compare.of (cmp_Compare.run_eq ?_)
  unfold cmp_Compare.run_t
  refine cnan (cnan ?_)
  refine bcb (fun h => by cases h) fun _ => ?_
  refine bcb (fun h => by cases h) fun _ => ?_
  unfold cmpI at k
  refine bc (fun h => ?_) fun h => ?_
  · rwa [if_pos h] at k
  · rw [if_neg h] at k
    refine bc (fun h => ?_) fun h => ?_
    · rwa [if_pos h] at k
    · rwa [if_neg h] at k

theorem ccmpI {x y : Int} {H : Hp} {K : Int → Hp → Prop} (k : K (cmpI x y) H) : cmp_Compare_int.call x y E H K := by
  refine cmp_Compare_int.of (cmp_Compare_int.run_eq ?_)
  unfold cmp_Compare_int.run_t
  refine cnanI (cnanI ?_)
  refine bcb (fun h => by cases h) fun _ => ?_
  refine bcb (fun h => by cases h) fun _ => ?_
  unfold cmpI at k
  refine bc (fun h => ?_) fun h => ?_
  · rwa [if_pos h] at k
  · rw [if_neg h] at k
    refine bc (fun h => ?_) fun h => ?_
    · rwa [if_pos h] at k
    · rwa [if_neg h] at k

theorem cor2 {p : Option Addr} {c : Nat} {f : Nat → Int} {H : Hp} {K : Int → Hp → Prop} (hf : Rdr H p 2 f) (k : K (if f 0 = 0 then f 1 else f 0) H) : cmp_Or.call p 2 c E H K := by
  refine cmp_Or.of (cmp_Or.run_eq ?_)
  unfold cmp_Or.run_t
  refine cmp_Or.l1_rule (fun z q m d t i H' => z = 0 ∧ q = p ∧ m = 2 ∧ t = 2 ∧ H' = H ∧ ∃ j : Nat, i = j ∧ j ≤ 2 ∧ (0 < j → f 0 = 0) ∧ (1 < j → f 1 = 0)) (fun z q m d t i H' => 2 - i.toNat) ?_ ⟨rfl, rfl, rfl, rfl, rfl, 0, rfl, by omega, fun h => by omega, fun h => by omega⟩
  rintro z q m d t i H' ⟨rfl, rfl, rfl, rfl, rfl, j, rfl, hj, h0, h1⟩ X hX
  refine cmp_Or.b1_eq ?_
  unfold cmp_Or.b1_t
  refine bc (fun hlt => ?_) fun hge => ?_
  · refine hf.ixI (by omega) (by omega) ?_
    simp only [Int.toNat_natCast]
    have hjj : j = 0 ∨ j = 1 := by omega
    refine bcn (fun hn => ?_) fun hz => ?_
    · rcases hjj with rfl | rfl
      · rwa [if_neg hn] at k
      · rwa [if_pos (h0 (by omega))] at k
    · rw [i64w (by omega) (by omega)]
      refine hX _ _ _ _ _ _ _ ⟨rfl, rfl, rfl, rfl, rfl, j + 1, by omega, by omega, fun _ => ?_, fun _ => ?_⟩ (by omega)
      · rcases hjj with rfl | rfl
        · exact hz
        · exact h0 (by omega)
      · rcases hjj with rfl | rfl
        · omega
        · exact hz
  · have e0 := h0 (by omega)
    have e1 := h1 (by omega)
    rw [if_pos e0, e1] at k
    exact k

theorem row2 {H : Hp} {b : Nat} {x y : Int} {t : BT} (e : H b = some ⟨[.int .i64 x, .int .i64 y], t⟩) : Rdr H (some ⟨b, 0, none⟩) 2 (fun i => if i = 0 then x else y) := by
  intro i hi
  refine ⟨b, 0, rfl, fun j hj => ?_⟩
  have hw : El.w Int = 1 := rfl
  rw [hw] at hj ⊢
  have : j = 0 := by omega
  subst this
  rw [get_at e]
  rcases (by omega : i = 0 ∨ i = 1) with rfl | rfl
  · rfl
  · rfl

theorem sahead {N : Int} {ep : Option Addr} {n ec a b : Nat} {e : Nat → Edg} {H : Hp} {K : Int → Hp → Prop} (he : Rdr H ep n e) (ha : a < n) (hb : b < n)
    (k : ∀ H', Step (fun _ => False) H H' → K (ahC e a b) H') : span_ahead.call N ep n ec (a : Int) (b : Int) E H K := by
  refine span_ahead.of (span_ahead.run_eq ?_)
  unfold span_ahead.run_t
  refine nwk fun b1 H1 hb1 e1 s1 => ?_
  simp only [get_at e1, List.getElem?_cons_zero, List.getElem?_cons_succ, ldI_mk, ldS_mk]
  have he1 := he.keep s1 fun _ _ _ h => h
  refine he1.edgeC (by omega) (by omega) ?_
  refine he1.edgeC (by omega) (by omega) ?_
  simp only [Int.toNat_natCast]
  refine ccmp (ccmpI ?_)
  refine nwk fun b2 H2 hb2 e2 s2 => ?_
  refine cor2 (row2 e2) ?_
  exact k H2 (s1.and s2)

/-! ### The joiner -/

structure JoM (H : Hp) (j s bp bz bl : Nat) (lp : Option Addr) (lc : Nat) (t : BT) (siz : Nat → Int) (σ : USt) (N : Int) (ep : Option Addr) (n ec : Nat) (tp : Option Addr) (tc : Nat) (took : List Nat) (F : Nat → Prop) : Prop where
  cell : H j = some ⟨[.pointer (some ⟨s, 0, none⟩), .int .i64 N, .slice ep n ec, .slice tp took.length tc], 61⟩
  us : USets H s bp bz bl lp lc t siz σ
  row : Row H tp took.length tc (lsF took)
  dj : ¬ UFp s bp bz bl lp j
  dt : ∀ y, fpS tp y → ¬ UFp s bp bz bl lp y
  dtj : ¬ fpS tp j
  fp : ∀ y, F y ↔ y = j ∨ UFp s bp bz bl lp y ∨ fpS tp y

/-- a joiner: its sets, what it took -/
def Jo (H : Hp) (j : Nat) (N : Int) (ep : Option Addr) (n ec : Nat) (σ : USt) (took : List Nat) (F : Nat → Prop) : Prop := ∃ s bp bz bl lp lc t siz tp tc, JoM H j s bp bz bl lp lc t siz σ N ep n ec tp tc took F

section
variable {N : Int} {ep : Option Addr} {n ec j : Nat} {σ : USt} {took : List Nat} {F : Nat → Prop} {H : Hp}

theorem Jo.keep {H' : Hp} {G : Nat → Prop} (h : Jo H j N ep n ec σ took F) (s : Step G H H') (hG : ∀ y, F y → ¬ G y) : Jo H' j N ep n ec σ took F := by
  obtain ⟨s0, bp, bz, bl, lp, lc, t, siz, tp, tc, m⟩ := h
  exact ⟨s0, bp, bz, bl, lp, lc, t, siz, tp, tc, s.keep _ _ m.cell (hG _ ((m.fp _).2 (.inl rfl))), m.us.keep s fun y hy => hG y ((m.fp y).2 (.inr (.inl hy))), m.row.keep s fun y hy => hG y ((m.fp y).2 (.inr (.inr hy))), m.dj, m.dt, m.dtj, m.fp⟩

theorem Jo.live (h : Jo H j N ep n ec σ took F) : ∀ y, F y → H y ≠ none := by
  obtain ⟨s0, bp, bz, bl, lp, lc, t, siz, tp, tc, m⟩ := h
  intro y hy
  rcases (m.fp y).1 hy with rfl | h | h
  · rw [m.cell]; exact fun h => by cases h
  · exact m.us.live h
  · exact m.row.live h

/-- a node's name -/
theorem Jo.find {v : Nat} {K : Int → Int → Hp → Prop} (h : Jo H j N ep n ec σ took F) (hu : UHist σ) (hv : v < σ.n) (k : K (σ.nm v : Int) 0 H) :
    nn (some ⟨j, 0, none⟩) fun b o => ldP (H.get b o) fun x => unions_Sets_Find.call x (v : Int) E H K := by
  obtain ⟨s0, bp, bz, bl, lp, lc, t, siz, tp, tc, m⟩ := h
  simp only [nn_mk, get_at m.cell, List.getElem?_cons_zero, List.getElem?_cons_succ, ldI_mk, ldS_mk, ldP_mk]
  refine ufind m.us hu.ok (fun _ _ r hr hrn => ?_) (fun h => (h ⟨by omega, by omega⟩).elim)
  rw [Int.toNat_natCast] at hr
  have : σ.nm v = σ.lst r := by unfold USt.nm; rw [hr.of]
  rwa [this] at k

theorem snewJ {K : Option Addr → Hp → Prop} (hN0 : 0 ≤ N) (hN1 : N ≤ 1024) (k : ∀ H' j F, Step (fun _ => False) H H' → Jo H' j N ep n ec (USt.init N.toNat) [] F → (∀ y, F y → H y = none) → K (some ⟨j, 0, none⟩) H') : span_newJoiner.call N ep n ec E H K := by
  refine span_newJoiner.of (span_newJoiner.run_eq ?_)
  unfold span_newJoiner.run_t
  refine nwk fun b1 H1 hb1 e1 s1 => ?_
  simp only [get_at e1, List.getElem?_cons_zero, List.getElem?_cons_succ, ldI_mk, ldS_mk]
  refine unew (fun h => (h ⟨hN0, hN1⟩).elim) fun _ _ H2 s bp bz bl t siz u2 s2 f2 => ?_
  have e12 := s2.keep _ _ e1 fun h => h
  simp only [get_at e12, List.getElem?_cons_zero, List.getElem?_cons_succ, ldI_mk, ldS_mk]
  refine nwk fun j H3 hj e3 s3 => ?_
  have dj : ¬ UFp s bp bz bl none j := fun h => u2.live h hj
  refine k H3 j (fun y => y = j ∨ UFp s bp bz bl none y ∨ fpS none y) ((s1.and s2).and s3) ⟨s, bp, bz, bl, none, 0, t, siz, none, 0, e3, u2.keep s3 fun _ _ h => h, Row.nil, dj, fun y h => by rw [fpS_none] at h; exact h.elim, fun h => by rw [fpS_none] at h; exact h.elim, fun y => Iff.rfl⟩ fun y hy => ?_
  rcases hy with rfl | hy | hy
  · exact (s1.and s2).mono _ hj
  · exact s1.mono _ (f2 y hy)
  · rw [fpS_none] at hy; exact hy.elim

open Classical in
theorem stake {i : Nat} {e : Nat → Edg} {R : Nat → Nat → Prop} {K : Bool → Hp → Prop} (h : Jo H j N ep n ec σ took F) (he : Rdr H ep n e) (hr : Right N n e) (hi : i < n) (hR : Rep σ R) (hn : σ.n = N.toNat) (hk : σ.k ≤ 1048576) (hl : took.length ≤ 1048576)
    (k : ∀ H' σ' F' tk, Jo H' j N ep n ec σ' tk F' → Rep σ' (fun x y => R x y ∨ (x = (ePr e i).1 ∧ y = (ePr e i).2)) → σ'.n = N.toNat → Step F H H' → (∀ y, F' y → F y ∨ H y = none) → tk = (if Cn R (ePr e i).1 (ePr e i).2 then took else took ++ [i]) → (σ'.k = σ.k + if Cn R (ePr e i).1 (ePr e i).2 then 0 else 1) → K (!decide (Cn R (ePr e i).1 (ePr e i).2)) H') :
    span_joiner_take.call (some ⟨j, 0, none⟩) (i : Int) E H K := by
  obtain ⟨s0, bp, bz, bl, lp, lc, t, siz, tp, tc, m⟩ := h
  have hx := hr.ed i hi
  have hf0 := hx.f0; have hf1 := hx.f1; have ht0 := hx.t0; have ht1 := hx.t1
  have hN0 := hr.N0; have hN1 := hr.N1
  refine span_joiner_take.of (span_joiner_take.run_eq ?_)
  unfold span_joiner_take.run_t
  simp only [nn_mk, get_at m.cell, List.getElem?_cons_zero, List.getElem?_cons_succ, ldI_mk, ldS_mk, ldP_mk, Nat.zero_add]
  refine he.edgeF (by omega) (by omega) ?_
  refine he.edgeT (by omega) (by omega) ?_
  simp only [Int.toNat_natCast]
  have eu : (ePr e i).1 = (e i).fr.toNat := rfl
  have ev : (ePr e i).2 = (e i).to.toNat := rfl
  have hun : (ePr e i).1 < σ.n := by omega
  have hvn : (ePr e i).2 < σ.n := by omega
  refine ujoin m.us hR.hist.ok hk (fun hb => (hb ⟨⟨by omega, by omega⟩, by omega, by omega⟩).elim) (fun _ _ _ _ r h1 h2 => ?_) fun _ _ _ _ a b hab han hbn hor H1 lp' lc' siz' u1 s1 f1 => ?_
  · have e1 : rtOf σ.par (ePr e i).1 = r := h1.of
    have e2 : rtOf σ.par (ePr e i).2 = r := h2.of
    have hc : Cn R (ePr e i).1 (ePr e i).2 := (hR.rep _ _ hun hvn).1 (e1.trans e2.symm)
    refine bcb (fun h => by cases h) fun _ => ?_
    have := k H σ F took ⟨s0, bp, bz, bl, lp, lc, t, siz, tp, tc, m⟩ (hR.same hun hvn (e1.trans e2.symm)) hn .refl (fun y hy => .inl hy) (by rw [if_pos hc]) (by rw [if_pos hc, Nat.add_zero])
    rw [decide_eq_true hc] at this
    exact this
  · have hor' : rtOf σ.par (ePr e i).1 = a ∧ rtOf σ.par (ePr e i).2 = b ∨ rtOf σ.par (ePr e i).1 = b ∧ rtOf σ.par (ePr e i).2 = a := hor.imp (fun h => ⟨h.1.of, h.2.of⟩) fun h => ⟨h.1.of, h.2.of⟩
    have ra : σ.par a = a := by rcases hor with h | h; exact h.1.fix; exact h.2.fix
    have rb : σ.par b = b := by rcases hor with h | h; exact h.2.fix; exact h.1.fix
    have hc : ¬ Cn R (ePr e i).1 (ePr e i).2 := fun c => by
      have := (hR.rep _ _ hun hvn).2 c
      rcases hor' with ⟨q1, q2⟩ | ⟨q1, q2⟩
      · exact hab (by rw [← q1, ← q2, this])
      · exact hab (by rw [← q1, ← q2, this])
    have s1' : Step F H H1 := s1.weak fun y hy => .inl ((m.fp y).2 (.inr (.inl hy)))
    have c1 := s1.keep _ _ m.cell m.dj
    have r1 := m.row.keep s1 m.dt
    refine bcb (fun _ => ?_) fun h => by cases h
    simp only [nn_mk, get_at c1, List.getElem?_cons_zero, List.getElem?_cons_succ, ldI_mk, ldS_mk, ldP_mk, Nat.zero_add]
    have new1 : ∀ y, UFp s0 bp bz bl lp' y → UFp s0 bp bz bl lp y ∨ H y = none := fun y hy => by
      rcases hy with h | h | h | h | h
      · exact .inl (.inl h)
      · exact .inl (.inr (.inl h))
      · exact .inl (.inr (.inr (.inl h)))
      · exact .inl (.inr (.inr (.inr (.inl h))))
      · exact (f1 y h).imp (fun h => .inr (.inr (.inr (.inr h)))) id
    have lj : H j ≠ none := by rw [m.cell]; exact fun h => by cases h
    refine r1.appI _ hl fun tp' tc' H2 r2 s2 f2 => ?_
    have dt1 : ∀ y, fpS tp y → ¬ UFp s0 bp bz bl lp' y := fun y hy h => (new1 y h).elim (m.dt y hy) (m.row.live hy)
    have u2 := u1.keep s2 fun y hy h => dt1 y h hy
    have c2 := s2.keep _ _ c1 m.dtj
    have dt2 : ∀ y, fpS tp' y → ¬ UFp s0 bp bz bl lp' y := fun y hy h => (f2 y hy).elim (fun h' => dt1 y h' h) fun h' => u1.live h h'
    have dtj2 : ¬ fpS tp' j := fun h => (f2 _ h).elim m.dtj fun h' => by rw [c1] at h'; cases h'
    refine stp c2 (by simp) rfl fun H3 e3 s3 => ?_
    replace e3 : H3 j = some ⟨[.pointer (some ⟨s0, 0, none⟩), .int .i64 N, .slice ep n ec, .slice tp' (took.length + 1) tc'], 61⟩ := e3
    have dj1 : ¬ UFp s0 bp bz bl lp' j := fun h => (new1 _ h).elim m.dj lj
    have u3 := u2.keep s3 fun y hy h => dj1 (h ▸ hy)
    have r3 := r2.keep s3 fun y hy h => dtj2 (h ▸ hy)
    have s13 : Step F H H3 := (s1'.trans s2 fun y hy => .inl ((m.fp y).2 (.inr (.inr hy)))).trans s3 fun y hy => .inl ((m.fp y).2 (.inl hy))
    rw [lsF_app] at r3
    have := k H3 (σ.join a b) (fun y => y = j ∨ UFp s0 bp bz bl lp' y ∨ fpS tp' y) (took ++ [i]) ⟨s0, bp, bz, bl, lp', lc', t, siz', tp', tc', by rw [List.length_append]; exact e3, u3, by rw [List.length_append]; exact r3, dj1, dt2, dtj2, fun y => Iff.rfl⟩ (hR.join hun hvn hab han hbn hor' ra rb) hn s13 (fun y hy => ?_) (by rw [if_neg hc]) (by rw [if_neg hc]; rfl)
    · rw [decide_eq_false hc] at this
      exact this
    · rcases hy with h | h | h
      · exact .inl ((m.fp y).2 (.inl h))
      · exact (new1 y h).imp (fun h => (m.fp y).2 (.inr (.inl h))) id
      · exact (f2 y h).imp (fun h => (m.fp y).2 (.inr (.inr h))) fun h => s1'.mono y h
end
end
end Go.Mz

/-
  The forest as a list, the order of edges as a list; what a joiner took.
-/
namespace Go.Mz

/-- what was taken is the forest -/
def TkF (e : Nat → Edg) (n : Nat) (took : List Nat) : Prop := took.Nodup ∧ ∀ k, k ∈ took ↔ InF e n k

theorem nodup_len : ∀ (m : Nat) (l : List Nat), l.Nodup → (∀ x ∈ l, x < m) → l.length ≤ m := by
  intro m
  induction m with
  | zero =>
    intro l _ hl
    cases l with
    | nil => simp
    | cons a l => have := hl a (by simp); omega
  | succ m ih =>
    intro l hn hl
    have h2 := ih (l.erase m) (hn.erase m) fun x hx => by
      have h3 := hl x (List.mem_of_mem_erase hx)
      have h4 : x ≠ m := fun e => by subst e; exact (List.Nodup.not_mem_erase hn) hx
      omega
    by_cases hm : m ∈ l
    · rw [List.length_erase_of_mem hm] at h2; omega
    · rw [List.erase_of_not_mem hm] at h2; omega

theorem TkF.len {e : Nat → Edg} {n : Nat} {took : List Nat} (h : TkF e n took) : took.length ≤ n :=
  nodup_len n took h.1 fun x hx => ((h.2 x).1 hx).1

/-! ### The order, as a list -/

structure Srt (e : Nat → Edg) (n : Nat) (rs : List Nat) : Prop where
  perm : rs.Perm (List.range n)
  pw : rs.Pairwise (ahd e)

section
variable {e : Nat → Edg} {n : Nat} {rs : List Nat}

theorem Srt.mk' (h : rs.Perm (List.range n)) (k : rs.Pairwise fun a b => ¬ ahd e b a) : Srt e n rs := by
  refine ⟨h, ?_⟩
  have hn : rs.Nodup := (h.nodup_iff).2 List.nodup_range
  exact (k.and hn).imp fun {a b} h => (ahd_tot h.2).resolve_right h.1

theorem Srt.len (h : Srt e n rs) : rs.length = n := by rw [h.perm.length_eq]; simp
theorem Srt.mem (h : Srt e n rs) {k : Nat} : k ∈ rs ↔ k < n := by rw [h.perm.mem_iff]; simp
theorem Srt.nodup (h : Srt e n rs) : rs.Nodup := (h.perm.nodup_iff).2 List.nodup_range

theorem Srt.ahead (h : Srt e n rs) {i k : Nat} (hk : rs[i]? = some k) {t : Nat} : t ∈ rs.take i ↔ t < n ∧ ahd e t k := by
  obtain ⟨hi, ek⟩ := List.getElem?_eq_some_iff.1 hk
  have pw := List.pairwise_iff_getElem.1 h.pw
  constructor
  · intro ht
    obtain ⟨j, hj, et⟩ := List.mem_take_iff_getElem.1 ht
    have hj' : j < rs.length ∧ j < i := by omega
    refine ⟨h.mem.1 (et ▸ List.getElem_mem _), ?_⟩
    rw [← et, ← ek]
    exact pw j i hj'.1 hi hj'.2
  · rintro ⟨ht, ha⟩
    obtain ⟨j, hj, et⟩ := List.mem_iff_getElem.1 (h.mem.2 ht)
    refine List.mem_take_iff_getElem.2 ⟨j, ?_, et⟩
    rcases Nat.lt_trichotomy j i with h1 | h1 | h1
    · omega
    · subst h1; rw [← et, ek] at ha; exact (ahd_irr ha).elim
    · have := pw i j hi hj h1
      rw [ek, et] at this
      exact (ahd_asymm ha this).elim

theorem Srt.inF (h : Srt e n rs) {i k : Nat} (hk : rs[i]? = some k) : InF e n k ↔ ¬ Cn (Sel (ePr e) n (fun t => t ∈ rs.take i)) (ePr e k).1 (ePr e k).2 := by
  have hkn : k < n := h.mem.1 (List.mem_of_getElem? hk)
  refine ⟨fun hf c => hf.2 (Sel.mono (fun t ht hm => ((h.ahead hk).1 hm).2) c), fun hc => ⟨hkn, fun c => hc (Sel.mono (fun t ht ha => (h.ahead hk).2 ⟨ht, ha⟩) c)⟩⟩

theorem sel_snoc {pr : Nat → Nat × Nat} {i k : Nat} (hk : rs[i]? = some k) (hkn : k < n) (x y : Nat) : Sel pr n (fun t => t ∈ rs.take (i + 1)) x y ↔ (Sel pr n (fun t => t ∈ rs.take i) x y ∨ (x = (pr k).1 ∧ y = (pr k).2)) := by
  have e1 : rs.take (i + 1) = rs.take i ++ [k] := by rw [List.take_add_one, hk]; rfl
  constructor
  · rintro ⟨t, ht, hm, h1, h2⟩
    rw [e1, List.mem_append, List.mem_singleton] at hm
    rcases hm with hm | rfl
    · exact .inl ⟨t, ht, hm, h1, h2⟩
    · exact .inr ⟨h1, h2⟩
  · rintro (⟨t, ht, hm, h1, h2⟩ | ⟨h1, h2⟩)
    · exact ⟨t, ht, by rw [e1]; exact List.mem_append_left _ hm, h1, h2⟩
    · exact ⟨k, hkn, by rw [e1]; simp, h1, h2⟩
end

theorem ldR_int {r : Value} {K : Value → Prop} (h : ldR (.one false [.i .i64]) r K) : ∃ n, r = .int .i64 n ∧ K (.int .i64 n) := by
  have h' := ldR_spec h
  simp only [ldR, ldT] at h
  cases r <;> simp [ldL, ld, ldI] at h
  rename_i k n
  cases k <;> first | exact ⟨_, rfl, h'⟩ | (simp at h)

section
variable {E : Value → Hp → Prop}

theorem Jo.took {H : Hp} {j : Nat} {N : Int} {ep : Option Addr} {n ec : Nat} {σ : USt} {tk : List Nat} {F : Nat → Prop} {K : Option Addr → Nat → Nat → Hp → Prop} (h : Jo H j N ep n ec σ tk F)
    (k : ∀ tp tc, Row H tp tk.length tc (lsF tk) → (∀ y, fpS tp y → F y) → K tp tk.length tc H) : nn (some ⟨j, 0, none⟩) fun b o => ldS (H.get b (o + 3)) fun p n c => K p n c H := by
  obtain ⟨s0, bp, bz, bl, lp, lc, t, siz, tp, tc, m⟩ := h
  simp only [nn_mk, get_at m.cell, List.getElem?_cons_zero, List.getElem?_cons_succ, ldI_mk, ldS_mk, Nat.zero_add]
  exact k tp tc m.row fun y hy => (m.fp y).2 (.inr (.inr hy))
end
end Go.Mz

/-
  slices.SortFunc over numbers of edges, by the order of edges, from the kit's contract to plain heaps.
-/
namespace Go.Mz
open Go.RowKit

theorem hp_rowG {α : Type} [Inhabited α] {enc : α → Value} {w : World} {b o : Nat} {x : Blk} {d : Array α} (hx : hp w b = some x) :
    hp (Sort.putRow enc w b o d) = (hp w).upd b ⟨(Sort.putCells enc o d x.cells.toArray).toList, x.ty⟩ := by
  have ho := hp_obj hx
  funext b'
  by_cases e : b' = b
  · subst e
    simp [hp, Sort.putRow, Sort.mapBlock, Array.getElem?_modify, ho, Sort.onCells, vis, Hp.upd]
  · have e' : ¬ b = b' := fun h => e h.symm
    simp [hp, Sort.putRow, Sort.mapBlock, Array.getElem?_modify, e, e', Hp.upd]

theorem hp_growG {w : World} {os : Array Obj} {b : Nat} (hb : b < w.heap.size) : hp (Sort.grow w os) b = hp w b := by
  simp [hp, Sort.grow, Array.getElem?_append, hb]

theorem sizeG {α : Type} [Inhabited α] (enc : α → Value) (w : World) (b o : Nat) (d : Array α) : (Sort.putRow enc w b o d).heap.size = w.heap.size := by
  simp [Sort.putRow, Sort.mapBlock]

/-- what a sort's world holds -/
theorem sortWorld_hp {α : Type} [Inhabited α] {enc : α → Value} {w : World} {b o m : Nat} {x : Blk} {d : Array α} {os : Array Obj} (hx : hp w b = some x) :
    (∀ b', b' < w.heap.size → hp (Proofs.sortWorld enc w b o m d os) b' = ((hp w).upd b ⟨(Sort.putCells enc o d x.cells.toArray).toList, x.ty⟩) b') ∧
    Step (fpS (some ⟨b, o, none⟩)) (hp w) (hp (Proofs.sortWorld enc w b o m d os)) ∧ Rest w (Proofs.sortWorld enc w b o m d os) := by
  have hx1 : hp (Sort.ahead w m) b = some x := hx
  have hP := hp_rowG (enc := enc) (o := o) (d := d) hx1
  have hs1 : (Sort.putRow enc (Sort.ahead w m) b o d).heap.size = w.heap.size := sizeG _ _ _ _ _
  have hat : ∀ b', b' < w.heap.size → hp (Proofs.sortWorld enc w b o m d os) b' = ((hp w).upd b ⟨(Sort.putCells enc o d x.cells.toArray).toList, x.ty⟩) b' := fun b' hb' => by
    unfold Proofs.sortWorld
    rw [hp_growG (by rw [hs1]; exact hb'), hP]; rfl
  have hst : Step (fpS (some ⟨b, o, none⟩)) (hp w) (hp (Proofs.sortWorld enc w b o m d os)) := by
    refine ⟨fun b' y hy hf => ?_, fun b' hn' => ?_⟩
    · rw [hat b' (hp_lt hy)]
      have : b' ≠ b := fun e => hf (by rw [fpS_mk]; exact e)
      rw [upd_ne this]; exact hy
    · cases hy : hp w b' with
      | none => rfl
      | some y =>
        rw [hat b' (hp_lt hy)] at hn'
        by_cases e : b' = b
        · subst e; rw [upd_same] at hn'; cases hn'
        · rw [upd_ne e, hy] at hn'; cases hn'
  refine ⟨hat, hst, rfl, rfl, rfl, ?_, fun b' hb' hh => ?_, fun b' hh h' => hh (hst.mono b' h'), by show w.drawn ≤ w.drawn + m; omega⟩
  · show w.heap.size ≤ (Sort.grow (Sort.putRow enc (Sort.ahead w m) b o d) os).heap.size
    simp [Sort.grow, hs1]
  · have hne : b ≠ b' := fun e => by subst e; rw [hx] at hh; cases hh
    have h1 : b' < (Sort.putRow enc (Sort.ahead w m) b o d).heap.size := by rw [hs1]; exact hb'
    simp only [Proofs.sortWorld, Sort.grow, Array.getElem?_append, h1, if_true]
    simp [Sort.putRow, Sort.mapBlock, Array.getElem?_modify, hne, Sort.ahead]

/-- a run that leaves all as it was has but drawn, and laid new blocks -/
theorem grow_of_rest {w w' : World} (r : Rest w w') (s : Step (fun _ => False) (hp w) (hp w')) : ∃ q os', w' = Sort.grow (w.drewN q) os' := by
  refine ⟨w'.drawn - w.drawn, w'.heap.extract w.heap.size w'.heap.size, ?_⟩
  have hd := r.dr
  have hh : w'.heap = w.heap ++ w'.heap.extract w.heap.size w'.heap.size := by
    apply Array.ext_getElem?
    intro k
    rw [Array.getElem?_append]
    split
    · rename_i hk
      cases h : hp w k with
      | none => exact r.hid k hk h
      | some x => exact hp_same h (s.keep k x h fun h => h)
    · rename_i hk
      rw [Array.getElem?_extract]
      have := r.size
      split
      · congr 1; omega
      · rw [Array.getElem?_eq_none (by omega)]
  have e1 := r.os; have e2 := r.tape; have e3 := r.output
  cases w with
  | mk hp1 tp1 dr1 os1 ou1 =>
    cases w' with
    | mk hp2 tp2 dr2 os2 ou2 =>
      simp only at hh e1 e2 e3 hd
      subst e1 e2 e3
      simp only [Sort.grow, World.drewN]
      rw [← hh]
      congr 1
      omega

section
variable {E : Value → Hp → Prop}

theorem sortF {p : Option Addr} {M c : Nat} {e : Nat → Edg} {ls : List Nat} {H : Hp} {K : Hp → Prop} {g : Nat} {cb : List Value} (h : Row H p ls.length c (lsF ls)) (hm : ∀ x ∈ ls, x < M) (hn : ls.length < 4611686018427387904)
    (eg : ∀ args w, (callFunc g args).run P0 w = .ok (.enter g args) w)
    (hcl : ∀ H' (a b : Nat), Step (fpS p) H H' → a < M → b < M → callW P0 g ([.int .i64 a, .int .i64 b] ++ cb) (fun r H'' => r = .int .i64 (ahC e a b) ∧ Step (fun _ => False) H' H'') (fun _ _ => False) H')
    (k : ∀ H' rs, Row H' p rs.length c (lsF rs) → Step (fpS p) H H' → rs.Perm ls → rs.Pairwise (fun a b => ¬ ahd e b a) → K H') : slices_SortFunc.call p ls.length c g cb E H K := by
  unfold slices_SortFunc.call
  intro w hw
  subst hw
  by_cases h0 : ls = []
  · subst h0
    refine (show Calls P0 23 #[.slice p 0 c, .func (.func g) #[] ⟨cb⟩] w _ from Proofs.AnyF.slices_SortFunc_none { Proofs.Tryz.laysF6 with } p c _ w).mono ?_
    rintro x w' ⟨rfl, rfl⟩
    exact ⟨Rest.refl w', k _ [] h .refl (List.Perm.refl _) List.Pairwise.nil⟩
  rcases h.cells with ⟨rfl, hc⟩ | ⟨b, o, x, rfl, hx, ⟨hl, hz⟩, ha⟩
  · have : ls.length = 0 := by have := h.le; omega
    exact (h0 (List.length_eq_zero_iff.1 this)).elim
  obtain ⟨M, rfl⟩ : ∃ M', M = M' + 1 := ⟨M - 1, by
    obtain ⟨y, ys, rfl⟩ := List.exists_cons_of_ne_nil h0
    have := hm y (by simp)
    omega⟩
  have hw1 : El.w Int = 1 := rfl
  rw [hw1] at hl
  have hle := h.le
  obtain ⟨n, hn'⟩ : ∃ n, n = ls.length := ⟨_, rfl⟩
  rw [← hn'] at hle hn ha
  have hcell : ∀ j, j < n → x.cells[o + j]? = some (.int .i64 (lsF ls j)) := fun j hj => by
    have := ha j hj 0 (by decide)
    rw [hw1, Nat.mul_one, Nat.add_zero] at this
    exact this
  obtain ⟨zs, hzs⟩ : ∃ zs : List (_root_.Fin (M + 1)), zs = ls.map (_root_.Fin.ofNat (M + 1)) := ⟨_, rfl⟩
  obtain ⟨enc, henc⟩ : ∃ enc : _root_.Fin (M + 1) → Value, enc = fun x => .int .i64 (x.val : Int) := ⟨_, rfl⟩
  obtain ⟨cf, hcf⟩ : ∃ cf : _root_.Fin (M + 1) → _root_.Fin (M + 1) → Int, cf = fun x y => ahC e x.val y.val := ⟨_, rfl⟩
  have hlen : zs.length = n := by rw [hzs]; simp [hn']
  have hval : ∀ j (hj : j < zs.length), ((zs[j].val : Nat) : Int) = lsF ls j := fun j hj => by
    have hj' : j < ls.length := by omega
    have := hm ls[j] (List.getElem_mem hj')
    simp only [hzs, List.getElem_map, lsF, List.getElem?_eq_getElem hj', Option.getD_some, _root_.Fin.ofNat]
    rw [Nat.mod_eq_of_lt this]
  have hlt : ∀ x y, Proofs.ltOf cf x y = true ↔ ahd e x.val y.val := fun x y => by
    unfold Proofs.ltOf
    rw [hcf, decide_eq_true_iff]; exact ahC_neg
  have hlf : ∀ x y, Proofs.ltOf cf x y = false ↔ ¬ ahd e x.val y.val := fun x y => by
    rw [← hlt]; simp
  have hO : Sort.SWO (Proofs.ltOf cf) := ⟨fun x => (hlf _ _).2 ahd_irr, fun x y z h1 h2 => (hlt _ _).2 (ahd_trans ((hlt _ _).1 h1) ((hlt _ _).1 h2)), fun x y z h1 h2 => (hlf _ _).2 fun h3 => by
    have h1 := (hlf _ _).1 h1
    have h2 := (hlf _ _).1 h2
    by_cases exy : x.val = y.val
    · rw [exy] at h3; exact h2 h3
    · by_cases eyz : y.val = z.val
      · rw [← eyz] at h3; exact h1 h3
      · have := (ahd_tot (e := e) exy).resolve_left h1
        have := (ahd_tot (e := e) eyz).resolve_left h2
        exact ahd_asymm h3 (ahd_trans ‹ahd e z.val y.val› ‹ahd e y.val x.val›)⟩
  have hT : ∀ x y, (Proofs.ltOf cf) x y = false → (Proofs.ltOf cf) y x = false → x = y := fun x y h1 h2 => by
    by_cases exy : x.val = y.val
    · exact _root_.Fin.ext exy
    · exact ((ahd_tot (e := e) exy).elim ((hlf _ _).1 h1) ((hlf _ _).1 h2)).elim
  have hb : b < w.heap.size := hp_lt hx
  have hH : Sort.Holds enc w b o zs.toArray := fun j hj => by
    have hj' : j < n := by simpa [hlen] using hj
    refine ⟨cell_of_hp ?_, frozen_of_hp hx hz⟩
    rw [get_at (show hp w b = some ⟨x.cells, x.ty⟩ from hx), hcell j hj']
    rw [getElem!_pos zs.toArray j hj, henc]
    simp only [List.getElem_toArray]
    rw [hval j (by simpa using hj)]
  have hcmp : Proofs.CmpLays1 P0 g ⟨cb⟩ enc cf b o zs.toArray.size w := fun m os dk hs x' y' => by
    obtain ⟨_, hst, hrest⟩ := sortWorld_hp (enc := enc) (o := o) (m := m) (d := dk) (os := os) hx
    have hc := hcl _ x'.val y'.val hst x'.isLt y'.isLt _ rfl
    rw [henc] at hc ⊢
    refine (show Calls P0 g (#[.int .i64 (x'.val : Int), .int .i64 (y'.val : Int)] ++ ⟨cb⟩) _ _ from by simpa using hc).mono ?_
    rintro e1 w' ⟨hr, he1⟩
    split at he1
    · obtain ⟨rfl, hs1⟩ := he1
      exact ⟨by rw [hcf], grow_of_rest hr hs1⟩
    · exact (by first | exact he1.2.2.elim | exact he1.elim)
    · exact he1.elim
  have hcall := Proofs.Any.slices_SortFunc_total Proofs.Tryz.laysF6 enc (fun _ => by rw [henc]; rfl) cf hO g ⟨cb⟩ b o c zs.toArray w eg hcmp hH hb (by simpa [hlen] using hn) hT
  have hsz : zs.toArray.size = ls.length := by simp [hlen, hn']
  rw [hsz] at hcall
  refine (show Calls P0 23 #[.slice (some ⟨b, o, none⟩) ls.length c, .func (.func g) #[] ⟨cb⟩] w _ from hcall).mono ?_
  rintro e1 w' ⟨rfl, m, os, rfl⟩
  obtain ⟨sz, hsd⟩ : ∃ sz, sz = zs.toArray.toList.mergeSort fun x y => !(Proofs.ltOf cf) y x := ⟨_, rfl⟩
  rw [← hsd]
  have hperm : sz.Perm zs := by rw [hsd]; exact List.mergeSort_perm zs _
  have hslen : sz.length = n := by rw [hperm.length_eq, hlen]
  have hsorted : sz.Pairwise fun a b => (!(Proofs.ltOf cf) b a) = true := by
    rw [hsd]
    refine List.pairwise_mergeSort (fun a b c h1 h2 => ?_) (fun a b => ?_) _
    · simp only [Bool.not_eq_true'] at h1 h2 ⊢
      exact hO.ntrans _ _ _ h2 h1
    · cases h1 : Proofs.ltOf cf b a with
      | false => rfl
      | true =>
        cases h2 : Proofs.ltOf cf a b with
        | false => rfl
        | true => exact (ahd_asymm ((hlt _ _).1 h1) ((hlt _ _).1 h2)).elim
  obtain ⟨hat, hst, hrest⟩ := sortWorld_hp (enc := enc) (o := o) (m := m) (d := sz.toArray) (os := os) hx
  refine ⟨hrest, ?_⟩
  have hrl : (sz.map _root_.Fin.val).length = n := by simp [hslen]
  have hback : zs.map _root_.Fin.val = ls := by
    rw [hzs, List.map_map]
    conv => rhs; rw [← List.map_id ls]
    refine List.map_congr_left fun y hy => ?_
    have := hm y hy
    simp [_root_.Fin.ofNat, Nat.mod_eq_of_lt this]
  refine k _ (sz.map _root_.Fin.val) ?_ hst (by rw [← hback]; exact hperm.map _) ?_
  · rw [hrl]
    refine ⟨hle, h.cap, .inr ⟨b, o, ⟨(Sort.putCells enc o sz.toArray x.cells.toArray).toList, x.ty⟩, rfl, by rw [hat b hb, upd_same], ⟨by rw [hw1]; simp [Sort.putCells]; omega, hz⟩, fun i hi j hj => ?_⟩⟩
    have hj0 : j = 0 := by rw [hw1] at hj; omega
    subst hj0
    rw [hw1]
    have hlt' : o + i < x.cells.length := by omega
    have hb' : o ≤ o + i * 1 + 0 ∧ o + i * 1 + 0 < o + sz.length := by omega
    simp only [Sort.putCells, Array.getElem?_toList, Array.getElem?_mapIdx, List.size_toArray, hb', and_self, if_true]
    have e1 : o + i * 1 + 0 = o + i := by omega
    rw [e1, List.getElem?_toArray, List.getElem?_eq_getElem hlt']
    have e2 : o + i - o = i := by omega
    have hsi : i < sz.toArray.size := by simp [hslen, hi]
    simp only [Option.map_some, e2]
    rw [getElem!_pos sz.toArray i hsi, henc]
    have hil : i < sz.length := by omega
    simp only [lsF, List.getElem?_map, List.getElem?_eq_getElem hil, Option.map_some, Option.getD_some, List.getElem_toArray]
    rfl
  · rw [List.pairwise_map]
    exact hsorted.imp fun {a b} h1 => (hlf _ _).1 (by simpa using h1)
end
end Go.Mz

/-
  Walks of layer 10: by the edges in their order (Kruskal).
-/
namespace Go.Mz

section
variable {E : Value → Hp → Prop}

theorem sclo {N : Int} {ep : Option Addr} {n ec a b g : Nat} {e : Nat → Edg} {H : Hp} {K : Int → Hp → Prop} (c : H g = some ⟨[.int .i64 N, .slice ep n ec], 24⟩) (he : Rdr H ep n e) (ha : a < n) (hb : b < n)
    (k : ∀ H', Step (fun _ => False) H H' → K (ahC e a b) H') : span_kruskal_1.call (a : Int) (b : Int) g 0 E H K := by
  refine span_kruskal_1.of (span_kruskal_1.run_eq ?_)
  unfold span_kruskal_1.run_t
  simp only [get_at c, List.getElem?_cons_zero, List.getElem?_cons_succ, ldI_mk, ldS_mk, Nat.zero_add]
  exact sahead he ha hb k

theorem sclo' {N : Int} {ep : Option Addr} {n ec a b g : Nat} {e : Nat → Edg} {H : Hp} (c : H g = some ⟨[.int .i64 N, .slice ep n ec], 24⟩) (he : Rdr H ep n e) (ha : a < n) (hb : b < n) :
    callW P0 33 ([.int .i64 a, .int .i64 b] ++ [.pointer (some ⟨g, 0, none⟩)]) (fun r H'' => r = .int .i64 (ahC e a b) ∧ Step (fun _ => False) H H'') (fun _ _ => False) H := by
  have h := sclo (E := fun _ _ => False) (K := fun r H'' => r = ahC e a b ∧ Step (fun _ => False) H H'') c he ha hb fun H' s => ⟨rfl, s⟩
  unfold span_kruskal_1.call at h
  refine callW_mono (fun v H' hv => ?_) (fun _ _ h => h) h
  obtain ⟨m, rfl, hm⟩ := ldR_int hv
  exact ⟨by rw [← hm.1]; rfl, hm.2⟩

theorem enters27 : ∀ args w, (callFunc 33 args).run P0 w = .ok (.enter 33 args) w := Go.Proofs.enters_of Proofs.Tryz.func33 (by kernel_rfl) rfl

open Classical in
theorem skruskal {N : Int} {ep : Option Addr} {n ec : Nat} {e : Nat → Edg} {H : Hp} {K : Option Addr → Nat → Nat → Hp → Prop} (he : Rdr H ep n e) (hr : Right N n e)
    (k : ∀ H' tp tc took, Step (fun _ => False) H H' → Row H' tp took.length tc (lsF took) → (∀ y, fpS tp y → H y = none) → TkF e n took → K tp took.length tc H') : span_kruskal.call N ep n ec E H K := by
  have hN0 := hr.N0; have hN1 := hr.N1; have hn1 := hr.n1
  refine span_kruskal.of (span_kruskal.run_eq ?_)
  unfold span_kruskal.run_t
  refine nwk fun b1 H1 hb1 e1 s1 => ?_
  simp only [get_at e1, List.getElem?_cons_zero, List.getElem?_cons_succ, ldI_mk, ldS_mk]
  refine snewJ hN0 hN1 fun H2 j F s2 hJ fF => ?_
  have e12 := s2.keep _ _ e1 fun h => h
  simp only [get_at e12, List.getElem?_cons_zero, List.getElem?_cons_succ, ldI_mk, ldS_mk]
  refine Row.mkI (by omega) (by omega) fun b2 H3 hb2 r3 s3 => ?_
  simp only [Int.toNat_natCast] at r3 ⊢
  have e13 := s3.keep _ _ e12 fun h => h
  have hJ3 := hJ.keep s3 fun _ _ h => h
  have f0 : ∀ y, F y → H y = none := fun y hy => s1.mono _ (fF y hy)
  have f2 : H b2 = none := (s1.and s2).mono _ hb2
  have nF : ¬ F b2 := fun h => hJ.live _ h hb2
  have n12 : b1 ≠ b2 := ne_of_live hb2 (by rw [e12]; exact fun h => by cases h)
  have own : ∀ {H' H'' : Hp}, Step (fun _ => False) H H' → Step (fpS (some ⟨b2, 0, none⟩)) H' H'' → Step (fun _ => False) H H'' := fun s s' => s.own s' fun y hy => by rw [fpS_mk] at hy; exact hy ▸ f2
  refine span_kruskal.l1_rule (fun g' j' p' n' c' t15 i16 H' => g' = b1 ∧ j' = some ⟨j, 0, none⟩ ∧ p' = some ⟨b2, 0, none⟩ ∧ n' = n ∧ c' = n ∧ t15 = n ∧ ∃ i : Nat, i16 = i ∧ i ≤ n ∧ Step (fun _ => False) H H' ∧ H' b1 = some ⟨[.int .i64 N, .slice ep n ec], 24⟩ ∧ Jo H' j N ep n ec (USt.init N.toNat) [] F ∧ ∃ f, Row H' (some ⟨b2, 0, none⟩) n n f ∧ ∀ u, u < i → f u = (u : Int))
    (fun g' j' p' n' c' t15 i16 H' => n - i16.toNat) ?_ ⟨rfl, rfl, rfl, rfl, rfl, rfl, 0, rfl, Nat.zero_le _, (s1.and s2).and s3, e13, hJ3, _, r3, fun u hu => by omega⟩
  clear r3 hJ3 e13 s3
  rintro g' j' p' n' c' t15 i16 H4 ⟨rfl, rfl, rfl, rfl, rfl, rfl, i, rfl, hi, s4, e14, hJ4, f, r4, hf⟩ X hX
  refine span_kruskal.b1_eq ?_
  unfold span_kruskal.b1_t
  refine bc (fun hlt => ?_) fun hge => ?_
  · refine r4.stI (by omega) (by omega) _ fun H5 r5 s5 => ?_
    simp only [Int.toNat_natCast] at r5
    rw [i64w (by omega) (by omega)]
    refine hX _ _ _ _ _ _ _ _ ⟨rfl, rfl, rfl, rfl, rfl, rfl, i + 1, by omega, by omega, own s4 s5, s5.keep _ _ e14 (by rw [fpS_mk]; exact n12), hJ4.keep s5 fun y hy h => by rw [fpS_mk] at h; exact nF (h ▸ hy), _, r5, fun u hu => ?_⟩ (by omega)
    by_cases eu : u = i
    · subst eu; rw [upf_same]
    · rw [upf_ne eu]; exact hf u (by omega)
  · clear hX
    have hin : i = c' := by omega
    subst hin
    refine span_kruskal.j1_eq ?_
    unfold span_kruskal.j1_t
    have r4' : Row H4 (some ⟨b2, 0, none⟩) (List.range i).length i (lsF (List.range i)) := by
      rw [List.length_range]
      exact r4.congr fun u hu => by rw [hf u hu, lsF, List.getElem?_range hu]; rfl
    have he4 := he.keep s4 fun _ _ _ h => h
    have key : ∀ m, m = i → slices_SortFunc.call (some ⟨b2, 0, none⟩) m i 33 [Value.pointer (some ⟨g', 0, none⟩)] E H4 fun H_1 => span_kruskal.l2 (some ⟨j, 0, none⟩) (some ⟨b2, 0, none⟩) m i (m : Int) 0 E H_1 K := by
      intro m hm
      have hm' : m = (List.range i).length := by simp [hm]
      rw [hm']
      refine sortF (M := i) (e := e) r4' (fun x hx => by simpa using hx) (by simp; omega) enters27 (fun H' a b s ha hb => ?_) fun H5 rs r5 s5 hp hpw => ?_
      · refine sclo' (s.keep _ _ e14 (by rw [fpS_mk]; exact n12)) (he4.keep s fun y hy hl h => ?_) ha hb
        rw [fpS_mk] at h
        subst h
        exact (he.live hy (by omega)) f2
      · have hS := Srt.mk' hp hpw
        have hlen := hS.len
        rw [List.length_range]
        rw [hlen] at r5
        have s05 := own s4 s5
        have hJ5 := hJ4.keep s5 fun y hy h => by rw [fpS_mk] at h; exact nF (h ▸ hy)
        have r0 : Rep (USt.init N.toNat) (Sel (ePr e) i (fun t => t ∈ rs.take 0)) := (Rep.init (by omega)).congr fun u v => ⟨fun ⟨t, _, h, _⟩ => by simp at h, fun h => h.elim⟩
        refine span_kruskal.l2_rule (fun j' p' n' c' t28 i29 H' => j' = some ⟨j, 0, none⟩ ∧ p' = some ⟨b2, 0, none⟩ ∧ n' = i ∧ c' = i ∧ t28 = i ∧ ∃ q : Nat, i29 = q ∧ q ≤ i ∧ Step (fun _ => False) H H' ∧ Row H' (some ⟨b2, 0, none⟩) i i (lsF rs) ∧ ∃ σ F', Jo H' j N ep i ec σ ((rs.take q).filter fun t => decide (InF e i t)) F' ∧ Rep σ (Sel (ePr e) i (fun t => t ∈ rs.take q)) ∧ σ.n = N.toNat ∧ (∀ y, F' y → H y = none) ∧ ¬ F' b2)
          (fun j' p' n' c' t28 i29 H' => i - i29.toNat) ?_ ⟨rfl, rfl, rfl, rfl, rfl, 0, rfl, Nat.zero_le _, s05, r5, _, F, hJ5, r0, rfl, f0, nF⟩
        clear r5 hJ5 s05 s5 hJ4 r4' r4 he4
        rintro j' p' n' c' t28 i29 H6 ⟨rfl, rfl, rfl, rfl, rfl, q, rfl, hq, s6, r6, σ, F', hJ6, hR, hσ, fF', nF'⟩ Y hY
        refine span_kruskal.b2_eq ?_
        unfold span_kruskal.b2_t
        refine bc (fun hlt => ?_) fun hge => ?_
        · refine r6.ixI (by omega) (by omega) ?_
          simp only [Int.toNat_natCast]
          have hql : q < rs.length := by omega
          obtain ⟨x, hx⟩ : ∃ x, rs[q]? = some x := ⟨_, List.getElem?_eq_getElem hql⟩
          have ex : lsF rs q = (x : Int) := by simp [lsF, hx]
          have hxn : x < c' := hS.mem.1 (List.mem_of_getElem? hx)
          rw [ex]
          have hfl : ((rs.take q).filter fun t => decide (InF e c' t)).length ≤ c' := by
            have h1 := List.length_filter_le (fun t => decide (InF e c' t)) (rs.take q)
            have h2 : (rs.take q).length ≤ rs.length := by rw [List.length_take]; omega
            omega
          refine stake hJ6 (he.keep s6 fun _ _ _ h => h) hr hxn hR hσ hR.hist.small (by omega) fun H7 σ' F'' tk hJ7 hR' hσ' s7 fF'' htk _ => ?_
          rw [i64w (by omega) (by omega)]
          have s07 : Step (fun _ => False) H H7 := s6.own s7 fF'
          have hif := hS.inF hx
          have etk : tk = (rs.take (q + 1)).filter fun t => decide (InF e c' t) := by
            have e1 : rs.take (q + 1) = rs.take q ++ [x] := by rw [List.take_add_one, hx]; rfl
            rw [htk, e1, List.filter_append]
            by_cases hc : Cn (Sel (ePr e) c' (fun t => t ∈ rs.take q)) (ePr e x).1 (ePr e x).2
            · have : ¬ InF e c' x := fun h => (hif.1 h) hc
              rw [if_pos hc]
              simp [this]
            · have : InF e c' x := hif.2 hc
              rw [if_neg hc]
              simp [this]
          refine hY _ _ _ _ _ _ _ ⟨rfl, rfl, rfl, rfl, rfl, q + 1, by omega, by omega, s07, r6.keep s7 fun y hy h => by rw [fpS_mk] at hy; exact nF' (hy ▸ h), σ', F'', etk ▸ hJ7, hR'.congr fun u v => sel_snoc hx hxn u v, hσ', fun y hy => (fF'' y hy).elim (fF' y) (s6.mono y), fun h => (fF'' _ h).elim nF' fun h' => r6.live (b := b2) ⟨0, rfl⟩ h'⟩ (by omega)
        · have hqn : q = c' := by omega
          subst hqn
          refine span_kruskal.j2_eq ?_
          unfold span_kruskal.j2_t
          refine hJ6.took fun tp tc r7 f7 => ?_
          have et : rs.take q = rs := by rw [← hlen, List.take_length]
          rw [et] at r7 ⊢
          refine k H6 tp tc _ s6 r7 (fun y hy => fF' y (f7 y hy)) ⟨hS.nodup.sublist List.filter_sublist, fun x => ?_⟩
          rw [List.mem_filter, hS.mem]
          simp only [decide_eq_true_eq]
          exact ⟨fun h => h.2, fun h => ⟨h.1, h⟩⟩
    exact key i rfl
end
end Go.Mz

/-
  Walks of layer 10: each set's first edge out of it, again and again (Borůvka).
-/
namespace Go.Mz

theorem Rep.cn {σ : USt} {R S : Nat → Nat → Prop} (h : Rep σ R) (l : ∀ u v, S u v → u < σ.n ∧ v < σ.n) (e : ∀ u v, Cn S u v ↔ Cn R u v) : Rep σ S :=
  ⟨h.hist, l, fun u v hu hv => (h.rep u v hu hv).trans (e u v).symm⟩

theorem Rep.nm_cn {σ : USt} {R : Nat → Nat → Prop} (h : Rep σ R) {u v : Nat} (hu : u < σ.n) (hv : v < σ.n) : σ.nm u = σ.nm v ↔ Cn R u v := by
  rw [← h.rep u v hu hv]
  constructor
  · intro e
    have h1 := (h.hist.least.1 u hu).2
    have h2 := (h.hist.least.1 v hv).2
    have e' : σ.lst (rtOf σ.par u) = σ.lst (rtOf σ.par v) := e
    rw [← h1, ← h2, e']
  · intro e
    unfold USt.nm
    rw [e]

/-! ### The first edge out of each set -/

def Crx (σ : USt) (e : Nat → Edg) (j : Nat) : Prop := σ.nm (ePr e j).1 ≠ σ.nm (ePr e j).2
def Tch (σ : USt) (e : Nat → Edg) (j v : Nat) : Prop := σ.nm (ePr e j).1 = v ∨ σ.nm (ePr e j).2 = v

/-- what is held for a name: of the first i edges -/
def Bfe (σ : USt) (e : Nat → Edg) (i v : Nat) (x : Int) : Prop :=
  (x = 0 ∧ ∀ j, j < i → Crx σ e j → ¬ Tch σ e j v) ∨ ∃ k : Nat, x = (k : Int) + 1 ∧ k < i ∧ Crx σ e k ∧ Tch σ e k v ∧ ∀ j, j < i → Crx σ e j → Tch σ e j v → ¬ ahd e j k

section
variable {σ : USt} {e : Nat → Edg} {n i v : Nat} {x : Int}

theorem Bfe.zero : Bfe σ e 0 v 0 := .inl ⟨rfl, fun j hj => by omega⟩

theorem Bfe.skip (h : Bfe σ e i v x) (hn : ¬ (Crx σ e i ∧ Tch σ e i v)) : Bfe σ e (i + 1) v x := by
  rcases h with ⟨h0, h1⟩ | ⟨k, h0, h1, h2, h3, h4⟩
  · refine .inl ⟨h0, fun j hj hc ht => ?_⟩
    by_cases ej : j = i
    · subst ej; exact hn ⟨hc, ht⟩
    · exact h1 j (by omega) hc ht
  · refine .inr ⟨k, h0, by omega, h2, h3, fun j hj hc ht => ?_⟩
    by_cases ej : j = i
    · subst ej; exact (hn ⟨hc, ht⟩).elim
    · exact h4 j (by omega) hc ht

theorem Bfe.new (h : Bfe σ e i v 0) (hc : Crx σ e i) (ht : Tch σ e i v) : Bfe σ e (i + 1) v ((i : Int) + 1) := by
  rcases h with ⟨h0, h1⟩ | ⟨k, h0, _⟩
  · refine .inr ⟨i, rfl, by omega, hc, ht, fun j hj hc' ht' => ?_⟩
    by_cases ej : j = i
    · subst ej; exact ahd_irr
    · exact (h1 j (by omega) hc' ht').elim
  · omega

theorem Bfe.less {k : Nat} (h : Bfe σ e i v ((k : Int) + 1)) (hc : Crx σ e i) (ht : Tch σ e i v) (ha : ahd e i k) : Bfe σ e (i + 1) v ((i : Int) + 1) := by
  rcases h with ⟨h0, h1⟩ | ⟨k', h0, h1, h2, h3, h4⟩
  · omega
  · have : k' = k := by omega
    subst this
    refine .inr ⟨i, rfl, by omega, hc, ht, fun j hj hc' ht' hj' => ?_⟩
    by_cases ej : j = i
    · subst ej; exact ahd_irr hj'
    · exact h4 j (by omega) hc' ht' (ahd_trans hj' ha)

theorem Bfe.stay {k : Nat} (h : Bfe σ e i v ((k : Int) + 1)) (ha : ¬ ahd e i k) : Bfe σ e (i + 1) v ((k : Int) + 1) := by
  rcases h with ⟨h0, h1⟩ | ⟨k', h0, h1, h2, h3, h4⟩
  · omega
  · have : k' = k := by omega
    subst this
    refine .inr ⟨k', rfl, by omega, h2, h3, fun j hj hc' ht' => ?_⟩
    by_cases ej : j = i
    · subst ej; exact ha
    · exact h4 j (by omega) hc' ht'

/-- it is a right one -/
theorem Bfe.inF {k : Nat} (h : Bfe σ e n v ((k : Int) + 1)) : InF e n k ∧ Crx σ e k := by
  rcases h with ⟨h0, h1⟩ | ⟨k', h0, h1, h2, h3, h4⟩
  · omega
  · have : k' = k := by omega
    subst this
    refine ⟨InF.cut (C := fun u => σ.nm u = v) h1 (fun hh => ?_) fun j hj ha => ?_, h2⟩
    · rcases h3 with h | h
      · exact h2 (h.trans (hh.1 h).symm)
      · exact h2 ((hh.2 h).trans h.symm)
    · have key : Crx σ e j → ¬ Tch σ e j v := fun hc ht => h4 j hj hc ht ha
      constructor
      · intro hu
        by_cases hw : σ.nm (ePr e j).2 = v
        · exact hw
        · exact (key (fun h => hw (h.symm.trans hu)) (.inl hu)).elim
      · intro hw
        by_cases hu : σ.nm (ePr e j).1 = v
        · exact hu
        · exact (key (fun h => hu (h.trans hw)) (.inr hw)).elim
end

structure BoS (H H' : Hp) (b1 j : Nat) (N : Int) (ep : Option Addr) (n ec : Nat) (e : Nat → Edg) (σ : USt) (took : List Nat) (F : Nat → Prop) : Prop where
  st : Step (fun _ => False) H H'
  g : H' b1 = some ⟨[.int .i64 N, .slice ep n ec], 24⟩
  jo : Jo H' j N ep n ec σ took F
  rep : Rep σ (Sel (ePr e) n (fun t => t ∈ took))
  hn : σ.n = N.toNat
  fF : ∀ y, F y → H y = none
  nd : took.Nodup
  inf : ∀ k ∈ took, InF e n k
  len : took.length = σ.k
  b1F : ¬ F b1

section
variable {E : Value → Hp → Prop} {H H' : Hp} {b1 j : Nat} {N : Int} {ep : Option Addr} {n ec : Nat} {e : Nat → Edg} {σ : USt} {took : List Nat} {F : Nat → Prop}

theorem BoS.keep {H'' : Hp} {G : Nat → Prop} (h : BoS H H' b1 j N ep n ec e σ took F) (s : Step G H' H'') (s' : Step (fun _ => False) H H'') (hb : ¬ G b1) (hF : ∀ y, F y → ¬ G y) : BoS H H'' b1 j N ep n ec e σ took F :=
  ⟨s', s.keep _ _ h.g hb, h.jo.keep s hF, h.rep, h.hn, h.fF, h.nd, h.inf, h.len, h.b1F⟩

open Classical in
theorem BoS.take {k : Nat} {K : Bool → Hp → Prop} (h : BoS H H' b1 j N ep n ec e σ took F) (he : Rdr H ep n e) (hr : Right N n e) (hf : InF e n k)
    (kk : ∀ H'' σ' tk F' b, BoS H H'' b1 j N ep n ec e σ' tk F' → Step F H' H'' → (∀ y, F' y → F y ∨ H' y = none) → ((b = true ∧ σ'.k = σ.k + 1) ∨ (b = false ∧ tk = took ∧ σ'.k = σ.k ∧ Cn (Sel (ePr e) n fun t => t ∈ took) (ePr e k).1 (ePr e k).2)) → K b H'') :
    span_joiner_take.call (some ⟨j, 0, none⟩) (k : Int) E H' K := by
  have hle := h.rep.hist.le
  have hN1 := hr.N1
  have hN0 := hr.N0
  have hhn := h.hn
  have hlen := h.len
  have hrng : ∀ i, i < n → (ePr e i).1 < N.toNat ∧ (ePr e i).2 < N.toNat := fun i hi => by
    have hx := hr.ed i hi
    have hf0 := hx.f0; have hf1 := hx.f1; have ht0 := hx.t0; have ht1 := hx.t1
    unfold ePr
    exact ⟨by show (e i).fr.toNat < _; omega, by show (e i).to.toNat < _; omega⟩
  refine stake h.jo (he.keep h.st fun _ _ _ h => h) hr hf.1 h.rep h.hn h.rep.hist.small (by omega) fun H2 σ' F' tk hJ hR hσ s2 f2 htk hk => ?_
  have hb1F : ¬ F' b1 := fun hh => (f2 _ hh).elim h.b1F fun h' => by rw [h.g] at h'; cases h'
  by_cases hc : Cn (Sel (ePr e) n fun t => t ∈ took) (ePr e k).1 (ePr e k).2
  · rw [if_pos hc] at htk hk
    subst htk
    refine kk H2 σ' tk F' _ ⟨h.st.own s2 h.fF, s2.keep _ _ h.g h.b1F, hJ, hR.cn (fun u v ⟨t, ht, _, e1, e2⟩ => by rw [e1, e2, hσ]; exact hrng t ht) (fun u v => ⟨Cn.mono fun _ _ h => .edge (.inl h), Cn.mono fun p q hpq => ?_⟩), hσ, fun y hy => (f2 y hy).elim (h.fF y) (h.st.mono y), h.nd, h.inf, by omega, hb1F⟩ s2 f2 (.inr ⟨by rw [decide_eq_true hc]; rfl, rfl, hk, hc⟩)
    rcases hpq with hpq | ⟨rfl, rfl⟩
    · exact .edge hpq
    · exact hc
  · rw [if_neg hc] at htk hk
    subst htk
    have hnk : k ∉ took := fun hm => hc (.edge (Sel.of hf.1 hm))
    refine kk H2 σ' (took ++ [k]) F' _ ⟨h.st.own s2 h.fF, s2.keep _ _ h.g h.b1F, hJ, hR.congr fun u v => ?_, hσ, fun y hy => (f2 y hy).elim (h.fF y) (h.st.mono y), ?_, ?_, by simp; omega, hb1F⟩ s2 f2 (.inl ⟨by rw [decide_eq_false hc]; rfl, hk⟩)
    · constructor
      · rintro ⟨t, ht, hm, e1, e2⟩
        rcases List.mem_append.1 hm with hm | hm
        · exact .inl ⟨t, ht, hm, e1, e2⟩
        · rw [List.mem_singleton] at hm
          subst hm
          exact .inr ⟨e1, e2⟩
      · rintro (⟨t, ht, hm, e1, e2⟩ | ⟨e1, e2⟩)
        · exact ⟨t, ht, List.mem_append_left _ hm, e1, e2⟩
        · exact ⟨k, hf.1, by simp, e1, e2⟩
    · rw [List.nodup_append]
      refine ⟨h.nd, by simp, fun a ha b hb => ?_⟩
      rw [List.mem_singleton] at hb
      subst hb
      exact fun e => hnk (e ▸ ha)
    · intro t ht
      rcases List.mem_append.1 ht with hm | hm
      · exact h.inf t hm
      · rw [List.mem_singleton] at hm; exact hm ▸ hf

def BoI (H : Hp) (b1 j : Nat) (N : Int) (ep : Option Addr) (n ec : Nat) (e : Nat → Edg) (gr : Bool) (H' : Hp) (m : Nat) : Prop :=
  ∃ σ took F, BoS H H' b1 j N ep n ec e σ took F ∧ (gr = false → ∀ i, i < n → Cn (Sel (ePr e) n fun t => t ∈ took) (ePr e i).1 (ePr e i).2) ∧ m = 2 * (N.toNat - σ.k) + if gr then 1 else 0

theorem sboruvka {K : Option Addr → Nat → Nat → Hp → Prop} (he : Rdr H ep n e) (hr : Right N n e)
    (k : ∀ H' tp tc took, Step (fun _ => False) H H' → Row H' tp took.length tc (lsF took) → (∀ y, fpS tp y → H y = none) → TkF e n took → K tp took.length tc H') : span_boruvka.call N ep n ec E H K := by
  have hN0 := hr.N0; have hN1 := hr.N1; have hn1 := hr.n1
  have hrng : ∀ i, i < n → (ePr e i).1 < N.toNat ∧ (ePr e i).2 < N.toNat := fun i hi => by
    have hx := hr.ed i hi
    have hf0 := hx.f0; have hf1 := hx.f1; have ht0 := hx.t0; have ht1 := hx.t1
    unfold ePr
    exact ⟨by show (e i).fr.toNat < _; omega, by show (e i).to.toNat < _; omega⟩
  refine span_boruvka.of (span_boruvka.run_eq ?_)
  unfold span_boruvka.run_t
  refine nwk fun b1 H1 hb1 e1 s1 => ?_
  simp only [get_at e1, List.getElem?_cons_zero, List.getElem?_cons_succ, ldI_mk, ldS_mk]
  refine snewJ hN0 hN1 fun H2 j F s2 hJ fF => ?_
  have e12 := s2.keep _ _ e1 fun h => h
  have hb1F : ¬ F b1 := fun h => by have := fF _ h; rw [e1] at this; cases this
  have r0 : Rep (USt.init N.toNat) (Sel (ePr e) n (fun t => t ∈ [])) := (Rep.init (by omega)).congr fun u v => ⟨fun ⟨t, _, h, _⟩ => by simp at h, fun h => h.elim⟩
  have h0 : BoI H b1 j N ep n ec e true H2 (2 * (N.toNat - 0) + 1) := ⟨_, [], F, ⟨s1.and s2, e12, hJ, r0, rfl, fun y hy => s1.mono _ (fF y hy), List.nodup_nil, fun k hk => by (cases hk), rfl, hb1F⟩, (fun h => by cases h), rfl⟩
  refine span_boruvka.l1_rule (fun g' j' gr H' => g' = b1 ∧ j' = some ⟨j, 0, none⟩ ∧ ∃ m, BoI H b1 j N ep n ec e gr H' m) (fun g' j' gr H' => gm (BoI H b1 j N ep n ec e gr H')) ?_ ⟨rfl, rfl, _, h0⟩
  clear h0 r0 hb1F e12 fF hJ s2 F e1 s1
  rintro g' j' gr H3 ⟨rfl, rfl, m0, hm0⟩ X hX
  have hm := (gm_of hm0).1
  generalize gm (BoI H g' j N ep n ec e gr H3) = m at hm hX
  obtain ⟨σ, took, F, hS, hend, hmm⟩ := hm
  clear hm0 m0
  have hsk := hS.rep.hist.le
  have hsn := hS.hn
  refine span_boruvka.b1_eq ?_
  unfold span_boruvka.b1_t
  refine bcb (fun hg => ?_) fun hg => ?_
  · subst hg
    simp only [get_at hS.g, List.getElem?_cons_zero, List.getElem?_cons_succ, ldI_mk, ldS_mk]
    refine Row.mkI hN0 (by omega) fun b2 H4 hb2 r4 s4 => ?_
    have hS4 := hS.keep s4 (hS.st.and s4) (fun h => h) fun _ _ h => h
    have f2 : H b2 = none := hS.st.mono _ hb2
    have n2 : ¬ F b2 := fun h => hS.jo.live _ h hb2
    have n12 : g' ≠ b2 := ne_of_live hb2 (by rw [hS.g]; exact fun h => by cases h)
    simp only [get_at hS4.g, List.getElem?_cons_zero, List.getElem?_cons_succ, ldI_mk, ldS_mk]
    have own : ∀ {H' H'' : Hp}, BoS H H' g' j N ep n ec e σ took F → Step (fpS (some ⟨b2, 0, none⟩)) H' H'' → BoS H H'' g' j N ep n ec e σ took F := fun h s =>
      h.keep s (h.st.own s fun y hy => by rw [fpS_mk] at hy; exact hy ▸ f2) (by rw [fpS_mk]; exact n12) fun y hy h' => by rw [fpS_mk] at h'; exact n2 (h' ▸ hy)
    refine span_boruvka.l2_rule (fun g1 j3 gr4 bp bn bc tp tn tc t24 i25 H' => g1 = g' ∧ j3 = some ⟨j, 0, none⟩ ∧ gr4 = false ∧ bp = some ⟨b2, 0, none⟩ ∧ bn = N.toNat ∧ bc = N.toNat ∧ tp = ep ∧ tn = n ∧ tc = ec ∧ t24 = n ∧ ∃ i : Nat, i25 = i ∧ i ≤ n ∧ BoS H H' g' j N ep n ec e σ took F ∧ ∃ f, Row H' (some ⟨b2, 0, none⟩) N.toNat N.toNat f ∧ ∀ v, v < N.toNat → Bfe σ e i v (f v))
      (fun g1 j3 gr4 bp bn bc tp tn tc t24 i25 H' => n - i25.toNat) ?_ ⟨rfl, rfl, rfl, rfl, rfl, rfl, rfl, rfl, rfl, rfl, 0, rfl, Nat.zero_le _, hS4, _, r4, fun v hv => Bfe.zero⟩
    clear r4 hS4 s4
    rintro g1 j3 gr4 bp bn bc tp tn tc t24 i25 H5 ⟨rfl, rfl, rfl, rfl, rfl, rfl, rfl, rfl, rfl, rfl, i, rfl, hi, hS5, f, r5, hf⟩ Y hY
    refine span_boruvka.b2_eq ?_
    unfold span_boruvka.b2_t
    refine bc (fun hlt => ?_) fun hge => ?_
    · have hin : i < tn := by omega
      obtain ⟨u, w, hu, hw, hun, hwn⟩ := (hr.ed i hin).nt
      have eu : (ePr e i).1 = u := by show (e i).fr.toNat = u; omega
      have ew : (ePr e i).2 = w := by show (e i).to.toNat = w; omega
      refine (he.keep hS5.st fun _ _ _ h => h).edge (by omega) (by omega) ?_
      simp only [Int.toNat_natCast]
      rw [hu, hw]
      refine nwst rfl rfl fun b6 H6 hb6 e6 s6 => ?_
      have hS6 := hS5.keep s6 (hS5.st.and s6) (fun h => h) fun _ _ h => h
      have r6 := r5.keep s6 fun _ _ h => h
      simp only [get_at e6, List.getElem?_cons_zero, List.getElem?_cons_succ, ldI_mk, ldS_mk]
      refine hS6.jo.find hS6.rep.hist (v := u) (by omega) ?_
      simp only [get_at e6, List.getElem?_cons_zero, List.getElem?_cons_succ, ldI_mk, ldS_mk]
      refine hS6.jo.find hS6.rep.hist (v := w) (by omega) ?_
      have lu : σ.nm u ≤ u := (hS.rep.hist.least.1 u (by omega)).1
      have lw : σ.nm w ≤ w := (hS.rep.hist.least.1 w (by omega)).1
      have next : ∀ (H' : Hp) f', BoS H H' g1 j N tp tn tc e σ took F → Row H' (some ⟨b2, 0, none⟩) N.toNat N.toNat f' → (∀ v, v < N.toNat → Bfe σ e (i + 1) v (f' v)) → span_boruvka.j3 g1 (some ⟨j, 0, none⟩) false (some ⟨b2, 0, none⟩) N.toNat N.toNat tp tn tc (tn : Int) (i : Int) X Y E H' K := fun H' f' q1 q2 q3 => by
        refine span_boruvka.j3_eq ?_
        unfold span_boruvka.j3_t
        rw [i64w (by omega) (by omega)]
        exact hY _ _ _ _ _ _ _ _ _ _ _ _ ⟨rfl, rfl, rfl, rfl, rfl, rfl, rfl, rfl, rfl, rfl, i + 1, by omega, by omega, q1, f', q2, q3⟩ (by omega)
      refine bc (fun heq => ?_) fun hne => ?_
      · refine next H6 f hS6 r6 fun v hv => (hf v hv).skip fun h => h.1 (by rw [eu, ew]; omega)
      · have hcr : Crx σ e i := by unfold Crx; rw [eu, ew]; omega
        refine span_boruvka.l3_rule (fun g1' j3 gr4 bp bn bc i6 tp' tn' tc' t24 t25 a b q56 H' => g1' = g1 ∧ j3 = some ⟨j, 0, none⟩ ∧ gr4 = false ∧ bp = some ⟨b2, 0, none⟩ ∧ bn = N.toNat ∧ bc = N.toNat ∧ i6 = i ∧ tp' = tp ∧ tn' = tn ∧ tc' = tc ∧ t24 = tn ∧ t25 = i ∧ a = σ.nm u ∧ b = σ.nm w ∧ ∃ q : Nat, q56 = q ∧ q ≤ 2 ∧ BoS H H' g1 j N tp tn tc e σ took F ∧ ∃ f, Row H' (some ⟨b2, 0, none⟩) N.toNat N.toNat f ∧
            ∀ v, v < N.toNat → ((0 < q ∧ v = σ.nm u) ∨ (1 < q ∧ v = σ.nm w) → Bfe σ e (i + 1) v (f v)) ∧ (¬ ((0 < q ∧ v = σ.nm u) ∨ (1 < q ∧ v = σ.nm w)) → Bfe σ e i v (f v)))
          (fun g1' j3 gr4 bp bn bc i6 tp' tn' tc' t24 t25 a b q56 H' => 2 - q56.toNat) ?_ ⟨rfl, rfl, rfl, rfl, rfl, rfl, rfl, rfl, rfl, rfl, rfl, rfl, rfl, rfl, 0, rfl, by omega, hS6, f, r6, fun v hv => ⟨fun h => by omega, fun _ => hf v hv⟩⟩
        clear r6 hS6 r5 hS5 hf e6 s6 hb6 f
        rintro g1' j3 gr4 bp bn bc i6 tp' tn' tc' t24 t25 a b q56 H7 ⟨rfl, rfl, rfl, rfl, rfl, rfl, rfl, rfl, rfl, rfl, rfl, rfl, rfl, rfl, q, rfl, hq, hS7, f, r7, hf⟩ Z hZ
        refine span_boruvka.b3_eq ?_
        unfold span_boruvka.b3_t
        refine bc (fun hlt3 => ?_) fun hge3 => ?_
        · refine ⟨by omega, ?_⟩
          obtain ⟨s, hs, hse⟩ : ∃ s : Nat, ((q = 0 ∧ s = σ.nm u) ∨ (q = 1 ∧ s = σ.nm w)) ∧ [Value.int .i64 (σ.nm u : Int), Value.int .i64 (σ.nm w : Int)][(q : Int).toNat]? = some (.int .i64 (s : Int)) := by
            rcases (by omega : q = 0 ∨ q = 1) with rfl | rfl
            · exact ⟨_, .inl ⟨rfl, rfl⟩, rfl⟩
            · exact ⟨_, .inr ⟨rfl, rfl⟩, rfl⟩
          rw [hse]
          simp only [ldI_mk]
          have hsN : s < N.toNat := by rcases hs with ⟨_, rfl⟩ | ⟨_, rfl⟩ <;> omega
          have htc : Tch σ e i s := by unfold Tch; rw [eu, ew]; rcases hs with ⟨_, rfl⟩ | ⟨_, rfl⟩; exact .inl rfl; exact .inr rfl
          have hnot : ¬ ((0 < q ∧ s = σ.nm u) ∨ (1 < q ∧ s = σ.nm w)) := by omega
          have hold := (hf s hsN).2 hnot
          have next3 : ∀ (H' : Hp) f', BoS H H' g1' j N tp' tn' tc' e σ took F → Row H' (some ⟨b2, 0, none⟩) N.toNat N.toNat f' → Bfe σ e (i + 1) s (f' s) → (∀ v, v ≠ s → f' v = f v) → span_boruvka.j2 g1' (some ⟨j, 0, none⟩) false (some ⟨b2, 0, none⟩) N.toNat N.toNat (i : Int) tp' tn' tc' (tn' : Int) (i : Int) (σ.nm u : Int) (σ.nm w : Int) (q : Int) X Y Z E H' K := fun H' f' q1 q2 q3 q4 => by
            refine span_boruvka.j2_eq ?_
            unfold span_boruvka.j2_t
            rw [i64w (by omega) (by omega)]
            refine hZ _ _ _ _ _ _ _ _ _ _ _ _ _ _ _ _ ⟨rfl, rfl, rfl, rfl, rfl, rfl, rfl, rfl, rfl, rfl, rfl, rfl, rfl, rfl, q + 1, by omega, by omega, q1, f', q2, fun v hv => ?_⟩ (by omega)
            by_cases ev : v = s
            · subst ev
              exact ⟨fun _ => q3, fun h => (h (by omega)).elim⟩
            · rw [q4 v ev]
              exact ⟨fun h => (hf v hv).1 (by omega), fun h => (hf v hv).2 (by omega)⟩
          have write : ∀ (H' : Hp), BoS H H' g1' j N tp' tn' tc' e σ took F → Row H' (some ⟨b2, 0, none⟩) N.toNat N.toNat f → Bfe σ e (i + 1) s ((i : Int) + 1) → span_boruvka.j1 g1' (some ⟨j, 0, none⟩) false (some ⟨b2, 0, none⟩) N.toNat N.toNat (i : Int) (s : Int) tp' tn' tc' (tn' : Int) (i : Int) (σ.nm u : Int) (σ.nm w : Int) (q : Int) X Y Z E H' K := fun H' q1 q2 q3 => by
            refine span_boruvka.j1_eq ?_
            unfold span_boruvka.j1_t
            rw [i64w (by omega) (by omega)]
            refine q2.stI (by omega) (by omega) _ fun H8 r8 s8 => ?_
            rw [Int.toNat_natCast] at r8
            exact next3 H8 _ (own q1 s8) r8 (by rw [upf_same]; exact q3) fun v hv => upf_ne hv
          refine r7.ixI (by omega) (by omega) ?_
          rw [Int.toNat_natCast]
          refine bc (fun hz => ?_) fun hz => ?_
          · rw [hz] at hold
            exact write H7 hS7 r7 (hold.new hcr htc)
          · simp only [get_at hS7.g, List.getElem?_cons_zero, List.getElem?_cons_succ, ldI_mk, ldS_mk]
            refine r7.ixI (by omega) (by omega) ?_
            rw [Int.toNat_natCast]
            obtain ⟨k', hk', hki⟩ : ∃ k' : Nat, f s = (k' : Int) + 1 ∧ k' < i := by
              rcases hold with ⟨h0, _⟩ | ⟨k', h0, h1, _⟩
              · exact (hz h0).elim
              · exact ⟨k', h0, h1⟩
            rw [hk'] at hold ⊢
            rw [i64w (by omega) (by omega), show (k' : Int) + 1 - 1 = (k' : Int) by omega]
            refine sahead (he.keep hS7.st fun _ _ _ h => h) hin (by omega) fun H8 s8 => ?_
            have hS8 := hS7.keep s8 (hS7.st.and s8) (fun h => h) fun _ _ h => h
            have r8 := r7.keep s8 fun _ _ h => h
            refine bc (fun hl => ?_) fun hl => ?_
            · exact write H8 hS8 r8 (hold.less hcr htc (ahC_neg.1 hl))
            · exact next3 H8 f hS8 r8 (by rw [hk']; exact hold.stay fun h => hl (ahC_neg.2 h)) fun v _ => rfl
        · have hq2 : q = 2 := by omega
          subst hq2
          refine next H7 f hS7 r7 fun v hv => ?_
          by_cases hvv : v = σ.nm u ∨ v = σ.nm w
          · exact (hf v hv).1 (by omega)
          · refine ((hf v hv).2 (by omega)).skip fun h => hvv ?_
            have h2 := h.2
            unfold Tch at h2
            rw [eu, ew] at h2
            rcases h2 with h2 | h2
            · exact .inl h2.symm
            · exact .inr h2.symm
    · clear hY
      have hin : i = tn := by omega
      subst hin
      refine span_boruvka.j4_eq ?_
      unfold span_boruvka.j4_t
      refine span_boruvka.l4_rule (fun g1' j3 gr4 bp bn bc t83 i84 H' => g1' = g1 ∧ j3 = some ⟨j, 0, none⟩ ∧ bp = some ⟨b2, 0, none⟩ ∧ bn = N.toNat ∧ bc = N.toNat ∧ t83 = N ∧ ∃ q : Nat, i84 = q ∧ q ≤ N.toNat ∧ Row H' (some ⟨b2, 0, none⟩) N.toNat N.toNat f ∧ ∃ σ' tk F', BoS H H' g1 j N tp i tc e σ' tk F' ∧ ¬ F' b2 ∧ (gr4 = false → tk = took ∧ σ'.k = σ.k ∧ ∀ v, v < q → f v = 0) ∧ (gr4 = true → σ.k < σ'.k))
        (fun g1' j3 gr4 bp bn bc t83 i84 H' => N.toNat - i84.toNat) ?_ ⟨rfl, rfl, rfl, rfl, rfl, by omega, 0, rfl, Nat.zero_le _, r5, σ, took, F, hS5, n2, fun _ => ⟨rfl, rfl, fun v hv => by omega⟩, fun h => by cases h⟩
      clear r5 hS5 own
      rintro g1' j3 gr4 bp bn bc t83 i84 H6 ⟨rfl, rfl, rfl, rfl, rfl, rfl, q, rfl, hq, r6, σ', tk, F', hS6, n6, hg0, hg1⟩ Z hZ
      refine span_boruvka.b4_eq ?_
      unfold span_boruvka.b4_t
      refine bc (fun hlt => ?_) fun hge => ?_
      · have next : ∀ (H' : Hp) σ'' tk' F'' (gr' : Bool), Row H' (some ⟨b2, 0, none⟩) t83.toNat t83.toNat f → BoS H H' g1' j t83 tp i tc e σ'' tk' F'' → ¬ F'' b2 → (gr' = false → tk' = took ∧ σ''.k = σ.k ∧ ∀ v, v < q + 1 → f v = 0) → (gr' = true → σ.k < σ''.k) → span_boruvka.j5 g1' (some ⟨j, 0, none⟩) gr' (some ⟨b2, 0, none⟩) t83.toNat t83.toNat t83 (q : Int) X Z E H' K := fun H' σ'' tk' F'' gr' q1 q2 q3 q4 q5 => by
          refine span_boruvka.j5_eq ?_
          unfold span_boruvka.j5_t
          rw [i64w (by omega) (by omega)]
          exact hZ _ _ _ _ _ _ _ _ _ ⟨rfl, rfl, rfl, rfl, rfl, rfl, q + 1, by omega, by omega, q1, σ'', tk', F'', q2, q3, q4, q5⟩ (by omega)
        refine r6.ixI (by omega) (by omega) ?_
        rw [Int.toNat_natCast]
        have hqN : q < t83.toNat := by omega
        refine bc (fun hpos => ?_) fun hpos => ?_
        · obtain ⟨x, hx⟩ : ∃ x : Nat, f q = (x : Int) + 1 := ⟨(f q - 1).toNat, by omega⟩
          have hb := hf q hqN
          rw [hx] at hb
          obtain ⟨hxf, hxc⟩ := hb.inF
          have hxn := hxf.1
          rw [hx, i64w (by omega) (by omega), show (x : Int) + 1 - 1 = (x : Int) by omega]
          refine hS6.take he hr hxf fun H7 σ'' tk' F'' b hS7 s7 f7 hor => ?_
          have r7 := r6.keep s7 fun y hy h => by rw [fpS_mk] at hy; exact n6 (hy ▸ h)
          have n7 : ¬ F'' b2 := fun h => (f7 _ h).elim n6 fun h' => r6.live (b := b2) ⟨0, rfl⟩ h'
          have hle : σ.k ≤ σ'.k := by
            cases gr4 with
            | false => exact Nat.le_of_eq (hg0 rfl).2.1.symm
            | true => exact Nat.le_of_lt (hg1 rfl)
          rcases hor with ⟨rfl, hk⟩ | ⟨rfl, htk, hk, hcn⟩
          · refine bcb (fun _ => ?_) fun h => by cases h
            exact next H7 σ'' tk' F'' true r7 hS7 n7 (fun h => by cases h) fun _ => by omega
          · refine bcb (fun h => by cases h) fun _ => ?_
            refine next H7 σ'' tk' F'' gr4 r7 hS7 n7 (fun h => ?_) fun h => by have := hg1 h; omega
            have h0 := hg0 h
            rw [h0.1] at hcn
            exact (hxc ((hS.rep.nm_cn (by have := (hrng x hxn).1; omega) (by have := (hrng x hxn).2; omega)).2 hcn)).elim
        · have hz : f q = 0 := by
            rcases hf q hqN with ⟨h0, _⟩ | ⟨k', h0, _⟩ <;> omega
          refine next H6 σ' tk F' gr4 r6 hS6 n6 (fun h => ⟨(hg0 h).1, (hg0 h).2.1, fun v hv => ?_⟩) hg1
          by_cases ev : v = q
          · rw [ev]; exact hz
          · exact (hg0 h).2.2 v (by omega)
      · have hqN : q = t83.toNat := by omega
        subst hqN
        have hk6 := hS6.rep.hist.le
        have hn6 := hS6.hn
        have hI : BoI H g1' j t83 tp i tc e gr4 H6 (2 * (t83.toNat - σ'.k) + if gr4 then 1 else 0) := ⟨σ', tk, F', hS6, fun h => ?_, rfl⟩
        · refine hX _ _ _ _ ⟨rfl, rfl, _, hI⟩ (Nat.lt_of_le_of_lt (gm_of hI).2 ?_)
          rw [hmm]
          cases gr4 with
          | true => have := hg1 rfl; simp; omega
          | false => have := (hg0 rfl).2.1; simp; omega
        · obtain ⟨q1, _, q3⟩ := hg0 h
          rw [q1]
          intro t ht
          have ht1 := (hrng t ht).1
          have ht2 := (hrng t ht).2
          by_cases hcr : Crx σ e t
          · have l1 : σ.nm (ePr e t).1 ≤ (ePr e t).1 := (hS.rep.hist.least.1 _ (by omega)).1
            have hv : σ.nm (ePr e t).1 < t83.toNat := by omega
            rcases hf _ hv with ⟨_, h1⟩ | ⟨k', h0, _⟩
            · exact (h1 t ht hcr (.inl rfl)).elim
            · have := q3 _ hv; omega
          · unfold Crx at hcr
            exact (hS.rep.nm_cn (by omega) (by omega)).1 (Classical.not_not.1 hcr)
  · clear hX
    refine span_boruvka.j6_eq ?_
    unfold span_boruvka.j6_t
    refine hS.jo.took fun tp tc r7 f7 => ?_
    have hall := hend hg
    refine k H3 tp tc _ hS.st r7 (fun y hy => hS.fF y (f7 y hy)) ⟨hS.nd, fun x => ⟨fun h => hS.inf x h, fun h => ?_⟩⟩
    have := InF.all (e := e) (n := n) (T := fun t => decide (t ∈ took)) (fun t _ ht => hS.inf t (by simpa using ht)) (fun i hi => Sel.mono (fun t _ ht => by simpa using ht) (hall i hi)) h
    simpa using this
end
end Go.Mz

/-
  Walks of layer 10: a forest that grows from a node (Prim).
-/
namespace Go.Mz

theorem pushC2 {n : Nat} {S : Nat → Bool} {last x : Int} {w : Nat} (hw : w < n) (hS : S w = false) : pushC n 2 S last (w : Int) x = 0 := by
  unfold pushC
  rw [if_neg (by omega), Int.toNat_natCast, hS, if_neg (by decide), if_neg (by omega)]

theorem lowerC2 {n : Nat} {S : Nat → Bool} {key : Nat → Int} {last x : Int} {w : Nat} (hw : w < n) (hS : S w = true) (hx : x ≤ key w) : lowerC n 2 key S last (w : Int) x = 0 := by
  unfold lowerC
  rw [if_neg (by omega), Int.toNat_natCast, hS, if_neg (by decide), if_neg (by omega), if_neg (by omega)]

theorem keyC2 {n : Nat} {S : Nat → Bool} {w : Nat} (hw : w < n) : keyC n S (w : Int) = if S w then 0 else 2 := by
  unfold keyC
  rw [if_neg (by omega), Int.toNat_natCast]

/-- what the walk holds -/
structure PmM (E : Value → Hp → Prop) (H H' : Hp) (g bE bI bV q : Nat) (N : Int) (ep : Option Addr) (n ec : Nat) (e : Nat → Edg) (sl : Nat → Sl) (tp : Option Addr) (tc : Nat) (took : List Nat) (inn : Nat → Bool) (via key : Nat → Int) (last : Int) (S : Nat → Bool) (FP : Nat → Prop) : Prop where
  st : Step (fun _ => False) H H'
  gc : H' g = some ⟨[.int .i64 N, .slice ep n ec], 24⟩
  en : Rows2 H H' bE N.toNat sl (adj (ePr e) n)
  tk : Row H' tp took.length tc (lsF took)
  ri : Row H' (some ⟨bI, 0, none⟩) N.toNat N.toNat inn
  rv : Row H' (some ⟨bV, 0, none⟩) N.toNat N.toNat via
  qu : Qu (paiEng E) H' q N.toNat 2 key last S FP
  fg : H g = none
  fI : H bI = none
  fV : H bV = none
  fP : ∀ y, FP y → H y = none
  fT : ∀ y, fpS tp y → H y = none
  dI : bI ≠ g ∧ bI ≠ bE ∧ bI ≠ bV ∧ ¬ FP bI ∧ ¬ fpS tp bI ∧ ∀ v, v < N.toNat → ¬ fpS (sl v).p bI
  dV : bV ≠ g ∧ bV ≠ bE ∧ ¬ FP bV ∧ ¬ fpS tp bV ∧ ∀ v, v < N.toNat → ¬ fpS (sl v).p bV
  dT : ∀ y, fpS tp y → y ≠ g ∧ y ≠ bE ∧ ¬ FP y ∧ ∀ v, v < N.toNat → ¬ fpS (sl v).p y
  dP : ∀ y, FP y → y ≠ g ∧ y ≠ bE ∧ ∀ v, v < N.toNat → ¬ fpS (sl v).p y

section
variable {E : Value → Hp → Prop} {H H' : Hp} {g bE bI bV q : Nat} {N : Int} {ep : Option Addr} {n ec : Nat} {e : Nat → Edg} {sl : Nat → Sl} {tp : Option Addr} {tc : Nat} {took : List Nat} {inn : Nat → Bool} {via key : Nat → Int} {last : Int} {S : Nat → Bool} {FP : Nat → Prop}

theorem PmM.keep {H'' : Hp} (h : PmM E H H' g bE bI bV q N ep n ec e sl tp tc took inn via key last S FP) (s : Step (fun _ => False) H' H'') : PmM E H H'' g bE bI bV q N ep n ec e sl tp tc took inn via key last S FP :=
  ⟨h.st.and s, s.keep _ _ h.gc fun h => h, h.en.keep0 s, h.tk.keep s fun _ _ h => h, h.ri.keep s fun _ _ h => h, h.rv.keep s fun _ _ h => h, h.qu.keep s fun _ _ h => h, h.fg, h.fI, h.fV, h.fP, h.fT, h.dI, h.dV, h.dT, h.dP⟩

theorem PmM.setI {H'' : Hp} {f : Nat → Bool} (h : PmM E H H' g bE bI bV q N ep n ec e sl tp tc took inn via key last S FP) (s : Step (fpS (some ⟨bI, 0, none⟩)) H' H'') (r : Row H'' (some ⟨bI, 0, none⟩) N.toNat N.toNat f) : PmM E H H'' g bE bI bV q N ep n ec e sl tp tc took f via key last S FP := by
  obtain ⟨d1, d2, d3, d4, d5, d6⟩ := h.dI
  refine ⟨h.st.own s fun y hy => by rw [fpS_mk] at hy; exact hy ▸ h.fI, s.keep _ _ h.gc (by rw [fpS_mk]; exact fun e => d1 e.symm), h.en.keep s (by rw [fpS_mk]; exact fun e => d2 e.symm) (fun v hv y hy hy' => by rw [fpS_mk] at hy'; exact d6 v hv (hy' ▸ hy)), h.tk.keep s fun y hy hy' => by rw [fpS_mk] at hy'; exact d5 (hy' ▸ hy), r, h.rv.keep s fun y hy hy' => by rw [fpS_mk] at hy hy'; exact d3 (hy'.symm.trans hy), h.qu.keep s fun y hy hy' => by rw [fpS_mk] at hy'; exact d4 (hy' ▸ hy), h.fg, h.fI, h.fV, h.fP, h.fT, h.dI, h.dV, h.dT, h.dP⟩

theorem PmM.setV {H'' : Hp} {f : Nat → Int} (h : PmM E H H' g bE bI bV q N ep n ec e sl tp tc took inn via key last S FP) (s : Step (fpS (some ⟨bV, 0, none⟩)) H' H'') (r : Row H'' (some ⟨bV, 0, none⟩) N.toNat N.toNat f) : PmM E H H'' g bE bI bV q N ep n ec e sl tp tc took inn f key last S FP := by
  obtain ⟨d1, d2, d3, d4, d5⟩ := h.dV
  refine ⟨h.st.own s fun y hy => by rw [fpS_mk] at hy; exact hy ▸ h.fV, s.keep _ _ h.gc (by rw [fpS_mk]; exact fun e => d1 e.symm), h.en.keep s (by rw [fpS_mk]; exact fun e => d2 e.symm) (fun v hv y hy hy' => by rw [fpS_mk] at hy'; exact d5 v hv (hy' ▸ hy)), h.tk.keep s fun y hy hy' => by rw [fpS_mk] at hy'; exact d4 (hy' ▸ hy), h.ri.keep s fun y hy hy' => by rw [fpS_mk] at hy hy'; exact h.dI.2.2.1 (hy.symm.trans hy'), r, h.qu.keep s fun y hy hy' => by rw [fpS_mk] at hy'; exact d3 (hy' ▸ hy), h.fg, h.fI, h.fV, h.fP, h.fT, h.dI, h.dV, h.dT, h.dP⟩

/-- the queue is another one -/
theorem PmM.setQ {H'' : Hp} {key' : Nat → Int} {last' : Int} {S' : Nat → Bool} {FP' : Nat → Prop} (h : PmM E H H' g bE bI bV q N ep n ec e sl tp tc took inn via key last S FP) (s : Step FP H' H'') (r : Qu (paiEng E) H'' q N.toNat 2 key' last' S' FP') (f : ∀ y, FP' y → FP y ∨ H' y = none) : PmM E H H'' g bE bI bV q N ep n ec e sl tp tc took inn via key' last' S' FP' := by
  have lg : H' g ≠ none := by rw [h.gc]; exact fun h => by cases h
  have lE : H' bE ≠ none := h.en.row.live ⟨_, rfl⟩
  have lI : H' bI ≠ none := h.ri.live ⟨_, rfl⟩
  have lV : H' bV ≠ none := h.rv.live ⟨_, rfl⟩
  have nI : ¬ FP' bI := fun h' => (f _ h').elim h.dI.2.2.2.1 lI
  have nV : ¬ FP' bV := fun h' => (f _ h').elim h.dV.2.2.1 lV
  refine ⟨h.st.own s h.fP, s.keep _ _ h.gc fun h' => (h.dP _ h').1 rfl, h.en.keep s (fun h' => (h.dP _ h').2.1 rfl) (fun v hv y hy hy' => (h.dP y hy').2.2 v hv hy), h.tk.keep s fun y hy hy' => (h.dT y hy).2.2.1 hy', h.ri.keep s fun y hy hy' => by rw [fpS_mk] at hy; exact h.dI.2.2.2.1 (hy ▸ hy'), h.rv.keep s fun y hy hy' => by rw [fpS_mk] at hy; exact h.dV.2.2.1 (hy ▸ hy'), r, h.fg, h.fI, h.fV, fun y hy => (f y hy).elim (h.fP y) (h.st.mono y), h.fT, ?_, ?_, fun y hy => ?_, fun y hy => ?_⟩
  · exact ⟨h.dI.1, h.dI.2.1, h.dI.2.2.1, nI, h.dI.2.2.2.2⟩
  · exact ⟨h.dV.1, h.dV.2.1, nV, h.dV.2.2.2⟩
  · have := h.dT y hy
    exact ⟨this.1, this.2.1, fun h' => (f y h').elim this.2.2.1 (h.tk.live hy), this.2.2.2⟩
  · rcases f y hy with h' | h'
    · exact h.dP y h'
    · exact ⟨fun e => lg (e ▸ h'), fun e => lE (e ▸ h'), fun v hv hy' => (h.en.each v hv).live hy' h'⟩

/-- one edge more is taken -/
theorem PmM.app {H'' : Hp} {tp' : Option Addr} {tc' x : Nat} (h : PmM E H H' g bE bI bV q N ep n ec e sl tp tc took inn via key last S FP) (s : Step (fpS tp) H' H'') (r : Row H'' tp' (took.length + 1) tc' (upf (lsF took) took.length (x : Int))) (f : ∀ y, fpS tp' y → fpS tp y ∨ H' y = none) : PmM E H H'' g bE bI bV q N ep n ec e sl tp' tc' (took ++ [x]) inn via key last S FP := by
  have lg : H' g ≠ none := by rw [h.gc]; exact fun h => by cases h
  have lE : H' bE ≠ none := h.en.row.live ⟨_, rfl⟩
  have lI : H' bI ≠ none := h.ri.live ⟨_, rfl⟩
  have lV : H' bV ≠ none := h.rv.live ⟨_, rfl⟩
  have nI : ¬ fpS tp' bI := fun h' => (f _ h').elim h.dI.2.2.2.2.1 lI
  have nV : ¬ fpS tp' bV := fun h' => (f _ h').elim h.dV.2.2.2.1 lV
  rw [lsF_app] at r
  refine ⟨h.st.own s h.fT, s.keep _ _ h.gc fun h' => (h.dT _ h').1 rfl, h.en.keep s (fun h' => (h.dT _ h').2.1 rfl) (fun v hv y hy hy' => (h.dT y hy').2.2.2 v hv hy), by rw [List.length_append]; exact r, h.ri.keep s fun y hy hy' => by rw [fpS_mk] at hy; exact h.dI.2.2.2.2.1 (hy ▸ hy'), h.rv.keep s fun y hy hy' => by rw [fpS_mk] at hy; exact h.dV.2.2.2.1 (hy ▸ hy'), h.qu.keep s fun y hy hy' => (h.dT y hy').2.2.1 hy, h.fg, h.fI, h.fV, h.fP, fun y hy => (f y hy).elim (h.fT y) (h.st.mono y), ?_, ?_, fun y hy => ?_, h.dP⟩
  · exact ⟨h.dI.1, h.dI.2.1, h.dI.2.2.1, h.dI.2.2.2.1, nI, h.dI.2.2.2.2.2⟩
  · exact ⟨h.dV.1, h.dV.2.1, h.dV.2.2.1, nV, h.dV.2.2.2.2⟩
  · rcases f y hy with h' | h'
    · exact h.dT y h'
    · exact ⟨fun e => lg (e ▸ h'), fun e => lE (e ▸ h'), fun hp => h.qu.live y hp h', fun v hv hy' => (h.en.each v hv).live hy' h'⟩

/-- the state between two handles, and how many nodes are outside -/
def PmL (E : Value → Hp → Prop) (H : Hp) (g bE bI bV q : Nat) (N : Int) (ep : Option Addr) (n ec : Nat) (e : Nat → Edg) (sl : Nat → Sl) (s : Nat) (tp : Option Addr) (tn tc : Nat) (H' : Hp) (m : Nat) : Prop :=
  ∃ took inn via key last S FP, tn = took.length ∧ PmM E H H' g bE bI bV q N ep n ec e sl tp tc took inn via key last S FP ∧ (PrA e n took inn S via s ∨ (PrB e n took inn S key via ∧ inn s = true)) ∧ (∀ v, v < s → inn v = true) ∧ m = cnt (fun v => !inn v) N.toNat

theorem adj_succ {pr : Nat → Nat × Nat} {i u w : Nat} (hu : (pr i).1 = u) (hw : (pr i).2 = w) : upf (upf (adj pr i) u (adj pr i u ++ [i])) w (upf (adj pr i) u (adj pr i u ++ [i]) w ++ [i]) = adj pr (i + 1) := by
  subst hu hw; rfl

set_option maxHeartbeats 1000000 in
theorem sprim {K : Option Addr → Nat → Nat → Hp → Prop} (he : Rdr H ep n e) (hr : Right N n e)
    (k : ∀ H' tp tc took, Step (fun _ => False) H H' → Row H' tp took.length tc (lsF took) → (∀ y, fpS tp y → H y = none) → TkF e n took → K tp took.length tc H') : span_prim.call N ep n ec E H K := by
  have hN0 := hr.N0; have hN1 := hr.N1; have hn1 := hr.n1
  refine span_prim.of (span_prim.run_eq ?_)
  unfold span_prim.run_t
  refine nwk fun g H1 hg e1 s1 => ?_
  simp only [get_at e1, List.getElem?_cons_zero, List.getElem?_cons_succ, ldI_mk, ldS_mk]
  refine Row.mkSl hN0 (by omega) fun bE H2 hbE r2 s2 => ?_
  have e12 := s2.keep _ _ e1 fun h => h
  have fE : H bE = none := s1.mono _ hbE
  have ngE : g ≠ bE := ne_of_live hbE (by rw [e1]; exact fun h => by cases h)
  simp only [get_at e12, List.getElem?_cons_zero, List.getElem?_cons_succ, ldI_mk, ldS_mk]
  have start : Rows2 H H2 bE N.toNat (fun _ => ⟨none, 0, 0⟩) (adj (ePr e) 0) := ⟨r2, fE, fun _ _ => rfl, fun _ _ => .nil, fun _ _ _ _ _ _ h => (by rw [fpS_none] at h; exact h.elim), fun _ _ _ h => (by rw [fpS_none] at h; exact h.elim), fun _ _ _ h => by rw [fpS_none] at h; exact h.elim⟩
  refine span_prim.l1_rule (fun g' pe ne ce tp tn tc t26 i27 H' => g' = g ∧ pe = some ⟨bE, 0, none⟩ ∧ ne = N.toNat ∧ ce = N.toNat ∧ tp = ep ∧ tn = n ∧ tc = ec ∧ t26 = n ∧ ∃ i : Nat, i27 = i ∧ i ≤ n ∧ Step (fun _ => False) H H' ∧ H' g = some ⟨[.int .i64 N, .slice ep n ec], 24⟩ ∧ ∃ sl, Rows2 H H' bE N.toNat sl (adj (ePr e) i) ∧ ∀ v, v < N.toNat → ¬ fpS (sl v).p g)
    (fun g' pe ne ce tp tn tc t26 i27 H' => n - i27.toNat) ?_ ⟨rfl, rfl, rfl, rfl, rfl, rfl, rfl, rfl, 0, rfl, Nat.zero_le _, s1.and s2, e12, _, start, fun _ _ h => by rw [fpS_none] at h; exact h.elim⟩
  clear start e12 r2 hbE s2 e1 s1
  rintro g' pe ne ce tp tn tc t26 i27 H3 ⟨rfl, rfl, rfl, rfl, rfl, rfl, rfl, rfl, i, rfl, hi, s3, e13, sl, rows, hslg⟩ X hX
  refine span_prim.b1_eq ?_
  unfold span_prim.b1_t
  refine bc (fun hlt => ?_) fun hge => ?_
  · have hin : i < tn := by omega
    obtain ⟨u, w, hu, hw, hun, hwn⟩ := (hr.ed i hin).nt
    have eu : (ePr e i).1 = u := by show (e i).fr.toNat = u; omega
    have ew : (ePr e i).2 = w := by show (e i).to.toNat = w; omega
    refine (he.keep s3 fun _ _ _ h => h).edge (by omega) (by omega) ?_
    simp only [Int.toNat_natCast]
    rw [hu, hw]
    refine nwst rfl rfl fun b4 H4 hb4 e4 s4 => ?_
    have e14 := s4.keep _ _ e13 fun h => h
    simp only [get_at e4, List.getElem?_cons_zero, List.getElem?_cons_succ, ldI_mk, ldS_mk]
    have rows4 := rows.keep0 s4
    have s04 := s3.and s4
    have b4o : b4 ≠ bE := fun ee => rows.row.live (b := bE) ⟨_, rfl⟩ (ee ▸ hb4)
    have lb4 : ∀ v, v < N.toNat → ¬ fpS (sl v).p b4 := fun v hv hy => (rows.each v hv).live hy hb4
    refine rows4.row.rdr.ixS (by omega) (by omega) ?_
    simp only [Int.toNat_natCast]
    rw [rows4.len u hun]
    have hla := adj_len (pr := ePr e) (i := i) (v := u)
    refine (rows4.each u hun).appI _ (by omega) fun p5 c5 H5 r5 s5 f5 => ?_
    have e45 := s5.keep _ _ e4 (lb4 u hun)
    have e15 := s5.keep _ _ e14 (hslg u hun)
    simp only [get_at e45, List.getElem?_cons_zero, List.getElem?_cons_succ, ldI_mk, ldS_mk]
    refine ⟨trivial, ?_⟩
    have row5 := rows4.row.keep s5 fun y hy hy' => by rw [fpS_mk] at hy; exact rows4.out u hun y hy' hy
    refine row5.st (α := Sl) (by omega) (by omega) ⟨p5, (adj (ePr e) i u).length + 1, c5⟩ fun H6 r6 s6 => ?_
    simp only [Int.toNat_natCast] at r6
    have rows6 := rows4.push hun s04 r5 s5 f5 r6 s6
    have s06 := (s04.own s5 (rows4.new u hun)).own s6 fun y hy => by rw [fpS_mk] at hy; exact hy ▸ fE
    have e46 := s6.keep _ _ e45 (by rw [fpS_mk]; exact b4o)
    have e16 := s6.keep _ _ e15 (by rw [fpS_mk]; exact ngE)
    obtain ⟨sl6, hsl6⟩ : ∃ sl6, sl6 = upf sl u ⟨p5, (adj (ePr e) i u).length + 1, c5⟩ := ⟨_, rfl⟩
    rw [← hsl6] at rows6
    have lg4 : H4 g' ≠ none := by rw [e14]; exact fun h => by cases h
    have l44 : H4 b4 ≠ none := by rw [e4]; exact fun h => by cases h
    have n6g : ∀ v, v < N.toNat → ¬ fpS (sl6 v).p g' ∧ ¬ fpS (sl6 v).p b4 := fun v hv => by
      rw [hsl6]
      by_cases ev : v = u
      · rw [ev, upf_same]
        exact ⟨fun hy => (f5 _ hy).elim (hslg u hun) lg4, fun hy => (f5 _ hy).elim (lb4 u hun) l44⟩
      · rw [upf_ne ev]; exact ⟨hslg v hv, lb4 v hv⟩
    simp only [get_at e46, List.getElem?_cons_zero, List.getElem?_cons_succ, ldI_mk, ldS_mk]
    obtain ⟨f6, hf6⟩ : ∃ f6, f6 = upf (adj (ePr e) i) u (adj (ePr e) i u ++ [i]) := ⟨_, rfl⟩
    rw [← hf6] at rows6
    have hl6 : (f6 w).length ≤ 2 * i + 1 := by
      rw [hf6]
      by_cases ev : w = u
      · rw [ev, upf_same, List.length_append]; simp; omega
      · rw [upf_ne ev]; have := adj_len (pr := ePr e) (i := i) (v := w); omega
    refine rows6.row.rdr.ixS (by omega) (by omega) ?_
    simp only [Int.toNat_natCast]
    rw [rows6.len w hwn]
    refine (rows6.each w hwn).appI _ (by omega) fun p7 c7 H7 r7 s7 f7 => ?_
    have e47 := s7.keep _ _ e46 (n6g w hwn).2
    have e17 := s7.keep _ _ e16 (n6g w hwn).1
    simp only [get_at e47, List.getElem?_cons_zero, List.getElem?_cons_succ, ldI_mk, ldS_mk]
    refine ⟨trivial, ?_⟩
    have row7 := rows6.row.keep s7 fun y hy hy' => by rw [fpS_mk] at hy; exact rows6.out w hwn y hy' hy
    refine row7.st (α := Sl) (by omega) (by omega) ⟨p7, (f6 w).length + 1, c7⟩ fun H8 r8 s8 => ?_
    simp only [Int.toNat_natCast] at r8
    have rows8 := rows6.push hwn s06 r7 s7 f7 r8 s8
    have s08 := (s06.own s7 (rows6.new w hwn)).own s8 fun y hy => by rw [fpS_mk] at hy; exact hy ▸ fE
    have e18 := s8.keep _ _ e17 (by rw [fpS_mk]; exact ngE)
    have hadj := adj_succ eu ew
    rw [← hf6] at hadj
    rw [hadj] at rows8
    rw [i64w (by omega) (by omega)]
    have lg6 : H6 g' ≠ none := by rw [e16]; exact fun h => by cases h
    refine hX _ _ _ _ _ _ _ _ _ _ ⟨rfl, rfl, rfl, rfl, rfl, rfl, rfl, rfl, i + 1, by omega, by omega, s08, e18, _, rows8, fun v hv => ?_⟩ (by omega)
    by_cases ev : v = w
    · rw [ev, upf_same]
      exact fun hy => (f7 _ hy).elim (n6g w hwn).1 lg6
    · rw [upf_ne ev]; exact (n6g v hv).1
  clear hX
  have hin : i = tn := by omega
  subst hin
  refine span_prim.j1_eq ?_
  unfold span_prim.j1_t
  simp only [get_at e13, List.getElem?_cons_zero, List.getElem?_cons_succ, ldI_mk, ldS_mk]
  refine Row.mkB hN0 (by omega) fun bI H4 hbI rI s4 => ?_
  have e14 := s4.keep _ _ e13 fun h => h
  simp only [get_at e14, List.getElem?_cons_zero, List.getElem?_cons_succ, ldI_mk, ldS_mk]
  refine Row.mkI hN0 (by omega) fun bV H5 hbV rV s5 => ?_
  have e15 := s5.keep _ _ e14 fun h => h
  simp only [get_at e15, List.getElem?_cons_zero, List.getElem?_cons_succ, ldI_mk, ldS_mk]
  refine qnew2 hN0 hN1 fun H6 q FP hQ s6 f6 => ?_
  have e16 := s6.keep _ _ e15 fun h => h
  simp only [get_at e16, List.getElem?_cons_zero, List.getElem?_cons_succ, ldI_mk, ldS_mk]
  have fg : H g' = none := hg
  have lg5 : H5 g' ≠ none := by rw [e15]; exact fun h => by cases h
  have rows5 := (rows.keep0 s4).keep0 s5
  have rI5 := rI.keep s5 fun _ _ h => h
  have hM : PmM E H H6 g' bE bI bV q N tp i tc e sl none 0 [] (fun _ => false) (fun _ => 0) (fun _ => 0) 0 (fun _ => false) FP := by
    refine ⟨((s3.and s4).and s5).and s6, e16, rows5.keep0 s6, Row.nil, rI5.keep s6 fun _ _ h => h, rV.keep s6 fun _ _ h => h, hQ, fg, s3.mono _ hbI, s3.mono _ (s4.mono _ hbV), fun y hy => s3.mono _ (s4.mono _ (s5.mono _ (f6 y hy))), fun y hy => (by rw [fpS_none] at hy; exact hy.elim), ⟨?_, ?_, ?_, ?_, by rw [fpS_none]; exact fun h => h, fun v hv hy => ?_⟩, ⟨?_, ?_, ?_, by rw [fpS_none]; exact fun h => h, fun v hv hy => ?_⟩, fun y hy => (by rw [fpS_none] at hy; exact hy.elim), fun y hy => ⟨fun ee => ?_, fun ee => ?_, fun v hv hy' => ?_⟩⟩
    · exact (ne_of_live hbI (by rw [e13]; exact fun h => by cases h)).symm
    · exact (ne_of_live hbI (rows.row.live (b := bE) ⟨_, rfl⟩)).symm
    · exact ne_of_live hbV (rI.live (b := bI) ⟨_, rfl⟩)
    · exact fun h => rI5.live (b := bI) ⟨_, rfl⟩ (f6 _ h)
    · exact (rows.each v hv).live hy hbI
    · exact (ne_of_live hbV (by rw [e14]; exact fun h => by cases h)).symm
    · exact (ne_of_live hbV ((rows.keep0 s4).row.live (b := bE) ⟨_, rfl⟩)).symm
    · exact fun h => rV.live (b := bV) ⟨_, rfl⟩ (f6 _ h)
    · exact ((rows.keep0 s4).each v hv).live hy hbV
    · exact lg5 (ee ▸ f6 y hy)
    · exact rows5.row.live (b := bE) ⟨_, rfl⟩ (ee ▸ f6 y hy)
    · exact (rows5.each v hv).live hy' (f6 y hy)
  have hT0 : PrT e i [] (fun _ => false) := ⟨List.nodup_nil, fun k hk => (by cases hk), fun i hi h => by cases h⟩
  have hB0 : PrB e i [] (fun _ => false) (fun _ => false) (fun _ => 0) (fun _ => 0) := ⟨hT0, ⟨fun _ => false, 0, fun i hi => rfl, fun v h => (by cases h), fun v h => by cases h⟩, fun w hw => .inl ⟨rfl, fun i hi hq => by unfold Qin at hq; simp at hq⟩, fun w hw => by cases hw⟩
  refine span_prim.l2_rule (fun g3 pe ne ce tp' tn' tc' pI nI cI pV nV cV q' t70 s71 H' => g3 = g' ∧ pe = some ⟨bE, 0, none⟩ ∧ ne = N.toNat ∧ ce = N.toNat ∧ pI = some ⟨bI, 0, none⟩ ∧ nI = N.toNat ∧ cI = N.toNat ∧ pV = some ⟨bV, 0, none⟩ ∧ nV = N.toNat ∧ cV = N.toNat ∧ q' = some ⟨q, 0, none⟩ ∧ t70 = N ∧ ∃ s : Nat, s71 = s ∧ s ≤ N.toNat ∧ ∃ took inn via key last S FP, tn' = took.length ∧ PmM E H H' g' bE bI bV q N tp i tc e sl tp' tc' took inn via key last S FP ∧ PrB e i took inn S key via ∧ (∀ v, S v = false) ∧ ∀ v, v < s → inn v = true)
    (fun g3 pe ne ce tp' tn' tc' pI nI cI pV nV cV q' t70 s71 H' => N.toNat - s71.toNat) ?_ ⟨rfl, rfl, rfl, rfl, rfl, rfl, rfl, rfl, rfl, rfl, rfl, rfl, 0, rfl, Nat.zero_le _, [], _, _, _, _, _, _, rfl, hM, hB0, fun _ => rfl, fun v hv => by omega⟩
  clear hM hB0 hT0 rows5 rI5 hQ rV rI e13 e14 e15 e16 rows s3 s4 s5 s6 f6 hbI hbV lg5 FP hg hslg
  rintro g3 pe ne ce tp' tn' tc' pI nI cI pV nV cV q' t70 s71 H7 ⟨rfl, rfl, rfl, rfl, rfl, rfl, rfl, rfl, rfl, rfl, rfl, rfl, s, rfl, hs, took, inn, via, key, last, S, FP, rfl, hM, hB, hS0, hin⟩ X hX
  refine span_prim.b2_eq ?_
  unfold span_prim.b2_t
  refine bc (fun hlt => ?_) fun hge => ?_
  · have hsN : s < t70.toNat := by omega
    refine hM.ri.ixB (by omega) (by omega) ?_
    rw [Int.toNat_natCast]
    have next : ∀ (H' : Hp) tp'' tc'' took inn via key last S FP, PmM E H H' g3 bE bI bV q t70 tp i tc e sl tp'' tc'' took inn via key last S FP → PrB e i took inn S key via → (∀ v, S v = false) → (∀ v, v < s + 1 → inn v = true) → span_prim.j4 g3 (some ⟨bE, 0, none⟩) t70.toNat t70.toNat tp'' took.length tc'' (some ⟨bI, 0, none⟩) t70.toNat t70.toNat (some ⟨bV, 0, none⟩) t70.toNat t70.toNat (some ⟨q, 0, none⟩) t70 (s : Int) X E H' K := fun H' tp'' tc'' took inn via key last S FP q1 q2 q3 q4 => by
      refine span_prim.j4_eq ?_
      unfold span_prim.j4_t
      rw [i64w (by omega) (by omega)]
      exact hX _ _ _ _ _ _ _ _ _ _ _ _ _ _ _ _ _ ⟨rfl, rfl, rfl, rfl, rfl, rfl, rfl, rfl, rfl, rfl, rfl, rfl, s + 1, by omega, by omega, took, inn, via, key, last, S, FP, rfl, q1, q2, q3, q4⟩ (by omega)
    refine bcb (fun his => ?_) fun his => ?_
    · refine next H7 _ _ _ _ _ _ _ _ _ hM hB hS0 fun v hv => ?_
      by_cases ev : v = s
      · rw [ev]; exact his
      · exact hin v (by omega)
    · refine hM.rv.stI (by omega) (by omega) _ fun H8 r8 s8 => ?_
      rw [Int.toNat_natCast] at r8
      have hM8 := hM.setV s8 r8
      refine qpush (by decide) hM8.qu (fun h => (h (pushC2 hsN (hS0 s))).elim) fun hpc H9 FP9 hQ9 s9 f9 => ?_
      rw [Int.toNat_natCast] at hQ9
      have hM9 := hM8.setQ s9 hQ9 f9
      have hA : PrA e i took inn (upf S s true) (upf via s (-1)) s := ⟨hB.1, hB.closed hS0, his, fun w => ⟨fun h => ?_, fun h => by rw [h, upf_same]⟩, upf_same⟩
      · have hL0 : PmL E H g3 bE bI bV q t70 tp i tc e sl s tp' took.length tc' H9 (cnt (fun v => !inn v) t70.toNat) := ⟨took, inn, _, _, _, _, _, rfl, hM9, .inl hA, hin, rfl⟩
        refine span_prim.l3_rule (fun g4 pe ne ce tp'' tn'' tc'' pI nI cI pV nV cV q' t70' s71' H' => g4 = g3 ∧ pe = some ⟨bE, 0, none⟩ ∧ ne = t70.toNat ∧ ce = t70.toNat ∧ pI = some ⟨bI, 0, none⟩ ∧ nI = t70.toNat ∧ cI = t70.toNat ∧ pV = some ⟨bV, 0, none⟩ ∧ nV = t70.toNat ∧ cV = t70.toNat ∧ q' = some ⟨q, 0, none⟩ ∧ t70' = t70 ∧ s71' = s ∧ ∃ m, PmL E H g3 bE bI bV q t70 tp i tc e sl s tp'' tn'' tc'' H' m)
          (fun g4 pe ne ce tp'' tn'' tc'' pI nI cI pV nV cV q' t70' s71' H' => gm (PmL E H g3 bE bI bV q t70 tp i tc e sl s tp'' tn'' tc'' H')) ?_ ⟨rfl, rfl, rfl, rfl, rfl, rfl, rfl, rfl, rfl, rfl, rfl, rfl, rfl, _, hL0⟩
        clear hL0 hA hM9 hQ9 hM8 r8 hM hB f9 s9 s8 his hpc hS0 hin took inn via key last S FP tp' tc'
        rintro g4 pe ne ce tp' tn' tc' pI nI cI pV nV cV q' t70' s71' H10 ⟨rfl, rfl, rfl, rfl, rfl, rfl, rfl, rfl, rfl, rfl, rfl, rfl, rfl, m0, hm0⟩ Y hY
        have hm := (gm_of hm0).1
        generalize gm (PmL E H g4 bE bI bV q t70' tp i tc e sl s tp' tn' tc' H10) = m at hm hY
        obtain ⟨took, inn, via, key, last, S, FP, rfl, hM, hor, hin, hmm⟩ := hm
        clear hm0 m0
        refine span_prim.b3_eq ?_
        unfold span_prim.b3_t
        refine qlen hM.qu ?_
        refine bc (fun hpos => ?_) fun hz => ?_
        · refine qpop hM.qu (fun h0 => ?_) fun v H11 FP' hSv hleast hQ11 s11 f11 => ?_
          · have : cnt S t70'.toNat = 0 := cnt_none fun i _ => h0 i
            omega
          · have hvN := hM.qu.sub v hSv
            have hM11 := hM.setQ s11 hQ11 f11
            refine hM11.ri.stB (by omega) (by omega) _ fun H12 r12 s12 => ?_
            rw [Int.toNat_natCast] at r12
            have hM12 := hM11.setI s12 r12
            refine hM12.rv.ixI (by omega) (by omega) ?_
            rw [Int.toNat_natCast]
            have hout : inn v = false := by
              rcases hor with hA | ⟨hB, _⟩
              · rw [(hA.2.2.2.1 v).1 hSv]; exact hA.2.2.1
              · exact hB.2.2.2 v hSv
            have hcnt : cnt (fun u => !inn u) t70'.toNat = cnt (fun u => !(upf inn v true u)) t70'.toNat + 1 := cnt_less hvN (by simp [hout]) (by simp [upf_same]) fun u _ hu => by simp [upf_ne hu]
            have up : ∀ u, inn u = true → upf inn v true u = true := fun u hu => by
              by_cases e' : u = v
              · rw [e', upf_same]
              · rw [upf_ne e']; exact hu
            have hins : upf inn v true s = true := by
              rcases hor with hA | ⟨_, h⟩
              · rw [(hA.2.2.2.1 v).1 hSv]; exact upf_same
              · exact up s h
            have hin' : ∀ u, u < s → upf inn v true u = true := fun u hu => up u (hin u hu)
            -- behind the take
            have go : ∀ (H13 : Hp) tp'' tc'' took', PmM E H H13 g4 bE bI bV q t70' tp i tc e sl tp'' tc'' took' (upf inn v true) via key (key v) (upf S v false) FP' → PrC e i took' (upf inn v true) (upf S v false) key via v [] → span_prim.j2 g4 (some ⟨bE, 0, none⟩) t70'.toNat t70'.toNat tp'' took'.length tc'' (some ⟨bI, 0, none⟩) t70'.toNat t70'.toNat (some ⟨bV, 0, none⟩) t70'.toNat t70'.toNat (some ⟨q, 0, none⟩) (v : Int) t70' (s : Int) X Y E H13 K := by
              intro H13 tp'' tc'' took' hM13 hC
              refine span_prim.j2_eq ?_
              unfold span_prim.j2_t
              refine hM13.en.row.rdr.ixS (by omega) (by omega) ?_
              simp only [Int.toNat_natCast]
              rw [hM13.en.len v hvN]
              have hlv := adj_len (pr := ePr e) (i := i) (v := v)
              refine span_prim.l4_rule (fun g5 pe ne ce tp3 tn3 tc3 pI nI cI pV nV cV q' v12 t70'' s71' lp ln lc t112 p113 H' => g5 = g4 ∧ pe = some ⟨bE, 0, none⟩ ∧ ne = t70'.toNat ∧ ce = t70'.toNat ∧ tp3 = tp'' ∧ tn3 = took'.length ∧ tc3 = tc'' ∧ pI = some ⟨bI, 0, none⟩ ∧ nI = t70'.toNat ∧ cI = t70'.toNat ∧ pV = some ⟨bV, 0, none⟩ ∧ nV = t70'.toNat ∧ cV = t70'.toNat ∧ q' = some ⟨q, 0, none⟩ ∧ v12 = v ∧ t70'' = t70' ∧ s71' = s ∧ lp = (sl v).p ∧ ln = (adj (ePr e) i v).length ∧ lc = (sl v).c ∧ t112 = (adj (ePr e) i v).length ∧ ∃ p : Nat, p113 = p ∧ p ≤ (adj (ePr e) i v).length ∧ ∃ via key last S FP, PmM E H H' g4 bE bI bV q t70' tp i tc e sl tp'' tc'' took' (upf inn v true) via key last S FP ∧ PrC e i took' (upf inn v true) S key via v ((adj (ePr e) i v).take p))
                (fun g5 pe ne ce tp3 tn3 tc3 pI nI cI pV nV cV q' v12 t70'' s71' lp ln lc t112 p113 H' => (adj (ePr e) i v).length - p113.toNat) ?_ ⟨rfl, rfl, rfl, rfl, rfl, rfl, rfl, rfl, rfl, rfl, rfl, rfl, rfl, rfl, rfl, rfl, rfl, rfl, rfl, rfl, rfl, 0, rfl, Nat.zero_le _, _, _, _, _, _, hM13, hC⟩
              clear hM13 hC
              rintro g5 pe ne ce tp3 tn3 tc3 pI nI cI pV nV cV q' v12 t70'' s71' lp ln lc t112 p113 H14 ⟨rfl, rfl, rfl, rfl, rfl, rfl, rfl, rfl, rfl, rfl, rfl, rfl, rfl, rfl, rfl, rfl, rfl, rfl, rfl, rfl, rfl, p, rfl, hp, via, key, last, S, FP, hM, hC⟩ Z hZ
              refine span_prim.b4_eq ?_
              unfold span_prim.b4_t
              refine bc (fun hlt4 => ?_) fun hge4 => ?_
              · have hpl : p < (adj (ePr e) i v).length := by omega
                obtain ⟨x, hx⟩ : ∃ x, (adj (ePr e) i v)[p]? = some x := ⟨_, List.getElem?_eq_getElem hpl⟩
                have ex : lsF (adj (ePr e) i v) p = (x : Int) := by simp [lsF, hx]
                have etake : (adj (ePr e) i v).take (p + 1) = (adj (ePr e) i v).take p ++ [x] := by rw [List.take_add_one, hx]; rfl
                obtain ⟨hxn, hxv⟩ := mem_adj.1 (List.mem_of_getElem? hx)
                refine (hM.en.each v hvN).ixI (by omega) (by omega) ?_
                rw [Int.toNat_natCast, ex]
                obtain ⟨a, b, ha, hb, han, hbn⟩ := (hr.ed x hxn).nt
                have ea : (ePr e x).1 = a := by show (e x).fr.toNat = a; omega
                have eb : (ePr e x).2 = b := by show (e x).to.toNat = b; omega
                rw [ea, eb] at hxv
                have heM := he.keep hM.st fun _ _ _ h => h
                simp only [get_at hM.gc, List.getElem?_cons_zero, List.getElem?_cons_succ, ldI_mk, ldS_mk]
                refine heM.edgeF (by omega) (by omega) ?_
                refine heM.edgeT (by omega) (by omega) ?_
                refine heM.edgeC (by omega) (by omega) ?_
                rw [Int.toNat_natCast, ha, hb]
                -- the other end
                obtain ⟨w, hw, hwN, hwo, hww⟩ : ∃ w : Nat, (a : Int) + b - v = w ∧ w < t70''.toNat ∧ (∀ u, Tw e x u → u = v ∨ u = w) ∧ Tw e x w := by
                  rcases hxv with h | h
                  · exact ⟨b, by omega, hbn, fun u hu => by unfold Tw at hu; rw [ea, eb] at hu; omega, .inr eb⟩
                  · exact ⟨a, by omega, han, fun u hu => by unfold Tw at hu; rw [ea, eb] at hu; omega, .inl ea⟩
                have htv : Tw e x v := by unfold Tw; rw [ea, eb]; exact hxv
                have hk0 := (hr.ed x hxn).k0
                have hk1 := (hr.ed x hxn).k1
                rw [i64w (n := (a : Int) + b) (by omega) (by omega), hw, i64w (n := (w : Int)) (by omega) (by omega)]
                rw [i64w (n := (e x).co * 4096) (by omega) (by omega), i64w (n := (e x).co * 4096 + (x : Int)) (by omega) (by omega)]
                have hcode : (e x).co * 4096 + (x : Int) = codeE e x := rfl
                rw [hcode]
                have hcb : codeE e x ≤ 9223372036854775807 := by unfold codeE; omega
                have next4 : ∀ (H' : Hp) via key last S FP, PmM E H H' g5 bE bI bV q t70'' tp i tc e sl tp3 tc3 took' (upf inn v true) via key last S FP → PrC e i took' (upf inn v true) S key via v ((adj (ePr e) i v).take p ++ [x]) → span_prim.j3 g5 (some ⟨bE, 0, none⟩) t70''.toNat t70''.toNat tp3 took'.length tc3 (some ⟨bI, 0, none⟩) t70''.toNat t70''.toNat (some ⟨bV, 0, none⟩) t70''.toNat t70''.toNat (some ⟨q, 0, none⟩) (v : Int) t70'' (s : Int) (sl v).p (adj (ePr e) i v).length (sl v).c ((adj (ePr e) i v).length : Int) (p : Int) X Y Z E H' K := fun H' via key last S FP q1 q2 => by
                  refine span_prim.j3_eq ?_
                  unfold span_prim.j3_t
                  rw [i64w (by omega) (by omega)]
                  exact hZ _ _ _ _ _ _ _ _ _ _ _ _ _ _ _ _ _ _ _ _ _ _ _ ⟨rfl, rfl, rfl, rfl, rfl, rfl, rfl, rfl, rfl, rfl, rfl, rfl, rfl, rfl, rfl, rfl, rfl, rfl, rfl, rfl, rfl, p + 1, by omega, by omega, via, key, last, S, FP, q1, by rw [etake]; exact q2⟩ (by omega)
                refine qkey hM.qu ?_
                rw [keyC2 hwN, Int.toNat_natCast]
                refine hM.ri.ixB (by omega) (by omega) ?_
                rw [Int.toNat_natCast]
                refine bcb (fun hiw => ?_) fun hiw => ?_
                · exact next4 H14 via key last S FP hM (hC.skip htv hiw hwo)
                · cases hSw : S w with
                  | false =>
                    refine bcn (fun _ => ?_) fun h => by simp at h
                    refine qpush hcb hM.qu (fun h => (h (pushC2 hwN hSw)).elim) fun _ H15 FP15 hQ15 s15 f15 => ?_
                    rw [Int.toNat_natCast] at hQ15
                    have hM15 := hM.setQ s15 hQ15 f15
                    refine hM15.rv.stI (by omega) (by omega) _ fun H16 r16 s16 => ?_
                    rw [Int.toNat_natCast] at r16
                    exact next4 H16 _ _ _ _ _ (hM15.setV s16 r16) (hC.hold hxn htv hiw hww hwo (fun h => by rw [hSw] at h; cases h) (by omega))
                  | true =>
                    refine bcn (fun h => (h (by simp)).elim) fun _ => ?_
                    rw [if_pos rfl, if_pos rfl]
                    refine bc (fun hlw => ?_) fun hlw => ?_
                    · refine qlower hM.qu (fun h => (h (lowerC2 hwN hSw (by omega))).elim) fun _ H15 FP15 hQ15 s15 f15 => ?_
                      rw [Int.toNat_natCast] at hQ15
                      have hM15 := hM.setQ s15 hQ15 f15
                      refine hM15.rv.stI (by omega) (by omega) _ fun H16 r16 s16 => ?_
                      rw [Int.toNat_natCast] at r16
                      have hSS : upf S w true = S := by
                        funext u
                        by_cases eu : u = w
                        · rw [eu, upf_same, hSw]
                        · rw [upf_ne eu]
                      have hold := hC.hold hxn htv hiw hww hwo (fun _ => by
                        obtain ⟨k', hk', hkk⟩ := hC.held hiw hSw
                        exact ⟨k', hk', hkk, (code_lt (by omega) (by omega)).1 (by rw [← hkk]; exact hlw)⟩) (by omega)
                      rw [hSS] at hold
                      exact next4 H16 _ _ _ _ _ (hM15.setV s16 r16) hold
                    · exact next4 H14 via key last S FP hM (hC.stay hxn htv hwo hSw hlw (by omega))
              · have hpl : p = (adj (ePr e) i v).length := by omega
                subst hpl
                rw [List.take_length] at hC
                have hL : PmL E H g5 bE bI bV q t70'' tp i tc e sl s tp3 took'.length tc3 H14 (cnt (fun u => !(upf inn v true u)) t70''.toNat) := ⟨took', _, via, key, last, S, FP, rfl, hM, .inr ⟨hC.done, hins⟩, hin', rfl⟩
                exact hY _ _ _ _ _ _ _ _ _ _ _ _ _ _ _ _ _ ⟨rfl, rfl, rfl, rfl, rfl, rfl, rfl, rfl, rfl, rfl, rfl, rfl, rfl, _, hL⟩ (by
                  have := (gm_of hL).2
                  omega)
            rcases hor with hA | ⟨hB, _⟩
            · have evs : v = s := (hA.2.2.2.1 v).1 hSv
              have hvia : via v = -1 := by rw [evs]; exact hA.2.2.2.2
              rw [hvia]
              refine bc (fun h => by omega) fun _ => ?_
              refine go H12 _ _ _ hM12 ?_
              rw [evs]
              exact hA.pop
            · obtain ⟨x, hx, hvia, hC⟩ := hB.pop (by omega) hSv hleast
              rw [hvia]
              refine bc (fun _ => ?_) fun h => by omega
              refine hM12.rv.ixI (by omega) (by omega) ?_
              rw [Int.toNat_natCast, hvia]
              have htl : took.length ≤ i := nodup_len i took hB.1.nd fun y hy => (hB.1.inf y hy).1.1
              refine hM12.tk.appI _ (by omega) fun tp13 tc13 H13 r13 s13 f13 => ?_
              have hM13 := hM12.app s13 r13 f13
              have hg := go H13 _ _ _ hM13 hC
              rw [List.length_append] at hg
              exact hg
        · have hSz : ∀ v, S v = false := fun v => by
            cases h : S v with
            | false => rfl
            | true => have := cnt_pos (hM.qu.sub v h) h; omega
          rcases hor with hA | ⟨hB, his⟩
          · have := hSz s
            rw [(hA.2.2.2.1 s).2 rfl] at this; cases this
          · refine next H10 _ _ _ _ _ _ _ _ _ hM hB hSz fun v hv => ?_
            by_cases ev : v = s
            · rw [ev]; exact his
            · exact hin v (by omega)
      · by_cases ew : w = s
        · exact ew
        · rw [upf_ne ew, hS0 w] at h; cases h
  · clear hX
    have hrng : ∀ t, t < i → (ePr e t).1 < t70.toNat ∧ (ePr e t).2 < t70.toNat := fun t ht => by
      have hx := hr.ed t ht
      have hf0 := hx.f0; have hf1 := hx.f1; have ht0 := hx.t0; have ht1 := hx.t1
      unfold ePr
      exact ⟨by show (e t).fr.toNat < _; omega, by show (e t).to.toNat < _; omega⟩
    refine k H7 tp' tc' took hM.st hM.tk hM.fT ⟨hB.1.nd, fun x => ⟨fun h => (hB.1.inf x h).1, fun h => ?_⟩⟩
    have := InF.all (e := e) (n := i) (T := fun t => decide (t ∈ took)) (fun t _ ht => (hB.1.inf t (by simpa using ht)).1) (fun t ht => Sel.mono (fun t _ ht => by simpa using ht) (hB.1.jo t ht (hin _ (by have := (hrng t ht).1; omega)) (hin _ (by have := (hrng t ht).2; omega)))) h
    simpa using this
end
end Go.Mz

/-
  Walks of layer 10: Forest, by each way of finding it.
-/
namespace Go.Mz

/-- Forest's error -/
def spC (N : Int) (n : Nat) (e : Nat → Edg) (kind : Int) : Int := if chk N n e ≠ 0 then chk N n e else if kind < 1 ∨ 3 < kind then 50 else 0

open Classical in
/-- the forest, rising -/
noncomputable def frs (e : Nat → Edg) (n : Nat) : List Nat := (List.range n).filter fun k => decide (InF e n k)

/-- the cost of so many edges -/
def csum (e : Nat → Edg) (f : Nat → Int) : Nat → Int
  | 0 => 0
  | i + 1 => csum e f i + (e (f i).toNat).co

theorem csum_bnd {e : Nat → Edg} {f : Nat → Int} : ∀ {m : Nat}, (∀ i, i < m → -1048576 ≤ (e (f i).toNat).co ∧ (e (f i).toNat).co ≤ 1048576) → -(1048576 * (m : Int)) ≤ csum e f m ∧ csum e f m ≤ 1048576 * (m : Int)
  | 0, _ => by simp [csum]
  | m + 1, h => by
    have h1 := csum_bnd (e := e) (f := f) (m := m) fun i hi => h i (by omega)
    have h2 := h m (by omega)
    have e1 : csum e f (m + 1) = csum e f m + (e (f m).toNat).co := rfl
    rw [e1]
    omega

/-- a row that holds the forest -/
structure FoR (e : Nat → Edg) (n m : Nat) (f : Nat → Int) : Prop where
  len : m = (frs e n).length
  at' : ∀ i, i < m → f i = lsF (frs e n) i

theorem frs_mem {e : Nat → Edg} {n k : Nat} : k ∈ frs e n ↔ InF e n k := by
  unfold frs
  rw [List.mem_filter, List.mem_range]
  simp only [decide_eq_true_eq]
  exact ⟨fun h => h.2, fun h => ⟨h.1, h⟩⟩

theorem frs_pw {e : Nat → Edg} {n : Nat} : (frs e n).Pairwise (· < ·) := List.pairwise_lt_range.filter _

theorem frs_nodup {e : Nat → Edg} {n : Nat} : (frs e n).Nodup := frs_pw.imp fun {a b} h => by omega

theorem frs_len {e : Nat → Edg} {n : Nat} : (frs e n).length ≤ n := nodup_len n _ frs_nodup fun x hx => (frs_mem.1 hx).1

theorem FoR.le {e : Nat → Edg} {n m : Nat} {f : Nat → Int} (h : FoR e n m f) : m ≤ n := by rw [h.len]; exact frs_len

theorem FoR.mem {e : Nat → Edg} {n m i : Nat} {f : Nat → Int} (h : FoR e n m f) (hi : i < m) : ∃ k : Nat, f i = (k : Int) ∧ InF e n k ∧ (frs e n)[i]? = some k := by
  have hl : i < (frs e n).length := by rw [← h.len]; exact hi
  refine ⟨(frs e n)[i], ?_, frs_mem.1 (List.getElem_mem hl), List.getElem?_eq_getElem hl⟩
  rw [h.at' i hi, lsF, List.getElem?_eq_getElem hl]; rfl

theorem FoR.uniq {e : Nat → Edg} {n m m' : Nat} {f f' : Nat → Int} (h : FoR e n m f) (h' : FoR e n m' f') : m = m' ∧ ∀ i, i < m → f i = f' i := by
  have := h.len; have := h'.len
  exact ⟨by omega, fun i hi => (h.at' i hi).trans (h'.at' i (by omega)).symm⟩

theorem TkF.perm {e : Nat → Edg} {n : Nat} {took : List Nat} (h : TkF e n took) : took.Perm (frs e n) :=
  (List.perm_ext_iff_of_nodup h.1 frs_nodup).2 fun a => (h.2 a).trans frs_mem.symm

theorem range_lsF {l : List Nat} : (List.range l.length).map (lsF l) = l.map (fun (k : Nat) => (k : Int)) := by
  apply List.ext_getElem (by simp)
  intro i h1 h2
  have : i < l.length := by simpa using h1
  simp [lsF, this]

theorem TkF.sorted {e : Nat → Edg} {n : Nat} {took : List Nat} {g : Nat → Int} (h : TkF e n took) (hp : ((List.range took.length).map g).Perm ((List.range took.length).map (lsF took))) (hs : ∀ i j, i < j → j < took.length → g i ≤ g j) : FoR e n took.length g := by
  have hl : took.length = (frs e n).length := h.perm.length_eq
  have h1 : ((List.range took.length).map g).Perm ((frs e n).map fun (k : Nat) => (k : Int)) := by
    rw [range_lsF] at hp
    exact hp.trans (h.perm.map _)
  have h2 : ((List.range took.length).map g).Pairwise (· ≤ ·) := by
    rw [List.pairwise_map]
    refine List.Pairwise.imp_of_mem (fun {a b} ha hb hab => ?_) (List.pairwise_lt_range (n := took.length))
    exact hs a b hab (by simpa using hb)
  have h3 : ((frs e n).map fun (k : Nat) => (k : Int)).Pairwise (· ≤ ·) := by
    rw [List.pairwise_map]
    exact frs_pw.imp fun {a b} hab => by omega
  have h4 := List.Perm.eq_of_pairwise (le := fun a b : Int => a ≤ b) (fun a b _ _ h h' => by omega) h2 h3 h1
  refine ⟨hl, fun i hi => ?_⟩
  have h5 : ((List.range took.length).map g)[i]? = ((frs e n).map fun (k : Nat) => (k : Int))[i]? := by rw [h4]
  have hif : i < (frs e n).length := by omega
  rw [List.getElem?_map, List.getElem?_map, List.getElem?_range hi, List.getElem?_eq_getElem hif] at h5
  simp only [Option.map_some, Option.some.injEq] at h5
  rw [h5, lsF, List.getElem?_eq_getElem hif]; rfl

section
variable {E : Value → Hp → Prop}

theorem sforest {N kind : Int} {ep : Option Addr} {n ec : Nat} {e : Nat → Edg} {H : Hp} {K : Option Addr → Nat → Nat → Int → Int → Hp → Prop} (he : Rdr H ep n e) (hn : n < 2 ^ 63)
    (k : ∀ H' p m c f cost, Step (fun _ => False) H H' → Row H' p m c f → (∀ y, fpS p y → H y = none) → ((spC N n e kind ≠ 0 ∧ m = 0 ∧ cost = 0) ∨ (spC N n e kind = 0 ∧ Right N n e ∧ FoR e n m f ∧ cost = csum e f m)) → m ≤ 4096 → K p m c cost (spC N n e kind) H') : span_Forest.call N ep n ec kind E H K := by
  refine span_Forest.of (span_Forest.run_eq ?_)
  unfold span_Forest.run_t
  refine nwk fun b1 H1 hb1 e1 s1 => ?_
  simp only [get_at e1, List.getElem?_cons_zero, List.getElem?_cons_succ, ldI_mk, ldS_mk]
  refine gcheck (he.keep s1 fun _ _ _ h => h) hn fun H2 a s2 => ?_
  have e12 := s2.keep _ _ e1 fun h => h
  refine nwst rfl rfl fun b3 H3 hb3 e3 s3 => ?_
  have e13 := s3.keep _ _ e12 fun h => h
  have s03 := (s1.and s2).and s3
  simp only [get_at e3, List.getElem?_cons_zero, List.getElem?_cons_succ, ldI_mk, ldS_mk]
  have nil : spC N n e kind ≠ 0 → K none 0 0 0 (spC N n e kind) H3 := fun h => k H3 none 0 0 (fun _ => 0) 0 s03 Row.nil (fun y hy => by rw [fpS_none] at hy; exact hy.elim) (.inl ⟨h, rfl, rfl⟩) (by omega)
  refine bcn (fun hc => ?_) fun hc => ?_
  · have ec' : spC N n e kind = chk N n e := if_pos hc
    rw [ec'] at nil; exact nil hc
  have hr : Right N n e := chk_zero.1 hc
  have hn1 := hr.n1
  have ek : spC N n e kind = if kind < 1 ∨ 3 < kind then 50 else 0 := if_neg (fun h => h hc)
  -- what follows a way of finding it
  have go : spC N n e kind = 0 → ∀ H4 tp tc took, Step (fun _ => False) H3 H4 → Row H4 tp took.length tc (lsF took) → (∀ y, fpS tp y → H3 y = none) → TkF e n took → span_Forest.j1 b1 tp took.length tc E H4 K := by
    intro hz H4 tp tc took s4 r4 f4 hT
    have hl := hT.len
    refine span_Forest.j1_eq ?_
    unfold span_Forest.j1_t
    refine sortI r4 (by omega) fun H5 g r5 s5 hs hp => ?_
    have hF := hT.sorted hp hs
    have f4' : ∀ y, fpS tp y → H y = none := fun y hy => s03.mono y (f4 y hy)
    have e14 := s4.keep _ _ e13 fun h => h
    have e15 := s5.keep _ _ e14 fun h => by have := f4 _ h; rw [e13] at this; cases this
    have s05 := (s03.and s4).own s5 f4'
    have hco : ∀ i, i < took.length → -1048576 ≤ (e (g i).toNat).co ∧ (e (g i).toNat).co ≤ 1048576 := fun i hi => by
      obtain ⟨x, hx, hxF, _⟩ := hF.mem hi
      have := hr.ed x hxF.1
      rw [hx, Int.toNat_natCast]
      exact ⟨this.k0, this.k1⟩
    refine span_Forest.l1_rule (fun g2 p' n' c' co9 p2 n2 c2 t35 i36 H' => g2 = b1 ∧ p' = tp ∧ n' = took.length ∧ c' = tc ∧ p2 = tp ∧ n2 = took.length ∧ c2 = tc ∧ t35 = took.length ∧ H' = H5 ∧ ∃ i : Nat, i36 = i ∧ i ≤ took.length ∧ co9 = csum e g i) (fun g2 p' n' c' co9 p2 n2 c2 t35 i36 H' => took.length - i36.toNat) ?_ ⟨rfl, rfl, rfl, rfl, rfl, rfl, rfl, rfl, rfl, 0, rfl, Nat.zero_le _, rfl⟩
    rintro g2 p' n' c' co9 p2 n2 c2 t35 i36 H' ⟨rfl, rfl, rfl, rfl, rfl, rfl, rfl, rfl, rfl, i, rfl, hi, rfl⟩ X hX
    refine span_Forest.b1_eq ?_
    unfold span_Forest.b1_t
    refine bc (fun hlt => ?_) fun hge => ?_
    · refine r5.ixI (by omega) (by omega) ?_
      rw [Int.toNat_natCast]
      obtain ⟨x, hx, hxF, _⟩ := hF.mem (i := i) (by omega)
      have hxn := hxF.1
      simp only [get_at e15, List.getElem?_cons_zero, List.getElem?_cons_succ, ldI_mk, ldS_mk]
      rw [hx]
      refine (he.keep s05 fun _ _ _ h => h).edgeC (by omega) (by omega) ?_
      rw [Int.toNat_natCast]
      have h1 := csum_bnd (e := e) (f := g) (m := i) fun j hj => hco j (by omega)
      have h2 := hco i (by omega)
      rw [hx, Int.toNat_natCast] at h2
      rw [i64w (by omega) (by omega), i64w (by omega) (by omega)]
      refine hX _ _ _ _ _ _ _ _ _ _ _ ⟨rfl, rfl, rfl, rfl, rfl, rfl, rfl, rfl, rfl, i + 1, by omega, by omega, ?_⟩ (by omega)
      show _ = csum e g i + (e (g i).toNat).co
      rw [hx, Int.toNat_natCast]
    · have hi' : i = took.length := by omega
      subst hi'
      refine span_Forest.j2_eq ?_
      unfold span_Forest.j2_t
      have := k H' p2 took.length c2 g (csum e g took.length) s05 r5 f4' (.inr ⟨hz, hr, hF, rfl⟩) (by omega)
      rw [hz] at this
      exact this
  simp only [get_at e13, List.getElem?_cons_zero, List.getElem?_cons_succ, ldI_mk, ldS_mk]
  have he3 := he.keep s03 fun _ _ _ h => h
  refine bc (fun h => ?_) fun h1 => ?_
  · exact skruskal he3 hr (go (by rw [ek, if_neg (by omega)]))
  refine bc (fun h => ?_) fun h2 => ?_
  · exact sprim he3 hr (go (by rw [ek, if_neg (by omega)]))
  refine bc (fun h => ?_) fun h3 => ?_
  · exact sboruvka he3 hr (go (by rw [ek, if_neg (by omega)]))
  · have e50 : spC N n e kind = 50 := by rw [ek, if_pos (by omega)]
    rw [e50] at nil; exact nil (by decide)
end
end Go.Mz

/-
  Walks of layer 10: Neck.
-/
namespace Go.Mz

/-- Neck's error for a right answer is 0, or 5 where there is no way -/
def nkC (N : Int) (n : Nat) (e : Nat → Edg) (u v : Int) : Int := if chk N n e ≠ 0 then chk N n e else if u < 0 ∨ N ≤ u ∨ v < 0 ∨ N ≤ v then 30 else if u = v then 4 else 0

/-- the edge with which two nodes first hang together -/
structure NkP (e : Nat → Edg) (n u v k : Nat) : Prop where
  lt : k < n
  no : ¬ Cn (Sel (ePr e) n fun t => ahd e t k) u v
  yes : Cn (Sel (ePr e) n fun t => ahd e t k ∨ t = k) u v

theorem NkP.uniq {e : Nat → Edg} {n u v k k' : Nat} (h : NkP e n u v k) (h' : NkP e n u v k') : k = k' := by
  by_cases hk : k = k'
  · exact hk
  · rcases ahd_tot (e := e) hk with ha | ha
    · exact (h'.no (Sel.mono (fun t _ ht => ht.elim (fun h1 => ahd_trans h1 ha) fun h1 => h1 ▸ ha) h.yes)).elim
    · exact (h.no (Sel.mono (fun t _ ht => ht.elim (fun h1 => ahd_trans h1 ha) fun h1 => h1 ▸ ha) h'.yes)).elim

theorem NkP.symm {e : Nat → Edg} {n u v k : Nat} (h : NkP e n u v k) : NkP e n v u k := ⟨h.lt, fun c => h.no c.symm, h.yes.symm⟩

/-- it is a right edge -/
theorem NkP.inF {e : Nat → Edg} {n u v k : Nat} (h : NkP e n u v k) : InF e n k := by
  refine ⟨h.lt, fun c => h.no (Sel.via (fun t ht hor => ?_) h.yes)⟩
  rcases hor with h1 | rfl
  · exact .edge (Sel.of ht h1)
  · exact c

/-- what Neck answers -/
def NkR (N : Int) (n : Nat) (e : Nat → Edg) (u v x code : Int) : Prop :=
  (nkC N n e u v ≠ 0 ∧ x = 0 ∧ code = nkC N n e u v) ∨
  (nkC N n e u v = 0 ∧ Right N n e ∧ ((code = 5 ∧ x = 0 ∧ ¬ Cn (Sel (ePr e) n fun _ => True) u.toNat v.toNat) ∨ (code = 0 ∧ ∃ k : Nat, x = k ∧ NkP e n u.toNat v.toNat k)))

theorem NkR.uniq {N : Int} {n : Nat} {e : Nat → Edg} {u v x code x' code' : Int} (h : NkR N n e u v x code) (h' : NkR N n e u v x' code') : x = x' ∧ code = code' := by
  rcases h with ⟨h1, h2, h3⟩ | ⟨h1, _, h2⟩
  · rcases h' with ⟨_, h5, h6⟩ | ⟨h4, _⟩
    · exact ⟨h2.trans h5.symm, h3.trans h6.symm⟩
    · exact (h1 h4).elim
  · rcases h' with ⟨h4, _⟩ | ⟨_, _, h4⟩
    · exact (h4 h1).elim
    · rcases h2 with ⟨a1, a2, a3⟩ | ⟨a1, k, a2, a3⟩
      · rcases h4 with ⟨b1, b2, b3⟩ | ⟨b1, k', b2, b3⟩
        · exact ⟨a2.trans b2.symm, a1.trans b1.symm⟩
        · exact (a3 (Sel.mono (fun _ _ _ => trivial) b3.yes)).elim
      · rcases h4 with ⟨b1, b2, b3⟩ | ⟨b1, k', b2, b3⟩
        · exact (b3 (Sel.mono (fun _ _ _ => trivial) a3.yes)).elim
        · have := a3.uniq b3
          exact ⟨by rw [a2, b2, this], a1.trans b1.symm⟩

/-! ### A list in the order of edges -/

structure Srl (e : Nat → Edg) (l rs : List Nat) : Prop where
  perm : rs.Perm l
  pw : rs.Pairwise (ahd e)

section
variable {e : Nat → Edg} {n : Nat} {l rs : List Nat}

theorem Srl.mk' (hl : l.Nodup) (h : rs.Perm l) (k : rs.Pairwise fun a b => ¬ ahd e b a) : Srl e l rs := by
  refine ⟨h, ?_⟩
  have hn : rs.Nodup := (h.nodup_iff).2 hl
  exact (k.and hn).imp fun {a b} h => (ahd_tot h.2).resolve_right h.1

theorem Srl.ahead (h : Srl e l rs) {i k : Nat} (hk : rs[i]? = some k) {t : Nat} : t ∈ rs.take i ↔ t ∈ l ∧ ahd e t k := by
  obtain ⟨hi, ek⟩ := List.getElem?_eq_some_iff.1 hk
  have pw := List.pairwise_iff_getElem.1 h.pw
  constructor
  · intro ht
    obtain ⟨j, hj, et⟩ := List.mem_take_iff_getElem.1 ht
    have hj' : j < rs.length ∧ j < i := by omega
    refine ⟨h.perm.mem_iff.1 (et ▸ List.getElem_mem _), ?_⟩
    rw [← et, ← ek]
    exact pw j i hj'.1 hi hj'.2
  · rintro ⟨ht, ha⟩
    obtain ⟨j, hj, et⟩ := List.mem_iff_getElem.1 (h.perm.mem_iff.2 ht)
    refine List.mem_take_iff_getElem.2 ⟨j, ?_, et⟩
    rcases Nat.lt_trichotomy j i with h1 | h1 | h1
    · omega
    · subst h1; rw [← et, ek] at ha; exact (ahd_irr ha).elim
    · have := pw i j hi hj h1
      rw [ek, et] at this
      exact (ahd_asymm ha this).elim
end

section
variable {E : Value → Hp → Prop}

theorem sclN {N : Int} {ep : Option Addr} {n ec a b g : Nat} {e : Nat → Edg} {H : Hp} (c : H g = some ⟨[.int .i64 N, .slice ep n ec], 24⟩) (he : Rdr H ep n e) (ha : a < n) (hb : b < n) :
    callW P0 24 ([.int .i64 a, .int .i64 b] ++ [.pointer (some ⟨g, 0, none⟩)]) (fun r H'' => r = .int .i64 (ahC e a b) ∧ Step (fun _ => False) H H'') (fun _ _ => False) H := by
  have h : span_Neck_1.call (a : Int) (b : Int) g 0 (fun _ _ => False) H (fun r H'' => r = ahC e a b ∧ Step (fun _ => False) H H'') := by
    refine span_Neck_1.of (span_Neck_1.run_eq ?_)
    unfold span_Neck_1.run_t
    simp only [get_at c, List.getElem?_cons_zero, List.getElem?_cons_succ, ldI_mk, ldS_mk, Nat.zero_add]
    exact sahead he ha hb fun H' s => ⟨rfl, s⟩
  unfold span_Neck_1.call at h
  refine callW_mono (fun v H' hv => ?_) (fun _ _ h => h) h
  obtain ⟨m, rfl, hm⟩ := ldR_int hv
  exact ⟨by rw [← hm.1]; rfl, hm.2⟩

theorem enters21 : ∀ args w, (callFunc 24 args).run P0 w = .ok (.enter 24 args) w := Go.Proofs.enters_of Proofs.Tryz.func24 (by kernel_rfl) rfl

theorem sneck {N u v : Int} {ep : Option Addr} {n ec : Nat} {e : Nat → Edg} {H : Hp} {K : Int → Int → Hp → Prop} (he : Rdr H ep n e) (hn : n < 2 ^ 63)
    (k : ∀ H' x code, Step (fun _ => False) H H' → NkR N n e u v x code → K x code H') : span_Neck.call N ep n ec u v E H K := by
  refine span_Neck.of (span_Neck.run_eq ?_)
  unfold span_Neck.run_t
  refine nwk fun b1 H1 hb1 e1 s1 => ?_
  simp only [get_at e1, List.getElem?_cons_zero, List.getElem?_cons_succ, ldI_mk, ldS_mk]
  refine gcheck (he.keep s1 fun _ _ _ h => h) hn fun H2 a s2 => ?_
  have e12 := s2.keep _ _ e1 fun h => h
  refine nwst rfl rfl fun b3 H3 hb3 e3 s3 => ?_
  have e13 := s3.keep _ _ e12 fun h => h
  have s03 := (s1.and s2).and s3
  simp only [get_at e3, List.getElem?_cons_zero, List.getElem?_cons_succ, ldI_mk, ldS_mk]
  have bad : nkC N n e u v ≠ 0 → K 0 (nkC N n e u v) H3 := fun h => k H3 0 _ s03 (.inl ⟨h, rfl, rfl⟩)
  refine bcn (fun hc => ?_) fun hc => ?_
  · have ec' : nkC N n e u v = chk N n e := if_pos hc
    rw [ec'] at bad; exact bad hc
  have hr : Right N n e := chk_zero.1 hc
  have hn1 := hr.n1; have hN0 := hr.N0; have hN1 := hr.N1
  have ek : nkC N n e u v = if u < 0 ∨ N ≤ u ∨ v < 0 ∨ N ≤ v then 30 else if u = v then 4 else 0 := if_neg (fun h => h hc)
  have b30 : (u < 0 ∨ N ≤ u ∨ v < 0 ∨ N ≤ v) → K 0 30 H3 := fun h => by
    rw [ek, if_pos h] at bad; exact bad (by decide)
  simp only [get_at e13, List.getElem?_cons_zero, List.getElem?_cons_succ, ldI_mk, ldS_mk]
  refine bc (fun h => b30 (by omega)) fun h1 => ?_
  refine bc (fun h => b30 (by omega)) fun h2 => ?_
  refine bc (fun h => b30 (by omega)) fun h3 => ?_
  refine bc (fun h => b30 (by omega)) fun h4 => ?_
  refine bc (fun h => ?_) fun huv => ?_
  · rw [ek, if_neg (by omega), if_pos h] at bad; exact bad (by decide)
  have hz : nkC N n e u v = 0 := by rw [ek, if_neg (by omega), if_neg huv]
  clear bad b30
  obtain ⟨u, rfl⟩ : ∃ u' : Nat, u = u' := ⟨u.toNat, by omega⟩
  obtain ⟨v, rfl⟩ : ∃ v' : Nat, v = v' := ⟨v.toNat, by omega⟩
  try simp only [get_at e13, List.getElem?_cons_zero, List.getElem?_cons_succ, ldI_mk, ldS_mk]
  have he3 := he.keep s03 fun _ _ _ h => h
  refine sforest he3 hn fun H4 p m c f cost s4 r4 f4 hor hm => ?_
  have hspz : spC N n e 1 = 0 := by unfold spC; rw [if_neg (fun h => h hc), if_neg (by omega)]
  obtain ⟨_, _, hF, _⟩ := hor.resolve_left fun h => h.1 hspz
  have e14 := s4.keep _ _ e13 fun h => h
  have s04 := s03.and s4
  have f4' : ∀ y, fpS p y → H y = none := fun y hy => s03.mono y (f4 y hy)
  obtain rfl := hF.len
  have r4' : Row H4 p (frs e n).length c (lsF (frs e n)) := r4.congr hF.at'
  have b1p : ¬ fpS p b1 := fun h => by have := f4 _ h; rw [e13] at this; cases this
  refine sortF (M := n) (e := e) r4' (fun x hx => (frs_mem.1 hx).1) (by omega) enters21 (fun H' a b s ha hb => ?_) fun H5 rs r5 s5 hp hpw => ?_
  · refine sclN (s.keep _ _ e14 b1p) ((he.keep s04 fun _ _ _ h => h).keep s fun y hy hl h => ?_) ha hb
    have := f4' y h
    exact (he.live hy (by omega)) this
  have hS := Srl.mk' frs_nodup hp hpw
  have hlen : rs.length = (frs e n).length := hp.length_eq
  rw [hlen] at r5
  have e15 := s5.keep _ _ e14 b1p
  have s05 := s04.own s5 f4'
  simp only [get_at e15, List.getElem?_cons_zero, List.getElem?_cons_succ, ldI_mk, ldS_mk]
  refine snewJ hN0 hN1 fun H6 j F s6 hJ fF => ?_
  have r6 := r5.keep s6 fun _ _ h => h
  have s06 := s05.and s6
  have r0 : Rep (USt.init N.toNat) (Sel (ePr e) n (fun t => t ∈ rs.take 0)) := (Rep.init (by omega)).congr fun x y => ⟨fun ⟨t, _, h, _⟩ => by simp at h, fun h => h.elim⟩
  have c0 : ¬ Cn (Sel (ePr e) n (fun t => t ∈ rs.take 0)) u v := fun h => by
    have : u = v := h.resp (fun x => x) fun x y ⟨t, _, h, _⟩ => by simp at h
    omega
  refine span_Neck.l1_rule (fun u' v' j' p' n' c' t62 i63 H' => u' = (u : Int) ∧ v' = (v : Int) ∧ j' = some ⟨j, 0, none⟩ ∧ p' = p ∧ n' = (frs e n).length ∧ t62 = (frs e n).length ∧ ∃ i : Nat, i63 = i ∧ i ≤ (frs e n).length ∧ Step (fun _ => False) H H' ∧ Row H' p (frs e n).length c (lsF rs) ∧ ∃ σ tk F', Jo H' j N ep n ec σ tk F' ∧ Rep σ (Sel (ePr e) n (fun t => t ∈ rs.take i)) ∧ σ.n = N.toNat ∧ tk.length ≤ i ∧ (∀ y, F' y → H y = none) ∧ (∀ y, fpS p y → ¬ F' y) ∧ ¬ Cn (Sel (ePr e) n (fun t => t ∈ rs.take i)) u v)
    (fun u' v' j' p' n' c' t62 i63 H' => (frs e n).length - i63.toNat) ?_ ⟨rfl, rfl, rfl, rfl, rfl, rfl, 0, rfl, Nat.zero_le _, s06, r6, _, [], F, hJ, r0, rfl, Nat.le_refl _, fun y hy => s05.mono y (fF y hy), fun y hy h => r5.live hy (fF y h), c0⟩
  clear c0 r0 s06 r6 hJ fF s6 F
  rintro u' v' j' p' n' c' t62 i63 H7 ⟨rfl, rfl, rfl, rfl, rfl, rfl, i, rfl, hi, s7, r7, σ, tk, F, hJ, hR, hσ, htk, fF, nF, hno⟩ X hX
  refine span_Neck.b1_eq ?_
  unfold span_Neck.b1_t
  refine bc (fun hlt => ?_) fun hge => ?_
  · refine r7.ixI (by omega) (by omega) ?_
    rw [Int.toNat_natCast]
    have hil : i < rs.length := by omega
    obtain ⟨x, hx⟩ : ∃ x, rs[i]? = some x := ⟨_, List.getElem?_eq_getElem hil⟩
    have ex : lsF rs i = (x : Int) := by simp [lsF, hx]
    have hxF : InF e n x := frs_mem.1 (hp.mem_iff.1 (List.mem_of_getElem? hx))
    rw [ex]
    refine stake hJ (he.keep s7 fun _ _ _ h => h) hr hxF.1 hR hσ hR.hist.small (by have := frs_len (e := e) (n := n); omega) fun H8 σ' F' tk' hJ8 hR8 hσ8 s8 f8 htk8 _ => ?_
    have hR8' : Rep σ' (Sel (ePr e) n (fun t => t ∈ rs.take (i + 1))) := hR8.congr fun a b => sel_snoc hx hxF.1 a b
    have s08 := s7.own s8 fF
    refine hJ8.find hR8'.hist (v := u) (by omega) ?_
    refine hJ8.find hR8'.hist (v := v) (by omega) ?_
    have hiff := hR8'.nm_cn (u := u) (v := v) (by omega) (by omega)
    have sub : ∀ t, t ∈ rs.take (i + 1) ↔ (t ∈ rs.take i ∨ t = x) := fun t => by
      have e1 : rs.take (i + 1) = rs.take i ++ [x] := by rw [List.take_add_one, hx]; rfl
      rw [e1, List.mem_append, List.mem_singleton]
    refine bc (fun heq => ?_) fun hne => ?_
    · have hc1 : Cn (Sel (ePr e) n (fun t => t ∈ rs.take (i + 1))) u v := hiff.1 (by omega)
      refine k H8 _ 0 s08 (.inr ⟨hz, hr, .inr ⟨rfl, x, rfl, hxF.1, fun c => hno ?_, Sel.mono (fun t _ ht => ?_) hc1⟩⟩)
      · have := (InF.low (e := e) (n := n) (D := fun t => ahd e t x) fun a b hb hab => ahd_trans hab hb).1 c
        exact Sel.mono (fun t _ ht => (hS.ahead hx).2 ⟨frs_mem.2 ht.1, ht.2⟩) this
      · rcases (sub t).1 ht with h | h
        · exact .inl ((hS.ahead hx).1 h).2
        · exact .inr h
    · rw [i64w (by omega) (by omega)]
      refine hX _ _ _ _ _ _ _ _ _ ⟨rfl, rfl, rfl, rfl, rfl, rfl, i + 1, by omega, by omega, s08, r7.keep s8 fun y hy => nF y hy, σ', tk', F', hJ8, hR8', hσ8, ?_, fun y hy => (f8 y hy).elim (fF y) (s7.mono y), fun y hy h => (f8 y h).elim (nF y hy) (r7.live hy), fun c => hne ?_⟩ (by omega)
      · rw [htk8]; split
        · omega
        · simp; omega
      · have := hiff.2 c
        omega
  · have hil : i = (frs e n).length := by omega
    subst hil
    have et : rs.take (frs e n).length = rs := by rw [← hlen, List.take_length]
    rw [et] at hno
    refine k H7 0 5 s7 (.inr ⟨hz, hr, .inl ⟨rfl, rfl, fun c => hno ?_⟩⟩)
    exact Sel.mono (fun t _ ht => hp.mem_iff.2 (frs_mem.2 ht)) (InF.whole.1 c)
end
end Go.Mz

/-
  Plain law: no edges walked twice that make all degrees even cost less than a metric and duals allow: they fall into ways between the uneven nodes, and these cost as much as a matching of them at least. No program in sight.
-/
import Derived.Test.YtjdhhepphbhjgaaVouS4
import Derived.Test.YtjdhhepphbhjgaaVouS3
import Derived.Test.YtjdhhepphbhjgaaRefI
set_option linter.unusedSimpArgs false
set_option linter.unusedVariables false
namespace Go.Mz

/-! ### Pairs of nodes -/

/-- how many ends of pairs are a node -/
def pdg : List (Nat × Nat) → Nat → Nat
  | [], _ => 0
  | x :: p, v => pdg p v + (if x.1 = v then 1 else 0) + (if x.2 = v then 1 else 0)

def psl (f : Nat → Nat → Int) : List (Nat × Nat) → Int
  | [] => 0
  | x :: p => psl f p + f x.1 x.2

/-- distances -/
structure Met (d : Nat → Nat → Int) : Prop where
  sym : ∀ u v, d u v = d v u
  nn : ∀ u v, 0 ≤ d u v
  tri : ∀ u v w, d u w ≤ d u v + d v w

theorem pdg_cons {x : Nat × Nat} {p : List (Nat × Nat)} {v : Nat} : pdg (x :: p) v = pdg p v + (if x.1 = v then 1 else 0) + (if x.2 = v then 1 else 0) := rfl

theorem pick {d : Nat → Nat → Int} (hd : Met d) {u : Nat} : ∀ {p : List (Nat × Nat)}, 0 < pdg p u → ∃ x p', (∀ v, pdg p v = pdg p' v + (if u = v then 1 else 0) + (if x = v then 1 else 0)) ∧ psl d p = psl d p' + d u x
  | [], h => (Nat.lt_irrefl 0 h).elim
  | (a, c) :: p, h => by
    by_cases h1 : a = u
    · subst h1
      exact ⟨c, p, fun v => rfl, rfl⟩
    · by_cases h2 : c = u
      · subst h2
        exact ⟨a, p, fun v => by rw [pdg_cons]; simp only; omega, by show psl d p + d a c = _; rw [hd.sym]⟩
      · rw [pdg_cons] at h
        simp only [if_neg h1, if_neg h2, Nat.add_zero] at h
        obtain ⟨x, p', e1, e2⟩ := pick hd h
        refine ⟨x, (a, c) :: p', fun v => ?_, ?_⟩
        · rw [pdg_cons, pdg_cons, e1]; simp only; omega
        · show psl d p + d a c = psl d p' + d a c + d u x
          rw [e2]; omega

/-- two pairs that meet are made one -/
theorem short {d : Nat → Nat → Int} (hd : Met d) {u : Nat} {p : List (Nat × Nat)} (h : pdg p u = 2) : ∃ p', (∀ v, pdg p' v = if v = u then 0 else pdg p v) ∧ psl d p' ≤ psl d p := by
  obtain ⟨x, p1, e1, e2⟩ := pick hd (u := u) (p := p) (by omega)
  have h1 := e1 u
  rw [if_pos rfl, h] at h1
  by_cases hx : x = u
  · subst hx
    rw [if_pos rfl] at h1
    refine ⟨p1, fun v => ?_, by have := hd.nn x x; omega⟩
    by_cases hv : v = x
    · subst hv; rw [if_pos rfl]; omega
    · have q : ¬ x = v := fun h => hv h.symm
      rw [if_neg hv, e1]; simp only [if_neg q]; omega
  · rw [if_neg hx] at h1
    obtain ⟨y, p2, f1, f2⟩ := pick hd (u := u) (p := p1) (by omega)
    have h2 := f1 u
    rw [if_pos rfl] at h2
    have hy : ¬ y = u := fun h => by rw [if_pos h] at h2; omega
    rw [if_neg hy] at h2
    refine ⟨(x, y) :: p2, fun v => ?_, ?_⟩
    · rw [pdg_cons]
      by_cases hv : v = u
      · subst hv; rw [if_pos rfl, if_neg hx, if_neg hy]; omega
      · have q : ¬ u = v := fun h => hv h.symm
        rw [if_neg hv, e1, f1]; simp only [if_neg q]; omega
    · show psl d p2 + d x y ≤ psl d p
      have t := hd.tri x u y
      have s := hd.sym x u
      omega

/-- an edge more -/
theorem joinP {d : Nat → Nat → Int} (hd : Met d) {u v : Nat} (huv : u ≠ v) {p : List (Nat × Nat)} {f : Nat → Nat} (hp : ∀ w, pdg p w = f w % 2) :
    ∃ p', (∀ w, pdg p' w = (f w + (if u = w then 1 else 0) + (if v = w then 1 else 0)) % 2) ∧ psl d p' ≤ psl d p + d u v := by
  have fix : ∀ (x : Nat) (p : List (Nat × Nat)), pdg p x ≤ 2 → ∃ p', (∀ w, pdg p' w = if w = x then pdg p x % 2 else pdg p w) ∧ psl d p' ≤ psl d p := fun x p h => by
    by_cases h2 : pdg p x = 2
    · obtain ⟨p', e1, e2⟩ := short hd h2
      exact ⟨p', fun w => by rw [e1, h2], e2⟩
    · refine ⟨p, fun w => ?_, Int.le_refl _⟩
      split
      · rename_i hw; subst hw; omega
      · rfl
  have hu := hp u
  have hv := hp v
  have a1 : pdg ((u, v) :: p) u ≤ 2 := by rw [pdg_cons]; simp only [if_pos]; rw [if_neg (fun h => huv h.symm)]; omega
  obtain ⟨p1, e1, e2⟩ := fix u ((u, v) :: p) a1
  have a2 : pdg p1 v ≤ 2 := by rw [e1, if_neg (fun h => huv h.symm), pdg_cons]; simp only [if_neg huv, if_pos]; omega
  obtain ⟨p2, f1, f2⟩ := fix v p1 a2
  refine ⟨p2, fun w => ?_, ?_⟩
  · have hw := hp w
    rw [f1]
    by_cases h1 : w = v
    · subst h1
      rw [if_pos rfl, e1, if_neg (fun h => huv h.symm), pdg_cons]
      simp only [if_neg huv, if_true]
      omega
    · rw [if_neg h1, e1]
      by_cases h2 : w = u
      · subst h2
        rw [if_pos rfl, pdg_cons]
        simp only [if_true, if_neg (show ¬ v = w from fun h => h1 h.symm)]
        omega
      · rw [if_neg h2, pdg_cons]
        simp only [if_neg (show ¬ u = w from fun h => h2 h.symm), if_neg (show ¬ v = w from fun h => h1 h.symm)]
        omega
  · have : psl d ((u, v) :: p) = psl d p + d u v := rfl
    omega

/-- edges fall into pairs of their uneven nodes -/
theorem pairsOf {d : Nat → Nat → Int} (hd : Met d) {N : Int} {n : Nat} {e : Nat → Edg} {o : Nat → Int} (hr : Right N n e) (hP : Pos n e) (hde : ∀ i, i < n → d (e i).fr.toNat (e i).to.toNat ≤ (e i).co) :
    ∀ {k : Nat}, Ris o k n → ∃ p, (∀ w : Nat, pdg p w = dg e o k (w : Int) % 2) ∧ psl d p ≤ cst e o k := by
  intro k
  induction k with
  | zero => intro _; exact ⟨[], fun w => rfl, Int.le_refl _⟩
  | succ k ih =>
    intro h
    obtain ⟨p, e1, e2⟩ := ih (h.cut (by omega))
    have hk := h k (by omega)
    obtain ⟨i, hi⟩ : ∃ i, (o k).toNat = i := ⟨_, rfl⟩
    have hin : i < n := by omega
    have hx := hr.ed i hin
    have hf0 := hx.f0; have ht0 := hx.t0
    have hco := hP i hin
    have hdi := hde i hin
    have hc : cst e o (k + 1) = cst e o k + (e i).co := by rw [← hi]; rfl
    have hg : ∀ w : Nat, dg e o (k + 1) (w : Int) = dg e o k (w : Int) + (if (e i).fr.toNat = w then 1 else 0) + (if (e i).to.toNat = w then 1 else 0) := fun w => by
      rw [dg_succ, hi]
      congr 1
      · congr 1
        by_cases h : (e i).fr = (w : Int)
        · rw [if_pos h, if_pos (by omega)]
        · rw [if_neg h, if_neg (by omega)]
      · by_cases h : (e i).to = (w : Int)
        · rw [if_pos h, if_pos (by omega)]
        · rw [if_neg h, if_neg (by omega)]
    by_cases hl : (e i).fr.toNat = (e i).to.toNat
    · refine ⟨p, fun w => ?_, by omega⟩
      rw [hg, hl, e1]
      split <;> omega
    · obtain ⟨p', f1, f2⟩ := joinP hd hl e1
      refine ⟨p', fun w => by rw [f1, hg], by omega⟩

theorem pdg_mem {x : Nat × Nat} : ∀ {p : List (Nat × Nat)}, x ∈ p → 1 ≤ pdg p x.1 ∧ 1 ≤ pdg p x.2 ∧ (x.1 = x.2 → 2 ≤ pdg p x.1)
  | [], h => by cases h
  | y :: p, h => by
    rw [pdg_cons, pdg_cons]
    rcases List.mem_cons.1 h with rfl | h
    · simp only [if_true]
      refine ⟨by omega, by omega, fun he => ?_⟩
      rw [if_pos he.symm]; omega
    · obtain ⟨h1, h2, h3⟩ := pdg_mem h
      exact ⟨by omega, by omega, fun he => by have := h3 he; omega⟩

theorem psl_le {f g : Nat → Nat → Int} : ∀ {p : List (Nat × Nat)}, (∀ x ∈ p, f x.1 x.2 ≤ g x.1 x.2) → psl f p ≤ psl g p
  | [], _ => Int.le_refl _
  | y :: p, h => by
    have h1 := h y (by simp)
    have h2 := psl_le (p := p) fun x hx => h x (by simp [hx])
    show psl f p + _ ≤ psl g p + _
    omega

theorem psl_sum {f : Nat → Int} {N : Nat} : ∀ {p : List (Nat × Nat)}, (∀ x ∈ p, x.1 < N ∧ x.2 < N) → psl (fun u w => f u + f w) p = psum (fun v => f v * (pdg p v : Int)) N
  | [], _ => (psum_zero fun v _ => by show f v * ((0 : Nat) : Int) = 0; simp).symm
  | y :: p, h => by
    have hy := h y (by simp)
    have ih := psl_sum (f := f) (p := p) fun x hx => h x (by simp [hx])
    have one : ∀ a, a < N → psum (fun v => f v * ((if a = v then 1 else 0 : Nat) : Int)) N = f a := fun a ha => by
      have key : ∀ M, psum (fun v => f v * ((if a = v then 1 else 0 : Nat) : Int)) M = if a < M then f a else 0 := by
        intro M
        induction M with
        | zero => rfl
        | succ M ih =>
          simp only [psum, ih]
          by_cases h1 : a = M
          · subst h1; rw [if_neg (by omega), if_pos rfl, if_pos (by omega)]; simp
          · by_cases h2 : a < M
            · rw [if_pos h2, if_neg h1, if_pos (by omega)]; simp
            · rw [if_neg h2, if_neg h1, if_neg (by omega)]; simp
      rw [key, if_pos ha]
    have e1 : psum (fun v => f v * (pdg (y :: p) v : Int)) N = psum (fun v => f v * (pdg p v : Int)) N + (psum (fun v => f v * ((if y.1 = v then 1 else 0 : Nat) : Int)) N + psum (fun v => f v * ((if y.2 = v then 1 else 0 : Nat) : Int)) N) := by
      rw [← psum_add, ← psum_add]
      refine psum_congr fun v _ => ?_
      rw [pdg_cons, Int.natCast_add, Int.natCast_add, Int.mul_add, Int.mul_add, Int.add_assoc]
    rw [e1, one _ hy.1, one _ hy.2, ← ih]
    show psl _ p + (f y.1 + f y.2) = _
    rfl

theorem psl_split {A : Nat → Nat → Int} {z : Nat → Int} {sn : Nat} {B : Nat → Nat → Nat → Prop} [∀ i u w, Decidable (B i u w)] : ∀ {p : List (Nat × Nat)},
    psl (fun u w => A u w - psum (fun i => if B i u w then z i else 0) sn) p = psl A p - psum (fun i => z i * psl (fun u w => if B i u w then 1 else 0) p) sn
  | [] => by
    show (0 : Int) = 0 - psum (fun i => z i * 0) sn
    rw [psum_zero fun i _ => by simp]; rfl
  | y :: p => by
    have ih := psl_split (A := A) (z := z) (sn := sn) (B := B) (p := p)
    have e1 : psum (fun i => z i * psl (fun u w => if B i u w then 1 else 0) (y :: p)) sn = psum (fun i => z i * psl (fun u w => if B i u w then 1 else 0) p) sn + psum (fun i => if B i y.1 y.2 then z i else 0) sn := by
      rw [← psum_add]
      refine psum_congr fun i _ => ?_
      show z i * (psl (fun u w => if B i u w then 1 else 0) p + (if B i y.1 y.2 then 1 else 0)) = _
      rw [Int.mul_add]
      split <;> simp
    show psl _ p + (A y.1 y.2 - psum (fun i => if B i y.1 y.2 then z i else 0) sn) = psl A p + A y.1 y.2 - _
    rw [ih, e1]
    omega

/-! ### The greatest of some -/

def mx (f : Nat → Int) : Nat → Int
  | 0 => 0
  | n + 1 => max (mx f n) (f n)

theorem mx_nn {f : Nat → Int} : ∀ {n : Nat}, 0 ≤ mx f n
  | 0 => Int.le_refl _
  | n + 1 => by have := mx_nn (f := f) (n := n); show 0 ≤ max _ _; omega

theorem le_mx {f : Nat → Int} {j : Nat} : ∀ {n : Nat}, j < n → f j ≤ mx f n
  | n + 1, h => by
    show f j ≤ max _ _
    by_cases e : j = n
    · subst e; omega
    · have := le_mx (f := f) (j := j) (n := n) (by omega); omega

theorem mx_le {f : Nat → Int} {B : Int} (hB : 0 ≤ B) : ∀ {n : Nat}, (∀ j, j < n → f j ≤ B) → mx f n ≤ B
  | 0, _ => hB
  | n + 1, h => by
    have h1 := mx_le (f := f) hB (n := n) fun j hj => h j (by omega)
    have h2 := h n (by omega)
    show max _ _ ≤ B; omega

/-- the greatest difference of rows -/
def rowD (row : Nat → Nat → Int) (L : Nat) (u v : Nat) : Int := mx (fun j => max (row j u - row j v) (row j v - row j u)) L

theorem rowD_met {row : Nat → Nat → Int} {L : Nat} : Met (rowD row L) :=
  ⟨fun u v => by
    unfold rowD
    congr 1
    funext j
    omega, fun u v => mx_nn, fun u v w => mx_le (by
      have h1 := mx_nn (f := fun j => max (row j u - row j v) (row j v - row j u)) (n := L)
      have h2 := mx_nn (f := fun j => max (row j v - row j w) (row j w - row j v)) (n := L)
      unfold rowD; omega) fun j hj => by
      have h1 := le_mx (f := fun j => max (row j u - row j v) (row j v - row j u)) hj
      have h2 := le_mx (f := fun j => max (row j v - row j w) (row j w - row j v)) hj
      unfold rowD
      try simp only at h1 h2
      omega⟩

/-! ### Places of uneven nodes -/

theorem odds_at {e : Nat → Edg} {n u : Nat} (hu : deg e n u % 2 = 1) : ∀ {N : Nat}, u < N → (odds e n u).length < (odds e n N).length ∧ lsF (odds e n N) (odds e n u).length = u
  | N + 1, h => by
    by_cases e1 : u = N
    · subst e1
      rw [odds_succ, if_pos hu]
      refine ⟨by simp, ?_⟩
      unfold lsF
      simp
    · obtain ⟨h1, h2⟩ := odds_at hu (N := N) (by omega)
      rw [odds_succ]
      split
      · refine ⟨by simp; omega, ?_⟩
        rw [← h2]
        unfold lsF
        rw [List.getElem?_append_left h1]
      · exact ⟨h1, h2⟩

theorem psum_odds {e : Nat → Edg} {n : Nat} {g : Nat → Int} : ∀ {N : Nat}, psum (fun v => if deg e n (v : Int) % 2 = 1 then g (odds e n v).length else 0) N = psum g (odds e n N).length
  | 0 => rfl
  | N + 1 => by
    show psum (fun v => if deg e n (v : Int) % 2 = 1 then g (odds e n v).length else 0) N + (if deg e n (N : Int) % 2 = 1 then g (odds e n N).length else 0) = _
    rw [psum_odds, odds_succ]
    by_cases h : deg e n (N : Int) % 2 = 1
    · rw [if_pos h, if_pos h, List.length_append]; rfl
    · rw [if_neg h, if_neg h, Int.add_zero]
end Go.Mz

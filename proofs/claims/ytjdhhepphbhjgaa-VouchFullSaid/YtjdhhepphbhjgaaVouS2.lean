/-
  Plain law: no matching has more edges than a set of nodes allows that leaves odd parts (each odd part has a node that is left, or one that is matched into the set). No program in sight.
-/
import Derived.Test.YtjdhhepphbhjgaaVouS1
import Derived.Test.YtjdhhepphbhjgaaPkW
set_option linter.unusedSimpArgs false
set_option linter.unusedVariables false
namespace Go.Mz

theorem sm_swap {f : Nat → Nat → Nat} {N M : Nat} : sm (fun i => sm (fun j => f i j) M) N = sm (fun j => sm (fun i => f i j) N) M := by
  induction N with
  | zero => exact (sm_zero fun _ _ => rfl).symm
  | succ N ih =>
    show sm (fun i => sm (fun j => f i j) M) N + sm (fun j => f N j) M = sm (fun j => sm (fun i => f i j) N + f N j) M
    rw [ih, sm_add]

theorem sm_uniq {p : Nat → Prop} [DecidablePred p] {N : Nat} (h : ∀ i j, i < N → j < N → p i → p j → i = j) : sm (fun i => if p i then 1 else 0) N ≤ 1 := by
  induction N with
  | zero => exact Nat.zero_le _
  | succ N ih =>
    simp only [sm]
    by_cases hp : p N
    · rw [sm_zero fun i hi => if_neg fun hi' => by have := h i N (by omega) (by omega) hi' hp; omega, if_pos hp]; omega
    · rw [if_neg hp]; have := ih fun i j hi hj => h i j (by omega) (by omega); omega

theorem sm_pick {N : Nat} {a : Int} {g : Nat → Nat} (a0 : 0 ≤ a) (a1 : a < N) : sm (fun v => if a = (v : Int) then g v else 0) N = g a.toNat := by
  obtain ⟨x, rfl⟩ : ∃ x : Nat, a = x := ⟨a.toNat, by omega⟩
  have h := sm_one (f := fun v : Nat => if (x : Int) = (v : Int) then g v else 0) (g := fun _ => 0) (n := N) (b := x) (by omega) fun i hi hne => if_neg (by omega)
  rw [sm_zero (f := fun _ => 0) fun _ _ => rfl, if_pos rfl] at h
  rw [Int.toNat_natCast]
  omega

section
variable {N : Int} {n : Nat} {e : Nat → Edg} {W : Nat → Bool}

theorem cn_W {s v : Nat} (h : Cn (Adj e n W) s v) : W s = W v := h.resp W fun a b hab => by rw [hab.left.1, hab.left.2]

theorem fst_uniq {s s' v : Nat} (h : Fst (Adj e n W) W s) (h' : Fst (Adj e n W) W s') (k : Cn (Adj e n W) s v) (k' : Cn (Adj e n W) s' v) : s = s' := by
  rcases Nat.lt_trichotomy s s' with hlt | rfl | hlt
  · exact (h'.2 s hlt (k.trans k'.symm)).elim
  · rfl
  · exact (h.2 s' hlt (k'.trans k.symm)).elim

end

end Go.Mz

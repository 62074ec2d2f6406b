/-
  A table of types with methods that are called on interface values, checked against a translation. It proves nothing of the program by itself.
-/
import Derived.Test.YthcehonpfnmpiaaGreatMzQ
set_option linter.unusedSimpArgs false
set_option linter.unusedVariables false
namespace Go.Mz

def methOk (P : Program) (x : TypeId × String × FuncId) : Bool :=
  match P.info? x.1, P.underlying x.1 with
  | some i, some (.pointer _) => (match i.methods.find? (·.name == x.2.1) with
    | some m => m.path.isEmpty && (match m.func with | some (f, true) => Nat.beq f x.2.2 | _ => false)
    | none => false)
  | _, _ => false

def allM (p : (TypeId × String × FuncId) → Bool) : List (TypeId × String × FuncId) → Bool
  | [] => true
  | x :: r => p x && allM p r

theorem findM_mem {l : List (TypeId × String × FuncId)} {t : TypeId} {n : String} {f : FuncId} (h : findM l t n = some f) : (t, n, f) ∈ l := by
  induction l with
  | nil => cases h
  | cons x l ih =>
    unfold findM at h
    split at h
    · rename_i hx
      obtain ⟨x1, x2, x3⟩ := x
      simp only at hx h
      obtain ⟨rfl, rfl⟩ := hx
      cases h
      exact List.mem_cons_self
    · exact List.mem_cons_of_mem _ (ih h)

theorem allM_mem {p : (TypeId × String × FuncId) → Bool} {l : List (TypeId × String × FuncId)} (h : allM p l = true) : ∀ x ∈ l, p x = true := by
  induction l with
  | nil => intro x hx; cases hx
  | cons y l ih =>
    unfold allM at h
    rw [Bool.and_eq_true] at h
    intro x hx
    rcases List.mem_cons.1 hx with rfl | hx
    · exact h.1
    · exact ih h.2 x hx

theorem method_run {P : Program} {t : TypeId} {name : String} {f : FuncId} (h : methOk P (t, name, f) = true) (k : Nat) (a : Addr) (w : World) :
    (method (k + 1) t (.pointer (some a)) name).run P w = .ok (f, .pointer (some a)) w := by
  unfold methOk at h
  simp only at h
  split at h
  · rename_i i e hi hu
    split at h
    · rename_i m hm
      rw [Bool.and_eq_true] at h
      obtain ⟨h1, h2⟩ := h
      split at h2
      · rename_i g hg
        have hfg : g = f := Nat.eq_of_beq_eq_true h2
        subst hfg
        have hp : m.path.toList = [] := by
          have : m.path = #[] := by simpa using h1
          rw [this]
        have hfo : ∀ x, follow [] t x = pure (t, x) := fun x => rfl
        simp [method, typeInfo, hi, hm, hp, hfo, hg, receiverAt, run_underlying hu, Place.get, Result.andThen]
      · cases h2
    · cases h
  · cases h

theorem tabOk_ofM {P : Program} {T : Tab} (h1 : allT P T.tys = true) (h2 : allN (eqOk P) T.eqs = true) (h3 : fnsOk P T = true) (h4 : allM (methOk P) T.meths = true) (h5 : allM (fun x => T.fok x.2.2) T.meths = true) : TabOk P T where
  ty := findT_ok (allT_spec h1)
  eqt := fun t ht => allN_iff.1 h2 t (hasN_iff.1 ht)
  fn := fun f hf => by
    have hlt : f < T.fns := by
      unfold Tab.fok at hf
      cases hb : Nat.blt f T.fns with
      | true => exact Nat.le_of_ble_eq_true hb
      | false => rw [hb] at hf; cases hf
    have := allN_iff.1 h3 f (mem_rng.2 hlt)
    rw [hf] at this
    simp only at this
    split at this
    · rename_i fn hfn
      simp only [Bool.and_eq_true, Bool.not_eq_true'] at this
      exact ⟨fn, by simpa using hfn, this.1, this.2⟩
    · cases this
  meth := fun t name f hf a w => by
    have hm := allM_mem h4 _ (findM_mem hf)
    have hp : 0 < Made.depth := by decide
    obtain ⟨k, hk⟩ : ∃ k, P.types.size + Made.depth = k + 1 := ⟨P.types.size + Made.depth - 1, by omega⟩
    rw [hk]
    exact method_run hm k a w
  mfn := fun t name f hf => allM_mem h5 _ (findM_mem hf)

end Go.Mz

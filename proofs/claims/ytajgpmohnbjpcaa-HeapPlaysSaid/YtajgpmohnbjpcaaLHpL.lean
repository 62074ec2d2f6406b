/-
  HeapAlike, walked: whatever the kinds and the script, it answers true and leaves what was there as it was.
-/
import Derived.Test.YtajgpmohnbjpcaaHpL
import Derived.Test.YtajgpmohnbjpcaaDjP
import Derived.Test.YtajgpmohnbjpcaaGLawL
set_option linter.unusedSimpArgs false
set_option linter.unusedVariables false
namespace Go.Mz

/-- three numbers, read whole -/
theorem Rdr.op3 {H : Hp} {p : Option Addr} {n : Nat} {f : Nat → Int × Int × Int} (h : Rdr H p n f) {i : Int} (h0 : 0 ≤ i) (h1 : i < (n : Int)) {G : Int → Int → Int → Prop}
    (k : G (f i.toNat).1 (f i.toNat).2.1 (f i.toNat).2.2) :
    Mz.ix p n i 3 fun b o => ldI .i64 (H.get b o) fun x1 => ldI .i64 (H.get b (o + 1)) fun x2 => ldI .i64 (H.get b (o + 2)) fun x3 => G x1 x2 x3 := by
  refine h.ix (α := Int × Int × Int) h0 h1 fun b o _ hg => ?_
  have g0 : H.get b o = some (.int .i64 (f i.toNat).1) := hg 0 (by decide)
  have g1 : H.get b (o + 1) = some (.int .i64 (f i.toNat).2.1) := hg 1 (by decide)
  have g2 : H.get b (o + 2) = some (.int .i64 (f i.toNat).2.2) := hg 2 (by decide)
  rw [g0, g1, g2]
  exact k

section
variable {E : Value → Hp → Prop}

/-- two queues that hold the same -/
structure Two (g1 g2 : Engine E) (H0 H : Hp) (p q n : Nat) (a b : Int) (key : Nat → Int) (last : Int) (S : Nat → Bool) (FP FQ : Nat → Prop) : Prop where
  o1 : QO g1 H0 H p n a key last S FP
  o2 : QO g2 H0 H q n b key last S FQ
  d : ∀ y, FP y → ¬ FQ y

variable {g1 g2 : Engine E} {H0 H : Hp} {p q n : Nat} {a b : Int} {key : Nat → Int} {last : Int} {S : Nat → Bool} {FP FQ : Nat → Prop}

theorem Two.new {H' : Hp} (h : Two g1 g2 H0 H p q n a b key last S FP FQ) (s : Step (fun _ => False) H H') : Two g1 g2 H0 H' p q n a b key last S FP FQ :=
  ⟨h.o1.keep s (fun _ h => h.elim) fun _ _ h => h, h.o2.keep s (fun _ h => h.elim) fun _ _ h => h, h.d⟩

end
end Go.Mz

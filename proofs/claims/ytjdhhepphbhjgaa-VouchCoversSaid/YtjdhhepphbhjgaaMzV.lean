/-
  More lemmas by which the shallow texts are walked: records, edges of graphs. It proves nothing of the program by itself.
-/
import Derived.Test.YtjdhhepphbhjgaaMzU
set_option linter.unusedSimpArgs false
set_option linter.unusedVariables false
namespace Go.Mz

theorem get_at {H : Hp} {b : Nat} {vs : List Value} {t : BT} (e : H b = some ⟨vs, t⟩) (o : Nat) : H.get b o = vs[o]? := by simp [Hp.get, e]

/-- an edge: its ends, its capacity, its cost -/
abbrev Edg := Int × Int × Int × Int
abbrev Edg.fr (x : Edg) : Int := x.1
abbrev Edg.to (x : Edg) : Int := x.2.1
abbrev Edg.cp (x : Edg) : Int := x.2.2.1
abbrev Edg.co (x : Edg) : Int := x.2.2.2

theorem Rdr.cells4 {H : Hp} {b o : Nat} {x : Edg} (hg : ∀ j, j < El.w Edg → H.get b (o + j) = (El.enc x)[j]?) :
    H.get b o = some (.int .i64 x.fr) ∧ H.get b (o + 1) = some (.int .i64 x.to) ∧ H.get b (o + 2) = some (.int .i64 x.cp) ∧ H.get b (o + 3) = some (.int .i64 x.co) :=
  ⟨hg 0 (by decide), hg 1 (by decide), hg 2 (by decide), hg 3 (by decide)⟩

/-- an edge, read whole -/
theorem Rdr.edge {H : Hp} {p : Option Addr} {n : Nat} {f : Nat → Edg} (h : Rdr H p n f) {i : Int} (h0 : 0 ≤ i) (h1 : i < (n : Int)) {G : Int → Int → Int → Int → Prop}
    (k : G (f i.toNat).fr (f i.toNat).to (f i.toNat).cp (f i.toNat).co) :
    Mz.ix p n i 4 fun b o => ldI .i64 (H.get b o) fun x1 => ldI .i64 (H.get b (o + 1)) fun x2 => ldI .i64 (H.get b (o + 2)) fun x3 => ldI .i64 (H.get b (o + 3)) fun x4 => G x1 x2 x3 x4 := by
  refine h.ix (α := Edg) h0 h1 fun b o _ hg => ?_
  obtain ⟨g0, g1, g2, g3⟩ := Rdr.cells4 hg
  rw [g0, g1, g2, g3]
  exact k

/-- one number of an edge -/
theorem Rdr.edgeC {H : Hp} {p : Option Addr} {n : Nat} {f : Nat → Edg} (h : Rdr H p n f) {i : Int} (h0 : 0 ≤ i) (h1 : i < (n : Int)) {G : Int → Prop}
    (k : G (f i.toNat).co) : Mz.ix p n i 4 fun b o => ldI .i64 (H.get b (o + 3)) G := by
  refine h.ix (α := Edg) h0 h1 fun b o _ hg => ?_
  rw [(Rdr.cells4 hg).2.2.2]
  exact k
theorem Rdr.edgeF {H : Hp} {p : Option Addr} {n : Nat} {f : Nat → Edg} (h : Rdr H p n f) {i : Int} (h0 : 0 ≤ i) (h1 : i < (n : Int)) {G : Int → Prop}
    (k : G (f i.toNat).fr) : Mz.ix p n i 4 fun b o => ldI .i64 (H.get b o) G := by
  refine h.ix (α := Edg) h0 h1 fun b o _ hg => ?_
  rw [(Rdr.cells4 hg).1]
  exact k
theorem Rdr.edgeT {H : Hp} {p : Option Addr} {n : Nat} {f : Nat → Edg} (h : Rdr H p n f) {i : Int} (h0 : 0 ≤ i) (h1 : i < (n : Int)) {G : Int → Prop}
    (k : G (f i.toNat).to) : Mz.ix p n i 4 fun b o => ldI .i64 (H.get b (o + 1)) G := by
  refine h.ix (α := Edg) h0 h1 fun b o _ hg => ?_
  rw [(Rdr.cells4 hg).2.1]
  exact k

theorem Rdr.ixB {H : Hp} {p : Option Addr} {n : Nat} {f : Nat → Bool} (h : Rdr H p n f) {i : Int} (h0 : 0 ≤ i) (h1 : i < (n : Int)) {K : Bool → Prop}
    (k : K (f i.toNat)) : Mz.ix p n i 1 fun b o => ldB (H.get b o) K := by
  refine h.ix (α := Bool) h0 h1 fun b o _ hg => ?_
  have := hg 0 (by decide)
  simp only [Nat.add_zero] at this
  rw [this]; exact k

theorem Rdr.ixS {H : Hp} {p : Option Addr} {n : Nat} {f : Nat → Sl} (h : Rdr H p n f) {i : Int} (h0 : 0 ≤ i) (h1 : i < (n : Int)) {K : Option Addr → Nat → Nat → Prop}
    (k : K (f i.toNat).p (f i.toNat).n (f i.toNat).c) : Mz.ix p n i 1 fun b o => ldS (H.get b o) K := by
  refine h.ix (α := Sl) h0 h1 fun b o _ hg => ?_
  have := hg 0 (by decide)
  simp only [Nat.add_zero] at this
  rw [this]; exact k

/-- so many zero values -/
theorem Row.mkI {l : Int} {e : TypeId} {H : Hp} {K : Nat → Hp → Prop} (h0 : 0 ≤ l) (h1 : l ≤ 1048576)
    (k : ∀ b H', H b = none → Row H' (some ⟨b, 0, none⟩) l.toNat l.toNat (fun _ => (0 : Int)) → Step (fun _ => False) H H' → K b H') : mkS l l e [.i .i64] 8 H K :=
  Row.make (0 : Int) rfl h0 h1 (by decide) k
theorem Row.mkB {l : Int} {e : TypeId} {H : Hp} {K : Nat → Hp → Prop} (h0 : 0 ≤ l) (h1 : l ≤ 1048576)
    (k : ∀ b H', H b = none → Row H' (some ⟨b, 0, none⟩) l.toNat l.toNat (fun _ => false) → Step (fun _ => False) H H' → K b H') : mkS l l e [.bool] 1 H K :=
  Row.make false rfl h0 h1 (by decide) k
theorem Row.mkSl {l : Int} {e : TypeId} {H : Hp} {K : Nat → Hp → Prop} (h0 : 0 ≤ l) (h1 : l ≤ 1048576)
    (k : ∀ b H', H b = none → Row H' (some ⟨b, 0, none⟩) l.toNat l.toNat (fun _ => (⟨none, 0, 0⟩ : Sl)) → Step (fun _ => False) H H' → K b H') : mkS l l e [.sl] 24 H K :=
  Row.make (⟨none, 0, 0⟩ : Sl) rfl h0 h1 (by decide) k

/-- a step that turns only what is new keeps nothing from being as it was -/
theorem Step.own {F : Nat → Prop} {H H' H'' : Hp} (h : Step (fun _ => False) H H') (k : Step F H' H'') (hf : ∀ b, F b → H b = none) : Step (fun _ => False) H H'' :=
  h.trans k fun b hb => .inr (hf b hb)

theorem Step.and {F : Nat → Prop} {H H' H'' : Hp} (h : Step F H H') (k : Step (fun _ => False) H' H'') : Step F H H'' := h.trans k fun _ h => h.elim

theorem Step.none_at {F : Nat → Prop} {H H' : Hp} (h : Step F H H') {b : Nat} (hb : H' b = none) : H b = none := h.mono b hb

theorem Step.live {F : Nat → Prop} {H H' : Hp} (h : Step F H H') {b : Nat} (hb : H b ≠ none) : H' b ≠ none := fun e => hb (h.mono b e)

theorem ne_of_live {H : Hp} {b b' : Nat} (h : H b = none) (k : H b' ≠ none) : b' ≠ b := fun e => k (e ▸ h)
end Go.Mz

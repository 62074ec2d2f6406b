/-
  Joined: VouQ, VouJ, VouK, VouL, VouM.
-/
import Derived.Test.YtmaeboaopebaiaaPkV
import Derived.Test.YtmaeboaopebaiaaPkM
import Derived.Test.YtmaeboaopebaiaaPkW
set_option linter.unusedSimpArgs false
set_option linter.unusedVariables false
/-
  The plain law of the gadget: copies of nodes, its edges, its size. No program in sight.
-/
namespace Go.Mz

/-- how many of the first edges that are no loops end at a node -/
def ends (e : Nat → Edg) : Nat → Int → Nat
  | 0, _ => 0
  | i + 1, v => ends e i v + if lp (e i) then 0 else (if (e i).fr = v then 1 else 0) + (if (e i).to = v then 1 else 0)

/-- how many edges each node may have -/
structure Bnd (N : Int) (b : Nat → Int) (bn : Nat) : Prop where
  len : (bn : Int) = N
  bnd : ∀ v, v < bn → 0 ≤ b v ∧ b v ≤ 4096

def cps (e : Nat → Edg) (n : Nat) (b : Nat → Int) (v : Nat) : Int := if b v < (ends e n v : Int) then b v else ends e n v

/-- how many of the first edges are no loops -/
def nol (e : Nat → Edg) : Nat → Nat
  | 0 => 0
  | i + 1 => nol e i + if lp (e i) then 0 else 1

/-- edges from so many copies to a node; edges from a node to so many copies -/
def fanI (a lo : Int) (k : Nat) : List Edg := (List.range k).map fun (j : Nat) => (lo + (j : Int), a, 0, 0)
def fanO (a lo : Int) (k : Nat) : List Edg := (List.range k).map fun (j : Nat) => (a, lo + (j : Int), 0, 0)

/-- the gadget's number of nodes, by the first edges; cp: how many copies each node has -/
def gnn (e : Nat → Edg) (cp : Nat → Int) (N : Nat) (i : Nat) : Int := psum cp N + 2 * (nol e i : Int)

/-- the gadget's edges -/
def gel (e : Nat → Edg) (cp : Nat → Int) (N : Nat) : Nat → List Edg
  | 0 => []
  | i + 1 => if lp (e i) then gel e cp N i else
      gel e cp N i ++ [(gnn e cp N i, gnn e cp N i + 1, 0, 0)] ++ fanI (gnn e cp N i) (psum cp (e i).fr.toNat) (cp (e i).fr.toNat).toNat
        ++ fanO (gnn e cp N i + 1) (psum cp (e i).to.toNat) (cp (e i).to.toNat).toNat

/-- the gadget is not too great -/
def Gsz (e : Nat → Edg) (cp : Nat → Int) (N n : Nat) : Prop := gnn e cp N n ≤ 1024 ∧ (gel e cp N n).length ≤ 4096

/-- a list of edges as a function -/
def lsE (l : List Edg) : Nat → Edg := fun i => l[i]?.getD (0, 0, 0, 0)

theorem lsE_app {l : List Edg} {x : Edg} : upf (lsE l) l.length x = lsE (l ++ [x]) := by
  funext i
  unfold upf lsE
  by_cases h : i = l.length
  · subst h; simp
  · rw [if_neg h]
    by_cases h2 : i < l.length
    · rw [List.getElem?_append_left h2]
    · rw [List.getElem?_eq_none (by omega), List.getElem?_eq_none (by simp; omega)]

end Go.Mz

/-
  Walks of layer 12, more: copies.
-/
namespace Go.Mz
section
variable {E : Value → Hp → Prop}

end
end Go.Mz

/-
  Walks of layer 12, more: build.
-/
namespace Go.Mz
section
variable {E : Value → Hp → Prop}

/-- the gadget while it is built: two rows of numbers that are but read, the result's place, the graph at hand -/
structure Bst (H0 H : Hp) (fb lb tb ob : Nat) (ln lc N : Nat) (f g : Nat → Int) (nodes : Int) (op : Option Addr) (oc : Nat) (L : List Edg) : Prop where
  s : Step (fun _ => False) H0 H
  fr : Row H (some ⟨fb, 0, none⟩) N N f
  la : Row H (some ⟨lb, 0, none⟩) ln lc g
  t : H tb = some ⟨[.int .i64 0, .slice none 0 0], 24⟩
  o : H ob = some ⟨[.int .i64 nodes, .slice op L.length oc], 24⟩
  r : Row H op L.length oc (lsE L)
  new : ∀ y, fpS op y → H0 y = none ∧ y ≠ fb ∧ y ≠ lb ∧ y ≠ tb ∧ y ≠ ob
  ob0 : H0 ob = none
  tb0 : H0 tb = none
  of : ob ≠ fb
  ol : ob ≠ lb
  ot : ob ≠ tb

theorem Bst.keep {H0 H H' : Hp} {fb lb tb ob ln lc N : Nat} {f g : Nat → Int} {nodes : Int} {op : Option Addr} {oc : Nat} {L : List Edg} (h : Bst H0 H fb lb tb ob ln lc N f g nodes op oc L) (s : Step (fun _ => False) H H') :
    Bst H0 H' fb lb tb ob ln lc N f g nodes op oc L :=
  ⟨h.s.and s, h.fr.keep s fun _ _ h => h, h.la.keep s fun _ _ h => h, s.keep _ _ h.t fun h => h, s.keep _ _ h.o fun h => h, h.r.keep s fun _ _ h => h, h.new, h.ob0, h.tb0, h.of, h.ol, h.ot⟩

theorem Bst.push {H0 H : Hp} {fb lb tb ob ln lc N : Nat} {f g : Nat → Int} {nodes x y : Int} {op : Option Addr} {oc : Nat} {L : List Edg} {K : Hp → Prop} (h : Bst H0 H fb lb tb ob ln lc N f g nodes op oc L) (hL : L.length ≤ 1048576)
    (k : ∀ H' op' oc', Bst H0 H' fb lb tb ob ln lc N f g nodes op' oc' (L ++ [(x, y, 0, 0)]) → (∀ a z, H a = some z → a ≠ ob → ¬ fpS op a → H' a = some z ∧ ¬ fpS op' a) → K H') :
    nw H ⟨[.int .i64 x, .int .i64 y, .int .i64 0, .int .i64 0], 37⟩ fun bb H1 => appM 37 [.i .i64, .i .i64, .i .i64, .i .i64] 32 op L.length oc (some ⟨bb, 0, none⟩) 1 H1 fun p' n' c' H2 => stC H2 ob 1 [.slice p' n' c'] K := by
  refine h.r.app (α := Edg) (x, y, 0, 0) rfl hL (by decide) fun p' c' H2 r2 s2 f2 => ?_
  have oo : ¬ fpS op ob := fun hh => (h.new _ hh).2.2.2.2 rfl
  have o2 := s2.keep _ _ h.o oo
  refine stp o2 (by simp) rfl fun H3 e3 s3 => ?_
  have lv : ∀ z, H z ≠ none → (∀ y, fpS op y → y ≠ z) → ∀ y, fpS p' y → y ≠ z := fun z hz hn y hy e => by
    rcases f2 y hy with h' | h'
    · exact hn y h' e
    · exact hz (e ▸ h')
  have nob := lv ob (by rw [h.o]; exact fun h => by cases h) fun y hy => (h.new y hy).2.2.2.2
  have s02 := h.s.own s2 fun y hy => (h.new y hy).1
  rw [lsE_app] at r2
  refine k H3 p' c' ⟨s02.own s3 fun y hy => hy ▸ h.ob0, (h.fr.keep s2 fun y hy hy' => ?_).keep s3 fun y hy e => ?_, (h.la.keep s2 fun y hy hy' => ?_).keep s3 fun y hy e => ?_, s3.keep _ _ (s2.keep _ _ h.t fun hh => (h.new _ hh).2.2.2.1 rfl) fun e => h.ot e.symm, ?_, ?_, fun y hy => ?_, h.ob0, h.tb0, h.of, h.ol, h.ot⟩ fun a z ha hao haf => ?_
  · rw [fpS_mk] at hy; exact (h.new _ hy').2.1 hy
  · rw [fpS_mk] at hy; exact h.of (e ▸ hy)
  · rw [fpS_mk] at hy; exact (h.new _ hy').2.2.1 hy
  · rw [fpS_mk] at hy; exact h.ol (e ▸ hy)
  · rw [List.length_append]; exact e3
  · rw [List.length_append]; exact r2.keep s3 fun y hy e => nob y hy e
  · refine ⟨?_, lv fb (h.fr.live ⟨_, rfl⟩) (fun y hy => (h.new y hy).2.1) y hy, lv lb (h.la.live ⟨_, rfl⟩) (fun y hy => (h.new y hy).2.2.1) y hy, lv tb (by rw [h.t]; exact fun h => by cases h) (fun y hy => (h.new y hy).2.2.2.1) y hy, nob y hy⟩
    rcases f2 y hy with h' | h'
    · exact (h.new y h').1
    · exact h.s.mono _ h'
  · refine ⟨s3.keep _ _ (s2.keep _ _ ha haf) hao, fun hh => ?_⟩
    rcases f2 a hh with h' | h'
    · exact haf h'
    · rw [ha] at h'; cases h'

end
end Go.Mz

/-
  Walks of layer 12, more: build whole, Gadget, Many.
-/
namespace Go.Mz
section
variable {E : Value → Hp → Prop}

/-- what is wrong with a graph and bounds: no gadget is built -/
def GadB (N : Int) (n : Nat) (e : Nat → Edg) (b : Nat → Int) (bn : Nat) (c : Int) : Prop :=
  (c = chk N n e ∧ c ≠ 0) ∨ (c = 130 ∧ Right N n e ∧ ¬ Bnd N b bn) ∨ (c = 3 ∧ Right N n e ∧ Bnd N b bn ∧ ¬ Gsz e (cps e n b) N.toNat n)

theorem GadB.ne {N : Int} {n : Nat} {e : Nat → Edg} {b : Nat → Int} {bn : Nat} {c : Int} (h : GadB N n e b bn c) : c ≠ 0 := by
  rcases h with ⟨_, h⟩ | ⟨rfl, _⟩ | ⟨rfl, _⟩
  · exact h
  · decide
  · decide

end
end Go.Mz

/-
  Walks of layer 12, more: Doubled.
-/
namespace Go.Mz
section
variable {E : Value → Hp → Prop}

/-- the edges that are walked twice, one after the other -/
def sub (e : Nat → Edg) (tw : Nat → Int) : Nat → Edg := fun i => e (tw i).toNat

/-- a metric as it lies in memory, read only -/
structure DistR (H : Hp) (dp : Option Addr) (dn : Nat) (dl : Nat → Sl) (row : Nat → Nat → Int) : Prop where
  d : Rdr H dp dn dl
  r : ∀ i, i < dn → Rdr H (dl i).p (dl i).n (row i) ∧ (dl i).n < 2 ^ 63

theorem DistR.keep {H H' : Hp} {dp : Option Addr} {dn : Nat} {dl : Nat → Sl} {row : Nat → Nat → Int} (h : DistR H dp dn dl row) (s : Step (fun _ => False) H H') : DistR H' dp dn dl row :=
  ⟨h.d.keep s fun _ _ _ h => h, fun i hi => ⟨(h.r i hi).1.keep s fun _ _ _ h => h, (h.r i hi).2⟩⟩

end
end Go.Mz

/-
  The plain law of the gadget: copies of nodes, its edges, its size. No program in sight.
-/
import Derived.Test.YtjdhhepphbhjgaaVouE
import Derived.Test.YtjdhhepphbhjgaaPl
set_option linter.unusedSimpArgs false
set_option linter.unusedVariables false
namespace Go.Mz

/-- how many of the first edges that are no loops end at a node -/
def ends (e : Nat → Edg) : Nat → Int → Nat
  | 0, _ => 0
  | i + 1, v => ends e i v + if lp (e i) then 0 else (if (e i).fr = v then 1 else 0) + (if (e i).to = v then 1 else 0)

theorem ends_le {e : Nat → Edg} {v : Int} : ∀ i, ends e i v ≤ 2 * i := by
  intro i
  induction i with
  | zero => exact Nat.le_refl _
  | succ i ih => show ends e i v + _ ≤ _; split <;> (try split) <;> (try split) <;> omega

/-- how many edges each node may have -/
structure Bnd (N : Int) (b : Nat → Int) (bn : Nat) : Prop where
  len : (bn : Int) = N
  bnd : ∀ v, v < bn → 0 ≤ b v ∧ b v ≤ 4096

def cps (e : Nat → Edg) (n : Nat) (b : Nat → Int) (v : Nat) : Int := if b v < (ends e n v : Int) then b v else ends e n v

theorem cps_bound {N : Int} {e : Nat → Edg} {n : Nat} {b : Nat → Int} {bn : Nat} (h : Bnd N b bn) {v : Nat} (hv : v < bn) : 0 ≤ cps e n b v ∧ cps e n b v ≤ 4096 ∧ cps e n b v ≤ b v := by
  have := h.bnd v hv
  unfold cps
  split <;> omega

/-- how many of the first edges are no loops -/
def nol (e : Nat → Edg) : Nat → Nat
  | 0 => 0
  | i + 1 => nol e i + if lp (e i) then 0 else 1

theorem nol_le {e : Nat → Edg} : ∀ i, nol e i ≤ i := by
  intro i
  induction i with
  | zero => exact Nat.le_refl _
  | succ i ih => show nol e i + _ ≤ _; split <;> omega

/-- edges from so many copies to a node; edges from a node to so many copies -/
def fanI (a lo : Int) (k : Nat) : List Edg := (List.range k).map fun (j : Nat) => (lo + (j : Int), a, 0, 0)
def fanO (a lo : Int) (k : Nat) : List Edg := (List.range k).map fun (j : Nat) => (a, lo + (j : Int), 0, 0)

theorem fanI_succ {a lo : Int} {k : Nat} : fanI a lo (k + 1) = fanI a lo k ++ [(lo + (k : Int), a, 0, 0)] := by unfold fanI; rw [List.range_succ, List.map_append]; rfl
theorem fanO_succ {a lo : Int} {k : Nat} : fanO a lo (k + 1) = fanO a lo k ++ [(a, lo + (k : Int), 0, 0)] := by unfold fanO; rw [List.range_succ, List.map_append]; rfl

/-- the gadget's number of nodes, by the first edges; cp: how many copies each node has -/
def gnn (e : Nat → Edg) (cp : Nat → Int) (N : Nat) (i : Nat) : Int := psum cp N + 2 * (nol e i : Int)

/-- the gadget's edges -/
def gel (e : Nat → Edg) (cp : Nat → Int) (N : Nat) : Nat → List Edg
  | 0 => []
  | i + 1 => if lp (e i) then gel e cp N i else
      gel e cp N i ++ [(gnn e cp N i, gnn e cp N i + 1, 0, 0)] ++ fanI (gnn e cp N i) (psum cp (e i).fr.toNat) (cp (e i).fr.toNat).toNat
        ++ fanO (gnn e cp N i + 1) (psum cp (e i).to.toNat) (cp (e i).to.toNat).toNat

theorem gel_succ {e : Nat → Edg} {cp : Nat → Int} {N i : Nat} : gel e cp N (i + 1) = if lp (e i) then gel e cp N i else
      gel e cp N i ++ [(gnn e cp N i, gnn e cp N i + 1, 0, 0)] ++ fanI (gnn e cp N i) (psum cp (e i).fr.toNat) (cp (e i).fr.toNat).toNat
        ++ fanO (gnn e cp N i + 1) (psum cp (e i).to.toNat) (cp (e i).to.toNat).toNat := rfl

theorem gnn_mono {e : Nat → Edg} {cp : Nat → Int} {N i : Nat} : ∀ d, gnn e cp N i ≤ gnn e cp N (i + d) := by
  intro d
  have : ∀ d, nol e i ≤ nol e (i + d) := by
    intro d
    induction d with
    | zero => exact Nat.le_refl _
    | succ d ih => show _ ≤ nol e (i + d) + _; omega
  unfold gnn
  have := this d
  omega

theorem gel_mono {e : Nat → Edg} {cp : Nat → Int} {N i : Nat} : ∀ d, (gel e cp N i).length ≤ (gel e cp N (i + d)).length := by
  intro d
  induction d with
  | zero => exact Nat.le_refl _
  | succ d ih =>
    show _ ≤ (gel e cp N (i + d + 1)).length
    rw [gel_succ]
    split
    · exact ih
    · simp only [List.length_append]; omega

/-- the gadget is not too great -/
def Gsz (e : Nat → Edg) (cp : Nat → Int) (N n : Nat) : Prop := gnn e cp N n ≤ 1024 ∧ (gel e cp N n).length ≤ 4096

/-- a list of edges as a function -/
def lsE (l : List Edg) : Nat → Edg := fun i => l[i]?.getD (0, 0, 0, 0)

theorem lsE_app {l : List Edg} {x : Edg} : upf (lsE l) l.length x = lsE (l ++ [x]) := by
  funext i
  unfold upf lsE
  by_cases h : i = l.length
  · subst h; simp
  · rw [if_neg h]
    by_cases h2 : i < l.length
    · rw [List.getElem?_append_left h2]
    · rw [List.getElem?_eq_none (by omega), List.getElem?_eq_none (by simp; omega)]

theorem psum_mono {f : Nat → Int} {N : Nat} (h : ∀ v, v < N → 0 ≤ f v) : ∀ {i j : Nat}, i ≤ j → j ≤ N → psum f i ≤ psum f j := by
  intro i j hij hj
  obtain ⟨d, rfl⟩ : ∃ d, j = i + d := ⟨j - i, by omega⟩
  clear hij
  induction d with
  | zero => exact Int.le_refl _
  | succ d ih =>
    have h1 := ih (by omega)
    have h2 := h (i + d) (by omega)
    show _ ≤ psum f (i + d) + f (i + d)
    omega

theorem lsE_mem {l : List Edg} {i : Nat} (hi : i < l.length) : lsE l i ∈ l := by
  unfold lsE
  rw [List.getElem?_eq_getElem hi]
  exact List.getElem_mem hi

/-- the gadget of a right graph is right -/
theorem gad_right {N : Int} {n : Nat} {e : Nat → Edg} {cp : Nat → Int} (hr : Right N n e) (hc : ∀ v, v < N.toNat → 0 ≤ cp v) (hg : Gsz e cp N.toNat n) : Right (gnn e cp N.toNat n) (gel e cp N.toNat n).length (lsE (gel e cp N.toNat n)) := by
  have h0 : 0 ≤ psum cp N.toNat := by
    have := psum_mono hc (i := 0) (j := N.toNat) (by omega) (Nat.le_refl _)
    exact this
  have key : ∀ i, i ≤ n → ∀ x ∈ gel e cp N.toNat i, RightE (gnn e cp N.toNat i) x := by
    intro i
    induction i with
    | zero => intro _ x hx; cases hx
    | succ i ih =>
      intro hi x hx
      have hxi := hr.ed i (by omega)
      have hf0 := hxi.f0; have hf1 := hxi.f1; have ht0 := hxi.t0; have ht1 := hxi.t1
      have up : ∀ y, RightE (gnn e cp N.toNat i) y → RightE (gnn e cp N.toNat (i + 1)) y := fun y hy => by
        have hm := gnn_mono (e := e) (cp := cp) (N := N.toNat) (i := i) 1
        obtain ⟨y1, y2, y3, y4, y5, y6, y7, y8⟩ := hy
        exact ⟨y1, by omega, y3, by omega, y5, y6, y7, y8⟩
      have hxx : x ∈ (if lp (e i) then gel e cp N.toNat i else _) := hx
      split at hxx
      · exact up x (ih (by omega) x hxx)
      · rename_i hnl
        have hge : gnn e cp N.toNat (i + 1) = gnn e cp N.toNat i + 2 := by
          unfold gnn
          show psum cp N.toNat + 2 * ((nol e i + (if lp (e i) then 0 else 1) : Nat) : Int) = _
          rw [if_neg hnl]; omega
        have hg0 : psum cp N.toNat ≤ gnn e cp N.toNat i := by unfold gnn; omega
        have fan : ∀ v, v < N.toNat → ∀ j, j < (cp v).toNat → 0 ≤ psum cp v + (j : Int) ∧ psum cp v + (j : Int) < gnn e cp N.toNat i := fun v hv j hj => by
          have h1 := psum_mono hc (i := 0) (j := v) (by omega) (by omega)
          have h2 := psum_mono hc (i := v + 1) (j := N.toNat) (by omega) (Nat.le_refl _)
          have h3 : psum cp (v + 1) = psum cp v + cp v := rfl
          have h4 : psum cp 0 = 0 := rfl
          omega
        simp only [List.mem_append, List.mem_singleton] at hxx
        rcases hxx with ((hxx | hxx) | hxx) | hxx
        · exact up x (ih (by omega) x hxx)
        · subst hxx
          exact ⟨by show 0 ≤ gnn e cp N.toNat i; omega, by show gnn e cp N.toNat i < _; omega, by show 0 ≤ gnn e cp N.toNat i + 1; omega, by show gnn e cp N.toNat i + 1 < _; omega, (by decide : (0 : Int) ≤ 0), (by decide : (0 : Int) ≤ 1048576), (by decide : (-1048576 : Int) ≤ 0), (by decide : (0 : Int) ≤ 1048576)⟩
        · unfold fanI at hxx
          simp only [List.mem_map, List.mem_range] at hxx
          obtain ⟨j, hj, rfl⟩ := hxx
          have := fan (e i).fr.toNat (by omega) j hj
          exact ⟨this.1, by show psum cp (e i).fr.toNat + (j : Int) < _; omega, by show 0 ≤ gnn e cp N.toNat i; omega, by show gnn e cp N.toNat i < _; omega, (by decide : (0 : Int) ≤ 0), (by decide : (0 : Int) ≤ 1048576), (by decide : (-1048576 : Int) ≤ 0), (by decide : (0 : Int) ≤ 1048576)⟩
        · unfold fanO at hxx
          simp only [List.mem_map, List.mem_range] at hxx
          obtain ⟨j, hj, rfl⟩ := hxx
          have := fan (e i).to.toNat (by omega) j hj
          exact ⟨by show 0 ≤ gnn e cp N.toNat i + 1; omega, by show gnn e cp N.toNat i + 1 < _; omega, this.1, by show psum cp (e i).to.toNat + (j : Int) < _; omega, (by decide : (0 : Int) ≤ 0), (by decide : (0 : Int) ≤ 1048576), (by decide : (-1048576 : Int) ≤ 0), (by decide : (0 : Int) ≤ 1048576)⟩
  exact ⟨by unfold gnn; omega, hg.1, hg.2, fun i hi => key n (Nat.le_refl _) _ (lsE_mem hi)⟩
end Go.Mz

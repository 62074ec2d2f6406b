/-
  Joined: VouQ, VouJ, VouK, VouL, VouM.
-/
import Derived.Test.YtbocpfdlfnodfaaPkV
import Derived.Test.YtbocpfdlfnodfaaPkM
import Derived.Test.YtbocpfdlfnodfaaPkW
set_option linter.unusedSimpArgs false
set_option linter.unusedVariables false
/-
  The plain law of the gadget: copies of nodes, its edges, its size. No program in sight.
-/
namespace Go.Mz

/-- how many of the first edges that are no loops end at a node -/
def ends (e : Nat → Edg) : Nat → Int → Nat
  | 0, _ => 0
  | i + 1, v => ends e i v + if lp (e i) then 0 else (if (e i).fr = v then 1 else 0) + (if (e i).to = v then 1 else 0)

theorem ends_le {e : Nat → Edg} {v : Int} : ∀ i, ends e i v ≤ 2 * i := by
  intro i
  induction i with
  | zero => exact Nat.le_refl _
  | succ i ih => show ends e i v + _ ≤ _; split <;> (try split) <;> (try split) <;> omega

/-- how many edges each node may have -/
structure Bnd (N : Int) (b : Nat → Int) (bn : Nat) : Prop where
  len : (bn : Int) = N
  bnd : ∀ v, v < bn → 0 ≤ b v ∧ b v ≤ 4096

def cps (e : Nat → Edg) (n : Nat) (b : Nat → Int) (v : Nat) : Int := if b v < (ends e n v : Int) then b v else ends e n v

theorem cps_bound {N : Int} {e : Nat → Edg} {n : Nat} {b : Nat → Int} {bn : Nat} (h : Bnd N b bn) {v : Nat} (hv : v < bn) : 0 ≤ cps e n b v ∧ cps e n b v ≤ 4096 ∧ cps e n b v ≤ b v := by
  have := h.bnd v hv
  unfold cps
  split <;> omega

/-- how many of the first edges are no loops -/
def nol (e : Nat → Edg) : Nat → Nat
  | 0 => 0
  | i + 1 => nol e i + if lp (e i) then 0 else 1

theorem nol_le {e : Nat → Edg} : ∀ i, nol e i ≤ i := by
  intro i
  induction i with
  | zero => exact Nat.le_refl _
  | succ i ih => show nol e i + _ ≤ _; split <;> omega

/-- edges from so many copies to a node; edges from a node to so many copies -/
def fanI (a lo : Int) (k : Nat) : List Edg := (List.range k).map fun (j : Nat) => (lo + (j : Int), a, 0, 0)
def fanO (a lo : Int) (k : Nat) : List Edg := (List.range k).map fun (j : Nat) => (a, lo + (j : Int), 0, 0)

theorem fanI_succ {a lo : Int} {k : Nat} : fanI a lo (k + 1) = fanI a lo k ++ [(lo + (k : Int), a, 0, 0)] := by unfold fanI; rw [List.range_succ, List.map_append]; rfl
theorem fanO_succ {a lo : Int} {k : Nat} : fanO a lo (k + 1) = fanO a lo k ++ [(a, lo + (k : Int), 0, 0)] := by unfold fanO; rw [List.range_succ, List.map_append]; rfl

/-- the gadget's number of nodes, by the first edges; cp: how many copies each node has -/
def gnn (e : Nat → Edg) (cp : Nat → Int) (N : Nat) (i : Nat) : Int := psum cp N + 2 * (nol e i : Int)

/-- the gadget's edges -/
def gel (e : Nat → Edg) (cp : Nat → Int) (N : Nat) : Nat → List Edg
  | 0 => []
  | i + 1 => if lp (e i) then gel e cp N i else
      gel e cp N i ++ [(gnn e cp N i, gnn e cp N i + 1, 0, 0)] ++ fanI (gnn e cp N i) (psum cp (e i).fr.toNat) (cp (e i).fr.toNat).toNat
        ++ fanO (gnn e cp N i + 1) (psum cp (e i).to.toNat) (cp (e i).to.toNat).toNat

theorem gel_succ {e : Nat → Edg} {cp : Nat → Int} {N i : Nat} : gel e cp N (i + 1) = if lp (e i) then gel e cp N i else
      gel e cp N i ++ [(gnn e cp N i, gnn e cp N i + 1, 0, 0)] ++ fanI (gnn e cp N i) (psum cp (e i).fr.toNat) (cp (e i).fr.toNat).toNat
        ++ fanO (gnn e cp N i + 1) (psum cp (e i).to.toNat) (cp (e i).to.toNat).toNat := rfl

theorem gnn_mono {e : Nat → Edg} {cp : Nat → Int} {N i : Nat} : ∀ d, gnn e cp N i ≤ gnn e cp N (i + d) := by
  intro d
  have : ∀ d, nol e i ≤ nol e (i + d) := by
    intro d
    induction d with
    | zero => exact Nat.le_refl _
    | succ d ih => show _ ≤ nol e (i + d) + _; omega
  unfold gnn
  have := this d
  omega

theorem gel_mono {e : Nat → Edg} {cp : Nat → Int} {N i : Nat} : ∀ d, (gel e cp N i).length ≤ (gel e cp N (i + d)).length := by
  intro d
  induction d with
  | zero => exact Nat.le_refl _
  | succ d ih =>
    show _ ≤ (gel e cp N (i + d + 1)).length
    rw [gel_succ]
    split
    · exact ih
    · simp only [List.length_append]; omega

/-- the gadget is not too great -/
def Gsz (e : Nat → Edg) (cp : Nat → Int) (N n : Nat) : Prop := gnn e cp N n ≤ 1024 ∧ (gel e cp N n).length ≤ 4096

/-- a list of edges as a function -/
def lsE (l : List Edg) : Nat → Edg := fun i => l[i]?.getD (0, 0, 0, 0)

theorem lsE_app {l : List Edg} {x : Edg} : upf (lsE l) l.length x = lsE (l ++ [x]) := by
  funext i
  unfold upf lsE
  by_cases h : i = l.length
  · subst h; simp
  · rw [if_neg h]
    by_cases h2 : i < l.length
    · rw [List.getElem?_append_left h2]
    · rw [List.getElem?_eq_none (by omega), List.getElem?_eq_none (by simp; omega)]

theorem psum_mono {f : Nat → Int} {N : Nat} (h : ∀ v, v < N → 0 ≤ f v) : ∀ {i j : Nat}, i ≤ j → j ≤ N → psum f i ≤ psum f j := by
  intro i j hij hj
  obtain ⟨d, rfl⟩ : ∃ d, j = i + d := ⟨j - i, by omega⟩
  clear hij
  induction d with
  | zero => exact Int.le_refl _
  | succ d ih =>
    have h1 := ih (by omega)
    have h2 := h (i + d) (by omega)
    show _ ≤ psum f (i + d) + f (i + d)
    omega

theorem lsE_mem {l : List Edg} {i : Nat} (hi : i < l.length) : lsE l i ∈ l := by
  unfold lsE
  rw [List.getElem?_eq_getElem hi]
  exact List.getElem_mem hi

/-- the gadget of a right graph is right -/
theorem gad_right {N : Int} {n : Nat} {e : Nat → Edg} {cp : Nat → Int} (hr : Right N n e) (hc : ∀ v, v < N.toNat → 0 ≤ cp v) (hg : Gsz e cp N.toNat n) : Right (gnn e cp N.toNat n) (gel e cp N.toNat n).length (lsE (gel e cp N.toNat n)) := by
  have h0 : 0 ≤ psum cp N.toNat := by
    have := psum_mono hc (i := 0) (j := N.toNat) (by omega) (Nat.le_refl _)
    exact this
  have key : ∀ i, i ≤ n → ∀ x ∈ gel e cp N.toNat i, RightE (gnn e cp N.toNat i) x := by
    intro i
    induction i with
    | zero => intro _ x hx; cases hx
    | succ i ih =>
      intro hi x hx
      have hxi := hr.ed i (by omega)
      have hf0 := hxi.f0; have hf1 := hxi.f1; have ht0 := hxi.t0; have ht1 := hxi.t1
      have up : ∀ y, RightE (gnn e cp N.toNat i) y → RightE (gnn e cp N.toNat (i + 1)) y := fun y hy => by
        have hm := gnn_mono (e := e) (cp := cp) (N := N.toNat) (i := i) 1
        obtain ⟨y1, y2, y3, y4, y5, y6, y7, y8⟩ := hy
        exact ⟨y1, by omega, y3, by omega, y5, y6, y7, y8⟩
      have hxx : x ∈ (if lp (e i) then gel e cp N.toNat i else _) := hx
      split at hxx
      · exact up x (ih (by omega) x hxx)
      · rename_i hnl
        have hge : gnn e cp N.toNat (i + 1) = gnn e cp N.toNat i + 2 := by
          unfold gnn
          show psum cp N.toNat + 2 * ((nol e i + (if lp (e i) then 0 else 1) : Nat) : Int) = _
          rw [if_neg hnl]; omega
        have hg0 : psum cp N.toNat ≤ gnn e cp N.toNat i := by unfold gnn; omega
        have fan : ∀ v, v < N.toNat → ∀ j, j < (cp v).toNat → 0 ≤ psum cp v + (j : Int) ∧ psum cp v + (j : Int) < gnn e cp N.toNat i := fun v hv j hj => by
          have h1 := psum_mono hc (i := 0) (j := v) (by omega) (by omega)
          have h2 := psum_mono hc (i := v + 1) (j := N.toNat) (by omega) (Nat.le_refl _)
          have h3 : psum cp (v + 1) = psum cp v + cp v := rfl
          have h4 : psum cp 0 = 0 := rfl
          omega
        simp only [List.mem_append, List.mem_singleton] at hxx
        rcases hxx with ((hxx | hxx) | hxx) | hxx
        · exact up x (ih (by omega) x hxx)
        · subst hxx
          exact ⟨by show 0 ≤ gnn e cp N.toNat i; omega, by show gnn e cp N.toNat i < _; omega, by show 0 ≤ gnn e cp N.toNat i + 1; omega, by show gnn e cp N.toNat i + 1 < _; omega, (by decide : (0 : Int) ≤ 0), (by decide : (0 : Int) ≤ 1048576), (by decide : (-1048576 : Int) ≤ 0), (by decide : (0 : Int) ≤ 1048576)⟩
        · unfold fanI at hxx
          simp only [List.mem_map, List.mem_range] at hxx
          obtain ⟨j, hj, rfl⟩ := hxx
          have := fan (e i).fr.toNat (by omega) j hj
          exact ⟨this.1, by show psum cp (e i).fr.toNat + (j : Int) < _; omega, by show 0 ≤ gnn e cp N.toNat i; omega, by show gnn e cp N.toNat i < _; omega, (by decide : (0 : Int) ≤ 0), (by decide : (0 : Int) ≤ 1048576), (by decide : (-1048576 : Int) ≤ 0), (by decide : (0 : Int) ≤ 1048576)⟩
        · unfold fanO at hxx
          simp only [List.mem_map, List.mem_range] at hxx
          obtain ⟨j, hj, rfl⟩ := hxx
          have := fan (e i).to.toNat (by omega) j hj
          exact ⟨by show 0 ≤ gnn e cp N.toNat i + 1; omega, by show gnn e cp N.toNat i + 1 < _; omega, this.1, by show psum cp (e i).to.toNat + (j : Int) < _; omega, (by decide : (0 : Int) ≤ 0), (by decide : (0 : Int) ≤ 1048576), (by decide : (-1048576 : Int) ≤ 0), (by decide : (0 : Int) ≤ 1048576)⟩
  exact ⟨by unfold gnn; omega, hg.1, hg.2, fun i hi => key n (Nat.le_refl _) _ (lsE_mem hi)⟩
end Go.Mz

/-
  Walks of layer 12, more: copies.
-/
namespace Go.Mz
section
variable {E : Value → Hp → Prop}

theorem vcopies {N : Int} {ep : Option Addr} {n ec : Nat} {e : Nat → Edg} {bp : Option Addr} {bn bk : Nat} {b : Nat → Int} {H : Hp} {K : Option Addr → Nat → Nat → Hp → Prop}
    (he : Rdr H ep n e) (hr : Right N n e) (hb : Rdr H bp bn b) (hbn : bn < 2 ^ 63)
    (kk : ∀ x H', Step (fun _ => False) H H' → Bnd N b bn → H x = none → Row H' (some ⟨x, 0, none⟩) N.toNat N.toNat (cps e n b) → K (some ⟨x, 0, none⟩) N.toNat N.toNat H')
    (bad : ∀ H', Step (fun _ => False) H H' → ¬ Bnd N b bn → E (pv 130) H') : vouch_copies.call N ep n ec bp bn bk E H K := by
  have hN0 := hr.N0; have hN1 := hr.N1; have hn1 := hr.n1
  refine vouch_copies.of (vouch_copies.run_eq ?_)
  unfold vouch_copies.run_t
  refine nwk fun b1 H1 hb1 e1 s1 => ?_
  simp only [get_at e1, List.getElem?_cons_zero, List.getElem?_cons_succ, ldI_mk, ldS_mk]
  refine vneedD (fun hlen => ?_) fun h => bad _ s1 fun hh => h hh.len
  try simp only [get_at e1, List.getElem?_cons_zero, List.getElem?_cons_succ, ldI_mk, ldS_mk]
  refine Row.mkI hN0 (by omega) fun b2 H2 hb2 r2 s2 => ?_
  have e12 := s2.keep _ _ e1 fun h => h
  simp only [get_at e12, List.getElem?_cons_zero, List.getElem?_cons_succ, ldS_mk]
  have f2 : H b2 = none := s1.mono _ hb2
  have fp2 : ∀ y, fpS (some ⟨b2, 0, none⟩) y → H y = none := fun y hy => by rw [fpS_mk] at hy; exact hy ▸ f2
  refine vouch_copies.l1_rule (fun bp' bn' bc' cp cn cc tp tn tc t21 t22 H' => bp = bp' ∧ bn = bn' ∧ cp = some ⟨b2, 0, none⟩ ∧ cn = N.toNat ∧ cc = N.toNat ∧ ep = tp ∧ n = tn ∧ t21 = n ∧
      ∃ i : Nat, t22 = i ∧ i ≤ n ∧ Step (fun _ => False) H H' ∧ Row H' (some ⟨b2, 0, none⟩) N.toNat N.toNat (fun v => (ends e i v : Int)))
    (fun bp' bn' bc' cp cn cc tp tn tc t21 t22 H' => n - t22.toNat) ?_ ⟨rfl, rfl, rfl, rfl, rfl, rfl, rfl, rfl, 0, rfl, by omega, s1.and s2, r2⟩
  clear r2 e12 s2 hb2 e1
  rintro bp' bn' bc' cp cn cc tp tn tc t21 t22 H3 ⟨rfl, rfl, rfl, rfl, rfl, rfl, rfl, rfl, i, rfl, hi, s3, r3⟩ X hX
  refine vouch_copies.b1_eq ?_
  unfold vouch_copies.b1_t
  refine bc (fun hlt => ?_) fun hge => ?_
  · refine (he.keep s3 fun _ _ _ h => h).edge (by omega) (by omega) ?_
    simp only [Int.toNat_natCast]
    refine nwst rfl rfl fun b4 H4 hb4 e4 s4 => ?_
    have hx := hr.ed i (by omega)
    have hf0 := hx.f0; have hf1 := hx.f1; have ht0 := hx.t0; have ht1 := hx.t1
    obtain ⟨a, ha⟩ : ∃ a : Nat, (e i).fr = a := ⟨(e i).fr.toNat, by omega⟩
    obtain ⟨d, hd⟩ : ∃ d : Nat, (e i).to = d := ⟨(e i).to.toNat, by omega⟩
    rw [ha, hd] at e4
    simp only [get_at e4, List.getElem?_cons_zero, List.getElem?_cons_succ, ldI_mk]
    refine vloop fun H5 s5 => ?_
    have e5 := s5.keep _ _ e4 fun h => h
    have s35 := s3.and (s4.and s5)
    have r5 := r3.keep (s4.and s5) fun _ _ h => h
    have next : ∀ H', Step (fun _ => False) H H' → Row H' (some ⟨b2, 0, none⟩) N.toNat N.toNat (fun v => (ends e (i + 1) v : Int)) → vouch_copies.j1 bp bn bc' (some ⟨b2, 0, none⟩) N.toNat N.toNat ep n tc (n : Int) (i : Int) X E H' K := fun H' s' r' => by
      refine vouch_copies.j1_eq ?_
      unfold vouch_copies.j1_t
      rw [i64w (by omega) (by omega)]
      exact hX _ _ _ _ _ _ _ _ _ _ _ _ ⟨rfl, rfl, rfl, rfl, rfl, rfl, rfl, rfl, i + 1, by omega, by omega, s', r'⟩ (by omega)
    have hes : ∀ v : Int, (ends e (i + 1) v : Int) = (ends e i v : Int) + if lp (e i) then 0 else (if (a : Int) = v then 1 else 0) + (if (d : Int) = v then 1 else 0) := fun v => by
      show ((ends e i v + (if lp (e i) then 0 else (if (e i).fr = v then 1 else 0) + (if (e i).to = v then 1 else 0)) : Nat) : Int) = _
      rw [ha, hd]
      split <;> (try split) <;> (try split) <;> simp
    refine bcn (fun hl => ?_) fun hl => ?_
    · have hnl : ¬ lp (e i) := fun h => hl (by have h' : (e i).fr = (e i).to := h; rw [ha, hd] at h'; exact h')
      simp only [get_at e5, List.getElem?_cons_zero, List.getElem?_cons_succ, ldI_mk]
      refine r5.ixI (by omega) (by omega) ?_
      simp only [Int.toNat_natCast]
      have hba := ends_le (e := e) (v := (a : Int)) i
      have hbd := ends_le (e := e) (v := (d : Int)) i
      rw [i64w (n := (ends e i (a : Int) : Int) + 1) (by omega) (by omega)]
      refine r5.stI (by omega) (by omega) _ fun H6 r6 s6 => ?_
      simp only [Int.toNat_natCast] at r6
      have e6 := s6.keep _ _ e5 fun h => by rw [fpS_mk] at h; exact r3.live (b := b2) ⟨_, rfl⟩ (h ▸ hb4)
      simp only [get_at e6, List.getElem?_cons_zero, List.getElem?_cons_succ, ldI_mk]
      refine r6.ixI (by omega) (by omega) ?_
      simp only [Int.toNat_natCast]
      have hv : -1 ≤ upf (fun v : Nat => (ends e i (v : Int) : Int)) a ((ends e i (a : Int) : Int) + 1) d ∧ upf (fun v : Nat => (ends e i (v : Int) : Int)) a ((ends e i (a : Int) : Int) + 1) d ≤ 8193 := by
        unfold upf; dsimp only; split <;> omega
      rw [i64w (by omega) (by omega)]
      refine r6.stI (by omega) (by omega) _ fun H7 r7 s7 => ?_
      simp only [Int.toNat_natCast] at r7
      refine next _ ((s35.own s6 fp2).own s7 fp2) (r7.congr fun v hv => ?_)
      rw [hes, if_neg hnl]
      unfold upf
      have q1 : (v = d) ↔ ((d : Int) = (v : Int)) := by omega
      have q2 : (v = a) ↔ ((a : Int) = (v : Int)) := by omega
      have q3 : (d = a) ↔ ((d : Int) = (a : Int)) := by omega
      by_cases c1 : v = d
      · subst c1
        by_cases c2 : v = a
        · subst c2; simp; omega
        · have : ¬ (a : Int) = (v : Int) := by omega
          simp [c2, this]
      · by_cases c2 : v = a
        · subst c2
          have : ¬ (d : Int) = (v : Int) := by omega
          simp [c1, this]
        · have h1 : ¬ (d : Int) = (v : Int) := by omega
          have h2 : ¬ (a : Int) = (v : Int) := by omega
          simp [c1, c2, h1, h2]
    · have hlp : lp (e i) := by show (e i).fr = (e i).to; rw [ha, hd]; exact hl
      refine next _ s35 (r5.congr fun v hv => ?_)
      rw [hes, if_pos hlp]; omega
  · have : i = n := by omega
    subst this
    clear hX
    refine vouch_copies.j2_eq ?_
    unfold vouch_copies.j2_t
    refine vouch_copies.l2_rule (fun cp cn cc tp tn tc t45 t46 H' => cp = some ⟨b2, 0, none⟩ ∧ cn = N.toNat ∧ cc = N.toNat ∧ bp = tp ∧ bn = tn ∧ t45 = bn ∧
        ∃ v : Nat, t46 = v ∧ v ≤ bn ∧ Step (fun _ => False) H H' ∧ (∀ u, u < v → 0 ≤ b u ∧ b u ≤ 4096) ∧ Row H' (some ⟨b2, 0, none⟩) N.toNat N.toNat (fun u => if u < v then cps e i b u else (ends e i u : Int)))
      (fun cp cn cc tp tn tc t45 t46 H' => bn - t46.toNat) ?_ ⟨rfl, rfl, rfl, rfl, rfl, rfl, 0, rfl, by omega, s3, fun u hu => by omega, r3.congr fun v _ => by simp⟩
    clear r3 s3
    rintro cp cn cc tp tn tc t45 t46 H4 ⟨rfl, rfl, rfl, rfl, rfl, rfl, v, rfl, hv, s4, hbd, r4⟩ Y hY
    refine vouch_copies.b2_eq ?_
    unfold vouch_copies.b2_t
    refine bc (fun hlt => ?_) fun hge => ?_
    · refine (hb.keep s4 fun _ _ _ h => h).ixI (by omega) (by omega) ?_
      simp only [Int.toNat_natCast]
      refine bc (fun g1 => ?_) fun g1 => vneed (fun h => by cases h) fun _ => bad _ s4 fun hh => g1 (hh.bnd v (by omega)).1
      refine vneedD (fun g2 => ?_) fun g2 => bad _ s4 fun hh => g2 (hh.bnd v (by omega)).2
      refine vouch_copies.j3_eq ?_
      unfold vouch_copies.j3_t
      refine r4.ixI (by omega) (by omega) ?_
      refine r4.stI (by omega) (by omega) _ fun H5 r5 s5 => ?_
      simp only [Int.toNat_natCast, Nat.lt_irrefl, if_false] at r5
      rw [i64w (by omega) (by omega)]
      refine hY _ _ _ _ _ _ _ _ _ ⟨rfl, rfl, rfl, rfl, rfl, rfl, v + 1, by omega, by omega, s4.own s5 fp2, fun u hu => ?_, r5.congr fun u hu => ?_⟩ (by omega)
      · by_cases eu : u = v
        · subst eu; exact ⟨g1, g2⟩
        · exact hbd u (by omega)
      · by_cases eu : u = v
        · subst eu; rw [upf_same, if_pos (Nat.lt_succ_self u)]; rfl
        · rw [upf_ne eu]
          by_cases h : u < v
          · rw [if_pos h, if_pos (by omega)]
          · rw [if_neg h, if_neg (by omega)]
    · have : v = bn := by omega
      subst this
      refine kk b2 H4 s4 ⟨hlen, hbd⟩ f2 (r4.congr fun u hu => by rw [if_pos (by omega)])
end
end Go.Mz

/-
  Walks of layer 12, more: build.
-/
namespace Go.Mz
section
variable {E : Value → Hp → Prop}

/-- the gadget while it is built: two rows of numbers that are but read, the result's place, the graph at hand -/
structure Bst (H0 H : Hp) (fb lb tb ob : Nat) (ln lc N : Nat) (f g : Nat → Int) (nodes : Int) (op : Option Addr) (oc : Nat) (L : List Edg) : Prop where
  s : Step (fun _ => False) H0 H
  fr : Row H (some ⟨fb, 0, none⟩) N N f
  la : Row H (some ⟨lb, 0, none⟩) ln lc g
  t : H tb = some ⟨[.int .i64 0, .slice none 0 0], 24⟩
  o : H ob = some ⟨[.int .i64 nodes, .slice op L.length oc], 24⟩
  r : Row H op L.length oc (lsE L)
  new : ∀ y, fpS op y → H0 y = none ∧ y ≠ fb ∧ y ≠ lb ∧ y ≠ tb ∧ y ≠ ob
  ob0 : H0 ob = none
  tb0 : H0 tb = none
  of : ob ≠ fb
  ol : ob ≠ lb
  ot : ob ≠ tb

theorem Bst.keep {H0 H H' : Hp} {fb lb tb ob ln lc N : Nat} {f g : Nat → Int} {nodes : Int} {op : Option Addr} {oc : Nat} {L : List Edg} (h : Bst H0 H fb lb tb ob ln lc N f g nodes op oc L) (s : Step (fun _ => False) H H') :
    Bst H0 H' fb lb tb ob ln lc N f g nodes op oc L :=
  ⟨h.s.and s, h.fr.keep s fun _ _ h => h, h.la.keep s fun _ _ h => h, s.keep _ _ h.t fun h => h, s.keep _ _ h.o fun h => h, h.r.keep s fun _ _ h => h, h.new, h.ob0, h.tb0, h.of, h.ol, h.ot⟩

theorem Bst.setN {H0 H : Hp} {fb lb tb ob ln lc N : Nat} {f g : Nat → Int} {nodes x : Int} {op : Option Addr} {oc : Nat} {L : List Edg} {K : Hp → Prop} (h : Bst H0 H fb lb tb ob ln lc N f g nodes op oc L)
    (k : ∀ H', Bst H0 H' fb lb tb ob ln lc N f g x op oc L → Step (· = ob) H H' → K H') : stC H ob 0 [.int .i64 x] K := by
  refine stp h.o (by simp) rfl fun H' e' s' => k H' ?_ s'
  exact ⟨h.s.own s' fun y hy => hy ▸ h.ob0, h.fr.keep s' fun y hy e => by rw [fpS_mk] at hy; exact h.of (e ▸ hy), h.la.keep s' fun y hy e => by rw [fpS_mk] at hy; exact h.ol (e ▸ hy),
    s'.keep _ _ h.t fun e => h.ot e.symm, e', h.r.keep s' fun y hy e => (h.new y hy).2.2.2.2 e, h.new, h.ob0, h.tb0, h.of, h.ol, h.ot⟩

theorem Bst.push {H0 H : Hp} {fb lb tb ob ln lc N : Nat} {f g : Nat → Int} {nodes x y : Int} {op : Option Addr} {oc : Nat} {L : List Edg} {K : Hp → Prop} (h : Bst H0 H fb lb tb ob ln lc N f g nodes op oc L) (hL : L.length ≤ 1048576)
    (k : ∀ H' op' oc', Bst H0 H' fb lb tb ob ln lc N f g nodes op' oc' (L ++ [(x, y, 0, 0)]) → (∀ a z, H a = some z → a ≠ ob → ¬ fpS op a → H' a = some z ∧ ¬ fpS op' a) → K H') :
    nw H ⟨[.int .i64 x, .int .i64 y, .int .i64 0, .int .i64 0], 44⟩ fun bb H1 => appM 44 [.i .i64, .i .i64, .i .i64, .i .i64] 32 op L.length oc (some ⟨bb, 0, none⟩) 1 H1 fun p' n' c' H2 => stC H2 ob 1 [.slice p' n' c'] K := by
  refine h.r.app (α := Edg) (x, y, 0, 0) rfl hL (by decide) fun p' c' H2 r2 s2 f2 => ?_
  have oo : ¬ fpS op ob := fun hh => (h.new _ hh).2.2.2.2 rfl
  have o2 := s2.keep _ _ h.o oo
  refine stp o2 (by simp) rfl fun H3 e3 s3 => ?_
  have lv : ∀ z, H z ≠ none → (∀ y, fpS op y → y ≠ z) → ∀ y, fpS p' y → y ≠ z := fun z hz hn y hy e => by
    rcases f2 y hy with h' | h'
    · exact hn y h' e
    · exact hz (e ▸ h')
  have nob := lv ob (by rw [h.o]; exact fun h => by cases h) fun y hy => (h.new y hy).2.2.2.2
  have s02 := h.s.own s2 fun y hy => (h.new y hy).1
  rw [lsE_app] at r2
  refine k H3 p' c' ⟨s02.own s3 fun y hy => hy ▸ h.ob0, (h.fr.keep s2 fun y hy hy' => ?_).keep s3 fun y hy e => ?_, (h.la.keep s2 fun y hy hy' => ?_).keep s3 fun y hy e => ?_, s3.keep _ _ (s2.keep _ _ h.t fun hh => (h.new _ hh).2.2.2.1 rfl) fun e => h.ot e.symm, ?_, ?_, fun y hy => ?_, h.ob0, h.tb0, h.of, h.ol, h.ot⟩ fun a z ha hao haf => ?_
  · rw [fpS_mk] at hy; exact (h.new _ hy').2.1 hy
  · rw [fpS_mk] at hy; exact h.of (e ▸ hy)
  · rw [fpS_mk] at hy; exact (h.new _ hy').2.2.1 hy
  · rw [fpS_mk] at hy; exact h.ol (e ▸ hy)
  · rw [List.length_append]; exact e3
  · rw [List.length_append]; exact r2.keep s3 fun y hy e => nob y hy e
  · refine ⟨?_, lv fb (h.fr.live ⟨_, rfl⟩) (fun y hy => (h.new y hy).2.1) y hy, lv lb (h.la.live ⟨_, rfl⟩) (fun y hy => (h.new y hy).2.2.1) y hy, lv tb (by rw [h.t]; exact fun h => by cases h) (fun y hy => (h.new y hy).2.2.2.1) y hy, nob y hy⟩
    rcases f2 y hy with h' | h'
    · exact (h.new y h').1
    · exact h.s.mono _ h'
  · refine ⟨s3.keep _ _ (s2.keep _ _ ha haf) hao, fun hh => ?_⟩
    rcases f2 a hh with h' | h'
    · exact haf h'
    · rw [ha] at h'; cases h'

theorem Bst.get0 {H0 H : Hp} {fb lb tb ob ln lc N : Nat} {f g : Nat → Int} {nodes : Int} {op : Option Addr} {oc : Nat} {L : List Edg} (h : Bst H0 H fb lb tb ob ln lc N f g nodes op oc L) : H.get ob 0 = some (.int .i64 nodes) := by rw [get_at h.o]; rfl
theorem Bst.get1 {H0 H : Hp} {fb lb tb ob ln lc N : Nat} {f g : Nat → Int} {nodes : Int} {op : Option Addr} {oc : Nat} {L : List Edg} (h : Bst H0 H fb lb tb ob ln lc N f g nodes op oc L) : H.get ob 1 = some (.slice op L.length oc) := by rw [get_at h.o]; rfl

theorem fanI_len {a lo : Int} {k : Nat} : (fanI a lo k).length = k := by simp [fanI]
theorem fanO_len {a lo : Int} {k : Nat} : (fanO a lo k).length = k := by simp [fanO]

/-- the rounds over the edges -/
theorem vbuild2 {N : Int} {ep : Option Addr} {n ec : Nat} {e : Nat → Edg} {cp : Nat → Int} {H0 H : Hp} {fb lb tb ob ln lc : Nat} {g : Nat → Int} {K : Int → Option Addr → Nat → Nat → Int → Hp → Prop}
    (he : Rdr H0 ep n e) (hr : Right N n e) (hc : ∀ v, v < N.toNat → 0 ≤ cp v ∧ cp v ≤ 4096) (hln : N.toNat ≤ ln) (hg : ∀ v, v < N.toNat → g v = psum cp (v + 1))
    (st : Bst H0 H fb lb tb ob ln lc N.toNat (psum cp) g (psum cp N.toNat) none 0 [])
    (kk : ∀ H' op oc, Step (fun _ => False) H0 H' → Gsz e cp N.toNat n → Row H' op (gel e cp N.toNat n).length oc (lsE (gel e cp N.toNat n)) → (∀ y, fpS op y → H0 y = none) → K (gnn e cp N.toNat n) op (gel e cp N.toNat n).length oc (nol e n) H')
    (bad : ∀ H', Step (fun _ => False) H0 H' → ¬ Gsz e cp N.toNat n → E (pv 3) H') : vouch_build.l2 tb (some ⟨fb, 0, none⟩) N.toNat N.toNat ob (some ⟨lb, 0, none⟩) ln lc 0 ep n ec (n : Int) 0 E H K := by
  have hN0 := hr.N0; have hN1 := hr.N1; have hn1 := hr.n1
  have hpb : ∀ v, v ≤ N.toNat → 0 ≤ psum cp v ∧ psum cp v ≤ 4096 * 1024 := fun v hv => by
    have := psum_bound (f := cp) (a := 0) (b := 4096) (i := v) fun u hu => hc u (by omega)
    omega
  have hgb : ∀ i, i ≤ n → 0 ≤ gnn e cp N.toNat i ∧ gnn e cp N.toNat i ≤ 4096 * 1024 + 8192 := fun i hi => by
    have h1 := hpb N.toNat (Nat.le_refl _)
    have h2 := nol_le (e := e) i
    unfold gnn; omega
  refine vouch_build.l2_rule (fun t4 fp fn fc o7 lp' lnn lcc cnt tp tn tc t49 t50 H' => tb = t4 ∧ fp = some ⟨fb, 0, none⟩ ∧ fn = N.toNat ∧ fc = N.toNat ∧ ob = o7 ∧ lp' = some ⟨lb, 0, none⟩ ∧ ln = lnn ∧ lc = lcc ∧ ep = tp ∧ n = tn ∧ ec = tc ∧ t49 = n ∧
      ∃ i : Nat, t50 = i ∧ i ≤ n ∧ cnt = (nol e i : Int) ∧ (gel e cp N.toNat i).length ≤ 4096 ∧ ∃ op oc, Bst H0 H' fb lb tb ob ln lc N.toNat (psum cp) g (gnn e cp N.toNat i) op oc (gel e cp N.toNat i))
    (fun t4 fp fn fc o7 lp' lnn lcc cnt tp tn tc t49 t50 H' => n - t50.toNat) ?_ ⟨rfl, rfl, rfl, rfl, rfl, rfl, rfl, rfl, rfl, rfl, rfl, rfl, 0, rfl, by omega, rfl, Nat.zero_le _, none, 0, by
      have : gnn e cp N.toNat 0 = psum cp N.toNat := by unfold gnn; simp [nol]
      rw [this]; exact st⟩
  clear st
  rintro t4 fp fn fc o7 lp' lnn lcc cnt tp tn tc t49 t50 H1 ⟨rfl, rfl, rfl, rfl, rfl, rfl, rfl, rfl, rfl, rfl, rfl, rfl, i, rfl, hi, rfl, hlen, op, oc, st⟩ X hX
  have hnol := nol_le (e := e) i
  refine vouch_build.b2_eq ?_
  unfold vouch_build.b2_t
  refine bc (fun hlt => ?_) fun hge => ?_
  · have hx := hr.ed i (by omega)
    have hf0 := hx.f0; have hf1 := hx.f1; have ht0 := hx.t0; have ht1 := hx.t1
    obtain ⟨a, ha⟩ : ∃ a : Nat, (e i).fr = a := ⟨(e i).fr.toNat, by omega⟩
    obtain ⟨d, hd⟩ : ∃ d : Nat, (e i).to = d := ⟨(e i).to.toNat, by omega⟩
    refine (he.keep st.s fun _ _ _ h => h).edge (by omega) (by omega) ?_
    simp only [Int.toNat_natCast]
    refine nwst rfl rfl fun eb H2 hb2 e2 s2 => ?_
    rw [ha, hd] at e2
    simp only [get_at e2, List.getElem?_cons_zero, List.getElem?_cons_succ, ldI_mk]
    refine vloop fun H3 s3 => ?_
    have e3 := s3.keep _ _ e2 fun h => h
    have st3 := (st.keep s2).keep s3
    have hstep : ∀ H' op' oc', (gel e cp N.toNat (i + 1)).length ≤ 4096 → Bst H0 H' fb lb tb ob ln lc N.toNat (psum cp) g (gnn e cp N.toNat (i + 1)) op' oc' (gel e cp N.toNat (i + 1)) →
        vouch_build.j4 tb (some ⟨fb, 0, none⟩) N.toNat N.toNat ob (some ⟨lb, 0, none⟩) ln lc (nol e (i + 1) : Int) ep n ec (n : Int) (i : Int) X E H' K := fun H' op' oc' hl st' => by
      refine vouch_build.j4_eq ?_
      unfold vouch_build.j4_t
      rw [i64w (by omega) (by omega)]
      exact hX _ _ _ _ _ _ _ _ _ _ _ _ _ _ _ ⟨rfl, rfl, rfl, rfl, rfl, rfl, rfl, rfl, rfl, rfl, rfl, rfl, i + 1, by omega, by omega, rfl, hl, op', oc', st'⟩ (by omega)
    refine bc (fun hl => ?_) fun hl => ?_
    · have hlp : lp (e i) := by show (e i).fr = (e i).to; rw [ha, hd]; exact hl
      have h1 : nol e (i + 1) = nol e i := by show nol e i + (if lp (e i) then 0 else 1) = _; rw [if_pos hlp]; rfl
      have h2 : gel e cp N.toNat (i + 1) = gel e cp N.toNat i := by rw [gel_succ, if_pos hlp]
      have h3 : gnn e cp N.toNat (i + 1) = gnn e cp N.toNat i := by unfold gnn; rw [h1]
      have := hstep H3 op oc (by rw [h2]; exact hlen) (by rw [h2, h3]; exact st3)
      rwa [h1] at this
    · have hnl : ¬ lp (e i) := fun h => hl (by have h' : (e i).fr = (e i).to := h; rw [ha, hd] at h'; exact h')
      have h1 : nol e (i + 1) = nol e i + 1 := by show nol e i + (if lp (e i) then 0 else 1) = _; rw [if_neg hnl]
      have h3 : gnn e cp N.toNat (i + 1) = gnn e cp N.toNat i + 2 := by unfold gnn; rw [h1]; omega
      have h2 : gel e cp N.toNat (i + 1) = gel e cp N.toNat i ++ [(gnn e cp N.toNat i, gnn e cp N.toNat i + 1, 0, 0)] ++ fanI (gnn e cp N.toNat i) (psum cp a) (cp a).toNat ++ fanO (gnn e cp N.toNat i + 1) (psum cp d) (cp d).toNat := by
        rw [gel_succ, if_neg hnl, ha, hd]; rfl
      have g0 := hgb i hi
      have g1 := hgb (i + 1) (by omega)
      obtain ⟨A, hA⟩ : ∃ A, gnn e cp N.toNat i = A := ⟨_, rfl⟩
      rw [hA] at h2 h3 g0 st3
      have ean : a < N.toNat := by omega
      have edn : d < N.toNat := by omega
      have ca := hc a ean
      have cd := hc d edn
      have pa := hpb a (by omega)
      have pd := hpb d (by omega)
      have pa1 : psum cp (a + 1) = psum cp a + cp a := rfl
      have pd1 : psum cp (d + 1) = psum cp d + cp d := rfl
      simp only [st3.get0, ldI_mk]
      rw [i64w (n := A + 2) (by omega) (by omega)]
      refine st3.setN fun H4 st4 s4 => ?_
      simp only [st4.get1, ldS_mk]
      rw [i64w (n := A + 1) (by omega) (by omega)]
      have ebo : eb ≠ ob := fun h => by rw [h, st.o] at hb2; cases hb2
      have ebp : ¬ fpS op eb := fun h => st.r.live h hb2
      have e4 := s4.keep _ _ e3 ebo
      refine st4.push (by omega) fun H5 op5 oc5 st5 hkp5 => ?_
      obtain ⟨e5, ebp5⟩ := hkp5 eb _ e4 ebo ebp
      simp only [get_at e5, List.getElem?_cons_zero, List.getElem?_cons_succ, ldI_mk]
      refine st5.fr.ixI (by omega) (by omega) ?_
      simp only [Int.toNat_natCast]
      rw [i64w (n := (nol e i : Int) + 1) (by omega) (by omega)]
      obtain ⟨B, hB⟩ : ∃ B, gel e cp N.toNat i ++ [(A, A + 1, 0, 0)] = B := ⟨_, rfl⟩
      rw [hB] at st5 h2
      have hBl : B.length ≤ 4097 := by rw [← hB]; simp; omega
      refine vouch_build.l3_rule (fun t4 fp fn fc o7 lp' lnn lcc cnt e13 a14 c15 tp tn tc t49 t50 H' => tb = t4 ∧ fp = some ⟨fb, 0, none⟩ ∧ fn = N.toNat ∧ fc = N.toNat ∧ ob = o7 ∧ lp' = some ⟨lb, 0, none⟩ ∧ ln = lnn ∧ lc = lcc ∧ cnt = (nol e i : Int) + 1 ∧ eb = e13 ∧ A = a14 ∧ ep = tp ∧ n = tn ∧ ec = tc ∧ t49 = n ∧ t50 = i ∧
          H' eb = some ⟨[.int .i64 a, .int .i64 d, .int .i64 (e i).cp, .int .i64 (e i).co], 44⟩ ∧ ∃ j : Nat, c15 = psum cp a + j ∧ (j : Int) ≤ cp a ∧ ∃ op oc, ¬ fpS op eb ∧ Bst H0 H' fb lb tb ob ln lc N.toNat (psum cp) g (A + 2) op oc (B ++ fanI A (psum cp a) j))
        (fun t4 fp fn fc o7 lp' lnn lcc cnt e13 a14 c15 tp tn tc t49 t50 H' => (psum cp a + cp a - c15).toNat) ?_
        ⟨rfl, rfl, rfl, rfl, rfl, rfl, rfl, rfl, rfl, rfl, rfl, rfl, rfl, rfl, rfl, rfl, e5, 0, by simp, by simp; omega, op5, oc5, ebp5, by simpa [fanI] using st5⟩
      clear st5 e5 ebp5 hkp5 st4 e4 s4 st3 e3 s3 e2 s2 hb2 ebp st
      rintro t4 fp fn fc o7 lp' lnn lcc cnt e13 a14 c15 tp tn tc t49 t50 H6 ⟨rfl, rfl, rfl, rfl, rfl, rfl, rfl, rfl, rfl, rfl, rfl, rfl, rfl, rfl, rfl, rfl, e6, j, rfl, hj, op6, oc6, ebp6, st6⟩ Y hY
      refine vouch_build.b3_eq ?_
      unfold vouch_build.b3_t
      simp only [get_at e6, List.getElem?_cons_zero, List.getElem?_cons_succ, ldI_mk]
      refine st6.la.ixI (by omega) (by omega) ?_
      simp only [Int.toNat_natCast]
      have hga := hg a ean
      rw [pa1] at hga
      refine bc (fun hlt2 => ?_) fun hge2 => ?_
      · simp only [st6.get1, ldS_mk]
        have hl6 : (B ++ fanI A (psum cp a) j).length = B.length + j := by rw [List.length_append, fanI_len]
        refine st6.push (by rw [hl6]; omega) fun H7 op7 oc7 st7 hkp7 => ?_
        obtain ⟨e7, ebp7⟩ := hkp7 eb _ e6 ebo ebp6
        rw [i64w (n := psum cp a + (j : Int) + 1) (by omega) (by omega)]
        refine hY _ _ _ _ _ _ _ _ _ _ _ _ _ _ _ _ _ _ ⟨rfl, rfl, rfl, rfl, rfl, rfl, rfl, rfl, rfl, rfl, rfl, rfl, rfl, rfl, rfl, rfl, e7, j + 1, by omega, by omega, op7, oc7, ebp7, ?_⟩ (by omega)
        rw [fanI_succ, ← List.append_assoc]; exact st7
      · have hjc : j = (cp a).toNat := by omega
        subst hjc
        clear hY
        refine vouch_build.j2_eq ?_
        unfold vouch_build.j2_t
        simp only [get_at e6, List.getElem?_cons_zero, List.getElem?_cons_succ, ldI_mk]
        refine st6.fr.ixI (by omega) (by omega) ?_
        simp only [Int.toNat_natCast]
        obtain ⟨C, hC⟩ : ∃ C, B ++ fanI A (psum cp a) (cp a).toNat = C := ⟨_, rfl⟩
        rw [hC] at st6 h2
        have hCl : C.length ≤ 8193 := by rw [← hC, List.length_append, fanI_len]; omega
        refine vouch_build.l4_rule (fun t4 fp fn fc o7 lp' lnn lcc cnt e13 a14 c16 tp tn tc t49 t50 H' => tb = t4 ∧ fp = some ⟨fb, 0, none⟩ ∧ fn = N.toNat ∧ fc = N.toNat ∧ ob = o7 ∧ lp' = some ⟨lb, 0, none⟩ ∧ ln = lnn ∧ lc = lcc ∧ cnt = (nol e i : Int) + 1 ∧ eb = e13 ∧ A = a14 ∧ ep = tp ∧ n = tn ∧ ec = tc ∧ t49 = n ∧ t50 = i ∧
            H' eb = some ⟨[.int .i64 a, .int .i64 d, .int .i64 (e i).cp, .int .i64 (e i).co], 44⟩ ∧ ∃ j : Nat, c16 = psum cp d + j ∧ (j : Int) ≤ cp d ∧ ∃ op oc, ¬ fpS op eb ∧ Bst H0 H' fb lb tb ob ln lc N.toNat (psum cp) g (A + 2) op oc (C ++ fanO (A + 1) (psum cp d) j))
          (fun t4 fp fn fc o7 lp' lnn lcc cnt e13 a14 c16 tp tn tc t49 t50 H' => (psum cp d + cp d - c16).toNat) ?_
          ⟨rfl, rfl, rfl, rfl, rfl, rfl, rfl, rfl, rfl, rfl, rfl, rfl, rfl, rfl, rfl, rfl, e6, 0, by simp, by simp; omega, op6, oc6, ebp6, by simpa [fanO] using st6⟩
        clear st6 e6 ebp6
        rintro t4 fp fn fc o7 lp' lnn lcc cnt e13 a14 c16 tp tn tc t49 t50 H8 ⟨rfl, rfl, rfl, rfl, rfl, rfl, rfl, rfl, rfl, rfl, rfl, rfl, rfl, rfl, rfl, rfl, e8, j, rfl, hj, op8, oc8, ebp8, st8⟩ Y hY
        refine vouch_build.b4_eq ?_
        unfold vouch_build.b4_t
        simp only [get_at e8, List.getElem?_cons_zero, List.getElem?_cons_succ, ldI_mk]
        refine st8.la.ixI (by omega) (by omega) ?_
        simp only [Int.toNat_natCast]
        have hgd := hg d edn
        rw [pd1] at hgd
        refine bc (fun hlt3 => ?_) fun hge3 => ?_
        · simp only [st8.get1, ldS_mk]
          have hl8 : (C ++ fanO (A + 1) (psum cp d) j).length = C.length + j := by rw [List.length_append, fanO_len]
          rw [i64w (n := A + 1) (by omega) (by omega)]
          refine st8.push (by rw [hl8]; omega) fun H9 op9 oc9 st9 hkp9 => ?_
          obtain ⟨e9, ebp9⟩ := hkp9 eb _ e8 ebo ebp8
          rw [i64w (n := psum cp d + (j : Int) + 1) (by omega) (by omega)]
          refine hY _ _ _ _ _ _ _ _ _ _ _ _ _ _ _ _ _ _ ⟨rfl, rfl, rfl, rfl, rfl, rfl, rfl, rfl, rfl, rfl, rfl, rfl, rfl, rfl, rfl, rfl, e9, j + 1, by omega, by omega, op9, oc9, ebp9, ?_⟩ (by omega)
          rw [fanO_succ, ← List.append_assoc]; exact st9
        · have hjd : j = (cp d).toNat := by omega
          subst hjd
          clear hY
          rw [← h2] at st8
          rw [← h3] at st8
          have bigN : ∀ z, gnn e cp N.toNat (i + 1) = z → ¬ z ≤ 1024 → ¬ Gsz e cp N.toNat n := fun z hz hb hh => hb (by
            have hm := gnn_mono (e := e) (cp := cp) (N := N.toNat) (i := i + 1) (n - (i + 1))
            rw [show i + 1 + (n - (i + 1)) = n by omega] at hm
            have := hh.1; omega)
          refine vouch_build.j3_eq ?_
          unfold vouch_build.j3_t
          simp only [st8.get0, st8.get1, ldI_mk, ldS_mk]
          refine bc (fun hsz => ?_) fun hsz => vneed (fun h => by cases h) fun _ => bad _ st8.s (bigN _ rfl hsz)
          refine vneedD (fun hll => ?_) fun hll => bad _ st8.s fun hh => hll ?_
          · have := hstep H8 op8 oc8 (by omega) st8
            rw [h1] at this
            exact this
          · have hm := gel_mono (e := e) (cp := cp) (N := N.toNat) (i := i + 1) (n - (i + 1))
            rw [show i + 1 + (n - (i + 1)) = n by omega] at hm
            have := hh.2; omega
  · have : i = n := by omega
    subst this
    refine vouch_build.j5_eq ?_
    unfold vouch_build.j5_t
    simp only [st.get0, st.get1, ldI_mk, ldS_mk]
    refine vneedD (fun hsz => ?_) fun hsz => bad _ st.s fun hh => hsz hh.1
    try simp only [st.get0, st.get1, ldI_mk, ldS_mk]
    refine stk st.t rfl rfl fun H2 e2 s2 => ?_
    simp only [get_at e2, List.getElem?_cons_zero, List.getElem?_cons_succ, ldI_mk, ldS_mk]
    exact kk _ op oc (st.s.own s2 fun y hy => hy ▸ st.tb0) ⟨hsz, hlen⟩ (st.r.keep s2 fun y hy e => (st.new y hy).2.2.2.1 e) fun y hy => (st.new y hy).1
end
end Go.Mz

/-
  Walks of layer 12, more: build whole, Gadget, Many.
-/
namespace Go.Mz
section
variable {E : Value → Hp → Prop}

theorem vbuild {N : Int} {ep : Option Addr} {n ec : Nat} {e : Nat → Edg} {bp : Option Addr} {bn bk : Nat} {b : Nat → Int} {H : Hp} {K : Int → Option Addr → Nat → Nat → Int → Hp → Prop}
    (he : Rdr H ep n e) (hr : Right N n e) (hb : Rdr H bp bn b) (hbn : bn < 2 ^ 63)
    (kk : ∀ H' op oc, Step (fun _ => False) H H' → Bnd N b bn → Gsz e (cps e n b) N.toNat n → Row H' op (gel e (cps e n b) N.toNat n).length oc (lsE (gel e (cps e n b) N.toNat n)) → (∀ y, fpS op y → H y = none) →
      K (gnn e (cps e n b) N.toNat n) op (gel e (cps e n b) N.toNat n).length oc (nol e n) H')
    (bad1 : ∀ H', Step (fun _ => False) H H' → ¬ Bnd N b bn → E (pv 130) H')
    (bad2 : ∀ H', Step (fun _ => False) H H' → Bnd N b bn → ¬ Gsz e (cps e n b) N.toNat n → E (pv 3) H') : vouch_build.call N ep n ec bp bn bk E H K := by
  have hN0 := hr.N0; have hN1 := hr.N1; have hn1 := hr.n1
  refine vouch_build.of (vouch_build.run_eq ?_)
  unfold vouch_build.run_t
  refine nwk fun b1 H1 hb1 e1 s1 => ?_
  refine nwk fun tb H2 hb2 e2 s2 => ?_
  have e12 := s2.keep _ _ e1 fun h => h
  have s02 := s1.and s2
  simp only [get_at e12, List.getElem?_cons_zero, List.getElem?_cons_succ, ldI_mk, ldS_mk]
  refine vcopies (he.keep s02 fun _ _ _ h => h) hr (hb.keep s02 fun _ _ _ h => h) hbn (fun fb H3 s3 hbd hfb rf => ?_) fun H3 s3 h => bad1 _ (s02.and s3) h
  refine nwk fun ob H4 hb4 e4 s4 => ?_
  have s04 := (s02.and s3).and s4
  have e14 := (s3.and s4).keep _ _ e12 fun h => h
  have e24 := (s3.and s4).keep _ _ e2 fun h => h
  have rf4 := rf.keep s4 fun _ _ h => h
  have ob0 : H ob = none := (s02.and s3).mono _ hb4
  have tb0 : H tb = none := s1.mono _ hb2
  have fb0 : H fb = none := s02.mono _ hfb
  have off : ob ≠ fb := fun h => rf.live (b := fb) ⟨_, rfl⟩ (h ▸ hb4)
  have obt : ob ≠ tb := fun h => by rw [h] at hb4; have := s3.keep _ _ e2 fun h => h; rw [this] at hb4; cases hb4
  have obg : ob ≠ b1 := fun h => by rw [h] at hb4; have := s3.keep _ _ e12 fun h => h; rw [this] at hb4; cases hb4
  have fbt : fb ≠ tb := fun h => by rw [h, e2] at hfb; cases hfb
  have fbg : fb ≠ b1 := fun h => by rw [h, e12] at hfb; cases hfb
  generalize hcp : cps e n b = cp at *
  have hc : ∀ v, v < N.toNat → 0 ≤ cp v ∧ cp v ≤ 4096 := fun v hv => by
    have h1 := hbd.len
    have := cps_bound (e := e) (n := n) hbd (v := v) (by omega)
    rw [hcp] at this
    exact ⟨this.1, this.2.1⟩
  have hpb : ∀ v, v ≤ N.toNat → 0 ≤ psum cp v ∧ psum cp v ≤ 4096 * 1024 := fun v hv => by
    have := psum_bound (f := cp) (a := 0) (b := 4096) (i := v) fun u hu => hc u (by omega)
    omega
  refine vouch_build.l1_rule (fun g2 t4 fp fn fc o7 tp tn tc t21 t22 H' => b1 = g2 ∧ tb = t4 ∧ fp = some ⟨fb, 0, none⟩ ∧ fn = N.toNat ∧ fc = N.toNat ∧ ob = o7 ∧ tp = some ⟨fb, 0, none⟩ ∧ tn = N.toNat ∧ t21 = (N.toNat : Int) ∧
      ∃ i : Nat, t22 = i ∧ i ≤ N.toNat ∧ Step (fun _ => False) H H' ∧ H' b1 = some ⟨[.int .i64 N, .slice ep n ec], 24⟩ ∧ H' tb = some ⟨[.int .i64 0, .slice none 0 0], 24⟩ ∧ H' ob = some ⟨[.int .i64 (psum cp i), .slice none 0 0], 24⟩ ∧
        Row H' (some ⟨fb, 0, none⟩) N.toNat N.toNat (fun v => if v < i then psum cp v else cp v))
    (fun g2 t4 fp fn fc o7 tp tn tc t21 t22 H' => N.toNat - t22.toNat) ?_ ⟨rfl, rfl, rfl, rfl, rfl, rfl, rfl, rfl, rfl, 0, rfl, by omega, s04, e14, e24, e4, rf4.congr fun v _ => by simp⟩
  clear rf4 e24 e14 s04 e4 s4 hb4 rf s3 e12 e2 s2 e1 hfb s02 hb2
  rintro g2 t4 fp fn fc o7 tp tn tc t21 t22 H5 ⟨rfl, rfl, rfl, rfl, rfl, rfl, rfl, rfl, rfl, i, rfl, hi, s5, e15, e25, e45, rf5⟩ X hX
  refine vouch_build.b1_eq ?_
  unfold vouch_build.b1_t
  refine bc (fun hlt => ?_) fun hge => ?_
  · have hci := hc i (by omega)
    have hpi := hpb i (by omega)
    refine rf5.ixI (by omega) (by omega) ?_
    simp only [Int.toNat_natCast, Nat.lt_irrefl, if_false, get_at e45, List.getElem?_cons_zero, List.getElem?_cons_succ, ldI_mk, ldS_mk]
    refine rf5.stI (by omega) (by omega) _ fun H6 rf6 s6 => ?_
    simp only [Int.toNat_natCast] at rf6
    have kf : ∀ {y : Nat}, fb ≠ y → ¬ fpS (some ⟨fb, 0, none⟩) y := fun h h' => by rw [fpS_mk] at h'; exact h h'.symm
    have e46 := s6.keep _ _ e45 (kf off.symm)
    simp only [get_at e46, List.getElem?_cons_zero, List.getElem?_cons_succ, ldI_mk, ldS_mk]
    rw [i64w (n := psum cp i + cp i) (by omega) (by omega)]
    refine stp e46 (by simp) rfl fun H7 e7 s7 => ?_
    rw [i64w (by omega) (by omega)]
    refine hX _ _ _ _ _ _ _ _ _ _ _ _ ⟨rfl, rfl, rfl, rfl, rfl, rfl, rfl, rfl, rfl, i + 1, by omega, by omega, (s5.own s6 fun y hy => by rw [fpS_mk] at hy; exact hy ▸ fb0).own s7 fun y hy => hy ▸ ob0,
      s7.keep _ _ (s6.keep _ _ e15 (kf fbg)) (fun h => obg h.symm), s7.keep _ _ (s6.keep _ _ e25 (kf fbt)) (fun h => obt h.symm), e7, (rf6.congr fun v hv => ?_).keep s7 fun y hy h => by rw [fpS_mk] at hy; exact off (h ▸ hy)⟩ (by omega)
    by_cases ev : v = i
    · subst ev; rw [upf_same, if_pos (by omega)]
    · rw [upf_ne ev]
      by_cases h : v < i
      · rw [if_pos h, if_pos (by omega)]
      · rw [if_neg h, if_neg (by omega)]
  · have : i = N.toNat := by omega
    subst this
    clear hX
    have hpN := hpb N.toNat (Nat.le_refl _)
    refine vouch_build.j1_eq ?_
    unfold vouch_build.j1_t
    obtain ⟨l, hl, hl'⟩ : ∃ l : Nat, (if (N.toNat : Int) < 1 then (N.toNat : Int) else 1) = l ∧ l = min 1 N.toNat := ⟨min 1 N.toNat, by split <;> omega, rfl⟩
    rw [hl]
    simp only [Int.toNat_natCast]
    refine ⟨⟨by omega, by omega⟩, ?_⟩
    simp only [get_at e45, List.getElem?_cons_zero, List.getElem?_cons_succ, ldI_mk, ldS_mk]
    have rfp : Row H5 (some ⟨fb, 0, none⟩) N.toNat N.toNat (psum cp) := rf5.congr fun v hv => by rw [if_pos hv]
    have rd := rfp.drop (l := l) (by omega)
    refine rd.appFull (α := Int) (psum cp N.toNat) rfl (by omega) (by decide) (by omega) fun lb lc H6 hlb rl s6 => ?_
    have e16 := s6.keep _ _ e15 fun h => h
    simp only [get_at e16, List.getElem?_cons_zero, List.getElem?_cons_succ, ldI_mk, ldS_mk]
    have st : Bst H H6 fb lb tb ob (N.toNat - l + 1) lc N.toNat (psum cp) (upf (fun i => psum cp (i + l)) (N.toNat - l) (psum cp N.toNat)) (psum cp N.toNat) none 0 [] :=
      ⟨s5.and s6, rfp.keep s6 fun _ _ h => h, rl, s6.keep _ _ e25 fun h => h, s6.keep _ _ e45 fun h => h, .nil, fun y hy => by rw [fpS_none] at hy; exact hy.elim, ob0, tb0, off, fun h => (by rw [← h, e45] at hlb; cases hlb), obt⟩
    refine vbuild2 he hr hc (by omega) (fun v hv => ?_) st (fun H' op oc s' hz ro hn => kk H' op oc s' hbd hz ro hn) fun H' s' h => bad2 H' s' hbd h
    have hl1 : l = 1 := by omega
    subst hl1
    by_cases ev : v = N.toNat - 1
    · subst ev; rw [upf_same, show N.toNat - 1 + 1 = N.toNat by omega]
    · rw [upf_ne ev]

/-- what is wrong with a graph and bounds: no gadget is built -/
def GadB (N : Int) (n : Nat) (e : Nat → Edg) (b : Nat → Int) (bn : Nat) (c : Int) : Prop :=
  (c = chk N n e ∧ c ≠ 0) ∨ (c = 130 ∧ Right N n e ∧ ¬ Bnd N b bn) ∨ (c = 3 ∧ Right N n e ∧ Bnd N b bn ∧ ¬ Gsz e (cps e n b) N.toNat n)

theorem GadB.ne {N : Int} {n : Nat} {e : Nat → Edg} {b : Nat → Int} {bn : Nat} {c : Int} (h : GadB N n e b bn c) : c ≠ 0 := by
  rcases h with ⟨_, h⟩ | ⟨rfl, _⟩ | ⟨rfl, _⟩
  · exact h
  · decide
  · decide

theorem vgadget1 {N : Int} {ep : Option Addr} {n ec : Nat} {e : Nat → Edg} {bp : Option Addr} {bn bk : Nat} {b : Nat → Int} {c0 c1 c2 : Nat} {H : Hp} {K : Hp → Prop}
    (h0 : H c0 = some ⟨[.int .i64 N, .slice ep n ec], 24⟩) (h1 : H c1 = some ⟨[.slice bp bn bk], 25⟩) (h2 : H c2 = some ⟨[.int .i64 0, .slice none 0 0], 24⟩)
    (he : Rdr H ep n e) (hn : n < 2 ^ 63) (hb : Rdr H bp bn b) (hbn : bn < 2 ^ 63)
    (kk : ∀ H' op oc, Step (· = c2) H H' → Right N n e → Bnd N b bn → Gsz e (cps e n b) N.toNat n → Row H' op (gel e (cps e n b) N.toNat n).length oc (lsE (gel e (cps e n b) N.toNat n)) → (∀ y, fpS op y → H y = none) →
      H' c2 = some ⟨[.int .i64 (gnn e (cps e n b) N.toNat n), .slice op (gel e (cps e n b) N.toNat n).length oc], 24⟩ → K H')
    (bad : ∀ H' c, Step (fun _ => False) H H' → GadB N n e b bn c → E (pv c) H') : vouch_Gadget_1.call c0 0 c1 0 c2 0 E H K := by
  refine vouch_Gadget_1.of (vouch_Gadget_1.run_eq ?_)
  unfold vouch_Gadget_1.run_t
  simp only [get_at h0, List.getElem?_cons_zero, List.getElem?_cons_succ, ldI_mk, ldS_mk, Nat.zero_add]
  refine vright he hn (fun H1 s1 hr => ?_) fun H1 s1 hc => bad _ _ s1 (.inl ⟨rfl, hc⟩)
  have h01 := s1.keep _ _ h0 fun h => h
  have h11 := s1.keep _ _ h1 fun h => h
  simp only [get_at h01, get_at h11, List.getElem?_cons_zero, List.getElem?_cons_succ, ldI_mk, ldS_mk]
  refine vbuild (he.keep s1 fun _ _ _ h => h) hr (hb.keep s1 fun _ _ _ h => h) hbn (fun H2 op oc s2 hbd hsz ro hno => ?_) (fun H2 s2 h => bad _ _ (s1.and s2) (.inr (.inl ⟨rfl, hr, h⟩))) fun H2 s2 hbd h => bad _ _ (s1.and s2) (.inr (.inr ⟨rfl, hr, hbd, h⟩))
  have s02 := s1.and s2
  have h22 := s02.keep _ _ h2 fun h => h
  refine stk h22 rfl rfl fun H3 e3 s3 => ?_
  have hne : ∀ y, fpS op y → y ≠ c2 := fun y hy e => by
    have := hno y hy
    rw [e, s1.keep _ _ h2 fun h => h] at this; cases this
  exact kk _ op oc ((s02.weak fun _ h => h.elim).trans s3 fun _ h => .inl h) hr hbd hsz (ro.keep s3 fun y hy e => hne y hy e) (fun y hy => s1.mono _ (hno y hy)) e3

theorem vGadget {N : Int} {ep : Option Addr} {n ec : Nat} {e : Nat → Edg} {bp : Option Addr} {bn bk : Nat} {b : Nat → Int} {H : Hp} {K : Int → Option Addr → Nat → Nat → Int → Hp → Prop}
    (he : Rdr H ep n e) (hn : n < 2 ^ 63) (hb : Rdr H bp bn b) (hbn : bn < 2 ^ 63)
    (kk : ∀ H' op oc, Step (fun _ => False) H H' → Right N n e → Bnd N b bn → Gsz e (cps e n b) N.toNat n → Row H' op (gel e (cps e n b) N.toNat n).length oc (lsE (gel e (cps e n b) N.toNat n)) → (∀ y, fpS op y → H y = none) →
      K (gnn e (cps e n b) N.toNat n) op (gel e (cps e n b) N.toNat n).length oc 0 H')
    (bad : ∀ H' c, Step (fun _ => False) H H' → GadB N n e b bn c → K 0 none 0 0 c H') : vouch_Gadget.call N ep n ec bp bn bk E H K := by
  refine vouch_Gadget.of (vouch_Gadget.run_eq ?_)
  unfold vouch_Gadget.run_t
  refine nwk fun b1 H1 hb1 e1 s1 => ?_
  refine nwk fun b2 H2 hb2 e2 s2 => ?_
  refine nwk fun b3 H3 hb3 e3 s3 => ?_
  refine nwk fun b4 H4 hb4 e4 s4 => ?_
  have s04 := ((s1.and s2).and s3).and s4
  refine vlook rfl fun x H5 hx e5 s5 => ?_
  have s05 := s04.and s5
  have e1 := (((s2.and s3).and s4).and s5).keep _ _ e1 fun h => h
  have e2 := ((s3.and s4).and s5).keep _ _ e2 fun h => h
  have e34 := s4.keep _ _ e3 fun h => h
  have e35 := s5.keep _ _ e34 fun h => h
  have e45 := s5.keep _ _ e4 fun h => h
  have fx : H x = none := s04.mono _ hx
  have f4 : H b4 = none := ((s1.and s2).and s3).mono _ hb4
  have f3 : H b3 = none := (s1.and s2).mono _ hb3
  have ne4 : b4 ≠ x := ne_of_live hx (by rw [e4]; exact fun h => by cases h)
  have ne3 : b3 ≠ x := ne_of_live hx (by rw [e34]; exact fun h => by cases h)
  have ne34 : b3 ≠ b4 := ne_of_live hb4 (by rw [e3]; exact fun h => by cases h)
  refine callW_mono (fun v H' h => ldR_spec h) (fun _ _ h => h) (vgadget1 (K := fun H2 => H2 x = some ⟨[.int .i64 0], 27⟩ ∧ ∀ H3, Step (· = x) H2 H3 → ldI .i64 (H3.get b4 0) fun x_1 => ldS (H3.get b4 1) fun x_2p x_2n x_2c => stC H3 b3 0 [.int .i64 x_1, .slice x_2p x_2n x_2c] fun H_6 => ldI .i64 (H_6.get b3 0) fun x_3 => ldS (H_6.get b3 1) fun x_4p x_4n x_4c => K x_3 x_4p x_4n x_4c 0 H_6)
    e1 e2 e45 (he.keep s05 fun _ _ _ h => h) hn (hb.keep s05 fun _ _ _ h => h) hbn (fun H6 op oc s6 hr hbd hsz ro hno e6 => ?_) fun H6 cd s6 hg => ?_)
  · refine ⟨s6.keep _ _ e5 fun h => ne4 h.symm, fun H7 s7 => ?_⟩
    have e7 := s7.keep _ _ e6 ne4
    have e37 := s7.keep _ _ (s6.keep _ _ e35 fun h => ne34 h) ne3
    simp only [get_at e7, List.getElem?_cons_zero, List.getElem?_cons_succ, ldI_mk, ldS_mk]
    refine stk e37 rfl rfl fun H8 e8 s8 => ?_
    simp only [get_at e8, List.getElem?_cons_zero, List.getElem?_cons_succ, ldI_mk, ldS_mk]
    have h5 : ∀ y, fpS op y → y ≠ x ∧ y ≠ b3 := fun y hy => ⟨fun ey => (by have := hno y hy; rw [ey, e5] at this; cases this), fun ey => (by have := hno y hy; rw [ey, e35] at this; cases this)⟩
    exact kk _ op oc (((s05.own s6 fun y hy => hy ▸ f4).own s7 fun y hy => hy ▸ fx).own s8 fun y hy => hy ▸ f3) hr hbd hsz ((ro.keep s7 fun y hy => (h5 y hy).1).keep s8 fun y hy => (h5 y hy).2) fun y hy => s05.mono _ (hno y hy)
  · refine ⟨cd, rfl, s6.keep _ _ e5 fun h => h, fun H7 s7 => ?_⟩
    have e7 := s7.keep _ _ (s6.keep _ _ e45 fun h => h) ne4
    have e37 := s7.keep _ _ (s6.keep _ _ e35 fun h => h) ne3
    simp only [get_at e7, List.getElem?_cons_zero, List.getElem?_cons_succ, ldI_mk, ldS_mk]
    refine stk e37 rfl rfl fun H8 e8 s8 => ?_
    simp only [get_at e8, List.getElem?_cons_zero, List.getElem?_cons_succ, ldI_mk, ldS_mk]
    exact bad _ cd (((s05.and s6).own s7 fun y hy => hy ▸ fx).own s8 fun y hy => hy ▸ f3) hg

/-- a list that is read, at a node -/
theorem fun1_at {H : Hp} {cb : Nat} {N : Int} {bp : Option Addr} {bn bk : Nat} {b : Nat → Int} (h : H cb = some ⟨[.slice bp bn bk], 25⟩) (hb : Rdr H bp bn b) (hN : N ≤ bn) : Fun1 E H 33 [.pointer (some ⟨cb, 0, none⟩)] N (fun v => b v.toNat) := by
  refine ⟨rfl, fun v H1 K v0 v1 s k => ?_⟩
  have hc : vouch_Many_1_1.call v cb 0 E H1 (fun x H' => x = b v.toNat ∧ K (.int .i64 (b v.toNat)) H') := by
    refine vouch_Many_1_1.of (vouch_Many_1_1.run_eq ?_)
    unfold vouch_Many_1_1.run_t
    simp only [get_at (s.keep _ _ h fun h => h), List.getElem?_cons_zero, ldS_mk]
    exact (hb.keep s fun _ _ _ h => h).ixI v0 (by omega) ⟨rfl, k _ .refl⟩
  refine callW_mono (fun r H' hr => ?_) (fun _ _ h => h) hc
  obtain ⟨x, rfl, hx, hk⟩ := asR_int (K := fun x => x = b v.toNat ∧ K (.int .i64 (b v.toNat)) H') hr
  rw [hx]; exact hk

structure MnyP (N : Int) (n : Nat) (e : Nat → Edg) (b : Nat → Int) (m : Nat → Int) (k : Nat) (set : Nat → Int) (q : Nat) : Prop where
  tk : Tkn N n e m k fun v => b v.toNat
  ris : Ris set q (gnn e (cps e n b) N.toNat n)
  eq : 2 * ((nol e n : Int) + k) = gnn e (cps e n b) N.toNat n + q - oddS (gnn e (cps e n b) N.toNat n) (gel e (cps e n b) N.toNat n).length (lsE (gel e (cps e n b) N.toNat n)) set q

/-- what Many answers -/
def MnyO (N : Int) (n : Nat) (e : Nat → Edg) (b : Nat → Int) (bn : Nat) (m : Nat → Int) (k : Nat) (set : Nat → Int) (q : Nat) (c : Int) : Prop :=
  (c = 0 ∧ Right N n e ∧ Bnd N b bn ∧ Gsz e (cps e n b) N.toNat n ∧ MnyP N n e b m k set q) ∨ GadB N n e b bn c ∨ (c = 221 ∧ Right N n e ∧ Bnd N b bn ∧ Gsz e (cps e n b) N.toNat n ∧ ¬ MnyP N n e b m k set q)

theorem vmany1 {N : Int} {ep : Option Addr} {n ec : Nat} {e : Nat → Edg} {bp : Option Addr} {bn bk : Nat} {b : Nat → Int} {p : Option Addr} {k c : Nat} {m : Nat → Int} {vp : Option Addr} {q vc : Nat} {set : Nat → Int} {c0 c1 c2 c3 c4 : Nat} {H : Hp} {K : Hp → Prop}
    (h0 : H c0 = some ⟨[.int .i64 N, .slice ep n ec], 24⟩) (h1 : H c1 = some ⟨[.slice bp bn bk], 25⟩) (h2 : H c2 = some ⟨[.slice p k c], 25⟩) (h3 : H c3 = some ⟨[.slice vp q vc], 25⟩) (h4 : H c4 = some ⟨[.int .i64 0], 3⟩)
    (he : Rdr H ep n e) (hn : n < 2 ^ 63) (hb : Rdr H bp bn b) (hbn : bn < 2 ^ 63) (hm : Rdr H p k m) (hk : k < 2 ^ 63) (hv : Rdr H vp q set) (hq : q < 2 ^ 63)
    (kk : ∀ H', Step (· = c4) H H' → H' c4 = some ⟨[.int .i64 k], 3⟩ → MnyO N n e b bn m k set q 0 → K H')
    (bad : ∀ H' c, Step (fun _ => False) H H' → c ≠ 0 → MnyO N n e b bn m k set q c → E (pv c) H') : vouch_Many_1.call c0 0 c1 0 c2 0 c3 0 c4 0 E H K := by
  refine vouch_Many_1.of (vouch_Many_1.run_eq ?_)
  unfold vouch_Many_1.run_t
  simp only [get_at h0, List.getElem?_cons_zero, List.getElem?_cons_succ, ldI_mk, ldS_mk, Nat.zero_add]
  have hgb : ∀ H' c, Step (fun _ => False) H H' → GadB N n e b bn c → E (pv c) H' := fun H' c s h => bad _ _ s h.ne (.inr (.inl h))
  refine vright he hn (fun H1 s1 hr => ?_) fun H1 s1 hc => hgb _ _ s1 (.inl ⟨rfl, hc⟩)
  have hN0 := hr.N0; have hN1 := hr.N1; have hn1 := hr.n1
  have h01 := s1.keep _ _ h0 fun h => h
  have h11 := s1.keep _ _ h1 fun h => h
  simp only [get_at h01, get_at h11, List.getElem?_cons_zero, List.getElem?_cons_succ, ldI_mk, ldS_mk]
  refine vbuild (he.keep s1 fun _ _ _ h => h) hr (hb.keep s1 fun _ _ _ h => h) hbn (fun H2 op oc s2 hbd hsz ro hnew => ?_) (fun H2 s2 h => hgb _ _ (s1.and s2) (.inr (.inl ⟨rfl, hr, h⟩))) fun H2 s2 hbd h => hgb _ _ (s1.and s2) (.inr (.inr ⟨rfl, hr, hbd, h⟩))
  refine nwst rfl rfl fun hb3 H3 hbn3 e3 s3 => ?_
  have s03 := (s1.and s2).and s3
  have h03 := s03.keep _ _ h0 fun h => h
  have h13 := s03.keep _ _ h1 fun h => h
  have h23 := s03.keep _ _ h2 fun h => h
  simp only [get_at h03, get_at h23, List.getElem?_cons_zero, List.getElem?_cons_succ, ldI_mk, ldS_mk]
  have hno : ∀ H', Step (fun _ => False) H H' → ¬ MnyP N n e b m k set q → E (pv 221) H' := fun H' s h => bad _ _ s (by decide) (.inr (.inr ⟨rfl, hr, hbd, hsz, h⟩))
  have hcb : ∀ v, v < N.toNat → 0 ≤ cps e n b v := fun v hv => (cps_bound (e := e) (n := n) hbd (v := v) (by have := hbd.len; omega)).1
  have hgr := gad_right hr hcb hsz
  refine vmatched (he.keep s03 fun _ _ _ h => h) hr (hm.keep s03 fun _ _ _ h => h) hk (fun1_at h13 (hb.keep s03 fun _ _ _ h => h) (by have := hbd.len; omega)) (fun H4 s4 ht => ?_) fun H4 s4 ht => hno _ (s03.and s4) fun h => ht h.tk
  have s04 := s03.and s4
  have h24 := s04.keep _ _ h2 fun h => h
  have h34 := s04.keep _ _ h3 fun h => h
  have e4 := s4.keep _ _ e3 fun h => h
  simp only [get_at h24, get_at h34, get_at e4, List.getElem?_cons_zero, List.getElem?_cons_succ, ldI_mk, ldS_mk]
  have hG0 := hgr.N0; have hG1 := hgr.N1; have hG2 := hgr.n1
  refine vmarked (hv.keep s04 fun _ _ _ h => h) hq hG0 (by omega) (fun x H5 hs s5 hx r5 => ?_) fun h => hno _ s04 fun hh => h hh.ris
  have s05 := s04.and s5
  have h25 := s05.keep _ _ h2 fun h => h
  have h35 := s05.keep _ _ h3 fun h => h
  have e5 := s5.keep _ _ e4 fun h => h
  simp only [get_at h25, get_at h35, get_at e5, List.getElem?_cons_zero, List.getElem?_cons_succ, ldI_mk, ldS_mk, true_and]
  have ro5 := ro.keep ((s3.and s4).and s5) fun _ _ h => h
  refine vodd ro5.rdr hgr r5 fun H6 s6 => ?_
  have s06 := s05.and s6
  have h26 := s06.keep _ _ h2 fun h => h
  have h36 := s06.keep _ _ h3 fun h => h
  have h46 := s06.keep _ _ h4 fun h => h
  have e6 := s6.keep _ _ e5 fun h => h
  simp only [get_at h26, get_at h36, get_at e6, List.getElem?_cons_zero, List.getElem?_cons_succ, ldI_mk, ldS_mk, true_and]
  have hod : oddN (gnn e (cps e n b) N.toNat n) (gel e (cps e n b) N.toNat n).length (lsE (gel e (cps e n b) N.toNat n)) _ = oddS (gnn e (cps e n b) N.toNat n) (gel e (cps e n b) N.toNat n).length (lsE (gel e (cps e n b) N.toNat n)) set q := rfl
  rw [hod]
  have ho := oddS_le (N := gnn e (cps e n b) N.toNat n) (n := (gel e (cps e n b) N.toNat n).length) (e := lsE (gel e (cps e n b) N.toNat n)) (set := set) (q := q)
  have hkn := ht.ris.len
  have hqn := hs.len
  have hnl := nol_le (e := e) n
  rw [i64w (n := (nol e n : Int) + (k : Int)) (by omega) (by omega), i64w (n := 2 * ((nol e n : Int) + (k : Int))) (by omega) (by omega), i64w (n := gnn e (cps e n b) N.toNat n + (q : Int)) (by omega) (by omega), i64w (by omega) (by omega)]
  refine vneedD (fun hh => ?_) fun hh => hno _ s06 fun h => hh h.eq
  simp only [get_at h26, List.getElem?_cons_zero, List.getElem?_cons_succ, ldI_mk, ldS_mk]
  refine stk h46 rfl rfl fun H7 e7 s7 => ?_
  exact kk _ ((s06.weak fun _ h => h.elim).trans s7 fun _ h => .inl h) e7 (.inl ⟨rfl, hr, hbd, hsz, ht, hs, hh⟩)

theorem vMany {N : Int} {ep : Option Addr} {n ec : Nat} {e : Nat → Edg} {bp : Option Addr} {bn bk : Nat} {b : Nat → Int} {p : Option Addr} {k c : Nat} {m : Nat → Int} {vp : Option Addr} {q vc : Nat} {set : Nat → Int} {H : Hp} {K : Int → Int → Hp → Prop}
    (he : Rdr H ep n e) (hn : n < 2 ^ 63) (hb : Rdr H bp bn b) (hbn : bn < 2 ^ 63) (hm : Rdr H p k m) (hk : k < 2 ^ 63) (hv : Rdr H vp q set) (hq : q < 2 ^ 63)
    (kk : ∀ H' c, Step (fun _ => False) H H' → MnyO N n e b bn m k set q c → K (if c = 0 then (k : Int) else 0) c H') : vouch_Many.call N ep n ec bp bn bk p k c vp q vc E H K := by
  refine vouch_Many.of (vouch_Many.run_eq ?_)
  unfold vouch_Many.run_t
  refine nwk fun b1 H1 hb1 e1 s1 => ?_
  refine nwk fun b2 H2 hb2 e2 s2 => ?_
  refine nwk fun b3 H3 hb3 e3 s3 => ?_
  refine nwk fun b4 H4 hb4 e4 s4 => ?_
  refine nwst rfl rfl fun b5 H5 hb5 e5 s5 => ?_
  have s05 := (((s1.and s2).and s3).and s4).and s5
  refine vlook rfl fun x H6 hx e6 s6 => ?_
  have s06 := s05.and s6
  have e1 := ((((s2.and s3).and s4).and s5).and s6).keep _ _ e1 fun h => h
  have e2 := (((s3.and s4).and s5).and s6).keep _ _ e2 fun h => h
  have e3 := ((s4.and s5).and s6).keep _ _ e3 fun h => h
  have e4 := (s5.and s6).keep _ _ e4 fun h => h
  have e56 := s6.keep _ _ e5 fun h => h
  have fx : H x = none := s05.mono _ hx
  have f5 : H b5 = none := (((s1.and s2).and s3).and s4).mono _ hb5
  have ne : b5 ≠ x := ne_of_live hx (by rw [e5]; exact fun h => by cases h)
  refine callW_mono (fun v H' h => ldR_spec h) (fun _ _ h => h) (vmany1 (K := fun H2 => H2 x = some ⟨[.int .i64 0], 27⟩ ∧ ∀ H3, Step (· = x) H2 H3 → ldI .i64 (H3.get b5 0) fun y => K y 0 H3) e1 e2 e3 e4 e56 (he.keep s06 fun _ _ _ h => h) hn (hb.keep s06 fun _ _ _ h => h) hbn (hm.keep s06 fun _ _ _ h => h) hk (hv.keep s06 fun _ _ _ h => h) hq (fun H7 s7 e7 hP => ?_) fun H7 cd s7 hc ho => ?_)
  · refine ⟨s7.keep _ _ e6 fun h => ne h.symm, fun H8 s8 => ?_⟩
    have e8 := s8.keep _ _ e7 ne
    simp only [get_at e8, List.getElem?_cons_zero, ldI_mk]
    have := kk H8 0 ((s06.own s7 fun b' hb' => hb' ▸ f5).own s8 fun b' hb' => hb' ▸ fx) hP
    rwa [if_pos rfl] at this
  · refine ⟨cd, rfl, s7.keep _ _ e6 fun h => h, fun H8 s8 => ?_⟩
    have e8 := s8.keep _ _ (s7.keep _ _ e56 fun h => h) ne
    simp only [get_at e8, List.getElem?_cons_zero, ldI_mk]
    have := kk H8 cd ((s06.and s7).own s8 fun b' hb' => hb' ▸ fx) ho
    rwa [if_neg hc] at this
end
end Go.Mz

/-
  Walks of layer 12, more: Doubled.
-/
namespace Go.Mz
section
variable {E : Value → Hp → Prop}

/-- the edges that are walked twice, one after the other -/
def sub (e : Nat → Edg) (tw : Nat → Int) : Nat → Edg := fun i => e (tw i).toNat

/-- a metric as it lies in memory, read only -/
structure DistR (H : Hp) (dp : Option Addr) (dn : Nat) (dl : Nat → Sl) (row : Nat → Nat → Int) : Prop where
  d : Rdr H dp dn dl
  r : ∀ i, i < dn → Rdr H (dl i).p (dl i).n (row i) ∧ (dl i).n < 2 ^ 63

theorem DistR.keep {H H' : Hp} {dp : Option Addr} {dn : Nat} {dl : Nat → Sl} {row : Nat → Nat → Int} (h : DistR H dp dn dl row) (s : Step (fun _ => False) H H') : DistR H' dp dn dl row :=
  ⟨h.d.keep s fun _ _ _ h => h, fun i hi => ⟨(h.r i hi).1.keep s fun _ _ _ h => h, (h.r i hi).2⟩⟩

end
end Go.Mz

/-
  Plain law: no raw edges, with so many at each node at most, are more than a set of the gadget's nodes allows: they make a matching of the gadget, edge by edge. No program in sight.
-/
import Derived.Test.YtbocpfdlfnodfaaPkT
import Derived.Test.YtbocpfdlfnodfaaPkM
import Derived.Test.YtbocpfdlfnodfaaPkX
set_option linter.unusedSimpArgs false
set_option linter.unusedVariables false
namespace Go.Mz

/-- how many of the edges that are told by a list end at a node -/
def dgl (g : Nat → Edg) : List Nat → Int → Nat
  | [], _ => 0
  | x :: M, v => dgl g M v + (if (g x).fr = v then 1 else 0) + (if (g x).to = v then 1 else 0)

theorem dgl_cons {g : Nat → Edg} {x : Nat} {M : List Nat} {v : Int} : dgl g (x :: M) v = dgl g M v + (if (g x).fr = v then 1 else 0) + (if (g x).to = v then 1 else 0) := rfl

theorem dgl_congr {g g' : Nat → Edg} {v : Int} : ∀ {M : List Nat}, (∀ x ∈ M, g x = g' x) → dgl g M v = dgl g' M v
  | [], _ => rfl
  | x :: M, h => by
    rw [dgl_cons, dgl_cons, dgl_congr (M := M) fun y hy => h y (by simp [hy]), h x (by simp)]

/-- a list as a function, its last first -/
def mf : List Nat → Nat → Int
  | [], _ => 0
  | x :: M, i => if i = M.length then (x : Int) else mf M i

theorem dg_congr {g : Nat → Edg} {m m' : Nat → Int} {v : Int} : ∀ {k : Nat}, (∀ j, j < k → m j = m' j) → dg g m k v = dg g m' k v
  | 0, _ => rfl
  | k + 1, h => by
    show dg g m k v + _ + _ = dg g m' k v + _ + _
    rw [dg_congr (k := k) fun j hj => h j (by omega), h k (by omega)]

theorem dg_mf {g : Nat → Edg} {v : Int} : ∀ {M : List Nat}, dg g (mf M) M.length v = dgl g M v
  | [] => rfl
  | x :: M => by
    show dg g (mf (x :: M)) M.length v + _ + _ = _
    have h : mf (x :: M) M.length = (x : Int) := if_pos rfl
    rw [h, Int.toNat_natCast, dg_congr (m := mf (x :: M)) (m' := mf M) (fun j hj => if_neg (by omega)), dg_mf, dgl_cons]

theorem mf_mem {M : List Nat} {L : Nat} : (∀ x ∈ M, x < L) → ∀ j, j < M.length → 0 ≤ mf M j ∧ mf M j < L := by
  induction M with
  | nil => intro _ j hj; cases hj
  | cons x M ih =>
    intro h j hj
    show 0 ≤ (if j = M.length then (x : Int) else mf M j) ∧ (if j = M.length then (x : Int) else mf M j) < L
    split
    · have := h x (by simp); omega
    · exact ih (fun y hy => h y (by simp [hy])) j (by simp at hj; omega)

/-! ### Copies of nodes -/

theorem psum_inj {cp : Nat → Int} {N a a' : Nat} {j j' : Nat} (hc : ∀ v, v < N → 0 ≤ cp v) (ha : a < N) (ha' : a' < N) (hj : (j : Int) < cp a) (hj' : (j' : Int) < cp a') (h : psum cp a + (j : Int) = psum cp a' + (j' : Int)) : a = a' ∧ j = j' := by
  have s1 : psum cp (a + 1) = psum cp a + cp a := rfl
  have s2 : psum cp (a' + 1) = psum cp a' + cp a' := rfl
  rcases Nat.lt_trichotomy a a' with hl | rfl | hl
  · have := psum_mono hc (i := a + 1) (j := a') (by omega) (by omega); omega
  · exact ⟨rfl, by omega⟩
  · have := psum_mono hc (i := a' + 1) (j := a) (by omega) (by omega); omega

theorem psum_find {cp : Nat → Int} {v : Int} (h0 : 0 ≤ v) : ∀ {N : Nat}, v < psum cp N → ∃ a j : Nat, a < N ∧ (j : Int) < cp a ∧ v = psum cp a + (j : Int)
  | 0, h => by
    have : psum cp 0 = 0 := rfl
    omega
  | N + 1, h => by
    have s : psum cp (N + 1) = psum cp N + cp N := rfl
    by_cases hv : v < psum cp N
    · obtain ⟨a, j, h1, h2, h3⟩ := psum_find h0 hv
      exact ⟨a, j, by omega, h2, h3⟩
    · exact ⟨N, (v - psum cp N).toNat, by omega, by omega, by omega⟩

theorem lsE_left {l r : List Edg} {x : Nat} (h : x < l.length) : lsE (l ++ r) x = lsE l x := by unfold lsE; rw [List.getElem?_append_left h]
theorem lsE_right {l r : List Edg} {x : Nat} : lsE (l ++ r) (l.length + x) = lsE r x := by unfold lsE; rw [List.getElem?_append_right (by omega)]; congr 2; omega
theorem lsE_fanI {a lo : Int} {k j : Nat} (h : j < k) : lsE (fanI a lo k) j = (lo + (j : Int), a, 0, 0) := by unfold lsE fanI; simp [h]
theorem lsE_fanO {a lo : Int} {k j : Nat} (h : j < k) : lsE (fanO a lo k) j = (a, lo + (j : Int), 0, 0) := by unfold lsE fanO; simp [h]
theorem lsE_one {x : Edg} : lsE [x] 0 = x := rfl

/-- the marked edges make a matching of the gadget: two edges for each, one for each other -/
structure GadM (e : Nat → Edg) (cp : Nat → Int) (N : Nat) (T : Nat → Bool) (i : Nat) (M : List Nat) : Prop where
  len : M.length = nol e i + cnt T i
  rng : ∀ x ∈ M, x < (gel e cp N i).length
  cop : ∀ a, a < N → ∀ j : Nat, (j : Int) < cp a → dgl (lsE (gel e cp N i)) M (psum cp a + (j : Int)) ≤ if j < tdeg e T i (a : Int) then 1 else 0
  mid : ∀ v, psum cp N ≤ v → v < gnn e cp N i → dgl (lsE (gel e cp N i)) M v ≤ 1
  out : ∀ v, gnn e cp N i ≤ v → dgl (lsE (gel e cp N i)) M v = 0

theorem gad_match {N : Int} {n : Nat} {e : Nat → Edg} {cp : Nat → Int} {T : Nat → Bool} (hr : Right N n e) (hc : ∀ v, v < N.toNat → 0 ≤ cp v) (hT : ∀ i, i < n → T i = true → ¬ lp (e i)) (hd : ∀ v : Nat, v < N.toNat → (tdeg e T n (v : Int) : Int) ≤ cp v) :
    ∀ i, i ≤ n → ∃ M, GadM e cp N.toNat T i M := by
  intro i
  induction i with
  | zero => intro _; exact ⟨[], rfl, fun x hx => (by cases hx), fun a _ j _ => Nat.zero_le _, fun v _ _ => Nat.zero_le _, fun v _ => rfl⟩
  | succ i ih =>
    intro hi
    obtain ⟨M, h1, h2, h3, h4, h5⟩ := ih (by omega)
    have hN0 := hr.N0
    have hx := hr.ed i (by omega)
    have hf0 := hx.f0; have hf1 := hx.f1; have ht0 := hx.t0; have ht1 := hx.t1
    have hp0 : psum cp N.toNat ≤ gnn e cp N.toNat i := by unfold gnn; omega
    by_cases hl : lp (e i)
    · have g1 : gel e cp N.toNat (i + 1) = gel e cp N.toNat i := by rw [gel_succ, if_pos hl]
      have g2 : nol e (i + 1) = nol e i := by show nol e i + (if lp (e i) then 0 else 1) = _; rw [if_pos hl]; rfl
      have g3 : gnn e cp N.toNat (i + 1) = gnn e cp N.toNat i := by unfold gnn; rw [g2]
      have g4 : T i = false := by
        cases h : T i with
        | false => rfl
        | true => exact absurd hl (hT i (by omega) h)
      have g5 : cnt T (i + 1) = cnt T i := by show cnt T i + (if T i then 1 else 0) = _; rw [g4]; rfl
      have g6 : ∀ v, tdeg e T (i + 1) v = tdeg e T i v := fun v => by show tdeg e T i v + (if T i then _ else 0) = _; rw [g4]; rfl
      exact ⟨M, by rw [g2, g5]; exact h1, by rw [g1]; exact h2, by simp only [g1, g6]; exact h3, by rw [g1, g3]; exact h4, by rw [g1, g3]; exact h5⟩
    · have g2 : nol e (i + 1) = nol e i + 1 := by show nol e i + (if lp (e i) then 0 else 1) = _; rw [if_neg hl]
      have g3 : gnn e cp N.toNat (i + 1) = gnn e cp N.toNat i + 2 := by unfold gnn; rw [g2]; omega
      obtain ⟨a, ha⟩ : ∃ a : Nat, (e i).fr = a := ⟨(e i).fr.toNat, by omega⟩
      obtain ⟨d, hdd⟩ : ∃ d : Nat, (e i).to = d := ⟨(e i).to.toNat, by omega⟩
      have hne : a ≠ d := fun h => hl (by show (e i).fr = (e i).to; rw [ha, hdd, h])
      obtain ⟨A, hA⟩ : ∃ A, gnn e cp N.toNat i = A := ⟨_, rfl⟩
      obtain ⟨G, hG⟩ : ∃ G, gel e cp N.toNat i = G := ⟨_, rfl⟩
      have g1 : gel e cp N.toNat (i + 1) = G ++ ([(A, A + 1, 0, 0)] ++ (fanI A (psum cp a) (cp a).toNat ++ fanO (A + 1) (psum cp d) (cp d).toNat)) := by
        rw [gel_succ, if_neg hl, ha, hdd, hA, hG]; simp
      rw [hG] at h2 h3 h4 h5
      rw [hA] at g3 hp0 h4 h5
      have fl : (fanI A (psum cp a) (cp a).toNat).length = (cp a).toNat := by simp [fanI]
      have e0 : ∀ x, x < G.length → lsE (gel e cp N.toNat (i + 1)) x = lsE G x := fun x hx => by rw [g1, lsE_left hx]
      have e1 : lsE (gel e cp N.toNat (i + 1)) G.length = (A, A + 1, 0, 0) := by
        rw [g1, show G.length = G.length + 0 from rfl, lsE_right, lsE_left (by simp), lsE_one]
      have e2 : ∀ j, j < (cp a).toNat → lsE (gel e cp N.toNat (i + 1)) (G.length + (1 + j)) = (psum cp a + (j : Int), A, 0, 0) := fun j hj => by
        rw [g1, lsE_right, show 1 + j = [((A, A + 1, 0, 0) : Edg)].length + j from rfl, lsE_right, lsE_left (by omega), lsE_fanI hj]
      have e3 : ∀ j, j < (cp d).toNat → lsE (gel e cp N.toNat (i + 1)) (G.length + (1 + ((cp a).toNat + j))) = (A + 1, psum cp d + (j : Int), 0, 0) := fun j hj => by
        rw [g1, lsE_right, show 1 + ((cp a).toNat + j) = [((A, A + 1, 0, 0) : Edg)].length + ((cp a).toNat + j) from rfl, lsE_right, show (cp a).toNat + j = (fanI A (psum cp a) (cp a).toNat).length + j by rw [fl], lsE_right, lsE_fanO hj]
      have hlen : (gel e cp N.toNat (i + 1)).length = G.length + (1 + ((cp a).toNat + (cp d).toNat)) := by rw [g1]; simp [fanI, fanO]; omega
      have old : ∀ v, dgl (lsE (gel e cp N.toNat (i + 1))) M v = dgl (lsE G) M v := fun v => dgl_congr fun x hx => e0 x (h2 x hx)
      have hcpN : ∀ v, v < N.toNat → ∀ j : Nat, (j : Int) < cp v → psum cp v + (j : Int) < A := fun v hv j hj => by
        have s : psum cp (v + 1) = psum cp v + cp v := rfl
        have := psum_mono hc (i := v + 1) (j := N.toNat) (by omega) (Nat.le_refl _)
        omega
      cases hTi : T i with
      | false =>
        have g5 : cnt T (i + 1) = cnt T i := by show cnt T i + (if T i then 1 else 0) = _; rw [hTi]; rfl
        have g6 : ∀ v, tdeg e T (i + 1) v = tdeg e T i v := fun v => by show tdeg e T i v + (if T i then _ else 0) = _; rw [hTi]; rfl
        have nd : ∀ v, dgl (lsE (gel e cp N.toNat (i + 1))) (G.length :: M) v = dgl (lsE G) M v + (if A = v then 1 else 0) + (if A + 1 = v then 1 else 0) := fun v => by rw [dgl_cons, old, e1]
        refine ⟨G.length :: M, by rw [g2, g5, List.length_cons, h1]; omega, fun x hx => ?_, fun b hb j hj => ?_, fun v hv hv2 => ?_, fun v hv => ?_⟩
        · rw [hlen]
          simp at hx
          rcases hx with rfl | hx
          · omega
          · have := h2 x hx; omega
        · have := hcpN b hb j hj
          rw [nd, g6, if_neg (by omega), if_neg (by omega)]
          exact h3 b hb j hj
        · rw [nd]
          by_cases hvA : v < A
          · rw [if_neg (by omega), if_neg (by omega)]; exact h4 v hv hvA
          · rw [h5 v (by omega)]
            split <;> split <;> omega
        · rw [nd, h5 v (by omega), if_neg (by omega), if_neg (by omega)]
      | true =>
        have g5 : cnt T (i + 1) = cnt T i + 1 := by show cnt T i + (if T i then 1 else 0) = _; rw [hTi]; rfl
        have g6 : ∀ v : Nat, tdeg e T (i + 1) (v : Int) = tdeg e T i (v : Int) + (if a = v then 1 else 0) + (if d = v then 1 else 0) := fun v => by
          show tdeg e T i (v : Int) + (if T i then _ else 0) = _
          rw [hTi, ha, hdd, if_pos rfl, ← Nat.add_assoc]
          have q : ∀ w : Nat, (if (w : Int) = (v : Int) then 1 else 0) = if w = v then 1 else 0 := fun w => by
            by_cases h : w = v
            · rw [if_pos (by omega), if_pos h]
            · rw [if_neg (by omega), if_neg h]
          rw [q, q]
        have ean : a < N.toNat := by omega
        have edn : d < N.toNat := by omega
        have top : ∀ v : Nat, v < N.toNat → (tdeg e T (i + 1) (v : Int) : Int) ≤ cp v := fun v hv => by
          have hm := tdeg_mono (e := e) (T := T) (v := (v : Int)) (i := i + 1) (n - (i + 1))
          rw [show i + 1 + (n - (i + 1)) = n by omega] at hm
          have := hd v hv
          omega
        have ta := top a ean
        have td := top d edn
        rw [g6, if_pos rfl, if_neg (by omega)] at ta
        rw [g6, if_neg (by omega), if_pos rfl] at td
        obtain ⟨x, hxa⟩ : ∃ x, tdeg e T i (a : Int) = x := ⟨_, rfl⟩
        obtain ⟨y, hyd⟩ : ∃ y, tdeg e T i (d : Int) = y := ⟨_, rfl⟩
        rw [hxa] at ta
        rw [hyd] at td
        have nd : ∀ v, dgl (lsE (gel e cp N.toNat (i + 1))) ((G.length + (1 + x)) :: (G.length + (1 + ((cp a).toNat + y))) :: M) v = dgl (lsE G) M v + (if A + 1 = v then 1 else 0) + (if psum cp d + (y : Int) = v then 1 else 0) + (if psum cp a + (x : Int) = v then 1 else 0) + (if A = v then 1 else 0) := fun v => by
          rw [dgl_cons, dgl_cons, old, e2 x (by omega), e3 y (by omega)]
        have pA := hcpN a ean x (by omega)
        have pD := hcpN d edn y (by omega)
        refine ⟨(G.length + (1 + x)) :: (G.length + (1 + ((cp a).toNat + y))) :: M, ?_, fun z hz => ?_, fun b hb j hj => ?_, fun v hv hv2 => ?_, fun v hv => ?_⟩
        · rw [g2, g5, List.length_cons, List.length_cons, h1]; omega
        · rw [hlen]
          simp at hz
          rcases hz with rfl | rfl | hz
          · omega
          · omega
          · have := h2 z hz; omega
        · have hlt := hcpN b hb j hj
          have hold := h3 b hb j hj
          rw [nd, g6, if_neg (show ¬ A + 1 = _ by omega), if_neg (show ¬ A = _ by omega)]
          have qa : psum cp a + (x : Int) = psum cp b + (j : Int) → a = b ∧ x = j := psum_inj hc ean hb (by omega) hj
          have qd : psum cp d + (y : Int) = psum cp b + (j : Int) → d = b ∧ y = j := psum_inj hc edn hb (by omega) hj
          by_cases eab : a = b
          · subst eab
            rw [hxa] at hold ⊢
            rw [if_pos rfl, if_neg (show ¬ d = a by omega), if_neg (show ¬ psum cp d + (y : Int) = _ from fun h => hne (qd h).1.symm)]
            by_cases ej : x = j
            · subst ej
              rw [if_neg (by omega)] at hold
              rw [if_pos rfl, if_pos (by omega)]; omega
            · rw [if_neg (fun h => ej (qa h).2)]
              by_cases hjx : j < x
              · rw [if_pos hjx] at hold; rw [if_pos (by omega)]; omega
              · rw [if_neg hjx] at hold; omega
          · rw [if_neg (show ¬ a = b from eab), if_neg (show ¬ psum cp a + (x : Int) = _ from fun h => eab (qa h).1)]
            by_cases edb : d = b
            · subst edb
              rw [hyd] at hold ⊢
              rw [if_pos rfl]
              by_cases ej : y = j
              · subst ej
                rw [if_neg (by omega)] at hold
                rw [if_pos rfl, if_pos (by omega)]; omega
              · rw [if_neg (fun h => ej (qd h).2)]
                by_cases hjx : j < y
                · rw [if_pos hjx] at hold; rw [if_pos (by omega)]; omega
                · rw [if_neg hjx] at hold; omega
            · rw [if_neg (show ¬ d = b from edb), if_neg (show ¬ psum cp d + (y : Int) = _ from fun h => edb (qd h).1)]
              simpa using hold
        · have low : ∀ w, w < N.toNat → ∀ z : Nat, (z : Int) < cp w → ¬ psum cp w + (z : Int) = v := fun w hw z hz h => by
            have s : psum cp (w + 1) = psum cp w + cp w := rfl
            have := psum_mono hc (i := w + 1) (j := N.toNat) (by omega) (Nat.le_refl _)
            omega
          rw [nd, if_neg (low d edn y (by omega)), if_neg (low a ean x (by omega))]
          by_cases hvA : v < A
          · rw [if_neg (by omega), if_neg (by omega)]; exact h4 v hv hvA
          · rw [h5 v (by omega)]
            split <;> split <;> omega
        · rw [nd, h5 v (by omega), if_neg (by omega), if_neg (by omega), if_neg (by omega), if_neg (by omega)]

theorem tdeg_ends {e : Nat → Edg} {T : Nat → Bool} {v : Int} : ∀ {i : Nat}, (∀ j, j < i → T j = true → ¬ lp (e j)) → tdeg e T i v ≤ ends e i v
  | 0, _ => Nat.le_refl _
  | i + 1, h => by
    have ih := tdeg_ends (v := v) (i := i) fun j hj => h j (by omega)
    have hi := h i (by omega)
    show tdeg e T i v + _ ≤ ends e i v + _
    cases hT : T i with
    | false => simp only [Bool.false_eq_true, if_false]; omega
    | true => rw [if_pos rfl, if_neg (hi hT)]; omega

open Classical in
theorem many_bound {N : Int} {n : Nat} {e : Nat → Edg} {b : Nat → Int} {bn : Nat} {m : Nat → Int} {k : Nat} {set : Nat → Int} {q : Nat} {o : Nat → Int} {ko : Nat}
    (hr : Right N n e) (hb : Bnd N b bn) (hg : Gsz e (cps e n b) N.toNat n) (hP : MnyP N n e b m k set q) (ho : Tkn N n e o ko fun v => b v.toNat) : ko ≤ k := by
  have hN0 := hr.N0
  have hbl := hb.len
  have hcb : ∀ v, v < N.toNat → 0 ≤ cps e n b v := fun v hv => (cps_bound (e := e) (n := n) hb (v := v) (by omega)).1
  have hgr := gad_right hr hcb hg
  have hT : ∀ i, i < n → decide (In o ko (i : Int)) = true → ¬ lp (e i) := fun i hi h => by
    obtain ⟨j, hj, he⟩ := of_decide_eq_true h
    have := ho.nl j hj
    rwa [he, Int.toNat_natCast] at this
  have hd : ∀ v : Nat, v < N.toNat → (tdeg e (fun i => decide (In o ko (i : Int))) n (v : Int) : Int) ≤ cps e n b v := fun v hv => by
    have h1 := tdeg_ends (v := (v : Int)) hT
    have h2 := rise_deg (e := e) (v := (v : Int)) ho.ris
    have h3 := hb.bnd v (by omega)
    have h4 := ho.mst (v : Int) (by omega) (by omega)
    rw [Int.toNat_natCast] at h4
    unfold cps
    split
    · by_cases h0 : 0 < dg e o ko (v : Int)
      · have := h4 h0; omega
      · omega
    · omega
  obtain ⟨M, h1, h2, h3, h4, h5⟩ := gad_match hr hcb hT hd n (Nat.le_refl _)
  rw [rise_cnt ho.ris] at h1
  generalize hcp : cps e n b = cp at *
  have hdg : ∀ v : Nat, v < (gnn e cp N.toNat n).toNat → dg (lsE (gel e cp N.toNat n)) (mf M) M.length (v : Int) ≤ 1 := fun v hv => by
    rw [dg_mf]
    by_cases hp : (v : Int) < psum cp N.toNat
    · obtain ⟨a, j, ha, hj, he⟩ := psum_find (by omega) hp
      rw [he]
      have := h3 a ha j hj
      split at this <;> omega
    · exact h4 v (by omega) (by omega)
  have hB := odd_boundG (W := fun v => decide (In set q (v : Int))) (m := mf M) (k := M.length) hgr (mf_mem h2) hdg
  have hC := cover_count (cv := set) (N := (gnn e cp N.toNat n).toNat) q
  have hO : oddS (gnn e cp N.toNat n) (gel e cp N.toNat n).length (lsE (gel e cp N.toNat n)) set q = oddN (gnn e cp N.toNat n) (gel e cp N.toNat n).length (lsE (gel e cp N.toNat n)) fun v => decide (In set q (v : Int)) := rfl
  have hE := hP.eq
  rw [hcp] at hE
  omega
end Go.Mz

/-
  Joined: FlP, FlQ, FlA, FlB, FlC, FlD, FlE.
-/
import Derived.Test.YtmaeboaopebaiaaPkM
import Derived.Test.YtmaeboaopebaiaaPkZ
import Derived.Test.YtmaeboaopebaiaaPkT
import Derived.Test.YtmaeboaopebaiaaMnX
import Derived.Test.YtmaeboaopebaiaaGRed
import Derived.Test.YtmaeboaopebaiaaRefA
set_option linter.unusedSimpArgs false
set_option linter.unusedVariables false
/-
  Flows with room for one at each edge, in plain words: what goes out of a node, ways back, sides. No program in sight.
-/
namespace Go.Mz

/-- the edges of the residual: two for each -/
def rfr (w : Nat → Edg) (x : Nat) : Int := if x % 2 = 0 then (w (x / 2)).fr else (w (x / 2)).to
def rto (w : Nat → Edg) (x : Nat) : Int := if x % 2 = 0 then (w (x / 2)).to else (w (x / 2)).fr
def rcp (on : Nat → Int) (x : Nat) : Int := if x % 2 = 0 then 1 - on (x / 2) else on (x / 2)

/-- what goes out of a node, less what comes in, along the first edges -/
def fout (w : Nat → Edg) (on : Nat → Int) : Nat → Int → Int
  | 0, _ => 0
  | i + 1, v => fout w on i v + (if (w i).fr = v then on i else 0) - (if (w i).to = v then on i else 0)

/-- one more along an edge of the residual -/
def chg (on : Nat → Int) (x : Nat) : Nat → Int := upf on (x / 2) (if x % 2 = 0 then on (x / 2) + 1 else on (x / 2) - 1)

section
variable {w : Nat → Edg} {on : Nat → Int}

theorem fout_same {on' : Nat → Int} {v : Int} : ∀ {m : Nat}, (∀ i, i < m → on' i = on i) → fout w on' m v = fout w on m v
  | 0, _ => rfl
  | m + 1, h => by
    show fout w on' m v + _ - _ = fout w on m v + _ - _
    rw [fout_same fun i hi => h i (by omega), h m (by omega)]

theorem fout_upf {i : Nat} {y v : Int} : ∀ {m : Nat}, i < m → fout w (upf on i y) m v = fout w on m v + (if (w i).fr = v then y - on i else 0) - (if (w i).to = v then y - on i else 0)
  | 0, h => by omega
  | m + 1, h => by
    show fout w (upf on i y) m v + (if (w m).fr = v then upf on i y m else 0) - (if (w m).to = v then upf on i y m else 0) = fout w on m v + (if (w m).fr = v then on m else 0) - (if (w m).to = v then on m else 0) + _ - _
    by_cases ei : i = m
    · subst ei
      rw [fout_same (on := on) fun j hj => upf_ne (by omega), upf_same]
      split <;> split <;> omega
    · rw [fout_upf (m := m) (by omega), upf_ne (by omega)]
      omega

theorem fout_chg {m x : Nat} {v : Int} (hx : x / 2 < m) : fout w (chg on x) m v = fout w on m v + (if rfr w x = v then 1 else 0) - (if rto w x = v then 1 else 0) := by
  unfold chg rfr rto
  rw [fout_upf hx]
  by_cases h : x % 2 = 0
  · simp only [if_pos h]
    split <;> split <;> omega
  · simp only [if_neg h]
    split <;> split <;> omega

/-- a way, told from its end: edges of the residual -/
def Wy (w : Nat → Edg) (s : Int) : Int → List Nat → Prop
  | v, [] => v = s
  | v, x :: l => rto w x = v ∧ Wy w s (rfr w x) l

theorem fout_way {m : Nat} {s u : Int} : ∀ {l : List Nat} {on : Nat → Int} {t : Int}, Wy w s t l → (∀ x ∈ l, x / 2 < m) → fout w (l.foldl chg on) m u = fout w on m u + (if s = u then 1 else 0) - (if t = u then 1 else 0)
  | [], on, t, h, _ => by
    have : t = s := h
    subst this
    show fout w on m u = _
    split <;> omega
  | x :: l, on, t, h, hm => by
    show fout w (l.foldl chg (chg on x)) m u = _
    rw [fout_way h.2 fun y hy => hm y (List.mem_cons_of_mem _ hy), fout_chg (hm x (List.mem_cons_self ..)), h.1]
    split <;> split <;> split <;> omega

/-- no edge is gone along twice, if ranks fall -/
theorem way_once {rk : Int → Nat} {s : Int} : ∀ {l : List Nat} {t : Int}, Wy w s t l → (∀ x ∈ l, rk (rfr w x) < rk (rto w x)) → (l.map (· / 2)).Nodup ∧ ∀ x ∈ l, rk (rto w x) ≤ rk t
  | [], t, _, _ => ⟨List.nodup_nil, fun x hx => (by cases hx)⟩
  | x :: l, t, h, hr => by
    obtain ⟨h1, h2⟩ := way_once h.2 fun y hy => hr y (List.mem_cons_of_mem _ hy)
    have hx := hr x (List.mem_cons_self ..)
    refine ⟨?_, fun y hy => ?_⟩
    · rw [List.map_cons, List.nodup_cons]
      refine ⟨fun hm => ?_, h1⟩
      obtain ⟨y, hy, e⟩ := List.mem_map.1 hm
      have e' : y / 2 = x / 2 := e
      have h3 := h2 y hy
      have h4 := hr y (List.mem_cons_of_mem _ hy)
      by_cases hp : y % 2 = x % 2
      · have : y = x := by omega
        subst this; omega
      · have e3 : rto w y = rfr w x ∧ rfr w y = rto w x := by
          unfold rto rfr
          rw [e']
          by_cases h5 : x % 2 = 0
          · rw [if_pos h5, if_pos h5, if_neg (by omega), if_neg (by omega)]; exact ⟨rfl, rfl⟩
          · rw [if_neg h5, if_neg h5, if_pos (by omega), if_pos (by omega)]; exact ⟨rfl, rfl⟩
        rw [e3.1] at h4
        rw [e3.2] at h4
        omega
    · have e1 : rto w x = t := h.1
      rcases List.mem_cons.1 hy with rfl | hy
      · rw [e1]; exact Nat.le_refl _
      · have := h2 y hy; rw [← e1]; omega

/-- so the amounts stay none or one -/
theorem way_bnd : ∀ {l : List Nat} {on : Nat → Int}, (l.map (· / 2)).Nodup → (∀ x ∈ l, 0 < rcp on x) → (∀ i, on i = 0 ∨ on i = 1) → ∀ i, l.foldl chg on i = 0 ∨ l.foldl chg on i = 1
  | [], on, _, _, h => h
  | x :: l, on, hn, hc, h => by
    rw [List.map_cons, List.nodup_cons] at hn
    have hx := hc x (List.mem_cons_self ..)
    refine way_bnd (l := l) (on := chg on x) hn.2 (fun y hy => ?_) fun i => ?_
    · have hne : y / 2 ≠ x / 2 := fun e => hn.1 (List.mem_map.2 ⟨y, hy, e⟩)
      have := hc y (List.mem_cons_of_mem _ hy)
      unfold rcp chg at *
      rw [upf_ne hne]; exact this
    · unfold chg
      by_cases ei : i = x / 2
      · subst ei
        rw [upf_same]
        have := h (x / 2)
        unfold rcp at hx
        split
        · rename_i h0; rw [if_pos h0] at hx; omega
        · rename_i h0; rw [if_neg h0] at hx; omega
      · rw [upf_ne ei]; exact h i

/-- a sum over a side -/
def ssum (S : Nat → Bool) (f : Nat → Int) : Nat → Int
  | 0 => 0
  | N + 1 => ssum S f N + (if S N = true then f N else 0)

theorem ssum_add {S : Nat → Bool} {f g : Nat → Int} : ∀ {N : Nat}, ssum S (fun v => f v + g v) N = ssum S f N + ssum S g N
  | 0 => rfl
  | N + 1 => by
    show ssum S _ N + (if S N = true then f N + g N else 0) = ssum S f N + _ + (ssum S g N + _)
    rw [ssum_add (N := N)]
    split <;> omega

theorem ssum_ind {S : Nat → Bool} {a y : Int} : ∀ {N : Nat}, 0 ≤ a → ssum S (fun v => if a = (v : Int) then y else 0) N = if a < N ∧ S a.toNat = true then y else 0
  | 0, h => by show (0 : Int) = _; rw [if_neg (by omega)]
  | N + 1, h => by
    show ssum S _ N + (if S N = true then (if a = (N : Int) then y else 0) else 0) = _
    rw [ssum_ind (N := N) h]
    by_cases e : a = (N : Int)
    · subst e
      rw [Int.toNat_natCast, if_neg (by omega), if_pos rfl]
      by_cases hS : S N = true
      · rw [if_pos hS, if_pos ⟨by omega, hS⟩]; omega
      · rw [if_neg hS, if_neg fun h => hS h.2]; rfl
    · rw [if_neg e]
      have : (a < (N : Int) ∧ S a.toNat = true) ↔ (a < ((N + 1 : Nat) : Int) ∧ S a.toNat = true) := ⟨fun h => ⟨by omega, h.2⟩, fun h => ⟨by omega, h.2⟩⟩
      by_cases h1 : a < (N : Int) ∧ S a.toNat = true
      · rw [if_pos h1, if_pos (this.1 h1)]; split <;> omega
      · rw [if_neg h1, if_neg fun h => h1 (this.2 h)]; split <;> omega

/-- what leaves a side, less what enters it -/
def net (w : Nat → Edg) (on : Nat → Int) (S : Nat → Bool) : Nat → Int
  | 0 => 0
  | i + 1 => net w on S i + (if S (w i).fr.toNat = true then on i else 0) - (if S (w i).to.toNat = true then on i else 0)

theorem ssum_net {S : Nat → Bool} {N : Nat} : ∀ {m : Nat}, (∀ i, i < m → 0 ≤ (w i).fr ∧ (w i).fr < N ∧ 0 ≤ (w i).to ∧ (w i).to < N) → ssum S (fun v => fout w on m (v : Int)) N = net w on S m
  | 0, _ => by
    show ssum S (fun v => 0) N = 0
    have : ∀ K, ssum S (fun v => 0) K = 0 := fun K => by
      induction K with
      | zero => rfl
      | succ K ih => show ssum S (fun v => 0) K + _ = 0; rw [ih]; split <;> rfl
    exact this N
  | m + 1, h => by
    obtain ⟨h1, h2, h3, h4⟩ := h m (by omega)
    have ih := ssum_net (S := S) (N := N) (m := m) fun i hi => h i (by omega)
    have e1 : ssum S (fun v => fout w on (m + 1) (v : Int)) N = ssum S (fun v => fout w on m (v : Int) + ((if (w m).fr = (v : Int) then on m else 0) + (if (w m).to = (v : Int) then - on m else 0))) N := by
      have : (fun v : Nat => fout w on (m + 1) (v : Int)) = fun v : Nat => fout w on m (v : Int) + ((if (w m).fr = (v : Int) then on m else 0) + (if (w m).to = (v : Int) then - on m else 0)) := by
        funext v
        show fout w on m v + _ - _ = _
        split <;> split <;> omega
      rw [this]
    rw [e1, ssum_add, ssum_add, ih, ssum_ind h1, ssum_ind h3]
    show _ = net w on S m + _ - _
    by_cases a : S (w m).fr.toNat = true <;> by_cases b : S (w m).to.toNat = true <;> simp only [a, b, h2, h4, and_self, if_true, and_true, and_false, if_false, Bool.false_eq_true] <;> omega

/-- all that goes out of the source leaves each side that has it, and has not the sink -/
theorem fout_cut {S : Nat → Bool} {N m s t : Nat} (hw : ∀ i, i < m → 0 ≤ (w i).fr ∧ (w i).fr < N ∧ 0 ≤ (w i).to ∧ (w i).to < N) (h0 : ∀ v : Nat, v < N → v ≠ s → v ≠ t → fout w on m (v : Int) = 0) (hs : s < N) (hS : S s = true) (hT : S t = false) : fout w on m (s : Int) = net w on S m := by
  rw [← ssum_net hw]
  have : ∀ K, K ≤ N → ssum S (fun v => fout w on m (v : Int)) K = if s < K then fout w on m (s : Int) else 0 := by
    intro K
    induction K with
    | zero => intro _; rfl
    | succ K ih =>
      intro hK
      show ssum S _ K + (if S K = true then fout w on m (K : Int) else 0) = _
      rw [ih (by omega)]
      by_cases e : K = s
      · subst e
        rw [if_neg (by omega), if_pos hS, if_pos (by omega)]; omega
      · by_cases et : K = t
        · subst et
          rw [hT]
          simp only [Bool.false_eq_true, if_false]
          by_cases h : s < K
          · rw [if_pos h, if_pos (by omega)]; omega
          · rw [if_neg h, if_neg (by omega)]; rfl
        · rw [h0 K (by omega) e et]
          by_cases h : s < K
          · rw [ite_self, if_pos h, if_pos (by omega)]; omega
          · rw [ite_self, if_neg h, if_neg (by omega)]; rfl
  rw [this N (Nat.le_refl _), if_pos hs]

def lvs (w : Nat → Edg) (S : Nat → Bool) (i : Nat) : Bool := S (w i).fr.toNat && !S (w i).to.toNat

theorem net_le {S : Nat → Bool} : ∀ {m : Nat}, (∀ i, i < m → on i = 0 ∨ on i = 1) → net w on S m ≤ cnt (lvs w S) m
  | 0, _ => by show (0 : Int) ≤ ((0 : Nat) : Int); omega
  | m + 1, h => by
    have ih := net_le (S := S) (m := m) fun i hi => h i (by omega)
    have h1 := h m (by omega)
    show net w on S m + _ - _ ≤ ((cnt (lvs w S) m + (if lvs w S m = true then 1 else 0) : Nat) : Int)
    have e : lvs w S m = (S (w m).fr.toNat && !S (w m).to.toNat) := rfl
    by_cases a : S (w m).fr.toNat = true <;> by_cases b : S (w m).to.toNat = true <;> simp [e, a, b] <;> omega

theorem net_eq {S : Nat → Bool} : ∀ {m : Nat}, (∀ i, i < m → (S (w i).fr.toNat = true → S (w i).to.toNat = false → on i = 1) ∧ (S (w i).fr.toNat = false → S (w i).to.toNat = true → on i = 0)) → net w on S m = cnt (lvs w S) m
  | 0, _ => rfl
  | m + 1, h => by
    have ih := net_eq (S := S) (m := m) fun i hi => h i (by omega)
    obtain ⟨h1, h2⟩ := h m (by omega)
    show net w on S m + _ - _ = ((cnt (lvs w S) m + (if lvs w S m = true then 1 else 0) : Nat) : Int)
    have e : lvs w S m = (S (w m).fr.toNat && !S (w m).to.toNat) := rfl
    cases a : S (w m).fr.toNat <;> cases b : S (w m).to.toNat <;> simp [e, a, b] at h1 h2 ⊢ <;> omega
end
end Go.Mz

/-
  What flows from one side to the other is what a largest matching has. No program in sight.
-/
namespace Go.Mz

/-- no more are counted where each goes to one of its own -/
theorem cnt_injF {p : Nat → Bool} {N' : Nat} (f : Nat → Nat) : ∀ {N : Nat} {q : Nat → Bool}, (∀ i, i < N → p i = true → f i < N' ∧ q (f i) = true) → (∀ i j, i < N → j < N → p i = true → p j = true → f i = f j → i = j) → cnt p N ≤ cnt q N'
  | 0, q, _, _ => Nat.zero_le _
  | N + 1, q, hf, hi => by
    by_cases hp : p N = true
    · obtain ⟨h1, h2⟩ := hf N (by omega) hp
      have ih := cnt_injF f (N := N) (q := fun j => q j && !decide (j = f N)) (fun i hiN hpi => by
        obtain ⟨a, b⟩ := hf i (by omega) hpi
        refine ⟨a, ?_⟩
        have hne : f i ≠ f N := fun e => by have := hi i N (by omega) (by omega) hpi hp e; omega
        simp [b, hne]) fun i j hiN hjN => hi i j (by omega) (by omega)
      have h3 := cnt_less (p := q) (q := fun j => q j && !decide (j = f N)) h1 h2 (by simp) fun j _ hne => by simp [hne]
      simp only [cnt]
      rw [if_pos hp]
      omega
    · simp only [cnt]
      rw [if_neg hp]
      exact cnt_injF f (N := N) (fun i hiN => hf i (by omega)) fun i j hiN hjN => hi i j (by omega) (by omega)

/-- the graph between the two sides, with a source and a sink -/
def wid (M L : Nat) (e : Nat → Edg) (i : Nat) : Edg :=
  if i < M then (if i < L then ((M : Int), (i : Int), 1, 0) else ((i : Int), (M : Int) + 1, 1, 0))
  else if (e (i - M)).fr < (L : Int) then ((e (i - M)).fr, (e (i - M)).to, 1, 0) else ((e (i - M)).to, (e (i - M)).fr, 1, 0)

structure Flo (w : Nat → Edg) (m N s t : Nat) (on : Nat → Int) : Prop where
  bnd : ∀ i, on i = 0 ∨ on i = 1
  con : ∀ v : Nat, v < N → v ≠ s → v ≠ t → fout w on m (v : Int) = 0

section
variable {M L n : Nat} {e : Nat → Edg} {on : Nat → Int}

theorem wid_mid (hr : Right (M : Int) n e) (hc : Crs (M : Int) n e (L : Int)) {i : Nat} (hi : i < n) : 0 ≤ (wid M L e (M + i)).fr ∧ (wid M L e (M + i)).fr < L ∧ (L : Int) ≤ (wid M L e (M + i)).to ∧ (wid M L e (M + i)).to < M ∧ (((wid M L e (M + i)).fr = (e i).fr ∧ (wid M L e (M + i)).to = (e i).to) ∨ ((wid M L e (M + i)).fr = (e i).to ∧ (wid M L e (M + i)).to = (e i).fr)) := by
  have hx := hr.ed i hi
  have hf0 := hx.f0; have hf1 := hx.f1; have ht0 := hx.t0; have ht1 := hx.t1
  have h1 := hc.2.2 i hi
  have e1 : wid M L e (M + i) = if (e i).fr < (L : Int) then ((e i).fr, (e i).to, 1, 0) else ((e i).to, (e i).fr, 1, 0) := by
    unfold wid; rw [if_neg (by omega), show M + i - M = i by omega]
  rw [e1]
  by_cases hl : (e i).fr < (L : Int)
  · rw [if_pos hl]
    have : ¬ (e i).to < (L : Int) := fun h => h1 ⟨fun _ => h, fun _ => hl⟩
    exact ⟨hf0, hl, by show (L : Int) ≤ (e i).to; omega, ht1, .inl ⟨rfl, rfl⟩⟩
  · rw [if_neg hl]
    have : (e i).to < (L : Int) := Classical.byContradiction fun h => h1 ⟨fun h' => (hl h').elim, fun h' => (h h').elim⟩
    exact ⟨ht0, this, by show (L : Int) ≤ (e i).fr; omega, hf1, .inr ⟨rfl, rfl⟩⟩

theorem wid_lo {i : Nat} (h : i < M) (hl : i < L) : (wid M L e i).fr = M ∧ (wid M L e i).to = i := by
  unfold wid; rw [if_pos h, if_pos hl]; exact ⟨rfl, rfl⟩
theorem wid_hi {i : Nat} (h : i < M) (hl : ¬ i < L) : (wid M L e i).fr = i ∧ (wid M L e i).to = M + 1 := by
  unfold wid; rw [if_pos h, if_neg hl]; exact ⟨rfl, rfl⟩

theorem wid_bnd (hr : Right (M : Int) n e) (hc : Crs (M : Int) n e (L : Int)) : ∀ i, i < M + n → 0 ≤ (wid M L e i).fr ∧ (wid M L e i).fr < ((M + 2 : Nat) : Int) ∧ 0 ≤ (wid M L e i).to ∧ (wid M L e i).to < ((M + 2 : Nat) : Int) := fun i hi => by
  by_cases h : i < M
  · by_cases hl : i < L
    · obtain ⟨a, b⟩ := wid_lo (e := e) h hl; omega
    · obtain ⟨a, b⟩ := wid_hi (e := e) h hl; omega
  · have := wid_mid hr hc (i := i - M) (by omega)
    rw [show M + (i - M) = i by omega] at this
    have := hc.2.1
    omega

open Classical in
/-- no more flows than a cover has nodes -/
theorem flow_le (hr : Right (M : Int) n e) (hc : Crs (M : Int) n e (L : Int)) {cv : Nat → Int} {q : Nat} (hris : Ris cv q (M : Int)) (hcv : Cvr e n cv q) (hF : Flo (wid M L e) (M + n) (M + 2) M (M + 1) on) : fout (wid M L e) on (M + n) (M : Int) ≤ q := by
  have hLM := hc.2.1
  obtain ⟨S, hS⟩ : ∃ S : Nat → Bool, ∀ v, S v = true ↔ (v = M ∨ (v < L ∧ ¬ In cv q (v : Int)) ∨ (L ≤ v ∧ v < M ∧ In cv q (v : Int))) := ⟨fun v => decide _, fun v => decide_eq_true_iff⟩
  have hSf : ∀ v, S v = false ↔ ¬ (v = M ∨ (v < L ∧ ¬ In cv q (v : Int)) ∨ (L ≤ v ∧ v < M ∧ In cv q (v : Int))) := fun v => by
    rw [← hS v]; cases S v <;> simp
  rw [fout_cut (S := S) (wid_bnd hr hc) hF.con (by omega) ((hS M).2 (.inl rfl)) ((hSf (M + 1)).2 (by omega))]
  have h1 := net_le (w := wid M L e) (S := S) (m := M + n) fun i _ => hF.bnd i
  have h2 : cnt (lvs (wid M L e) S) (M + n) ≤ cnt (fun i => decide (In cv q (i : Int))) M := by
    refine cnt_injF (fun i => i) (fun i hi hl => ?_) fun i j _ _ _ _ h => h
    have hl' : (S (wid M L e i).fr.toNat && !S (wid M L e i).to.toNat) = true := hl
    rw [Bool.and_eq_true, Bool.not_eq_true'] at hl'
    obtain ⟨h1, h2⟩ := hl'
    rw [hS] at h1
    rw [hSf] at h2
    by_cases him : i < M
    · refine ⟨him, decide_eq_true ?_⟩
      by_cases hiL : i < L
      · obtain ⟨a, b⟩ := wid_lo (e := e) him hiL
        rw [b, Int.toNat_natCast] at h2
        exact Classical.byContradiction fun hno => h2 (.inr (.inl ⟨hiL, hno⟩))
      · obtain ⟨a, b⟩ := wid_hi (e := e) him hiL
        rw [a, Int.toNat_natCast] at h1
        rcases h1 with h1 | h1 | h1
        · omega
        · exact (hiL h1.1).elim
        · exact h1.2.2
    · exfalso
      have hm := wid_mid hr hc (i := i - M) (by omega)
      rw [show M + (i - M) = i by omega] at hm
      obtain ⟨m1, m2, m3, m4, m5⟩ := hm
      have c1 : ¬ In cv q (wid M L e i).fr := by
        rcases h1 with h1 | h1 | h1
        · omega
        · rw [Int.toNat_of_nonneg m1] at h1; exact h1.2
        · omega
      have c2 : ¬ In cv q (wid M L e i).to := fun hin => h2 (.inr (.inr ⟨by omega, by omega, by rwa [Int.toNat_of_nonneg (by omega)]⟩))
      rcases hcv (i - M) (by omega) with h | h | h
      · have h' : (e (i - M)).fr = (e (i - M)).to := h
        rcases m5 with ⟨a, b⟩ | ⟨a, b⟩ <;> omega
      · rcases m5 with ⟨a, b⟩ | ⟨a, b⟩
        · rw [a] at c1; exact c1 h
        · rw [b] at c2; exact c2 h
      · rcases m5 with ⟨a, b⟩ | ⟨a, b⟩
        · rw [b] at c2; exact c2 h
        · rw [a] at c1; exact c1 h
  have h3 := rise_cnt (n := M) hris
  omega

open Classical in
/-- and no matching has more, once no way leads to the sink -/
theorem flow_ge (hr : Right (M : Int) n e) (hc : Crs (M : Int) n e (L : Int)) {m : Nat → Int} {k : Nat} (ht : Tkn (M : Int) n e m k fun _ => 1) (hF : Flo (wid M L e) (M + n) (M + 2) M (M + 1) on) {S : Nat → Bool} (hs : S M = true) (hT : S (M + 1) = false) (hcl : ∀ x, x / 2 < M + n → 0 < rcp on x → S (rfr (wid M L e) x).toNat = true → S (rto (wid M L e) x).toNat = true) : (k : Int) ≤ fout (wid M L e) on (M + n) (M : Int) := by
  have hLM := hc.2.1
  have hsat : ∀ i, i < M + n → (S (wid M L e i).fr.toNat = true → S (wid M L e i).to.toNat = false → on i = 1) ∧ (S (wid M L e i).fr.toNat = false → S (wid M L e i).to.toNat = true → on i = 0) := fun i hi => by
    have h1 := hcl (2 * i) (by omega)
    have h2 := hcl (2 * i + 1) (by omega)
    have e1 : rcp on (2 * i) = 1 - on i ∧ rfr (wid M L e) (2 * i) = (wid M L e i).fr ∧ rto (wid M L e) (2 * i) = (wid M L e i).to := by
      unfold rcp rfr rto; rw [if_pos (by omega), if_pos (by omega), if_pos (by omega), show 2 * i / 2 = i by omega]; exact ⟨rfl, rfl, rfl⟩
    have e2 : rcp on (2 * i + 1) = on i ∧ rfr (wid M L e) (2 * i + 1) = (wid M L e i).to ∧ rto (wid M L e) (2 * i + 1) = (wid M L e i).fr := by
      unfold rcp rfr rto; rw [if_neg (by omega), if_neg (by omega), if_neg (by omega), show (2 * i + 1) / 2 = i by omega]; exact ⟨rfl, rfl, rfl⟩
    rw [e1.1, e1.2.1, e1.2.2] at h1
    rw [e2.1, e2.2.1, e2.2.2] at h2
    have hb := hF.bnd i
    refine ⟨fun a b => ?_, fun a b => ?_⟩
    · rcases hb with hb | hb
      · have := h1 (by omega) a
        rw [b] at this; cases this
      · exact hb
    · rcases hb with hb | hb
      · exact hb
      · have := h2 (by omega) b
        rw [a] at this; cases this
  rw [fout_cut (S := S) (wid_bnd hr hc) hF.con (by omega) hs hT, net_eq hsat]
  -- the cover: nodes at whose edges the side is left
  obtain ⟨P, hP⟩ : ∃ P : Nat → Bool, ∀ v, P v = true ↔ ((v < L ∧ S v = false) ∨ (L ≤ v ∧ S v = true) ∨ (v < L ∧ S v = true ∧ ∃ i, i < n ∧ (wid M L e (M + i)).fr = (v : Int) ∧ S (wid M L e (M + i)).to.toNat = false)) := ⟨fun v => decide _, fun v => decide_eq_true_iff⟩
  have hcvr : Cvr e n (lsF (pk P M)) (pk P M).length := fun i hi => by
    obtain ⟨m1, m2, m3, m4, m5⟩ := wid_mid hr hc hi
    have inP : ∀ v : Nat, v < M → P v = true → In (lsF (pk P M)) (pk P M).length (v : Int) := fun v hv hp => by
      obtain ⟨w, hw, ew⟩ := List.getElem_of_mem (pk_mem.2 ⟨hv, hp⟩)
      exact ⟨w, hw, by rw [lsF_get hw, ew]⟩
    have inF : P (wid M L e (M + i)).fr.toNat = true → lp (e i) ∨ In (lsF (pk P M)) (pk P M).length (e i).fr ∨ In (lsF (pk P M)) (pk P M).length (e i).to := fun hp => by
      have := inP _ (by omega) hp
      rw [Int.toNat_of_nonneg m1] at this
      rcases m5 with ⟨a, b⟩ | ⟨a, b⟩
      · rw [a] at this; exact .inr (.inl this)
      · rw [a] at this; exact .inr (.inr this)
    cases hSf : S (wid M L e (M + i)).fr.toNat
    · exact inF ((hP _).2 (.inl ⟨by omega, hSf⟩))
    · cases hSt : S (wid M L e (M + i)).to.toNat
      · exact inF ((hP _).2 (.inr (.inr ⟨by omega, hSf, i, hi, by omega, hSt⟩)))
      · have := inP _ (by omega) ((hP _).2 (.inr (.inl ⟨by omega, hSt⟩)))
        rw [Int.toNat_of_nonneg (by omega)] at this
        rcases m5 with ⟨a, b⟩ | ⟨a, b⟩
        · rw [b] at this; exact .inr (.inr this)
        · rw [b] at this; exact .inr (.inl this)
  have h1 := cover_bound hr ht hcvr
  rw [pk_len] at h1
  -- each node of the cover has its edge
  obtain ⟨φ, hφ⟩ := Classical.axiomOfChoice (r := fun v i => v < M → P v = true → i < M + n ∧ lvs (wid M L e) S i = true ∧ ((i < M ∧ i = v) ∨ (M ≤ i ∧ (wid M L e i).fr = (v : Int)))) fun v => by
    by_cases hv : v < M ∧ P v = true
    · rcases (hP v).1 hv.2 with ⟨hl, h⟩ | ⟨hl, h⟩ | ⟨hl, h, i, hi, h2, h3⟩
      · refine ⟨v, fun _ _ => ⟨by omega, ?_, .inl ⟨hv.1, rfl⟩⟩⟩
        obtain ⟨a, b⟩ := wid_lo (e := e) hv.1 hl
        show (S (wid M L e v).fr.toNat && !S (wid M L e v).to.toNat) = true
        rw [a, b, Int.toNat_natCast, Int.toNat_natCast, hs, h]; rfl
      · refine ⟨v, fun _ _ => ⟨by omega, ?_, .inl ⟨hv.1, rfl⟩⟩⟩
        obtain ⟨a, b⟩ := wid_hi (L := L) (e := e) hv.1 (by omega)
        show (S (wid M L e v).fr.toNat && !S (wid M L e v).to.toNat) = true
        rw [a, b, Int.toNat_natCast, show ((M : Int) + 1).toNat = M + 1 by omega, hT, h]; rfl
      · refine ⟨M + i, fun _ _ => ⟨by omega, ?_, .inr ⟨by omega, h2⟩⟩⟩
        show (S (wid M L e (M + i)).fr.toNat && !S (wid M L e (M + i)).to.toNat) = true
        rw [h2, Int.toNat_natCast, h, h3]; rfl
    · exact ⟨0, fun a b => (hv ⟨a, b⟩).elim⟩
  have h2 : cnt P M ≤ cnt (lvs (wid M L e) S) (M + n) := by
    refine cnt_injF φ (fun v hv hp => ⟨(hφ v hv hp).1, (hφ v hv hp).2.1⟩) fun v u hv hu hp hq heq => ?_
    obtain ⟨_, _, a⟩ := hφ v hv hp
    obtain ⟨_, _, b⟩ := hφ u hu hq
    rw [heq] at a
    rcases a with a | a <;> rcases b with b | b <;> omega
  omega
end
end Go.Mz

/-
  The document's functions of layer 11, walked, for edges with room for one: Residual, room, change, Out.
-/
namespace Go.Mz

theorem Row.slAt {α : Type} [El α] {H : Hp} {p : Option Addr} {n c : Nat} {f : Nat → α} (h : Row H p n c f) : SlAt H p := by
  rcases h.cells with ⟨h, _⟩ | ⟨b, o, x, h1, h2, ⟨h3, _⟩, _⟩
  · exact .inl h
  · exact .inr ⟨b, o, x, h1, h2, by have := Nat.zero_le (c * El.w α); omega⟩

theorem Rdr.edgeP11 {H : Hp} {p : Option Addr} {n : Nat} {f : Nat → Edg} (h : Rdr H p n f) {i : Int} (h0 : 0 ≤ i) (h1 : i < (n : Int)) {G : Int → Prop}
    (k : G (f i.toNat).cp) : Mz.ix p n i 4 fun b o => ldI .i64 (H.get b (o + 2)) G := by
  refine h.ix (α := Edg) h0 h1 fun b o _ hg => ?_
  rw [(Rdr.cells4 hg).2.2.1]
  exact k

theorem chg_at {on : Nat → Int} {x : Nat} : chg on x = upf on (x / 2) (if x % 2 = 0 then on (x / 2) + 1 else on (x / 2) - 1) := rfl

section
variable {E : Value → Hp → Prop}

theorem rout11 {N : Int} {m ec oc v : Nat} {ep op : Option Addr} {w : Nat → Edg} {on : Nat → Int} {H : Hp} {K : Int → Hp → Prop} (he : Rdr H ep m w) (ho : Rdr H op m on) (hm : m ≤ 1048576) (hb : ∀ i, on i = 0 ∨ on i = 1)
    (kk : ∀ H', Step (fun _ => False) H H' → K (fout w on m (v : Int)) H') : compassref11_Out.call N ep m ec op m oc (v : Int) E H K := by
  have bnd : ∀ i : Nat, - (i : Int) ≤ fout w on i (v : Int) ∧ fout w on i (v : Int) ≤ i := fun i => by
    induction i with
    | zero => exact ⟨Int.le_refl _, Int.le_refl _⟩
    | succ i ih =>
      have := hb i
      show _ ≤ fout w on i v + _ - _ ∧ fout w on i v + _ - _ ≤ _
      split <;> split <;> omega
  refine compassref11_Out.of (compassref11_Out.run_eq ?_)
  unfold compassref11_Out.run_t
  refine nwk fun b1 H1 hb1 e1 s1 => ?_
  refine compassref11_Out.l1_rule (fun op' on' oc' v' g3 n7 i8 H' => op' = op ∧ on' = m ∧ oc' = oc ∧ v' = (v : Int) ∧ g3 = b1 ∧ H' = H1 ∧ ∃ i : Nat, i8 = i ∧ i ≤ m ∧ n7 = fout w on i (v : Int)) (fun op' on' oc' v' g3 n7 i8 H' => m - i8.toNat) ?_ ⟨rfl, rfl, rfl, rfl, rfl, rfl, 0, rfl, Nat.zero_le _, rfl⟩
  rintro op' on' oc' v' g3 n7 i8 H' ⟨rfl, rfl, rfl, rfl, rfl, rfl, i, rfl, hi, rfl⟩ X hX
  have g := he.keep s1 fun _ _ _ h => h
  have o := ho.keep s1 fun _ _ _ h => h
  have hbi := hb i
  have hbn := bnd i
  refine compassref11_Out.b1_eq ?_
  unfold compassref11_Out.b1_t
  refine bc (fun hlt => ?_) fun hge => ?_
  · have next : ∀ {a : Int}, a = fout w on (i + 1) (v : Int) → compassref11_Out.j2 op' on' oc' (v : Int) g3 a (i : Int) X E H' K := fun {a} ha => by
      refine compassref11_Out.j2_eq ?_
      unfold compassref11_Out.j2_t
      rw [i64w (by omega) (by omega)]
      exact hX _ _ _ _ _ _ _ _ ⟨rfl, rfl, rfl, rfl, rfl, rfl, i + 1, by omega, by omega, ha⟩ (by omega)
    have two : ∀ {a : Int}, a = fout w on i (v : Int) + (if (w i).fr = (v : Int) then on i else 0) → compassref11_Out.j1 op' on' oc' (v : Int) g3 a (i : Int) X E H' K := fun {a} ha => by
      have hr : -(i : Int) - 1 ≤ a ∧ a ≤ i + 1 := by rw [ha]; split <;> omega
      refine compassref11_Out.j1_eq ?_
      unfold compassref11_Out.j1_t
      simp only [get_at e1, List.getElem?_cons_zero, List.getElem?_cons_succ, ldI_mk, ldS_mk]
      refine g.edgeT (by omega) (by omega) ?_
      rw [Int.toNat_natCast]
      refine bc (fun c2 => ?_) fun c2 => ?_
      · refine o.ixI (by omega) (by omega) ?_
        rw [Int.toNat_natCast, i64w (by omega) (by omega)]
        refine next ?_
        show _ = fout w on i v + _ - (if (w i).to = (v : Int) then on i else 0)
        rw [if_pos c2, ha]
      · refine next ?_
        show _ = fout w on i v + _ - (if (w i).to = (v : Int) then on i else 0)
        rw [if_neg c2, ha]; omega
    simp only [get_at e1, List.getElem?_cons_zero, List.getElem?_cons_succ, ldI_mk, ldS_mk]
    refine g.edgeF (by omega) (by omega) ?_
    rw [Int.toNat_natCast]
    refine bc (fun c1 => ?_) fun c1 => ?_
    · refine o.ixI (by omega) (by omega) ?_
      rw [Int.toNat_natCast, i64w (by omega) (by omega)]
      exact two (by rw [if_pos c1])
    · exact two (by rw [if_neg c1]; omega)
  · have hin : i = on' := by omega
    subst hin
    exact kk H' s1

/-- the least room along a way of edges with room for one is one -/
theorem rroom {N : Int} {rn ec lc : Nat} {ep lp' : Option Addr} {r : Nat → Edg} {l : List Nat} {H : Hp} {K : Int → Hp → Prop} (he : Rdr H ep rn r) (hl : Rdr H lp' l.length (lsF l)) (hn : l.length ≤ 1048576) (h0 : 0 < l.length) (hr : ∀ x ∈ l, x < rn ∧ (r x).cp = 1)
    (kk : ∀ H', Step (fun _ => False) H H' → K 1 H') : compassref11_room.call N ep rn ec lp' l.length lc E H K := by
  have at' : ∀ i, i < l.length → 0 ≤ lsF l i ∧ lsF l i < rn ∧ (r (lsF l i).toNat).cp = 1 := fun i hi => by
    rw [lsF_get hi, Int.toNat_natCast]
    obtain ⟨a, b⟩ := hr _ (List.getElem_mem hi)
    exact ⟨by omega, by omega, b⟩
  refine compassref11_room.of (compassref11_room.run_eq ?_)
  unfold compassref11_room.run_t
  refine nwk fun b1 H1 hb1 e1 s1 => ?_
  have g := he.keep s1 fun _ _ _ h => h
  have o := hl.keep s1 fun _ _ _ h => h
  simp only [get_at e1, List.getElem?_cons_zero, List.getElem?_cons_succ, ldI_mk, ldS_mk]
  refine o.ixI (by omega) (by omega) ?_
  have z := at' 0 h0
  refine g.edgeP11 (by exact z.1) (by exact z.2.1) ?_
  have ez : (r (lsF l (0 : Int).toNat).toNat).cp = 1 := z.2.2
  rw [ez]
  refine compassref11_room.l1_rule (fun p' n' c' r2 n5 k6 H' => p' = lp' ∧ n' = l.length ∧ c' = lc ∧ r2 = b1 ∧ n5 = 1 ∧ H' = H1 ∧ ∃ i : Nat, k6 = i ∧ 1 ≤ i ∧ i ≤ l.length) (fun p' n' c' r2 n5 k6 H' => l.length - k6.toNat) ?_ ⟨rfl, rfl, rfl, rfl, rfl, rfl, 1, rfl, by omega, by omega⟩
  rintro p' n' c' r2 n5 k6 H' ⟨rfl, rfl, rfl, rfl, rfl, rfl, i, rfl, hi1, hi⟩ X hX
  refine compassref11_room.b1_eq ?_
  unfold compassref11_room.b1_t
  refine bc (fun hlt => ?_) fun hge => kk _ s1
  simp only [get_at e1, List.getElem?_cons_zero, List.getElem?_cons_succ, ldI_mk, ldS_mk]
  refine o.ixI (by omega) (by omega) ?_
  rw [Int.toNat_natCast]
  have z := at' i (by omega)
  refine g.edgeP11 (by exact z.1) (by exact z.2.1) ?_
  rw [z.2.2]
  refine bc (fun h => by omega) fun _ => ?_
  refine compassref11_room.j1_eq ?_
  unfold compassref11_room.j1_t
  rw [i64w (by omega) (by omega)]
  exact hX _ _ _ _ _ _ _ ⟨rfl, rfl, rfl, rfl, rfl, rfl, i + 1, by omega, by omega, by omega⟩ (by omega)

/-- the amounts with one more along a way -/
theorem rchange {m oc lc : Nat} {op lp' : Option Addr} {on : Nat → Int} {l : List Nat} {H : Hp} {K : Option Addr → Nat → Nat → Hp → Prop} (ho : Row H op m oc on) (hl : Rdr H lp' l.length (lsF l)) (hm : m ≤ 1048576) (hn : l.length ≤ 1048576) (hx : ∀ x ∈ l, x / 2 < m) (hb : ∀ i, -1048576 ≤ on i ∧ on i ≤ 1048576)
    (kk : ∀ H' p c, Step (fun _ => False) H H' → Row H' p m c (l.foldl chg on) → (∀ y, fpS p y → H y = none) → K p m c H') : compassref11_change.call op m oc lp' l.length lc 1 E H K := by
  refine compassref11_change.of (compassref11_change.run_eq ?_)
  unfold compassref11_change.run_t
  refine nwk fun b1 H1 hb1 e1 s1 => ?_
  refine Rdr.dupZ (α := Int) (ho.keep s1 fun _ _ h => h).rdr (ho.slAt.keep s1) e1 rfl rfl (by omega) (by omega) fun p2 c2 H2 r2 s2 f2 => ?_
  have s02 : Step (fun _ => False) H H2 := s1.own s2 fun y hy => hy ▸ hb1
  have f2' : ∀ y, fpS p2 y → H y = none := fun y hy => (f2 y hy).elim (fun h => h ▸ hb1) (s1.mono y)
  have bndF : ∀ (i : Nat) (j : Nat), -1048576 - (i : Int) ≤ (l.take i).foldl chg on j ∧ (l.take i).foldl chg on j ≤ 1048576 + i := fun i => by
    induction i with
    | zero => intro j; have := hb j; show _ ≤ on j ∧ on j ≤ _; omega
    | succ i ih =>
      intro j
      by_cases hi : i < l.length
      · rw [List.take_succ_eq_append_getElem hi, List.foldl_append]
        show _ ≤ chg ((l.take i).foldl chg on) l[i] j ∧ chg ((l.take i).foldl chg on) l[i] j ≤ _
        rw [chg_at]
        by_cases ej : j = l[i] / 2
        · rw [ej, upf_same]
          have := ih (l[i] / 2)
          split <;> omega
        · rw [upf_ne ej]; have := ih j; omega
      · have := ih j
        rw [List.take_of_length_le (by omega)] at this ⊢
        omega
  refine compassref11_change.l1_rule (fun p' n' c' mu op' on' oc' k8 H' => p' = lp' ∧ n' = l.length ∧ c' = lc ∧ mu = 1 ∧ op' = p2 ∧ on' = m ∧ oc' = c2 ∧ ∃ i : Nat, k8 = i ∧ i ≤ l.length ∧ Step (fpS p2) H2 H' ∧ Row H' p2 m c2 ((l.take i).foldl chg on)) (fun p' n' c' mu op' on' oc' k8 H' => l.length - k8.toNat) ?_ ⟨rfl, rfl, rfl, rfl, rfl, rfl, rfl, 0, rfl, Nat.zero_le _, .refl, r2⟩
  rintro p' n' c' mu op' on' oc' k8 H3 ⟨rfl, rfl, rfl, rfl, rfl, rfl, rfl, i, rfl, hi, s3, r3⟩ X hX
  have s03 := s02.own s3 f2'
  have o3 := hl.keep s03 fun _ _ _ h => h
  refine compassref11_change.b1_eq ?_
  unfold compassref11_change.b1_t
  refine bc (fun hlt => ?_) fun hge => ?_
  · have hil : i < l.length := by omega
    have hxi := hx _ (List.getElem_mem hil)
    have eq1 : (l.take (i + 1)).foldl chg on = chg ((l.take i).foldl chg on) l[i] := by
      rw [List.take_succ_eq_append_getElem hil, List.foldl_append]; rfl
    have eg : lsF l (i : Int).toNat = ((l[i] : Nat) : Int) := by rw [Int.toNat_natCast, lsF_get hil]
    have em : Int.tmod ((l[i] : Nat) : Int) 2 = ((l[i] % 2 : Nat) : Int) := by rw [Int.tmod_eq_emod_of_nonneg (by omega)]; omega
    have ed : Int.tdiv ((l[i] : Nat) : Int) 2 = ((l[i] / 2 : Nat) : Int) := by rw [Int.tdiv_eq_ediv_of_nonneg (by omega)]; omega
    have bi := bndF i (l[i] / 2)
    have next : ∀ {H5 : Hp}, Step (fpS op') H2 H5 → Row H5 op' on' oc' ((l.take (i + 1)).foldl chg on) → compassref11_change.j1 p' l.length c' 1 op' on' oc' (i : Int) X E H5 K := fun {H5} s5 r5 => by
      refine compassref11_change.j1_eq ?_
      unfold compassref11_change.j1_t
      rw [i64w (by omega) (by omega)]
      exact hX _ _ _ _ _ _ _ _ _ ⟨rfl, rfl, rfl, rfl, rfl, rfl, rfl, i + 1, by omega, by omega, s5, r5⟩ (by omega)
    refine o3.ixI (by omega) (by omega) ?_
    rw [eg, em]
    refine ⟨by decide, ?_⟩
    refine bc (fun h2 => ?_) fun h2 => ?_
    · refine o3.ixI (by omega) (by omega) ?_
      rw [eg, ed, i64w (n := ((l[i] / 2 : Nat) : Int)) (by omega) (by omega)]
      refine ⟨by decide, ?_⟩
      refine r3.ixI (by omega) (by omega) ?_
      rw [Int.toNat_natCast, i64w (by omega) (by omega)]
      refine r3.stI (by omega) (by omega) _ fun H4 r4 s4 => next (s3.trans s4 fun _ h => .inl h) ?_
      rw [eq1, chg_at, if_pos (by omega)]
      rw [Int.toNat_natCast] at r4
      exact r4
    · refine o3.ixI (by omega) (by omega) ?_
      rw [eg, ed, i64w (n := ((l[i] / 2 : Nat) : Int)) (by omega) (by omega)]
      refine ⟨by decide, ?_⟩
      refine r3.ixI (by omega) (by omega) ?_
      rw [Int.toNat_natCast, i64w (by omega) (by omega)]
      refine r3.stI (by omega) (by omega) _ fun H4 r4 s4 => next (s3.trans s4 fun _ h => .inl h) ?_
      rw [eq1, chg_at, if_neg (by omega)]
      rw [Int.toNat_natCast] at r4
      exact r4
  · have hil : i = l.length := by omega
    subst hil
    rw [List.take_length] at r3
    exact kk H3 op' oc' s03 r3 f2'

/-- the residual: two edges for each -/
theorem rresid {N : Int} {m ec oc : Nat} {ep op : Option Addr} {w : Nat → Edg} {on : Nat → Int} {H : Hp} {K : Int → Option Addr → Nat → Nat → Hp → Prop} (he : Rdr H ep m w) (ho : Rdr H op m on) (hm : m ≤ 100000) (hb : ∀ i, on i = 0 ∨ on i = 1) (hw : ∀ i, i < m → (w i).cp = 1 ∧ (w i).co = 0)
    (kk : ∀ (H' : Hp) (p : Option Addr) (c : Nat) (f : Nat → Edg), Step (fun _ => False) H H' → Row H' p (2 * m) c f → (∀ x, x < 2 * m → f x = (rfr w x, rto w x, rcp on x, 0)) → (∀ y, fpS p y → H y = none) → K N p (2 * m) c H') : compassref11_Residual.call N ep m ec op m oc E H K := by
  refine compassref11_Residual.of (compassref11_Residual.run_eq ?_)
  unfold compassref11_Residual.run_t
  refine nwk fun b1 H1 hb1 e1 s1 => ?_
  refine nwk fun b2 H2 hb2 e2 s2 => ?_
  have e12 := s2.keep _ _ e1 fun h => h
  simp only [get_at e12, List.getElem?_cons_zero, List.getElem?_cons_succ, ldI_mk, ldS_mk]
  refine nwst rfl rfl fun b3 H4 hb3 e3 s4 => ?_
  have e14 := s4.keep _ _ e12 fun h => h
  have e24 := s4.keep _ _ e2 fun h => h
  have s04 := (s1.and s2).and s4
  have f2 : H b2 = none := s1.mono _ hb2
  have f3 : H b3 = none := (s1.and s2).mono _ hb3
  have d12 : b2 ≠ b1 := fun h => by rw [h, e1] at hb2; cases hb2
  have d13 : b3 ≠ b1 := fun h => by rw [h, e12] at hb3; cases hb3
  have d23 : b3 ≠ b2 := fun h => by rw [h, e2] at hb3; cases hb3
  refine compassref11_Residual.l1_rule (fun op' on' oc' g2 t4 out5 i6 H' => op' = op ∧ on' = m ∧ oc' = oc ∧ g2 = b1 ∧ t4 = b2 ∧ out5 = b3 ∧ ∃ (i : Nat) (p' : Option Addr) (c' : Nat) (e' : Nat → Edg), i6 = i ∧ i ≤ m ∧ Step (fun _ => False) H H' ∧ H' b1 = some ⟨[.int .i64 N, .slice ep m ec], 24⟩ ∧ H' b2 = some ⟨[.int .i64 0, .slice none 0 0], 24⟩ ∧ H' b3 = some ⟨[.int .i64 N, .slice p' (2 * i) c'], 24⟩ ∧
      Row H' p' (2 * i) c' e' ∧ (∀ x, x < 2 * i → e' x = (rfr w x, rto w x, rcp on x, 0)) ∧ (∀ y, fpS p' y → H y = none) ∧ ¬ fpS p' b1 ∧ ¬ fpS p' b2 ∧ ¬ fpS p' b3)
    (fun op' on' oc' g2 t4 out5 i6 H' => m - i6.toNat) ?_ ⟨rfl, rfl, rfl, rfl, rfl, rfl, 0, none, 0, fun _ => (0, 0, 0, 0), rfl, Nat.zero_le _, s04, e14, e24, e3, Row.nil, fun j hj => by omega, fun y h => by rw [fpS_none] at h; exact h.elim, fun h => by rw [fpS_none] at h; exact h.elim, fun h => by rw [fpS_none] at h; exact h.elim, fun h => by rw [fpS_none] at h; exact h.elim⟩
  rintro op' on' oc' g2 t4 out5 i6 H5 ⟨rfl, rfl, rfl, rfl, rfl, rfl, i, p', c', e', rfl, hi, s5, q1, q2, q3, r5, hee, ff, n1, n2, n3⟩ X hX
  refine compassref11_Residual.b1_eq ?_
  unfold compassref11_Residual.b1_t
  simp only [get_at q1, List.getElem?_cons_zero, List.getElem?_cons_succ, ldI_mk, ldS_mk]
  refine bc (fun hlt => ?_) fun hge => ?_
  · have him : i < on' := by omega
    obtain ⟨w1, w2⟩ := hw i him
    have hbi := hb i
    try simp only [get_at q1, List.getElem?_cons_zero, List.getElem?_cons_succ, ldI_mk, ldS_mk]
    refine (he.keep s5 fun _ _ _ h => h).edge (by omega) (by omega) ?_
    rw [Int.toNat_natCast]
    refine nwst rfl rfl fun b6 H6 hb6 e6 s6 => ?_
    have q16 := s6.keep _ _ q1 fun h => h
    have q26 := s6.keep _ _ q2 fun h => h
    have q36 := s6.keep _ _ q3 fun h => h
    have s06 := s5.and s6
    simp only [get_at q36, get_at e6, List.getElem?_cons_zero, List.getElem?_cons_succ, ldI_mk, ldS_mk]
    refine (ho.keep s06 fun _ _ _ h => h).ixI (by omega) (by omega) ?_
    rw [Int.toNat_natCast, w1, w2, i64w (by omega) (by omega)]
    have n6 : ¬ fpS p' b6 := fun h => r5.live h hb6
    refine Row.appW (α := Edg) (r5.keep s6 fun _ _ h => h) (((w i).fr, (w i).to, 1 - on i, 0) : Edg) rfl (by omega) (by omega) fun p7 c7 H7 r7 s7 f7 => ?_
    have live6 : ∀ {b : Nat} {x : Blk}, H6 b = some x → H6 b ≠ none := fun h h' => by rw [h] at h'; cases h'
    have q17 := s7.keep _ _ q16 n1
    have q27 := s7.keep _ _ q26 n2
    have q37 := s7.keep _ _ q36 n3
    have e67 := s7.keep _ _ e6 n6
    have m1 : ¬ fpS p7 g2 := fun h => (f7 _ h).elim n1 (live6 q16)
    have m2 : ¬ fpS p7 t4 := fun h => (f7 _ h).elim n2 (live6 q26)
    have m3 : ¬ fpS p7 out5 := fun h => (f7 _ h).elim n3 (live6 q36)
    have m6 : ¬ fpS p7 b6 := fun h => (f7 _ h).elim n6 (live6 e6)
    have ff7 : ∀ y, fpS p7 y → H y = none := fun y hy => (f7 y hy).elim (ff y) (s06.mono y)
    have d6 : b6 ≠ out5 := fun h => by rw [h, q3] at hb6; cases hb6
    refine stp q37 (by simp) rfl fun H8 q38 s8 => ?_
    replace q38 : H8 out5 = some ⟨[.int .i64 N, .slice p7 (2 * i + 1) c7], 24⟩ := q38
    have e68 := s8.keep _ _ e67 d6
    have q18 := s8.keep _ _ q17 fun h => d13 h.symm
    have q28 := s8.keep _ _ q27 fun h => d23 h.symm
    have s07 := s06.own s7 ff
    have s08 := s07.own s8 fun y hy => hy ▸ f3
    have r8 := r7.keep s8 fun y hy h => m3 (h ▸ hy)
    simp only [get_at q38, get_at e68, List.getElem?_cons_zero, List.getElem?_cons_succ, ldI_mk, ldS_mk]
    refine (ho.keep s08 fun _ _ _ h => h).ixI (by omega) (by omega) ?_
    rw [Int.toNat_natCast, w2, i64w (by omega) (by omega)]
    refine Row.appW (α := Edg) r8 (((w i).to, (w i).fr, on i, 0) : Edg) rfl (by omega) (by omega) fun p9 c9 H9 r9 s9 f9 => ?_
    have live8 : ∀ {b : Nat} {x : Blk}, H8 b = some x → H8 b ≠ none := fun h h' => by rw [h] at h'; cases h'
    have q19 := s9.keep _ _ q18 m1
    have q29 := s9.keep _ _ q28 m2
    have q39 := s9.keep _ _ q38 m3
    have o1 : ¬ fpS p9 g2 := fun h => (f9 _ h).elim m1 (live8 q18)
    have o2 : ¬ fpS p9 t4 := fun h => (f9 _ h).elim m2 (live8 q28)
    have o3 : ¬ fpS p9 out5 := fun h => (f9 _ h).elim m3 (live8 q38)
    refine stp q39 (by simp) rfl fun H10 q310 s10 => ?_
    replace q310 : H10 out5 = some ⟨[.int .i64 N, .slice p9 (2 * i + 1 + 1) c9], 24⟩ := q310
    rw [i64w (by omega) (by omega)]
    refine hX _ _ _ _ _ _ _ _ ⟨rfl, rfl, rfl, rfl, rfl, rfl, i + 1, p9, c9, _, by omega, by omega, (s08.own s9 ff7).own s10 (fun y hy => hy ▸ f3), s10.keep _ _ q19 (fun h => d13 h.symm), s10.keep _ _ q29 (fun h => d23 h.symm), q310, r9.keep s10 (fun y hy h => o3 (h ▸ hy)), fun x hx => ?_, fun y hy => (f9 y hy).elim (ff7 y) (s08.mono y), o1, o2, o3⟩ (by omega)
    by_cases e1x : x = 2 * i + 1
    · rw [e1x, upf_same]
      unfold rfr rto rcp
      rw [if_neg (by omega), if_neg (by omega), if_neg (by omega), show (2 * i + 1) / 2 = i by omega]
    · rw [upf_ne e1x]
      by_cases e2x : x = 2 * i
      · rw [e2x, upf_same]
        unfold rfr rto rcp
        rw [if_pos (by omega), if_pos (by omega), if_pos (by omega), show 2 * i / 2 = i by omega]
      · rw [upf_ne e2x]; exact hee x (by omega)
  · have hin : i = on' := by omega
    subst hin
    refine compassref11_Residual.j1_eq ?_
    unfold compassref11_Residual.j1_t
    simp only [get_at q3, List.getElem?_cons_zero, List.getElem?_cons_succ, ldI_mk, ldS_mk]
    refine stk q2 rfl rfl fun H6 q6 s6 => ?_
    simp only [get_at q6, List.getElem?_cons_zero, List.getElem?_cons_succ, ldI_mk, ldS_mk]
    exact kk H6 p' c' e' (s5.own s6 fun y hy => hy ▸ f2) (r5.keep s6 fun y hy h => n2 (h ▸ hy)) hee ff
end
end Go.Mz

/-
  The document's functions of layer 11, walked, more: reach.
-/
namespace Go.Mz

/-- what is come to, and by which edge -/
structure Rc (r : Nat → Edg) (rn N s : Nat) (via : Nat → Int) (rk : Nat → Nat) (cc : Nat) : Prop where
  src : via s = -1
  each : ∀ v, v < N → v ≠ s → via v = -2 ∨ ∃ x u : Nat, via v = x ∧ x < rn ∧ (r x).to = v ∧ (r x).fr = u ∧ u < N ∧ 0 < (r x).cp ∧ -1 ≤ via u ∧ rk u < rk v
  low : ∀ v, v < N → -1 ≤ via v → rk v < cc

/-- nothing more can be come to -/
def ClR (r : Nat → Edg) (rn : Nat) (via : Nat → Int) : Prop := ∀ x, x < rn → 0 < (r x).cp → -1 ≤ via (r x).fr.toNat → via (r x).to.toNat ≠ -2

section
variable {r : Nat → Edg} {rn N s cc : Nat} {via : Nat → Int} {rk : Nat → Nat}

theorem Rc.two (h : Rc r rn N s via rk cc) {v : Nat} (hv : v < N) : via v = -2 ∨ -1 ≤ via v := by
  by_cases e : v = s
  · subst e; rw [h.src]; exact .inr (Int.le_refl _)
  · rcases h.each v hv e with h | ⟨x, u, h1, _⟩
    · exact .inl h
    · exact .inr (by omega)

theorem Rc.add (h : Rc r rn N s via rk cc) {x u v : Nat} (hx : x < rn) (hf : (r x).fr = u) (ht : (r x).to = v) (hu : u < N) (hv : v < N) (hc : 0 < (r x).cp) (h1 : -1 ≤ via u) (h2 : via v = -2) : Rc r rn N s (upf via v x) (upf rk v cc) (cc + 1) := by
  have hvs : v ≠ s := fun e => by rw [e, h.src] at h2; omega
  have huv : u ≠ v := fun e => by rw [e] at h1; omega
  refine ⟨by rw [upf_ne (fun e => hvs e.symm)]; exact h.src, fun y hy hne => ?_, fun y hy hy1 => ?_⟩
  · by_cases e : y = v
    · subst e
      refine .inr ⟨x, u, upf_same, hx, ht, hf, hu, hc, ?_, ?_⟩
      · rw [upf_ne huv]; exact h1
      · rw [upf_ne huv, upf_same]; exact h.low u hu h1
    · rw [upf_ne e, upf_ne e]
      rcases h.each y hy hne with h3 | ⟨x', u', a1, a2, a3, a4, a5, a6, a7, a8⟩
      · exact .inl h3
      · have hu' : u' ≠ v := fun e => by rw [e] at a7; omega
        exact .inr ⟨x', u', a1, a2, a3, a4, a5, a6, by rw [upf_ne hu']; exact a7, by rw [upf_ne hu']; exact a8⟩
  · by_cases e : y = v
    · subst e; rw [upf_same]; omega
    · rw [upf_ne e] at hy1 ⊢; have := h.low y hy hy1; omega

/-- how many are come to -/
def rcn (via : Nat → Int) (N : Nat) : Nat := cnt (fun v => decide (-1 ≤ via v)) N

theorem rcn_add {v : Nat} {x : Nat} (hv : v < N) (h2 : via v = -2) : rcn (upf via v x) N = rcn via N + 1 := by
  unfold rcn
  refine cnt_less (b := v) hv (decide_eq_true (by rw [upf_same]; omega)) (decide_eq_false (by omega)) fun y hy hne => ?_
  rw [upf_ne hne]
end

section
variable {E : Value → Hp → Prop}

theorem rreach {N rn s ec : Nat} {ep : Option Addr} {r : Nat → Edg} {H : Hp} {K : Option Addr → Nat → Nat → Hp → Prop} (he : Rdr H ep rn r) (hN : N ≤ 1048576) (hrn : rn ≤ 1048576) (hs : s < N) (hr : ∀ x, x < rn → 0 ≤ (r x).fr ∧ (r x).fr < N ∧ 0 ≤ (r x).to ∧ (r x).to < N)
    (kk : ∀ H' p c via rk cc, Step (fun _ => False) H H' → Row H' p N c via → (∀ y, fpS p y → H y = none) → Rc r rn N s via rk cc → ClR r rn via → K p N c H') : compassref11_reach.call (N : Int) ep rn ec (s : Int) E H K := by
  refine compassref11_reach.of (compassref11_reach.run_eq ?_)
  unfold compassref11_reach.run_t
  refine nwk fun b1 H1 hb1 e1 s1 => ?_
  simp only [get_at e1, List.getElem?_cons_zero, List.getElem?_cons_succ, ldI_mk, ldS_mk]
  refine Row.mkI (by omega) (by omega) fun b2 H2 hb2 r2 s2 => ?_
  rw [Int.toNat_natCast] at r2 ⊢
  have d12 : b1 ≠ b2 := fun h => by rw [h, hb2] at e1; cases e1
  have e12 := s2.keep _ _ e1 fun h => h
  have fb2 : H b2 = none := s1.mono _ hb2
  have s02 := s1.and s2
  refine compassref11_reach.l1_rule (fun s' g p' n' c' v6 H' => s' = (s : Int) ∧ g = b1 ∧ p' = some ⟨b2, 0, none⟩ ∧ n' = N ∧ c' = N ∧ ∃ (i : Nat) (f : Nat → Int), v6 = i ∧ i ≤ N ∧ Step (fun y => y = b2) H2 H' ∧ Row H' (some ⟨b2, 0, none⟩) N N f ∧ ∀ v, v < i → f v = -2)
    (fun s' g p' n' c' v6 H' => N - v6.toNat) ?_ ⟨rfl, rfl, rfl, rfl, rfl, 0, _, rfl, Nat.zero_le _, .refl, r2, fun v hv => by omega⟩
  rintro s' g p' n' c' v6 H3 ⟨rfl, rfl, rfl, rfl, rfl, i, f, rfl, hi, s3, r3, hf⟩ X hX
  have e13 := s3.keep _ _ e12 d12
  refine compassref11_reach.b1_eq ?_
  unfold compassref11_reach.b1_t
  simp only [get_at e13, List.getElem?_cons_zero, List.getElem?_cons_succ, ldI_mk, ldS_mk]
  refine bc (fun hlt => ?_) fun hge => ?_
  · refine r3.stI (by omega) (by omega) _ fun H4 r4 s4 => ?_
    rw [i64w (by omega) (by omega)]
    refine hX _ _ _ _ _ _ _ ⟨rfl, rfl, rfl, rfl, rfl, i + 1, _, by omega, by omega, s3.trans s4 fun y hy => .inl (fpS_mk.1 hy), r4, fun v hv => ?_⟩ (by omega)
    rw [Int.toNat_natCast]
    by_cases ev : v = i
    · subst ev; rw [upf_same]
    · rw [upf_ne ev]; exact hf v (by omega)
  · clear hX
    have hiN : i = c' := by omega
    subst hiN
    refine compassref11_reach.j1_eq ?_
    unfold compassref11_reach.j1_t
    refine r3.stI (by omega) (by omega) _ fun H4 r4 s4 => ?_
    rw [Int.toNat_natCast] at r4
    have s24 : Step (fun y => y = b2) H2 H4 := s3.trans s4 fun y hy => .inl (fpS_mk.1 hy)
    have hst : Rc r rn i s (upf f s (-1)) (fun _ => 0) 1 := ⟨upf_same, fun v hv hne => .inl (by rw [upf_ne hne]; exact hf v hv), fun v _ _ => by omega⟩
    have hc0 : 1 ≤ rcn (upf f s (-1)) i := by
      have := cnt_less (p := fun v => decide (-1 ≤ upf f s (-1) v)) (q := fun v => decide (-1 ≤ upf f s (-1) v) && !decide (v = s)) hs (decide_eq_true (by rw [upf_same]; omega)) (by simp) fun y _ hne => by simp [hne]
      unfold rcn; omega
    refine compassref11_reach.l2_rule (fun g' p' n' c'' t7 H' => g' = g ∧ p' = some ⟨b2, 0, none⟩ ∧ n' = i ∧ c'' = i ∧ ∃ (t : Nat) (via : Nat → Int) (rk : Nat → Nat) (cc : Nat), t7 = t ∧ t ≤ i ∧ Step (fun y => y = b2) H2 H' ∧ Row H' (some ⟨b2, 0, none⟩) i i via ∧ Rc r rn i s via rk cc ∧ (ClR r rn via ∨ t + 1 ≤ rcn via i))
      (fun g' p' n' c'' t7 H' => i - t7.toNat) ?_ ⟨rfl, rfl, rfl, rfl, 0, _, _, _, rfl, Nat.zero_le _, s24, r4, hst, .inr hc0⟩
    rintro g' p' n' c'' t7 H5 ⟨rfl, rfl, rfl, rfl, t, via, rk, cc, rfl, ht, s5, r5, hR, hCl⟩ X hX
    have e15 := s5.keep _ _ e12 d12
    refine compassref11_reach.b2_eq ?_
    unfold compassref11_reach.b2_t
    simp only [get_at e15, List.getElem?_cons_zero, List.getElem?_cons_succ, ldI_mk, ldS_mk]
    refine bc (fun hlt2 => ?_) fun hge2 => ?_
    · refine compassref11_reach.l3_rule (fun g2 p2 n2 c2 t2 i8 H' => g2 = g' ∧ p2 = some ⟨b2, 0, none⟩ ∧ n2 = c'' ∧ c2 = c'' ∧ t2 = t ∧ ∃ (x : Nat) (via' : Nat → Int) (rk' : Nat → Nat) (cc' : Nat), i8 = x ∧ x ≤ rn ∧ Step (fun y => y = b2) H2 H' ∧ Row H' (some ⟨b2, 0, none⟩) c'' c'' via' ∧ Rc r rn c'' s via' rk' cc' ∧ (ClR r rn via → via' = via) ∧ ((via' = via ∧ ∀ y, y < x → 0 < (r y).cp → -1 ≤ via (r y).fr.toNat → via (r y).to.toNat ≠ -2) ∨ rcn via c'' + 1 ≤ rcn via' c''))
        (fun g2 p2 n2 c2 t2 i8 H' => rn - i8.toNat) ?_ ⟨rfl, rfl, rfl, rfl, rfl, 0, via, rk, cc, rfl, Nat.zero_le _, s5, r5, hR, fun _ => rfl, .inl ⟨rfl, fun y hy => by omega⟩⟩
      rintro g2 p2 n2 c2 t2 i8 H6 ⟨rfl, rfl, rfl, rfl, rfl, x, via', rk', cc', rfl, hx, s6, r6, hR', hsame, hprog⟩ Y hY
      have e16 := s6.keep _ _ e12 d12
      have s06 : Step (fun _ => False) H H6 := s02.own s6 fun y hy => hy ▸ fb2
      refine compassref11_reach.b3_eq ?_
      unfold compassref11_reach.b3_t
      simp only [get_at e16, List.getElem?_cons_zero, List.getElem?_cons_succ, ldI_mk, ldS_mk]
      refine bc (fun hlt3 => ?_) fun hge3 => ?_
      · have hxr : x < rn := by omega
        obtain ⟨a1, a2, a3, a4⟩ := hr x hxr
        try simp only [get_at e16, List.getElem?_cons_zero, List.getElem?_cons_succ, ldI_mk, ldS_mk]
        refine (he.keep s06 fun _ _ _ h => h).edge (by omega) (by omega) ?_
        rw [Int.toNat_natCast]
        refine nwst rfl rfl fun b7 H7 hb7 e7 s7 => ?_
        have r7 := r6.keep s7 fun _ _ h => h
        have s67 := s6.and s7
        simp only [get_at e7, List.getElem?_cons_zero, List.getElem?_cons_succ, ldI_mk, ldS_mk]
        have next : ∀ {H8 : Hp} {via8 : Nat → Int} {rk8 : Nat → Nat} {cc8 : Nat}, Step (fun y => y = b2) H2 H8 → Row H8 (some ⟨b2, 0, none⟩) c2 c2 via8 → Rc r rn c2 s via8 rk8 cc8 → (ClR r rn via → via8 = via) → ((via8 = via ∧ ∀ y, y < x + 1 → 0 < (r y).cp → -1 ≤ via (r y).fr.toNat → via (r y).to.toNat ≠ -2) ∨ rcn via c2 + 1 ≤ rcn via8 c2) → compassref11_reach.j2 g2 (some ⟨b2, 0, none⟩) c2 c2 (t : Int) (x : Int) X Y E H8 K := by
          intro H8 via8 rk8 cc8 s8 r8 hR8 hs8 hp8
          refine compassref11_reach.j2_eq ?_
          unfold compassref11_reach.j2_t
          rw [i64w (by omega) (by omega)]
          exact hY _ _ _ _ _ _ _ ⟨rfl, rfl, rfl, rfl, rfl, x + 1, via8, rk8, cc8, by omega, by omega, s8, r8, hR8, hs8, hp8⟩ (by omega)
        have skip : (0 < (r x).cp → -1 ≤ via' (r x).fr.toNat → via' (r x).to.toNat ≠ -2) → compassref11_reach.j2 g2 (some ⟨b2, 0, none⟩) c2 c2 (t : Int) (x : Int) X Y E H7 K := fun hno => by
          refine next s67 r7 hR' hsame ?_
          rcases hprog with ⟨h1, h2⟩ | h
          · refine .inl ⟨h1, fun y hy => ?_⟩
            by_cases ey : y = x
            · subst ey; rw [h1] at hno; exact hno
            · exact h2 y (by omega)
          · exact .inr h
        refine bc (fun c1 => ?_) fun c1 => skip fun h => (c1 h).elim
        try simp only [get_at e7, List.getElem?_cons_zero, List.getElem?_cons_succ, ldI_mk, ldS_mk]
        refine r7.ixI (by omega) (by omega) ?_
        refine bc (fun c3 => ?_) fun c3 => skip fun _ h => (c3 h).elim
        try simp only [get_at e7, List.getElem?_cons_zero, List.getElem?_cons_succ, ldI_mk, ldS_mk]
        refine r7.ixI (by omega) (by omega) ?_
        refine bc (fun c4 => ?_) fun c4 => skip fun _ _ h => (c4 h).elim
        try simp only [get_at e7, List.getElem?_cons_zero, List.getElem?_cons_succ, ldI_mk, ldS_mk]
        refine r7.stI (by omega) (by omega) _ fun H8 r8 s8 => ?_
        have hadd := hR'.add (x := x) (u := (r x).fr.toNat) (v := (r x).to.toNat) hxr (by omega) (by omega) (by omega) (by omega) c1 c3 c4
        have hcn := rcn_add (N := c2) (x := x) (v := (r x).to.toNat) (by omega) c4
        refine next (s67.trans s8 fun y hy => .inl (fpS_mk.1 hy)) r8 hadd (fun hcl => ?_) (.inr ?_)
        · have hv := hsame hcl
          rw [hv] at c3 c4
          exact (hcl x hxr c1 c3 c4).elim
        · rcases hprog with ⟨h1, _⟩ | h
          · rw [h1] at hcn ⊢; omega
          · omega
      · clear hY
        have hxr : x = rn := by omega
        subst hxr
        refine compassref11_reach.j3_eq ?_
        unfold compassref11_reach.j3_t
        rw [i64w (by omega) (by omega)]
        refine hX _ _ _ _ _ _ ⟨rfl, rfl, rfl, rfl, t + 1, via', rk', cc', by omega, by omega, s6, r6, hR', ?_⟩ (by omega)
        rcases hprog with ⟨h1, h2⟩ | h
        · left; rw [h1]; exact fun y hy => h2 y hy
        · rcases hCl with hcl | hcl
          · left; rw [hsame hcl]; exact hcl
          · right; omega
    · clear hX
      refine kk H5 _ _ via rk cc (s02.own s5 fun y hy => hy ▸ fb2) r5 (fun y hy => by rw [fpS_mk.1 hy]; exact fb2) hR ?_
      rcases hCl with h | h
      · exact h
      · have := cnt_le (fun v => decide (-1 ≤ via v)) c''
        unfold rcn at h
        omega
end
end Go.Mz

/-
  The document's functions of layer 11, walked, more: MaxFlow, for edges with room for one.
-/
namespace Go.Mz

theorem wy_snoc {w : Nat → Edg} {v : Int} {x : Nat} : ∀ {l : List Nat} {t : Int}, Wy w v t l → rto w x = v → Wy w (rfr w x) t (l ++ [x])
  | [], t, h, hx => by
    have : t = v := h
    exact ⟨hx.trans this.symm, rfl⟩
  | y :: l, t, h, hx => ⟨h.1, wy_snoc h.2 hx⟩

theorem fout_bnd {w : Nat → Edg} {on : Nat → Int} (hb : ∀ i, on i = 0 ∨ on i = 1) (v : Int) : ∀ i : Nat, - (i : Int) ≤ fout w on i v ∧ fout w on i v ≤ i := fun i => by
  induction i with
  | zero => exact ⟨Int.le_refl _, Int.le_refl _⟩
  | succ i ih =>
    have := hb i
    show _ ≤ fout w on i v + _ - _ ∧ fout w on i v + _ - _ ≤ _
    split <;> split <;> omega

theorem nodup_le {l : List Nat} {m : Nat} (h : l.Nodup) (hm : ∀ x ∈ l, x < m) : l.length ≤ m := by
  have := cnt_mem (l := l) (S := fun v => decide (v ∈ l)) (n := m) h fun v => ⟨fun hv => ⟨decide_eq_true hv, hm v hv⟩, fun hv => of_decide_eq_true hv.1⟩
  rw [← this]; exact cnt_le _ _

theorem fout_zero {w : Nat → Edg} {v : Int} : ∀ {m : Nat}, fout w (fun _ => 0) m v = 0
  | 0 => rfl
  | m + 1 => by
    show fout w (fun _ => 0) m v + _ - _ = 0
    rw [fout_zero]; split <;> split <;> rfl

/-- the state before a round: the amounts, and how much may still be added -/
structure MfJ (H0 H : Hp) (w : Nat → Edg) (m N s t : Nat) (p : Option Addr) (c : Nat) (k : Nat) : Prop where
  ex : ∃ on : Nat → Int, Row H p m c on ∧ Flo w m N s t on ∧ ((m : Int) - fout w on m (s : Int)).toNat = k
  st : Step (fun _ => False) H0 H
  fr : ∀ y, fpS p y → H0 y = none

section
variable {E : Value → Hp → Prop}

theorem rmaxflow {N m s t ec : Nat} {ep : Option Addr} {w : Nat → Edg} {H : Hp} {K : Option Addr → Nat → Nat → Option Addr → Nat → Nat → Hp → Prop} (he : Rdr H ep m w) (hN : N ≤ 100000) (hm : m ≤ 100000) (hs : s < N) (ht : t < N) (hst : s ≠ t) (hw : ∀ i, i < m → 0 ≤ (w i).fr ∧ (w i).fr < N ∧ 0 ≤ (w i).to ∧ (w i).to < N) (hw1 : ∀ i, i < m → (w i).cp = 1 ∧ (w i).co = 0)
    (kk : ∀ (H' : Hp) (p : Option Addr) (c : Nat) (sp : Option Addr) (sc : Nat) (on : Nat → Int) (S : Nat → Bool), Step (fun _ => False) H H' → Row H' p m c on → Flo w m N s t on → S s = true → S t = false → (∀ x, x / 2 < m → 0 < rcp on x → S (rfr w x).toNat = true → S (rto w x).toNat = true) → K p m c sp N sc H') : compassref11_MaxFlow.call (N : Int) ep m ec (s : Int) (t : Int) E H K := by
  refine compassref11_MaxFlow.of (compassref11_MaxFlow.run_eq ?_)
  unfold compassref11_MaxFlow.run_t
  refine nwk fun b1 H1 hb1 e1 s1 => ?_
  simp only [get_at e1, List.getElem?_cons_zero, List.getElem?_cons_succ, ldI_mk, ldS_mk]
  refine Row.mkI (by omega) (by omega) fun b2 H2 hb2 r2 s2 => ?_
  rw [Int.toNat_natCast] at r2 ⊢
  have hflo0 : Flo w m N s t fun _ => 0 := ⟨fun i => .inl rfl, fun v _ _ _ => fout_zero⟩
  refine compassref11_MaxFlow.l1_rule (fun s' t' g p' n' c' H' => s' = (s : Int) ∧ t' = (t : Int) ∧ g = b1 ∧ n' = m ∧ ∃ k, MfJ H1 H' w m N s t p' c' k)
    (fun s' t' g p' n' c' H' => gm (MfJ H1 H' w m N s t p' c')) ?_ ⟨rfl, rfl, rfl, rfl, _, ⟨_, r2, hflo0, rfl⟩, s2, fun y hy => by rw [fpS_mk.1 hy]; exact hb2⟩
  rintro s' t' g p' n' c' H3 ⟨rfl, rfl, rfl, rfl, hJ⟩ X hX
  obtain ⟨k0, hJ0⟩ := hJ
  have hJg := (gm_of hJ0).1
  generalize hkk : gm (MfJ H1 H3 w n' N s t p' c') = kq at hJg hX
  obtain ⟨⟨on, r3, hF, hk⟩, s3, f3⟩ := hJg
  have e13 := s3.keep _ _ e1 fun h => h
  have s03 := s1.and s3
  refine compassref11_MaxFlow.b1_eq ?_
  unfold compassref11_MaxFlow.b1_t
  simp only [get_at e13, List.getElem?_cons_zero, List.getElem?_cons_succ, ldI_mk, ldS_mk]
  refine rresid (he.keep s03 fun _ _ _ h => h) r3.rdr hm hF.bnd hw1 fun H4 p4 c4 f4 s4 r4 hf4 ff4 => ?_
  refine nwst rfl rfl fun b5 H5 hb5 e5 s5 => ?_
  have r5 := r4.keep s5 fun _ _ h => h
  simp only [get_at e5, List.getElem?_cons_zero, List.getElem?_cons_succ, ldI_mk, ldS_mk]
  have s35 := s4.and s5
  -- the residual's edges
  have hre : ∀ x, x < 2 * n' → 0 ≤ (f4 x).fr ∧ (f4 x).fr < N ∧ 0 ≤ (f4 x).to ∧ (f4 x).to < N := fun x hx => by
    rw [hf4 x hx]
    obtain ⟨a1, a2, a3, a4⟩ := hw (x / 2) (by omega)
    show 0 ≤ rfr w x ∧ rfr w x < N ∧ 0 ≤ rto w x ∧ rto w x < N
    unfold rfr rto
    by_cases h : x % 2 = 0
    · rw [if_pos h, if_pos h]; exact ⟨a1, a2, a3, a4⟩
    · rw [if_neg h, if_neg h]; exact ⟨a3, a4, a1, a2⟩
  refine rreach r5.rdr (by omega) (by omega) hs hre fun H6 p6 c6 via rk cc s6 r6 ff6 hR hCl => ?_
  have s36 := s35.and s6
  have s06 := s03.and s36
  have e16 := s36.keep _ _ e13 fun h => h
  have e56 := s6.keep _ _ e5 fun h => h
  have r36 := r3.keep s36 fun _ _ h => h
  have r46 := r5.keep s6 fun _ _ h => h
  refine r6.ixI (by omega) (by omega) ?_
  rw [Int.toNat_natCast]
  refine bc (fun hno => ?_) fun hyes => ?_
  · -- no way is left
    clear hX
    simp only [get_at e16, List.getElem?_cons_zero, List.getElem?_cons_succ, ldI_mk, ldS_mk]
    refine Row.mkB (by omega) (by omega) fun b7 H7 hb7 r7 s7 => ?_
    rw [Int.toNat_natCast] at r7 ⊢
    have d17 : g ≠ b7 := fun h => by rw [h, hb7] at e16; cases e16
    have n37 : ∀ y, fpS p' y → y ≠ b7 := fun y hy h => r36.live hy (h ▸ hb7)
    have n67 : ∀ y, fpS p6 y → y ≠ b7 := fun y hy h => r6.live hy (h ▸ hb7)
    refine compassref11_MaxFlow.l2_rule (fun g' op on' oc vp vn vc qp qn qc v12 H' => g' = g ∧ op = p' ∧ on' = n' ∧ oc = c' ∧ vp = p6 ∧ vn = N ∧ vc = c6 ∧ qp = some ⟨b7, 0, none⟩ ∧ qn = N ∧ qc = N ∧ ∃ (v : Nat) (q : Nat → Bool), v12 = v ∧ v ≤ N ∧ Step (fun y => y = b7) H7 H' ∧ Row H' (some ⟨b7, 0, none⟩) N N q)
      (fun g' op on' oc vp vn vc qp qn qc v12 H' => N - v12.toNat) ?_ ⟨rfl, rfl, rfl, rfl, rfl, rfl, rfl, rfl, rfl, rfl, 0, _, rfl, Nat.zero_le _, .refl, r7⟩
    rintro g' op on' oc vp vn vc qp qn qc v12 H8 ⟨rfl, rfl, rfl, rfl, rfl, rfl, rfl, rfl, rfl, rfl, v, q, rfl, hv, s8, r8⟩ Y hY
    have e18 := s8.keep _ _ (s7.keep _ _ e16 fun h => h) d17
    refine compassref11_MaxFlow.b2_eq ?_
    unfold compassref11_MaxFlow.b2_t
    simp only [get_at e18, List.getElem?_cons_zero, List.getElem?_cons_succ, ldI_mk, ldS_mk]
    refine bc (fun hlt => ?_) fun hge => ?_
    · refine ((r6.keep s7 fun _ _ h => h).keep s8 n67).ixI (by omega) (by omega) ?_
      refine r8.stB (by omega) (by omega) _ fun H9 r9 s9 => ?_
      rw [i64w (by omega) (by omega)]
      exact hY _ _ _ _ _ _ _ _ _ _ _ _ ⟨rfl, rfl, rfl, rfl, rfl, rfl, rfl, rfl, rfl, rfl, v + 1, _, by omega, by omega, s8.trans s9 fun y hy => .inl (fpS_mk.1 hy), r9⟩ (by omega)
    · have s68 : Step (fun _ => False) H6 H8 := s7.own s8 fun y hy => hy ▸ hb7
      refine kk H8 _ _ _ _ on (fun v => decide (-1 ≤ via v)) (s06.and s68) ((r36.keep s7 fun _ _ h => h).keep s8 n37) hF (decide_eq_true (by rw [hR.src]; omega)) (decide_eq_false (by rw [hno]; omega)) fun x hx hc hS => ?_
      have h1 := hCl x (by omega)
      rw [hf4 x (by omega)] at h1
      have h2 := h1 hc (of_decide_eq_true hS)
      have h3 := (hre x (by omega)).2.2
      rw [hf4 x (by omega)] at h3
      have h4 : 0 ≤ rto w x ∧ rto w x < _ := h3
      refine decide_eq_true ?_
      rcases hR.two (v := (rto w x).toNat) (by omega) with h | h
      · exact (h2 h).elim
      · exact h
  · -- a way: it is gone along
    have htv : -1 ≤ via t := (hR.two ht).resolve_left hyes
    refine compassref11_MaxFlow.l3_rule (fun s' t' g' op on' oc b' vp vn vc lp' ln lc v14 H' => s' = (s : Int) ∧ t' = (t : Int) ∧ g' = g ∧ op = p' ∧ on' = n' ∧ oc = c' ∧ b' = b5 ∧ vp = p6 ∧ vn = N ∧ vc = c6 ∧ ∃ (v : Nat) (l : List Nat), v14 = v ∧ v < N ∧ -1 ≤ via v ∧ ln = l.length ∧ Wy w (v : Int) (t : Int) l ∧ (∀ x ∈ l, x < 2 * n' ∧ 0 < rcp on x ∧ rk (rfr w x).toNat < rk (rto w x).toNat) ∧ Step (fun _ => False) H6 H' ∧ Row H' lp' ln lc (lsF l) ∧ (∀ y, fpS lp' y → H6 y = none))
      (fun s' t' g' op on' oc b' vp vn vc lp' ln lc v14 H' => rk v14.toNat) ?_ ⟨rfl, rfl, rfl, rfl, rfl, rfl, rfl, rfl, rfl, rfl, t, [], rfl, ht, htv, rfl, rfl, fun x hx => (by cases hx), .refl, Row.nil, fun y h => by rw [fpS_none] at h; exact h.elim⟩
    rintro s' t' g' op on' oc b' vp vn vc lp' ln lc v14 H7 ⟨rfl, rfl, rfl, rfl, rfl, rfl, rfl, rfl, rfl, rfl, v, l, rfl, hv, hvv, rfl, hW, hl, s7, rl, fl⟩ Y hY
    have e57 := s7.keep _ _ e56 fun h => h
    have hll : l.length ≤ on' := by
      have h1 := (way_once (rk := fun z => rk z.toNat) hW fun x hx => (hl x hx).2.2).1
      have := nodup_le h1 (m := on') fun z hz => by
        obtain ⟨x, hx, e⟩ := List.mem_map.1 hz
        have := (hl x hx).1
        have e' : x / 2 = z := e
        omega
      rwa [List.length_map] at this
    refine compassref11_MaxFlow.b3_eq ?_
    unfold compassref11_MaxFlow.b3_t
    refine bcn (fun hne => ?_) fun heq => ?_
    · have hvs : v ≠ s := fun h => hne (by rw [h])
      rcases hR.each v hv hvs with h | ⟨x, u, a1, a2, a3, a4, a5, a6, a7, a8⟩
      · omega
      · rw [hf4 x a2] at a3 a4 a6
        have a3' : rto w x = (v : Int) := a3
        have a4' : rfr w x = (u : Int) := a4
        have a6' : 0 < rcp on x := a6
        refine (r6.keep s7 fun _ _ h => h).ixI (by omega) (by omega) ?_
        rw [Int.toNat_natCast, a1]
        refine rl.appI _ (by omega) fun p8 c8 H8 r8 s8 f8 => ?_
        have s68 : Step (fun _ => False) H6 H8 := s7.own s8 fl
        have e58 := s68.keep _ _ e56 fun h => h
        simp only [get_at e58, List.getElem?_cons_zero, List.getElem?_cons_succ, ldI_mk, ldS_mk]
        refine (r6.keep s68 fun _ _ h => h).ixI (by omega) (by omega) ?_
        rw [Int.toNat_natCast, a1]
        refine (r46.keep s68 fun _ _ h => h).rdr.edgeF (by omega) (by omega) ?_
        rw [Int.toNat_natCast, hf4 x a2]
        show Y (compassref11_MaxFlow.f3 _ _ _ _ _ _ _ _ _ _ _ _ _ (rfr w x)) H8
        rw [a4']
        refine hY _ _ _ _ _ _ _ _ _ _ _ _ _ _ _ ⟨rfl, rfl, rfl, rfl, rfl, rfl, rfl, rfl, rfl, rfl, u, l ++ [x], rfl, a5, a7, by simp, ?_, fun y hy => ?_, s68, r8.congr fun z hz => ?_, fun y hy => (f8 y hy).elim (fl y) (s7.mono y)⟩ ?_
        · have := wy_snoc (x := x) hW a3'
          rwa [a4'] at this
        · rcases List.mem_append.1 hy with h | h
          · exact hl y h
          · have : y = x := by simpa using h
            subst this
            refine ⟨a2, a6', ?_⟩
            rw [a3', a4', Int.toNat_natCast, Int.toNat_natCast]; exact a8
        · by_cases ez : z = l.length
          · rw [ez, upf_same, lsF_last]
          · rw [upf_ne ez, lsF_left (by omega)]
        · rw [Int.toNat_natCast, Int.toNat_natCast]; exact a8
    · clear hY
      have hvs : v = s := by omega
      subst hvs
      have hl0 : 0 < l.length := by
        cases l with
        | nil => have h : (t : Int) = (v : Int) := hW; omega
        | cons x l => simp
      refine compassref11_MaxFlow.j1_eq ?_
      unfold compassref11_MaxFlow.j1_t
      simp only [get_at e57, List.getElem?_cons_zero, List.getElem?_cons_succ, ldI_mk, ldS_mk]
      refine rroom (r46.keep s7 fun _ _ h => h).rdr rl.rdr (by omega) hl0 (fun x hx => ?_) fun H8 s8 => ?_
      · obtain ⟨h1, h2, _⟩ := hl x hx
        refine ⟨h1, ?_⟩
        rw [hf4 x h1]
        show rcp on x = 1
        have := hF.bnd (x / 2)
        unfold rcp at h2 ⊢
        split at h2
        · rename_i h; rw [if_pos h]; omega
        · rename_i h; rw [if_neg h]; omega
      · have s68 := s7.and s8
        refine rchange (r36.keep s68 fun _ _ h => h) (rl.keep s8 fun _ _ h => h).rdr (by omega) (by omega) (fun x hx => by have := (hl x hx).1; omega) (fun i => by have := hF.bnd i; omega) fun H9 p9 c9 s9 r9 ff9 => ?_
        have hwo := way_once (rk := fun z => rk z.toNat) hW fun x hx => (hl x hx).2.2
        have hfw := fun u : Int => fout_way (m := on') (u := u) (on := on) hW fun x hx => by have := (hl x hx).1; omega
        have hb9 := way_bnd (on := on) hwo.1 (fun x hx => (hl x hx).2.1) hF.bnd
        have hF9 : Flo w on' vn v t (l.foldl chg on) := ⟨hb9, fun u hu h1 h2 => by
          have := hfw (u : Int)
          rw [hF.con u hu h1 h2, if_neg (by omega), if_neg (by omega)] at this
          omega⟩
        have hv9 := hfw (v : Int)
        rw [if_pos rfl, if_neg (by omega)] at hv9
        have hbd := fout_bnd (w := w) hb9 (v : Int) on'
        have hJ9 : MfJ H1 H9 w on' vn v t p9 c9 ((on' : Int) - fout w (l.foldl chg on) on' (v : Int)).toNat := ⟨⟨_, r9, hF9, rfl⟩, (s3.and (s36.and s68)).and s9, fun y hy => (s3.and (s36.and s68)).mono y (ff9 y hy)⟩
        refine hX _ _ _ _ _ _ _ ⟨rfl, rfl, rfl, rfl, _, hJ9⟩ ?_
        have := (gm_of hJ9).2
        omega
end
end Go.Mz

/-
  The document's functions of layer 15, walked: Sides.
-/
namespace Go.Mz
section
variable {E : Value → Hp → Prop}

theorem rsides {N left : Int} {p : Option Addr} {n c : Nat} {e : Nat → Edg} {H : Hp} {K : Int → Int → Hp → Prop} (he : Rdr H p n e) (hn : n < 2 ^ 62)
    (k : ∀ H' a, Step (fun _ => False) H H' → SdAt N n e left a → K (sdC N n e left) a H') : compassref15_Sides.call N p n c left E H K := by
  refine compassref15_Sides.of (compassref15_Sides.run_eq ?_)
  unfold compassref15_Sides.run_t
  refine nwk fun b1 H1 hb1 e1 s1 => ?_
  simp only [get_at e1, List.getElem?_cons_zero, List.getElem?_cons_succ, ldI_mk, ldS_mk]
  refine rcheckA (he.keep s1 fun _ _ _ h => h) fun H2 a s2 hA => ?_
  have e12 := s2.keep _ _ e1 fun h => h
  have s02 := s1.and s2
  refine bcn (fun hne => ?_) fun hz => ?_
  · have := k H2 a s02 ⟨fun _ => hA, fun h => (hne h).elim, fun h => (hne h).elim, fun h => (hne h).elim⟩
    rwa [sdC_bad hne] at this
  · have hr := chk_zero.1 hz
    refine bc (fun hl => ?_) fun hl => ?_
    · have := k H2 0 s02 ⟨fun h => (h hz).elim, fun _ _ => rfl, fun _ _ => rfl, fun _ h => by omega⟩
      rwa [sdC_off hz fun h => by have := h.1; omega] at this
    · simp only [get_at e12, List.getElem?_cons_zero, List.getElem?_cons_succ, ldI_mk, ldS_mk]
      refine bc (fun hl2 => ?_) fun hl2 => ?_
      · have := k H2 0 s02 ⟨fun h => (h hz).elim, fun _ _ => rfl, fun _ _ => rfl, fun _ _ h => by omega⟩
        rwa [sdC_off hz fun h => by have := h.2.1; omega] at this
      · refine compassref15_Sides.l1_rule (fun l' g i8 H' => l' = left ∧ g = b1 ∧ H' = H2 ∧ ∃ i : Nat, i8 = i ∧ i ≤ n ∧ ∀ j, j < i → ¬ ((e j).fr < left ↔ (e j).to < left)) (fun l' g i8 H' => n - i8.toNat) ?_ ⟨rfl, rfl, rfl, 0, rfl, Nat.zero_le _, fun j hj => by omega⟩
        rintro l' g i8 H' ⟨rfl, rfl, rfl, i, rfl, hi, hall⟩ X hX
        have g2 := he.keep s02 fun _ _ _ h => h
        refine compassref15_Sides.b1_eq ?_
        unfold compassref15_Sides.b1_t
        simp only [get_at e12, List.getElem?_cons_zero, List.getElem?_cons_succ, ldI_mk, ldS_mk]
        refine bc (fun hlt => ?_) fun hge => ?_
        · try simp only [get_at e12, List.getElem?_cons_zero, List.getElem?_cons_succ, ldI_mk, ldS_mk]
          refine g2.edgeF (by omega) (by omega) ?_
          try simp only [get_at e12, List.getElem?_cons_zero, List.getElem?_cons_succ, ldI_mk, ldS_mk]
          refine g2.edgeT (by omega) (by omega) ?_
          rw [Int.toNat_natCast]
          refine bcb (fun h => ?_) fun h => ?_
          · have hiff : (e i).fr < l' ↔ (e i).to < l' := by
              have h' := eq_of_beq h
              rwa [decide_eq_decide] at h'
            have := k H' i s02 ⟨fun h => (h hz).elim, fun _ h => (h ⟨by omega, by omega⟩).elim, fun _ h => (h.2.2 i (by omega) hiff).elim, fun _ _ _ x hx hx1 hx2 => by
              rcases Nat.lt_trichotomy i x with hl | he' | hl
              · exact (hx1 i hl hiff).elim
              · rw [he']
              · exact (hall x hl hx2).elim⟩
            rwa [sdC_off hz fun h => h.2.2 i (by omega) hiff] at this
          · have hno : ¬ ((e i).fr < l' ↔ (e i).to < l') := fun hiff => by
              have : decide ((e i).fr < l') = decide ((e i).to < l') := by rw [decide_eq_decide]; exact hiff
              rw [this] at h
              simp at h
            rw [i64w (by omega) (by omega)]
            refine hX _ _ _ _ ⟨rfl, rfl, rfl, i + 1, by omega, by omega, fun j hj => ?_⟩ (by omega)
            by_cases ej : j = i
            · subst ej; exact hno
            · exact hall j (by omega)
        · have hcr : Crs N n e l' := ⟨by omega, by omega, fun j hj => hall j (by omega)⟩
          have := k H' 0 s02 ⟨fun h => (h hz).elim, fun _ _ => rfl, fun _ _ => rfl, fun _ _ _ x hx hx1 hx2 => (hcr.2.2 x hx hx2).elim⟩
          rwa [sdC_ok hz hcr] at this
end
end Go.Mz

/-
  The document's functions of layer 15, walked: Most.
-/
namespace Go.Mz

/-- the wide graph while it is built -/
structure WdS (H0 H : Hp) (M L : Nat) (e : Nat → Edg) (b : Nat) (ln : Nat) : Prop where
  st : Step (fun _ => False) H0 H
  ex : ∃ p c f, H b = some ⟨[.int .i64 ((M : Int) + 2), .slice p ln c], 24⟩ ∧ Row H p ln c f ∧ (∀ x, x < ln → f x = wid M L e x) ∧ (∀ y, fpS p y → H0 y = none) ∧ ¬ fpS p b
  bn : H0 b = none

section
variable {E : Value → Hp → Prop}

/-- one edge more -/
theorem WdS.push {H0 H : Hp} {M L b ln : Nat} {e : Nat → Edg} {x : Edg} {t : BT} {K : Hp → Prop} (h : WdS H0 H M L e b ln) (hx : x = wid M L e ln) (hln : ln ≤ 1048576) (k : ∀ H', WdS H0 H' M L e b (ln + 1) → K H') :
    ldS (H.get b 1) fun x_1p x_1n x_1c => nw H ⟨[.int .i64 x.fr, .int .i64 x.to, .int .i64 x.cp, .int .i64 x.co], t⟩ fun b_1 H_1 =>
      appM 37 [.i .i64, .i .i64, .i .i64, .i .i64] 32 x_1p x_1n x_1c (some ⟨b_1, 0, none⟩) 1 H_1 fun a_1p a_1n a_1c H_2 =>
      stC H_2 b 1 [.slice a_1p a_1n a_1c] fun H_3 => K H_3 := by
  obtain ⟨p, c, f, e1, r1, hf, ff, n1⟩ := h.ex
  simp only [get_at e1, List.getElem?_cons_zero, List.getElem?_cons_succ, ldI_mk, ldS_mk]
  refine Row.appW (α := Edg) r1 x rfl (by omega) (by omega) fun p9 c9 H6 r9 s6 f9 => ?_
  have n9 : ¬ fpS p9 b := fun h' => (f9 _ h').elim n1 fun h' => by rw [e1] at h'; cases h'
  have e16 := s6.keep _ _ e1 n1
  refine stp e16 (by simp) rfl fun H7 e17 s7 => ?_
  replace e17 : H7 b = some ⟨[.int .i64 ((M : Int) + 2), .slice p9 (ln + 1) c9], 24⟩ := e17
  refine k H7 ⟨(h.st.own s6 ff).own s7 fun y hy => hy ▸ h.bn, ⟨p9, c9, _, e17, r9.keep s7 fun y hy h' => n9 (h' ▸ hy), fun z hz => ?_, fun y hy => (f9 y hy).elim (ff y) (h.st.mono y), n9⟩, h.bn⟩
  by_cases ez : z = ln
  · rw [ez, upf_same, hx]
  · rw [upf_ne ez]; exact hf z (by omega)

theorem rmost15 {M L n ec : Nat} {ep : Option Addr} {e : Nat → Edg} {m : Nat → Int} {k : Nat} {cv : Nat → Int} {q : Nat} {H : Hp} {K : Int → Hp → Prop} (he : Rdr H ep n e) (hr : Right (M : Int) n e) (hc : Crs (M : Int) n e (L : Int)) (hP : CovP (M : Int) n e m k cv q)
    (kk : ∀ H', Step (fun _ => False) H H' → K (k : Int) H') : compassref15_Most.call (M : Int) ep n ec (L : Int) E H K := by
  have hM1 := hr.N1
  have hn1 := hr.n1
  refine compassref15_Most.of (compassref15_Most.run_eq ?_)
  unfold compassref15_Most.run_t
  refine nwk fun b1 H1 hb1 e1 s1 => ?_
  simp only [get_at e1, List.getElem?_cons_zero, List.getElem?_cons_succ, ldI_mk, ldS_mk]
  rw [i64w (by omega) (by omega)]
  refine nwst rfl rfl fun b2 H2 hb2 e2 s2 => ?_
  have keep : ∀ {H' : Hp} {ln : Nat}, WdS H1 H' M L e b2 ln → H' b1 = some ⟨[.int .i64 (M : Int), .slice ep n ec], 24⟩ := fun h => h.st.keep _ _ e1 fun h => h
  have hst : WdS H1 H2 M L e b2 0 := ⟨s2, ⟨none, 0, fun _ => (0, 0, 0, 0), e2, Row.nil, fun x hx => by omega, fun y h => by rw [fpS_none] at h; exact h.elim, fun h => by rw [fpS_none] at h; exact h.elim⟩, hb2⟩
  refine compassref15_Most.l1_rule (fun l' g n5 w6 v7 H' => l' = (L : Int) ∧ g = b1 ∧ n5 = (M : Int) ∧ w6 = b2 ∧ ∃ i : Nat, v7 = i ∧ i ≤ M ∧ WdS H1 H' M L e b2 i) (fun l' g n5 w6 v7 H' => M - v7.toNat) ?_ ⟨rfl, rfl, rfl, rfl, 0, rfl, Nat.zero_le _, hst⟩
  rintro l' g n5 w6 v7 H3 ⟨rfl, rfl, rfl, rfl, i, rfl, hi, hW⟩ X hX
  refine compassref15_Most.b1_eq ?_
  unfold compassref15_Most.b1_t
  refine bc (fun hlt => ?_) fun hge => ?_
  · have next : ∀ {H' : Hp}, WdS H1 H' M L e w6 (i + 1) → compassref15_Most.j1 (L : Int) g (M : Int) w6 (i : Int) X E H' K := fun h => by
      refine compassref15_Most.j1_eq ?_
      unfold compassref15_Most.j1_t
      rw [i64w (by omega) (by omega)]
      exact hX _ _ _ _ _ _ ⟨rfl, rfl, rfl, rfl, i + 1, by omega, by omega, h⟩ (by omega)
    refine bc (fun hl => ?_) fun hl => ?_
    · exact hW.push (x := ((M : Int), (i : Int), 1, 0)) (by unfold wid; rw [if_pos (by omega), if_pos (by omega)]) (by omega) fun H' h => next h
    · rw [i64w (by omega) (by omega)]
      exact hW.push (x := ((i : Int), (M : Int) + 1, 1, 0)) (by unfold wid; rw [if_pos (by omega), if_neg (by omega)]) (by omega) fun H' h => next h
  · clear hX
    have hiM : i = M := by omega
    subst hiM
    refine compassref15_Most.j2_eq ?_
    unfold compassref15_Most.j2_t
    refine compassref15_Most.l2_rule (fun l' g' n5 w6' i8 H' => l' = (L : Int) ∧ g' = g ∧ n5 = (i : Int) ∧ w6' = w6 ∧ ∃ j : Nat, i8 = j ∧ j ≤ n ∧ WdS H1 H' i L e w6 (i + j)) (fun l' g' n5 w6' i8 H' => n - i8.toNat) ?_ ⟨rfl, rfl, rfl, rfl, 0, rfl, Nat.zero_le _, hW⟩
    rintro l' g' n5 w6' i8 H4 ⟨rfl, rfl, rfl, rfl, j, rfl, hj, hW4⟩ Y hY
    have e14 := keep hW4
    refine compassref15_Most.b2_eq ?_
    unfold compassref15_Most.b2_t
    simp only [get_at e14, List.getElem?_cons_zero, List.getElem?_cons_succ, ldI_mk, ldS_mk]
    refine bc (fun hlt => ?_) fun hge => ?_
    · try simp only [get_at e14, List.getElem?_cons_zero, List.getElem?_cons_succ, ldI_mk, ldS_mk]
      refine (he.keep (s1.and hW4.st) fun _ _ _ h => h).edge (by omega) (by omega) ?_
      rw [Int.toNat_natCast]
      refine nwst rfl rfl fun b5 H5 hb5 e5 s5 => ?_
      obtain ⟨p4, c4, f4, q1, q2, q3, q4, q5⟩ := hW4.ex
      have hW5 : WdS H1 H5 i L e w6' (i + j) := ⟨hW4.st.and s5, ⟨p4, c4, f4, s5.keep _ _ q1 fun h => h, q2.keep s5 fun _ _ h => h, q3, q4, q5⟩, hW4.bn⟩
      have next : ∀ {H' : Hp}, WdS H1 H' i L e w6' (i + j + 1) → compassref15_Most.j3 (L : Int) g' (i : Int) w6' (j : Int) Y E H' K := fun h => by
        refine compassref15_Most.j3_eq ?_
        unfold compassref15_Most.j3_t
        rw [i64w (by omega) (by omega)]
        exact hY _ _ _ _ _ _ ⟨rfl, rfl, rfl, rfl, j + 1, by omega, by omega, h⟩ (by omega)
      have ew : wid i L e (i + j) = if (e j).fr < (L : Int) then ((e j).fr, (e j).to, 1, 0) else ((e j).to, (e j).fr, 1, 0) := by
        unfold wid; rw [if_neg (by omega), show i + j - i = j by omega]
      simp only [get_at e5, List.getElem?_cons_zero, List.getElem?_cons_succ, ldI_mk, ldS_mk]
      refine bc (fun hl => ?_) fun hl => ?_
      · try simp only [get_at e5, List.getElem?_cons_zero, List.getElem?_cons_succ, ldI_mk, ldS_mk]
        exact hW5.push (x := ((e j).fr, (e j).to, 1, 0)) (by rw [ew, if_pos hl]) (by omega) fun H' h => next h
      · try simp only [get_at e5, List.getElem?_cons_zero, List.getElem?_cons_succ, ldI_mk, ldS_mk]
        exact hW5.push (x := ((e j).to, (e j).fr, 1, 0)) (by rw [ew, if_neg hl]) (by omega) fun H' h => next h
    · clear hY
      have hjn : j = n := by omega
      subst hjn
      obtain ⟨p4, c4, f4, q1, q2, q3, q4, q5⟩ := hW4.ex
      have rw4 : Rdr H4 p4 (i + j) (wid i L e) := (q2.congr q3).rdr
      refine compassref15_Most.j4_eq ?_
      unfold compassref15_Most.j4_t
      simp only [get_at q1, List.getElem?_cons_zero, List.getElem?_cons_succ, ldI_mk, ldS_mk]
      rw [i64w (by omega) (by omega)]
      have e2c : ((i : Int) + 2) = ((i + 2 : Nat) : Int) := by omega
      have e1c : ((i : Int) + 1) = ((i + 1 : Nat) : Int) := by omega
      rw [e2c, e1c]
      refine rmaxflow rw4 (by omega) (by omega) (by omega) (by omega) (by omega) (wid_bnd hr hc) (fun x hx => ?_) fun H5 p5 c5 sp sc on S s5 r5 hF hs ht hcl => ?_
      · unfold wid
        split
        · split <;> exact ⟨rfl, rfl⟩
        · split <;> exact ⟨rfl, rfl⟩
      · have q15 := s5.keep _ _ q1 fun h => h
        simp only [get_at q15, List.getElem?_cons_zero, List.getElem?_cons_succ, ldI_mk, ldS_mk]
        refine rout11 (rw4.keep s5 fun _ _ _ h => h) r5.rdr (by omega) hF.bnd fun H6 s6 => ?_
        have h1 := flow_le hr hc hP.ris hP.cvr hF
        have h2 := flow_ge hr hc hP.tk hF hs ht hcl
        have h3 := hP.eq
        have : fout (wid i L e) on (i + j) (i : Int) = (k : Int) := by omega
        rw [this]
        exact kk H6 (((s1.and hW4.st).and s5).and s6)
end
end Go.Mz

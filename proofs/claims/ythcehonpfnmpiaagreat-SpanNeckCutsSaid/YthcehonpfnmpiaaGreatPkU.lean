/-
  Joined: UniS, UniP, UniQ, RefP, SpP, SpQ.
-/
import Derived.Test.YthcehonpfnmpiaaGreatMzU
import Derived.Test.YthcehonpfnmpiaaGreatGUni
import Derived.Test.YthcehonpfnmpiaaGreatPkM
import Derived.Test.YthcehonpfnmpiaaGreatPkH
set_option linter.unusedSimpArgs false
set_option linter.unusedVariables false
/-
  What the functions of the sets of nodes do, told of plain heaps: New, node, root, Find, Join, Undo, Joins, Count, Members.
-/
namespace Go.Mz

/-- sets' state: parents, least members, what was joined -/
structure USt where
  n : Nat
  par : Nat → Nat
  lst : Nat → Nat
  k : Nat
  log : Nat → Nat × Nat × Nat

def in3 (x : Nat × Nat × Nat) : Int × Int × Int := (x.1, x.2.1, x.2.2)

structure USets (H : Hp) (s bp bz bl : Nat) (lp : Option Addr) (lc : Nat) (t : BT) (siz : Nat → Int) (σ : USt) : Prop where
  hs : H s = some ⟨[.slice (some ⟨bp, 0, none⟩) σ.n σ.n, .slice (some ⟨bz, 0, none⟩) σ.n σ.n, .slice (some ⟨bl, 0, none⟩) σ.n σ.n, .slice lp σ.k lc], t⟩
  rp : Row H (some ⟨bp, 0, none⟩) σ.n σ.n (fun i => (σ.par i : Int))
  rz : Row H (some ⟨bz, 0, none⟩) σ.n σ.n siz
  rl : Row H (some ⟨bl, 0, none⟩) σ.n σ.n (fun i => (σ.lst i : Int))
  rg : Row H lp σ.k lc (fun i => in3 (σ.log i))
  ht : t.fz = (0, 0)
  d1 : s ≠ bp ∧ s ≠ bz ∧ s ≠ bl ∧ bp ≠ bz ∧ bp ≠ bl ∧ bz ≠ bl
  d2 : ¬ fpS lp s ∧ ¬ fpS lp bp ∧ ¬ fpS lp bz ∧ ¬ fpS lp bl

/-- the blocks that sets own -/
def UFp (s bp bz bl : Nat) (lp : Option Addr) (b : Nat) : Prop := b = s ∨ b = bp ∨ b = bz ∨ b = bl ∨ fpS lp b

def USt.Ok (σ : USt) : Prop := σ.n ≤ 1024 ∧ ∃ d : Nat → Nat, ∀ v, v < σ.n → σ.par v < σ.n ∧ (σ.par v ≠ v → d (σ.par v) < d v)

inductive Rt (par : Nat → Nat) : Nat → Nat → Prop
  | here {v : Nat} (h : par v = v) : Rt par v v
  | up {v r : Nat} (h : par v ≠ v) (k : Rt par (par v) r) : Rt par v r

section
variable {H : Hp} {s bp bz bl : Nat} {lp : Option Addr} {lc : Nat} {t : BT} {siz : Nat → Int} {σ : USt} {E : Value → Hp → Prop}

theorem USets.g0 (h : USets H s bp bz bl lp lc t siz σ) : H.get s 0 = some (.slice (some ⟨bp, 0, none⟩) σ.n σ.n) := by simp [Hp.get, h.hs]
theorem USets.g1 (h : USets H s bp bz bl lp lc t siz σ) : H.get s 1 = some (.slice (some ⟨bz, 0, none⟩) σ.n σ.n) := by simp [Hp.get, h.hs]
theorem USets.g2 (h : USets H s bp bz bl lp lc t siz σ) : H.get s 2 = some (.slice (some ⟨bl, 0, none⟩) σ.n σ.n) := by simp [Hp.get, h.hs]
theorem USets.g3 (h : USets H s bp bz bl lp lc t siz σ) : H.get s 3 = some (.slice lp σ.k lc) := by simp [Hp.get, h.hs]

theorem USets.keep {H' : Hp} {F : Nat → Prop} (h : USets H s bp bz bl lp lc t siz σ) (k : Step F H H') (d : ∀ b, UFp s bp bz bl lp b → ¬ F b) : USets H' s bp bz bl lp lc t siz σ where
  hs := k.keep _ _ h.hs (d _ (.inl rfl))
  rp := h.rp.keep k fun b hb => d b (by rw [fpS_mk] at hb; exact .inr (.inl hb))
  rz := h.rz.keep k fun b hb => d b (by rw [fpS_mk] at hb; exact .inr (.inr (.inl hb)))
  rl := h.rl.keep k fun b hb => d b (by rw [fpS_mk] at hb; exact .inr (.inr (.inr (.inl hb))))
  rg := h.rg.keep k fun b hb => d b (.inr (.inr (.inr (.inr hb))))
  ht := h.ht
  d1 := h.d1
  d2 := h.d2

theorem unode {v : Int} {K : Bool → Hp → Prop} (h : USets H s bp bz bl lp lc t siz σ) (k : K (decide (0 ≤ v ∧ v < (σ.n : Int))) H) : unions_Sets_node.call (some ⟨s, 0, none⟩) v E H K := by
  refine unions_Sets_node.of (unions_Sets_node.run_eq ?_)
  unfold unions_Sets_node.run_t
  refine bc (fun h0 => ?_) fun h0 => ?_
  · simp only [nn_mk, h.g0, ldS_mk]
    simpa [h0] using k
  · simpa [h0] using k

theorem uroot {v : Nat} {K : Int → Hp → Prop} (h : USets H s bp bz bl lp lc t siz σ) (ok : σ.Ok) (hv : v < σ.n) (k : ∀ r : Nat, Rt σ.par v r → r < σ.n → K r H) : unions_Sets_root.call (some ⟨s, 0, none⟩) v E H K := by
  obtain ⟨hn, d, hd⟩ := ok
  refine unions_Sets_root.of (unions_Sets_root.run_eq ?_)
  unfold unions_Sets_root.run_t
  refine unions_Sets_root.l1_rule (fun s0 v1 H' => s0 = some ⟨s, 0, none⟩ ∧ H' = H ∧ ∃ u : Nat, v1 = u ∧ u < σ.n ∧ ∀ r, Rt σ.par u r → Rt σ.par v r) (fun s0 v1 H' => d v1.toNat) ?_ ⟨rfl, rfl, v, rfl, hv, fun _ h => h⟩
  rintro s0 v1 H' ⟨rfl, rfl, u, rfl, hu, hr⟩ X hX
  refine unions_Sets_root.b1_eq ?_
  unfold unions_Sets_root.b1_t
  simp only [nn_mk, h.g0, ldS_mk]
  refine h.rp.ixI (by omega) (by omega) ?_
  refine bcn (fun hne => ?_) fun he => ?_
  · refine h.rp.ixI (by omega) (by omega) ?_
    simp only [Int.toNat_natCast] at hne ⊢
    have hne' : σ.par u ≠ u := fun e => hne (by rw [e])
    exact hX _ _ _ ⟨rfl, rfl, _, rfl, (hd u hu).1, fun r h => hr r (.up hne' h)⟩ (by simpa using (hd u hu).2 hne')
  · simp only [Int.toNat_natCast] at he
    exact k u (hr u (.here (by omega))) hu

theorem ufind {v : Int} {K : Int → Int → Hp → Prop} (h : USets H s bp bz bl lp lc t siz σ) (ok : σ.Ok)
    (k1 : 0 ≤ v → v < (σ.n : Int) → ∀ r : Nat, Rt σ.par v.toNat r → r < σ.n → K (σ.lst r) 0 H) (k2 : ¬ (0 ≤ v ∧ v < (σ.n : Int)) → K 0 30 H) : unions_Sets_Find.call (some ⟨s, 0, none⟩) v E H K := by
  refine unions_Sets_Find.of (unions_Sets_Find.run_eq ?_)
  unfold unions_Sets_Find.run_t
  refine unode h ?_
  by_cases hv : 0 ≤ v ∧ v < (σ.n : Int)
  · obtain ⟨u, rfl⟩ : ∃ u : Nat, v = u := ⟨v.toNat, by omega⟩
    simp only [hv, decide_true, Bool.not_true, bcase_f, nn_mk, Nat.zero_add, h.g2, ldS_mk, and_self]
    refine uroot h ok (by omega) fun r hr hrn => ?_
    simp only [h.g2, ldS_mk, true_and]
    refine h.rl.ixI (by omega) (by omega) ?_
    simpa using k1 (by omega) (by omega) r hr hrn
  · simp only [hv, decide_false, Bool.not_false, bcase_t]
    exact k2 hv

def USt.join (σ : USt) (a b : Nat) : USt := { σ with par := upf σ.par b a, lst := upf σ.lst a (min (σ.lst a) (σ.lst b)), k := σ.k + 1, log := upf σ.log σ.k (b, a, σ.lst a) }

theorem ucast_upf {f : Nat → Nat} {i x : Nat} : (fun j => ((upf f i x j : Nat) : Int)) = upf (fun j => (f j : Int)) i (x : Int) := by
  funext j; unfold upf; split <;> rfl

theorem USets.stp (h : USets H s bp bz bl lp lc t siz σ) {i : Int} (h0 : 0 ≤ i) (h1 : i < (σ.n : Int)) (x : Nat) {K : Hp → Prop}
    (k : ∀ H', USets H' s bp bz bl lp lc t siz { σ with par := upf σ.par i.toNat x } → Step (UFp s bp bz bl lp) H H' → K H') : ix (some ⟨bp, 0, none⟩) σ.n i 1 fun b o => stC H b o [.int .i64 x] K := by
  refine h.rp.stI h0 h1 x fun H' hr hs => k H' ⟨hs.keep _ _ h.hs (by rw [fpS_mk]; exact h.d1.1), by rw [ucast_upf]; exact hr, ?_, ?_, ?_, h.ht, h.d1, h.d2⟩ (hs.weak fun b hb => ?_)
  · exact h.rz.keep hs fun b hb => by rw [fpS_mk] at *; rw [hb]; exact fun e => h.d1.2.2.2.1 e.symm
  · exact h.rl.keep hs fun b hb => by rw [fpS_mk] at *; rw [hb]; exact fun e => h.d1.2.2.2.2.1 e.symm
  · exact h.rg.keep hs fun b hb => by rw [fpS_mk]; exact fun e => h.d2.2.1 (e ▸ hb)
  · rw [fpS_mk] at hb; exact .inl (.inr (.inl hb))

theorem USets.stz (h : USets H s bp bz bl lp lc t siz σ) {i : Int} (h0 : 0 ≤ i) (h1 : i < (σ.n : Int)) (x : Int) {K : Hp → Prop}
    (k : ∀ H', USets H' s bp bz bl lp lc t (upf siz i.toNat x) σ → Step (UFp s bp bz bl lp) H H' → K H') : ix (some ⟨bz, 0, none⟩) σ.n i 1 fun b o => stC H b o [.int .i64 x] K := by
  refine h.rz.stI h0 h1 x fun H' hr hs => k H' ⟨hs.keep _ _ h.hs (by rw [fpS_mk]; exact h.d1.2.1), ?_, hr, ?_, ?_, h.ht, h.d1, h.d2⟩ (hs.weak fun b hb => ?_)
  · exact h.rp.keep hs fun b hb => by rw [fpS_mk] at *; rw [hb]; exact h.d1.2.2.2.1
  · exact h.rl.keep hs fun b hb => by rw [fpS_mk] at *; rw [hb]; exact fun e => h.d1.2.2.2.2.2 e.symm
  · exact h.rg.keep hs fun b hb => by rw [fpS_mk]; exact fun e => h.d2.2.2.1 (e ▸ hb)
  · rw [fpS_mk] at hb; exact .inl (.inr (.inr (.inl hb)))

theorem USets.stl (h : USets H s bp bz bl lp lc t siz σ) {i : Int} (h0 : 0 ≤ i) (h1 : i < (σ.n : Int)) (x : Nat) {K : Hp → Prop}
    (k : ∀ H', USets H' s bp bz bl lp lc t siz { σ with lst := upf σ.lst i.toNat x } → Step (UFp s bp bz bl lp) H H' → K H') : ix (some ⟨bl, 0, none⟩) σ.n i 1 fun b o => stC H b o [.int .i64 x] K := by
  refine h.rl.stI h0 h1 x fun H' hr hs => k H' ⟨hs.keep _ _ h.hs (by rw [fpS_mk]; exact h.d1.2.2.1), ?_, ?_, by rw [ucast_upf]; exact hr, ?_, h.ht, h.d1, h.d2⟩ (hs.weak fun b hb => ?_)
  · exact h.rp.keep hs fun b hb => by rw [fpS_mk] at *; rw [hb]; exact h.d1.2.2.2.2.1
  · exact h.rz.keep hs fun b hb => by rw [fpS_mk] at *; rw [hb]; exact h.d1.2.2.2.2.2
  · exact h.rg.keep hs fun b hb => by rw [fpS_mk]; exact fun e => h.d2.2.2.2 (e ▸ hb)
  · rw [fpS_mk] at hb; exact .inl (.inr (.inr (.inr (.inl hb))))

theorem USets.live (h : USets H s bp bz bl lp lc t siz σ) {b : Nat} (hb : UFp s bp bz bl lp b) : H b ≠ none := by
  rcases hb with (rfl | rfl | rfl | rfl | hb)
  · rw [h.hs]; simp
  · exact h.rp.live ⟨_, rfl⟩
  · exact h.rz.live ⟨_, rfl⟩
  · exact h.rl.live ⟨_, rfl⟩
  · exact h.rg.live hb

/-- the log anew -/
theorem USets.stg {H' : Hp} {lp' : Option Addr} {lc' k' : Nat} {log' : Nat → Nat × Nat × Nat} (h : USets H s bp bz bl lp lc t siz σ) (hs : Step (fpS lp) H H') (hr : Row H' lp' k' lc' (fun i => in3 (log' i)))
    (hf : ∀ b, fpS lp' b → fpS lp b ∨ H b = none) : ∃ H'', USets H'' s bp bz bl lp' lc' t siz { σ with k := k', log := log' } ∧ Step (UFp s bp bz bl lp) H H'' ∧ Step (· = s) H' H'' ∧ ∀ K : Hp → Prop, K H'' → stC H' s 3 [.slice lp' k' lc'] K := by
  have e : H' s = _ := hs.keep _ _ h.hs h.d2.1
  have live : ∀ b, UFp s bp bz bl lp b → H b ≠ none := fun b hb => h.live hb
  have no : ∀ b, UFp s bp bz bl lp b → ¬ fpS lp b → ¬ fpS lp' b := fun b h1 h2 h3 => by
    cases hf b h3 with
    | inl h => exact h2 h
    | inr h => exact live b h1 h
  have d2 : ¬ fpS lp' s ∧ ¬ fpS lp' bp ∧ ¬ fpS lp' bz ∧ ¬ fpS lp' bl := ⟨no _ (.inl rfl) h.d2.1, no _ (.inr (.inl rfl)) h.d2.2.1, no _ (.inr (.inr (.inl rfl))) h.d2.2.2.1, no _ (.inr (.inr (.inr (.inl rfl)))) h.d2.2.2.2⟩
  have hw : Step (· = s) H' (H'.upd s ⟨[.slice (some ⟨bp, 0, none⟩) σ.n σ.n, .slice (some ⟨bz, 0, none⟩) σ.n σ.n, .slice (some ⟨bl, 0, none⟩) σ.n σ.n, .slice lp' k' lc'], t⟩) := Step.wr e rfl
  refine ⟨_, ⟨upd_same, ?_, ?_, ?_, ?_, h.ht, h.d1, d2⟩, (hs.weak fun b hb => ?_).trans hw fun b hb => ?_, hw, fun K hK => ⟨_, e, ⟨by simp, h.ht⟩, hK⟩⟩
  · exact (h.rp.keep hs fun b hb => by rw [fpS_mk] at hb; rw [hb]; exact h.d2.2.1).keep hw fun b hb => by rw [fpS_mk] at hb; rw [hb]; exact h.d1.1.symm
  · exact (h.rz.keep hs fun b hb => by rw [fpS_mk] at hb; rw [hb]; exact h.d2.2.2.1).keep hw fun b hb => by rw [fpS_mk] at hb; rw [hb]; exact h.d1.2.1.symm
  · exact (h.rl.keep hs fun b hb => by rw [fpS_mk] at hb; rw [hb]; exact h.d2.2.2.2).keep hw fun b hb => by rw [fpS_mk] at hb; rw [hb]; exact h.d1.2.2.1.symm
  · exact hr.keep hw fun b hb e => d2.1 (e ▸ hb)
  · exact .inl (.inr (.inr (.inr (.inr hb))))
  · exact .inl (.inl hb)

theorem UFp.grow {lp' : Option Addr} (hf : ∀ b, fpS lp' b → fpS lp b ∨ H b = none) {x : Nat} (h : UFp s bp bz bl lp' x) : UFp s bp bz bl lp x ∨ H x = none := by
  rcases h with h | h | h | h | h
  · exact .inl (.inl h)
  · exact .inl (.inr (.inl h))
  · exact .inl (.inr (.inr (.inl h)))
  · exact .inl (.inr (.inr (.inr (.inl h))))
  · rcases hf x h with h | h
    · exact .inl (.inr (.inr (.inr (.inr h))))
    · exact .inr h

theorem ujoin1 {a b : Nat} {K : Bool → Int → Hp → Prop} (h : USets H s bp bz bl lp lc t siz σ) (hk : σ.k ≤ 1048576) (ha : a < σ.n) (hb : b < σ.n)
    (k : ∀ H' lp' lc' siz', USets H' s bp bz bl lp' lc' t siz' (σ.join a b) → Step (UFp s bp bz bl lp) H H' → (∀ x, fpS lp' x → fpS lp x ∨ H x = none) → K true 0 H') :
    unions_Sets_Join.j1 (some ⟨s, 0, none⟩) a b E H K := by
  refine unions_Sets_Join.j1_eq ?_
  unfold unions_Sets_Join.j1_t
  simp only [nn_mk, Nat.zero_add, h.g2, h.g3, ldS_mk]
  refine h.rl.ixI (by omega) (by omega) ?_
  refine h.rg.app (in3 (b, a, σ.lst a)) rfl hk (by decide) fun p' c' H2 hr hs hf => ?_
  obtain ⟨H3, h3, hs3, _, hK⟩ := h.stg (log' := upf σ.log σ.k (b, a, σ.lst a)) hs (hr.congr fun i _ => by unfold upf; split <;> rfl) hf
  refine hK _ ?_
  simp only [h3.g0, ldS_mk]
  refine h3.stp (by omega) (by simpa using hb) a fun H4 h4 hs4 => ?_
  have hs4' := hs3.trans hs4 (fun x hx => UFp.grow hf hx)
  simp only [h4.g1, ldS_mk]
  refine h4.rz.ixI (by omega) (by simpa using ha) ?_
  refine h4.rz.ixI (by omega) (by simpa using hb) ?_
  refine h4.stz (by omega) (by simpa using ha) _ fun H5 h5 hs5 => ?_
  simp only [h5.g2, ldS_mk]
  refine h5.rl.ixI (by omega) (by simpa using ha) ?_
  refine h5.rl.ixI (by omega) (by simpa using hb) ?_
  simp only [Int.toNat_natCast]
  have e : (if (σ.lst b : Int) < σ.lst a then (σ.lst b : Int) else σ.lst a) = ((min (σ.lst a) (σ.lst b) : Nat) : Int) := by split <;> omega
  rw [e]
  refine h5.stl (by omega) (by simpa using ha) _ fun H6 h6 hs6 => ?_
  refine k _ _ _ _ (by simpa [USt.join] using h6) ((hs4'.trans hs5 ?_).trans hs6 ?_) hf
  all_goals exact fun x hx => UFp.grow hf hx

theorem ujoin {u v : Int} {K : Bool → Int → Hp → Prop} (h : USets H s bp bz bl lp lc t siz σ) (ok : σ.Ok) (hk : σ.k ≤ 1048576)
    (kbad : ¬ ((0 ≤ u ∧ u < (σ.n : Int)) ∧ 0 ≤ v ∧ v < (σ.n : Int)) → K false 30 H)
    (ksame : 0 ≤ u → u < (σ.n : Int) → 0 ≤ v → v < (σ.n : Int) → ∀ r, Rt σ.par u.toNat r → Rt σ.par v.toNat r → K false 0 H)
    (k : 0 ≤ u → u < (σ.n : Int) → 0 ≤ v → v < (σ.n : Int) → ∀ a b, a ≠ b → a < σ.n → b < σ.n → (Rt σ.par u.toNat a ∧ Rt σ.par v.toNat b ∨ Rt σ.par u.toNat b ∧ Rt σ.par v.toNat a) →
      ∀ H' lp' lc' siz', USets H' s bp bz bl lp' lc' t siz' (σ.join a b) → Step (UFp s bp bz bl lp) H H' → (∀ x, fpS lp' x → fpS lp x ∨ H x = none) → K true 0 H') :
    unions_Sets_Join.call (some ⟨s, 0, none⟩) u v E H K := by
  refine unions_Sets_Join.of (unions_Sets_Join.run_eq ?_)
  unfold unions_Sets_Join.run_t
  refine unode h ?_
  by_cases hu : 0 ≤ u ∧ u < (σ.n : Int)
  case neg =>
    simp only [hu, decide_false, Bool.not_false, bcase_t]
    exact kbad fun h => hu h.1
  simp only [hu, decide_true, Bool.not_true, bcase_f, and_self]
  refine unode h ?_
  by_cases hv : 0 ≤ v ∧ v < (σ.n : Int)
  case neg =>
    simp only [hv, decide_false, Bool.not_false, bcase_t]
    exact kbad fun h => hv h.2
  simp only [hv, decide_true, Bool.not_true, bcase_f, and_self]
  obtain ⟨u, rfl⟩ : ∃ u' : Nat, u = u' := ⟨u.toNat, by omega⟩
  obtain ⟨v, rfl⟩ : ∃ v' : Nat, v = v' := ⟨v.toNat, by omega⟩
  refine uroot h ok (by omega) fun a ha han => ?_
  refine uroot h ok (by omega) fun b hb hbn => ?_
  refine bc (fun e => ?_) fun e => ?_
  · have : a = b := by omega
    subst this
    exact ksame hu.1 hu.2 hv.1 hv.2 a ha hb
  have hab : a ≠ b := fun e' => e (by rw [e'])
  simp only [nn_mk, Nat.zero_add, h.g1, ldS_mk]
  refine h.rz.ixI (by omega) (by omega) ?_
  refine h.rz.ixI (by omega) (by omega) ?_
  refine bc (fun _ => ?_) fun _ => ?_
  · exact ujoin1 h hk hbn han (k hu.1 hu.2 hv.1 hv.2 b a hab.symm hbn han (.inr ⟨ha, hb⟩))
  · exact ujoin1 h hk han hbn (k hu.1 hu.2 hv.1 hv.2 a b hab han hbn (.inl ⟨ha, hb⟩))

/-- the state a join back -/
def USt.undo (σ : USt) (j : Nat × Nat × Nat) : USt := { σ with par := upf σ.par j.1 j.1, lst := upf σ.lst j.2.1 j.2.2, k := σ.k - 1 }

theorem Rt.det {par : Nat → Nat} {v a b : Nat} (h : Rt par v a) (k : Rt par v b) : a = b := by
  induction h generalizing b with
  | here e => cases k with
    | here _ => rfl
    | up e' _ => exact (e' e).elim
  | up e _ ih => cases k with
    | here e' => exact (e e').elim
    | up _ k => exact ih k

theorem Rt.fix {par : Nat → Nat} {v a : Nat} (h : Rt par v a) : par a = a := by
  induction h with
  | here e => exact e
  | up _ _ ih => exact ih

theorem USt.Ok.rt (ok : σ.Ok) {v : Nat} (hv : v < σ.n) : ∃ r, Rt σ.par v r ∧ r < σ.n := by
  obtain ⟨hn, d, hd⟩ := ok
  have key : ∀ k v, d v = k → v < σ.n → ∃ r, Rt σ.par v r ∧ r < σ.n := by
    intro k
    induction k using Nat.strongRecOn with
    | _ k ih =>
      intro v hk hv
      by_cases e : σ.par v = v
      · exact ⟨v, .here e, hv⟩
      · obtain ⟨r, hr, hrn⟩ := ih _ (hk ▸ (hd v hv).2 e) _ rfl (hd v hv).1
        exact ⟨r, .up e hr, hrn⟩
  exact key _ v rfl hv

open Classical in
noncomputable def rtOf (par : Nat → Nat) (v : Nat) : Nat := if h : ∃ r, Rt par v r then h.choose else 0

theorem Rt.of {par : Nat → Nat} {v a : Nat} (h : Rt par v a) : rtOf par v = a := by
  unfold rtOf
  rw [dif_pos ⟨a, h⟩]
  exact (Exists.choose_spec (⟨a, h⟩ : ∃ r, Rt par v r)).det h

theorem USt.Ok.rtOf (ok : σ.Ok) {v : Nat} (hv : v < σ.n) : Rt σ.par v (rtOf σ.par v) ∧ Mz.rtOf σ.par v < σ.n := by
  obtain ⟨r, hr, hrn⟩ := ok.rt hv
  rw [hr.of]; exact ⟨hr, hrn⟩

/-- a node's name -/
noncomputable def USt.nm (σ : USt) (v : Nat) : Nat := σ.lst (Mz.rtOf σ.par v)

noncomputable def USt.mem (σ : USt) (v m : Nat) : List Nat := (List.range m).filter fun u => Mz.rtOf σ.par u == Mz.rtOf σ.par v

def USt.init (n : Nat) : USt := ⟨n, id, id, 0, fun _ => (0, 0, 0)⟩

theorem unew {n : Int} {K : Option Addr → Int → Hp → Prop} (kbad : ¬ (0 ≤ n ∧ n ≤ 1024) → K none 3 H)
    (k : 0 ≤ n → n ≤ 1024 → ∀ H' s bp bz bl t siz, USets H' s bp bz bl none 0 t siz (USt.init n.toNat) → Step (fun _ => False) H H' → (∀ b, UFp s bp bz bl none b → H b = none) → K (some ⟨s, 0, none⟩) 0 H') :
    unions_New.call n E H K := by
  refine unions_New.of (unions_New.run_eq ?_)
  unfold unions_New.run_t
  refine bc (fun e => kbad (by omega)) fun h0 => ?_
  refine bc (fun e => kbad (by omega)) fun h1 => ?_
  obtain ⟨n, rfl⟩ : ∃ u' : Nat, n = u' := ⟨n.toNat, by omega⟩
  simp only [Int.toNat_natCast]
  refine Row.make (0 : Int) rfl (by omega) (by omega) (by decide) fun bp H1 hn1 hp hs1 => ?_
  refine Row.make (0 : Int) rfl (by omega) (by omega) (by decide) fun bz H2 hn2 hz hs2 => ?_
  refine Row.make (0 : Int) rfl (by omega) (by omega) (by decide) fun bl H3 hn3 hl hs3 => ?_
  intro s hn4
  have h4 : Step (fun _ => False) H3 (H3.upd s ⟨[.slice (some ⟨bp, 0, none⟩) n n, .slice (some ⟨bz, 0, none⟩) n n, .slice (some ⟨bl, 0, none⟩) n n, .slice none 0 0], 90⟩) := Step.new hn4
  have hp2 := hp.keep hs2 fun _ _ h => h
  have hp3 := hp2.keep hs3 fun _ _ h => h
  have hz3 := hz.keep hs3 fun _ _ h => h
  have d12 : bp ≠ bz := fun e => hp.live (fpS_mk.2 rfl) (e ▸ hn2)
  have d13 : bp ≠ bl := fun e => hp2.live (fpS_mk.2 rfl) (e ▸ hn3)
  have d23 : bz ≠ bl := fun e => hz.live (fpS_mk.2 rfl) (e ▸ hn3)
  have d14 : s ≠ bp := fun e => hp3.live (fpS_mk.2 rfl) (e ▸ hn4)
  have d24 : s ≠ bz := fun e => hz3.live (fpS_mk.2 rfl) (e ▸ hn4)
  have d34 : s ≠ bl := fun e => hl.live (fpS_mk.2 rfl) (e ▸ hn4)
  have u0 : USets (H3.upd s ⟨[.slice (some ⟨bp, 0, none⟩) n n, .slice (some ⟨bz, 0, none⟩) n n, .slice (some ⟨bl, 0, none⟩) n n, .slice none 0 0], 90⟩) s bp bz bl none 0 90 (fun _ => 0) ⟨n, fun _ => 0, fun _ => 0, 0, fun _ => (0, 0, 0)⟩ :=
    ⟨upd_same, hp3.keep h4 fun _ _ h => h, hz3.keep h4 fun _ _ h => h, hl.keep h4 fun _ _ h => h, .nil, rfl, ⟨d14, d24, d34, d12, d13, d23⟩, by simp [fpS_none]⟩
  have hs : Step (fun _ => False) H (H3.upd s ⟨[.slice (some ⟨bp, 0, none⟩) n n, .slice (some ⟨bz, 0, none⟩) n n, .slice (some ⟨bl, 0, none⟩) n n, .slice none 0 0], 90⟩) :=
    ((hs1.trans hs2 fun _ h => .inl h).trans hs3 fun _ h => .inl h).trans h4 fun _ h => .inl h
  have hfr : ∀ b, UFp s bp bz bl none b → H b = none := by
    rintro b (rfl | rfl | rfl | rfl | h)
    · exact hs1.mono _ (hs2.mono _ (hs3.mono _ hn4))
    · exact hn1
    · exact hs1.mono _ hn2
    · exact hs1.mono _ (hs2.mono _ hn3)
    · rw [fpS_none] at h; exact h.elim
  generalize (H3.upd s ⟨[.slice (some ⟨bp, 0, none⟩) n n, .slice (some ⟨bz, 0, none⟩) n n, .slice (some ⟨bl, 0, none⟩) n n, .slice none 0 0], 90⟩) = H4 at u0 hs
  refine unions_New.l1_rule (fun s4 t20 t21 H' => s4 = some ⟨s, 0, none⟩ ∧ t20 = n ∧ ∃ i : Nat, t21 = i ∧ i ≤ n ∧ Step (fun _ => False) H H' ∧ ∃ siz par lst, USets H' s bp bz bl none 0 90 siz ⟨n, par, lst, 0, fun _ => (0, 0, 0)⟩ ∧ ∀ j, j < i → par j = j ∧ lst j = j)
    (fun s4 t20 t21 H' => n - t21.toNat) ?_ ⟨rfl, rfl, 0, rfl, by omega, hs, _, _, _, u0, fun j hj => by omega⟩
  rintro s4 t20 t21 H' ⟨rfl, rfl, i, rfl, hi, hst, siz, par, lst, hu, hj⟩ X hX
  refine unions_New.b1_eq ?_
  unfold unions_New.b1_t
  refine bc (fun hlt => ?_) fun hge => ?_
  · simp only [nn_mk, Nat.zero_add, hu.g0, hu.g1, hu.g2, ldS_mk]
    refine hu.stp (by omega) (by simpa using hlt) i fun H5 hu5 hs5 => ?_
    refine hu5.stz (by omega) (by simpa using hlt) 1 fun H6 hu6 hs6 => ?_
    refine hu6.stl (by omega) (by simpa using hlt) i fun H7 hu7 hs7 => ?_
    rw [i64w (by omega) (by omega)]
    refine hX _ _ _ _ ⟨rfl, rfl, i + 1, by omega, by omega, ?_, _, _, _, hu7, fun j hj' => ?_⟩ (by omega)
    · exact hst.trans ((hs5.trans hs6 fun _ h => .inl h).trans hs7 fun _ h => .inl h) fun b hb => .inr (hfr b hb)
    · simp only [Int.toNat_natCast]
      by_cases e : j = i
      · subst e; simp [upf_same]
      · rw [upf_ne e, upf_ne e]; exact hj j (by omega)
  · have e : i = n := by omega
    subst e
    refine k (by omega) (by omega) H' s bp bz bl 90 siz ?_ hst hfr
    simp only [Int.toNat_natCast]
    exact ⟨hu.hs, hu.rp.congr fun j hj' => by simp [USt.init, (hj j hj').1], hu.rz, hu.rl.congr fun j hj' => by simp [USt.init, (hj j hj').2], .nil, hu.ht, hu.d1, hu.d2⟩

end
end Go.Mz

/-
  The plain law of sets that are joined: roots, names, what a join changes. No program in sight.
-/
namespace Go.Mz

inductive UHist : USt → Prop
  | base {n : Nat} (h : n ≤ 1024) : UHist (USt.init n)
  | join {σ : USt} {a b : Nat} (h : UHist σ) (hab : a ≠ b) (ha : a < σ.n) (hb : b < σ.n) (ra : σ.par a = a) (rb : σ.par b = b) : UHist (σ.join a b)

theorem Rt.same {par : Nat → Nat} {v : Nat} : rtOf par (par v) = rtOf par v := by
  by_cases e : par v = v
  · rw [e]
  · by_cases h : ∃ r, Rt par v r
    · obtain ⟨r, hr⟩ := h
      have hr' := hr
      cases hr with
      | here e' => exact (e e').elim
      | up _ k => rw [k.of, hr'.of]
    · have h' : ¬ ∃ r, Rt par (par v) r := fun ⟨r, hr⟩ => h ⟨r, .up e hr⟩
      unfold rtOf
      rw [dif_neg h, dif_neg h']

theorem UHist.facts {σ : USt} (h : UHist σ) : σ.Ok ∧ σ.k + cnt (fun v => σ.par v == v) σ.n = σ.n := by
  induction h with
  | base h => exact ⟨⟨h, fun _ => 0, fun v hv => ⟨hv, fun e => (e rfl).elim⟩⟩, by simp [USt.init, cnt_all]⟩
  | @join σ a b h hab ha hb ra rb ih =>
    obtain ⟨ok, hc⟩ := ih
    have ok0 := ok
    obtain ⟨hn, d, hd⟩ := ok
    refine ⟨⟨hn, fun v => if rtOf σ.par v = b then d v + d a + 1 else d v, fun v hv => ?_⟩, ?_⟩
    · by_cases e : v = b
      · subst e
        have e1 : (σ.join a v).par v = a := upf_same
        have e2 : rtOf σ.par a ≠ v := by rw [(Rt.here ra).of]; exact hab
        have e3 : rtOf σ.par v = v := (Rt.here rb).of
        simp only [e1, e2, e3, if_true, if_false]
        exact ⟨ha, fun _ => by omega⟩
      · have e1 : (σ.join a b).par v = σ.par v := upf_ne e
        simp only [e1, Rt.same]
        refine ⟨(hd v hv).1, fun hne => ?_⟩
        have := (hd v hv).2 hne
        split <;> omega
    · have : cnt (fun v => σ.par v == v) σ.n = cnt (fun v => (σ.join a b).par v == v) σ.n + 1 := by
        refine cnt_less hb (by simp [rb]) (by simp [USt.join, upf_same, hab]) fun i hi e => by simp [USt.join, upf_ne e]
      show σ.k + 1 + cnt (fun v => (σ.join a b).par v == v) σ.n = σ.n
      omega

theorem UHist.ok {σ : USt} (h : UHist σ) : σ.Ok := h.facts.1
theorem UHist.le {σ : USt} (h : UHist σ) : σ.k ≤ σ.n := by have := h.facts.2; omega
theorem UHist.small {σ : USt} (h : UHist σ) : σ.k ≤ 1048576 := by have := h.le; have := h.ok.1; omega

theorem UHist.undo {σ : USt} (h : UHist σ) (hk : 0 < σ.k) : ∃ σ' a b, UHist σ' ∧ σ = σ'.join a b ∧ a < σ'.n ∧ b < σ'.n ∧ σ'.par b = b ∧ σ'.par a = a ∧ a ≠ b := by
  cases h with
  | base h => simp [USt.init] at hk
  | join h hab ha hb ra rb => exact ⟨_, _, _, h, rfl, ha, hb, rb, ra, hab⟩

/-- a join taken back -/
theorem USets.back {H : Hp} {s bp bz bl : Nat} {lp : Option Addr} {lc : Nat} {t : BT} {siz : Nat → Int} {σ : USt} {a b : Nat} (rb : σ.par b = b)
    (h : USets H s bp bz bl lp lc t siz ((σ.join a b).undo (b, a, σ.lst a))) : USets H s bp bz bl lp lc t siz σ := by
  have e1 : upf (upf σ.par b a) b b = σ.par := by
    funext i; unfold upf; split
    · rename_i e; rw [e, rb]
    · rfl
  have e2 : upf (upf σ.lst a (min (σ.lst a) (σ.lst b))) a (σ.lst a) = σ.lst := by
    funext i; unfold upf; split
    · rename_i e; rw [e]
    · rfl
  obtain ⟨hs, rp, rz, rl, rg, ht, d1, d2⟩ := h
  simp only [USt.undo, USt.join, e1, e2, Nat.add_sub_cancel] at hs rp rz rl rg
  exact ⟨hs, rp, rz, rl, rg.congr fun i hi => by rw [upf_ne (by omega)], ht, d1, d2⟩

end Go.Mz

/-
  The plain law of sets that are joined, more: which nodes have one root, and that names are least nodes. No program in sight.
-/
namespace Go.Mz

theorem join_rt {σ : USt} {a b : Nat} (ok : σ.Ok) (hab : a ≠ b) (ha : a < σ.n) (hb : b < σ.n) (ra : σ.par a = a) (rb : σ.par b = b) {v : Nat} (hv : v < σ.n) :
    rtOf (σ.join a b).par v = if rtOf σ.par v = b then a else rtOf σ.par v := by
  have hpa : (σ.join a b).par a = a := by show upf σ.par b a a = a; rw [upf_ne hab, ra]
  have hpb : (σ.join a b).par b = a := upf_same
  have key : ∀ v r, Rt σ.par v r → Rt (σ.join a b).par v (if r = b then a else r) := by
    intro v r h
    induction h with
    | @here v e =>
      split
      · rename_i e'; subst e'
        exact .up (by rw [hpb]; exact hab) (by rw [hpb]; exact .here hpa)
      · rename_i e'; exact .here (by show upf σ.par b a v = v; rw [upf_ne e', e])
    | @up v r e k ih =>
      have hvb : v ≠ b := fun e' => e (by rw [e', rb])
      have ep : (σ.join a b).par v = σ.par v := upf_ne hvb
      exact .up (by rw [ep]; exact e) (by rw [ep]; exact ih)
  obtain ⟨r, hr, _⟩ := ok.rt hv
  rw [(key v r hr).of, hr.of]

/-- each set's least node is told at its root -/
def USt.Least (σ : USt) : Prop := ∀ v, v < σ.n → σ.lst (rtOf σ.par v) ≤ v ∧ rtOf σ.par (σ.lst (rtOf σ.par v)) = rtOf σ.par v

theorem UHist.least {σ : USt} (h : UHist σ) : σ.Least ∧ σ.k + cnt (fun v => σ.nm v == v) σ.n = σ.n := by
  induction h with
  | @base n h =>
    have e : ∀ v, rtOf (USt.init n).par v = v := fun v => (Rt.here rfl).of
    refine ⟨fun v hv => ⟨by rw [e]; exact Nat.le_refl _, by simp only [e]; rfl⟩, ?_⟩
    have : cnt (fun v => (USt.init n).nm v == v) (USt.init n).n = n := cnt_all fun i hi => by unfold USt.nm; rw [e]; exact beq_self_eq_true i
    rw [this]; simp [USt.init]
  | @join σ a b h hab ha hb ra rb ih =>
    obtain ⟨hl, hc⟩ := ih
    have ok := h.ok
    have jr := fun {v} hv => join_rt (v := v) ok hab ha hb ra rb hv
    have ea : rtOf σ.par a = a := (Rt.here ra).of
    have eb : rtOf σ.par b = b := (Rt.here rb).of
    have la := hl a ha
    have lb := hl b hb
    rw [ea] at la
    rw [eb] at lb
    have hla : σ.lst a < σ.n := by omega
    have hlb : σ.lst b < σ.n := by omega
    have lne : σ.lst a ≠ σ.lst b := fun e => hab (by rw [← la.2, ← lb.2, e])
    have hm : ∀ m, m = min (σ.lst a) (σ.lst b) → m < σ.n ∧ rtOf (σ.join a b).par m = a := by
      intro m hm
      have : m = σ.lst a ∨ m = σ.lst b := by omega
      rcases this with e | e
      · exact ⟨by omega, by rw [jr (by omega), e, la.2, if_neg hab]⟩
      · exact ⟨by omega, by rw [jr (by omega), e, lb.2, if_pos rfl]⟩
    have lja : (σ.join a b).lst a = min (σ.lst a) (σ.lst b) := upf_same
    have ljn : ∀ r, r ≠ a → (σ.join a b).lst r = σ.lst r := fun r hr => upf_ne hr
    refine ⟨fun v hv => ?_, ?_⟩
    · have hv : v < σ.n := hv
      rw [jr hv]
      split
      · rename_i e
        rw [lja]
        have := (hl v hv).1
        rw [e] at this
        exact ⟨by omega, (hm _ rfl).2⟩
      · rename_i e
        by_cases e' : rtOf σ.par v = a
        · rw [e', lja]
          have := (hl v hv).1
          rw [e'] at this
          exact ⟨by omega, (hm _ rfl).2⟩
        · rw [ljn _ e']
          have := hl v hv
          refine ⟨this.1, ?_⟩
          rw [jr (by omega), this.2, if_neg e]
    · have : cnt (fun v => σ.nm v == v) σ.n = cnt (fun v => (σ.join a b).nm v == v) σ.n + 1 := by
        refine cnt_less (b := max (σ.lst a) (σ.lst b)) (by omega) ?_ ?_ fun i hi e => ?_
        · have : max (σ.lst a) (σ.lst b) = σ.lst a ∨ max (σ.lst a) (σ.lst b) = σ.lst b := by omega
          simp only [beq_iff_eq]
          unfold USt.nm
          rcases this with e | e
          · rw [e, la.2]
          · rw [e, lb.2]
        · have h1 : rtOf (σ.join a b).par (max (σ.lst a) (σ.lst b)) = a := by
            have : max (σ.lst a) (σ.lst b) = σ.lst a ∨ max (σ.lst a) (σ.lst b) = σ.lst b := by omega
            rcases this with e | e
            · rw [jr (by omega), e, la.2, if_neg hab]
            · rw [jr (by omega), e, lb.2, if_pos rfl]
          have : (σ.join a b).nm (max (σ.lst a) (σ.lst b)) ≠ max (σ.lst a) (σ.lst b) := by
            unfold USt.nm
            rw [h1, lja]; omega
          simpa using this
        · unfold USt.nm
          rw [jr hi]
          have hli := hl i hi
          split
          · rename_i e1
            rw [lja, e1]
            rw [e1] at hli
            rw [Bool.eq_iff_iff, beq_iff_eq, beq_iff_eq]
            omega
          · rename_i e1
            by_cases e2 : rtOf σ.par i = a
            · rw [e2, lja]
              rw [e2] at hli
              rw [Bool.eq_iff_iff, beq_iff_eq, beq_iff_eq]
              omega
            · rw [ljn _ e2]
      show σ.k + 1 + cnt (fun v => (σ.join a b).nm v == v) σ.n = σ.n
      omega

/-- the sets are those that hang together by R -/
structure Rep (σ : USt) (R : Nat → Nat → Prop) : Prop where
  hist : UHist σ
  low : ∀ u v, R u v → u < σ.n ∧ v < σ.n
  rep : ∀ u v, u < σ.n → v < σ.n → (rtOf σ.par u = rtOf σ.par v ↔ Cn R u v)

theorem Rep.init {n : Nat} (h : n ≤ 1024) : Rep (USt.init n) (fun _ _ => False) where
  hist := .base h
  low := fun _ _ h => h.elim
  rep := fun u v _ _ => by
    have e : ∀ v, rtOf (USt.init n).par v = v := fun v => (Rt.here rfl).of
    rw [e, e]
    exact ⟨fun e => e ▸ .refl u, fun h => h.resp (fun x => x) fun _ _ h => h.elim⟩

theorem Rep.same {σ : USt} {R : Nat → Nat → Prop} (h : Rep σ R) {u v : Nat} (hu : u < σ.n) (hv : v < σ.n) (e : rtOf σ.par u = rtOf σ.par v) : Rep σ (fun x y => R x y ∨ (x = u ∧ y = v)) where
  hist := h.hist
  low := fun x y hxy => by
    rcases hxy with h' | ⟨rfl, rfl⟩
    · exact h.low _ _ h'
    · exact ⟨hu, hv⟩
  rep := fun x y hx hy => by
    rw [h.rep x y hx hy]
    refine ⟨Cn.mono fun _ _ h => .edge (.inl h), Cn.mono fun p q hpq => ?_⟩
    rcases hpq with h' | ⟨rfl, rfl⟩
    · exact .edge h'
    · exact (h.rep _ _ hu hv).1 e

theorem Rep.join {σ : USt} {R : Nat → Nat → Prop} (h : Rep σ R) {u v a b : Nat} (hu : u < σ.n) (hv : v < σ.n) (hab : a ≠ b) (ha : a < σ.n) (hb : b < σ.n)
    (hor : rtOf σ.par u = a ∧ rtOf σ.par v = b ∨ rtOf σ.par u = b ∧ rtOf σ.par v = a) (ra : σ.par a = a) (rb : σ.par b = b) : Rep (σ.join a b) (fun x y => R x y ∨ (x = u ∧ y = v)) where
  hist := .join h.hist hab ha hb ra rb
  low := fun x y hxy => by
    rcases hxy with h' | ⟨rfl, rfl⟩
    · exact h.low _ _ h'
    · exact ⟨hu, hv⟩
  rep := fun x y hx hy => by
    have hx : x < σ.n := hx
    have hy : y < σ.n := hy
    have jr := fun {v} hv => join_rt (v := v) h.hist.ok hab ha hb ra rb hv
    constructor
    · intro e
      rw [jr hx, jr hy] at e
      have up : ∀ p q, Cn R p q → Cn (fun x y => R x y ∨ (x = u ∧ y = v)) p q := fun p q => Cn.mono fun _ _ h => .edge (.inl h)
      have uv : Cn (fun x y => R x y ∨ (x = u ∧ y = v)) u v := .edge (.inr ⟨rfl, rfl⟩)
      -- a node of b's set hangs together with one of a's
      have ab : ∀ p q, p < σ.n → q < σ.n → rtOf σ.par p = a → rtOf σ.par q = b → Cn (fun x y => R x y ∨ (x = u ∧ y = v)) p q := by
        intro p q hp hq ep eq
        rcases hor with ⟨e1, e2⟩ | ⟨e1, e2⟩
        · exact (up _ _ ((h.rep p u hp hu).1 (ep.trans e1.symm))).trans (uv.trans (up _ _ ((h.rep v q hv hq).1 (e2.trans eq.symm))))
        · exact (up _ _ ((h.rep p v hp hv).1 (ep.trans e2.symm))).trans (uv.symm.trans (up _ _ ((h.rep u q hu hq).1 (e1.trans eq.symm))))
      by_cases ex : rtOf σ.par x = b
      · by_cases ey : rtOf σ.par y = b
        · exact up _ _ ((h.rep x y hx hy).1 (ex.trans ey.symm))
        · rw [if_pos ex, if_neg ey] at e
          exact (ab y x hy hx e.symm ex).symm
      · by_cases ey : rtOf σ.par y = b
        · rw [if_neg ex, if_pos ey] at e
          exact ab x y hx hy e ey
        · rw [if_neg ex, if_neg ey] at e
          exact up _ _ ((h.rep x y hx hy).1 e)
    · intro hc
      refine hc.resp (fun x => rtOf (σ.join a b).par x) fun p q hpq => ?_
      rcases hpq with h' | ⟨rfl, rfl⟩
      · obtain ⟨hp, hq⟩ := h.low _ _ h'
        rw [jr hp, jr hq, (h.rep _ _ hp hq).2 (.edge h')]
      · rw [jr hu, jr hv]
        rcases hor with ⟨e1, e2⟩ | ⟨e1, e2⟩
        · rw [e1, e2, if_neg hab, if_pos rfl]
        · rw [e1, e2, if_neg hab, if_pos rfl]

theorem Rep.congr {σ : USt} {R S : Nat → Nat → Prop} (h : Rep σ R) (e : ∀ u v, S u v ↔ R u v) : Rep σ S := by
  have : S = R := funext fun u => funext fun v => propext (e u v)
  rw [this]; exact h

end Go.Mz

/-
  The plain law of the document's parts: rounds over the edges make every node's label the least node that it hangs together with; parts are numbered in the order of these. No program in sight.
-/
namespace Go.Mz

theorem cnt_lt {p q : Nat → Bool} {n w : Nat} (h : ∀ i, i < n → p i = true → q i = true) (hw : w < n) (hp : p w = false) (hq : q w = true) : cnt p n < cnt q n := by
  induction n with
  | zero => omega
  | succ n ih =>
    simp only [cnt]
    by_cases e : w = n
    · subst e
      have := cnt_mono (n := w) fun i hi => h i (by omega)
      rw [hp, hq]; simp; omega
    · have := ih (fun i hi => h i (by omega)) (by omega)
      cases hp' : p n with
      | false => simp; omega
      | true => rw [h n (by omega) hp']; simp; omega

def stepN (g : Nat → Nat) (u v : Nat) : Nat → Nat := if g u < g v then upf g v (g u) else upf g u (g v)
def roundN (g : Nat → Nat) (pr : Nat → Nat × Nat) : Nat → Nat → Nat
  | 0 => g
  | i + 1 => stepN (roundN g pr i) (pr i).1 (pr i).2
def roundsN (g : Nat → Nat) (pr : Nat → Nat × Nat) (k : Nat) : Nat → Nat → Nat
  | 0 => g
  | r + 1 => roundN (roundsN g pr k r) pr k

/-- joined by one of the first k pairs -/
def Prs (pr : Nat → Nat × Nat) (k : Nat) (x y : Nat) : Prop := ∃ i, i < k ∧ x = (pr i).1 ∧ y = (pr i).2

/-- the least node that hangs together with one -/
structure Lst (R : Nat → Nat → Prop) (L : Nat → Nat) : Prop where
  cn : ∀ v, Cn R (L v) v
  le : ∀ u v, Cn R u v → L v ≤ u

theorem lst_ex (R : Nat → Nat → Prop) : ∃ L, Lst R L := by
  have each : ∀ v, ∃ m, Cn R m v ∧ ∀ u, Cn R u v → m ≤ u := fun v => by
    have key : ∀ n, (∃ u, u ≤ n ∧ Cn R u v) → ∃ m, Cn R m v ∧ ∀ u, Cn R u v → m ≤ u := by
      intro n
      induction n with
      | zero => rintro ⟨u, hu, hc⟩; have : u = 0 := by omega
                subst this; exact ⟨0, hc, fun _ _ => Nat.zero_le _⟩
      | succ n ih =>
        rintro ⟨u, hu, hc⟩
        by_cases h : ∃ u, u ≤ n ∧ Cn R u v
        · exact ih h
        · refine ⟨u, hc, fun w hw => ?_⟩
          by_cases hwn : w ≤ n
          · exact (h ⟨w, hwn, hw⟩).elim
          · omega
    exact key v ⟨v, Nat.le_refl _, .refl v⟩
  obtain ⟨L, hL⟩ := Classical.axiomOfChoice each
  exact ⟨L, fun v => (hL v).1, fun u v h => (hL v).2 u h⟩

section
variable {R : Nat → Nat → Prop} {L : Nat → Nat} {M : Nat} {g : Nat → Nat} {u v w : Nat}

theorem Lst.eq (h : Lst R L) (k : Cn R u v) : L u = L v :=
  Nat.le_antisymm (h.le _ _ ((h.cn v).trans k.symm)) (h.le _ _ ((h.cn u).trans k))
theorem Lst.self (h : Lst R L) : L v ≤ v := h.le v v (.refl v)
theorem Lst.idem (h : Lst R L) : L (L v) = L v := h.eq (h.cn v)
theorem Lst.iff (h : Lst R L) : L u = L v ↔ Cn R u v := ⟨fun e => (h.cn u).symm.trans (e ▸ h.cn v), h.eq⟩

def GInv (R : Nat → Nat → Prop) (M : Nat) (g : Nat → Nat) : Prop := ∀ v, v < M → Cn R (g v) v ∧ g v ≤ v
def bad (L : Nat → Nat) (M : Nat) (g : Nat → Nat) : Nat := cnt (fun v => !(g v == L v)) M

theorem GInv.step (h : Lst R L) (hg : GInv R M g) (hu : u < M) (hv : v < M) (e : Cn R u v) :
    GInv R M (stepN g u v) ∧ (∀ w, w < M → g w = L w → stepN g u v w = L w) ∧ (g u = L u ∨ g v = L v → stepN g u v u = L u ∧ stepN g u v v = L v) := by
  have en := h.eq e
  have hgu := hg u hu
  have hgv := hg v hv
  have lu := h.le _ _ hgu.1
  have lv := h.le _ _ hgv.1
  unfold stepN
  split
  · rename_i hlt
    refine ⟨fun w hw => ?_, fun w hw hgw => ?_, fun hor => ?_⟩
    · by_cases ew : w = v
      · subst ew; rw [upf_same]; exact ⟨hgu.1.trans e, by omega⟩
      · rw [upf_ne ew]; exact hg w hw
    · by_cases ew : w = v
      · subst ew; omega
      · rw [upf_ne ew]; exact hgw
    · have : g u = L u := by omega
      rw [upf_same]
      by_cases ew : u = v
      · subst ew; omega
      · rw [upf_ne ew]; exact ⟨this, by omega⟩
  · rename_i hlt
    refine ⟨fun w hw => ?_, fun w hw hgw => ?_, fun hor => ?_⟩
    · by_cases ew : w = u
      · subst ew; rw [upf_same]; exact ⟨hgv.1.trans e.symm, by omega⟩
      · rw [upf_ne ew]; exact hg w hw
    · by_cases ew : w = u
      · subst ew; rw [upf_same]; omega
      · rw [upf_ne ew]; exact hgw
    · have : g v = L v := by omega
      rw [upf_same]
      by_cases ew : v = u
      · subst ew; rw [upf_same]; omega
      · rw [upf_ne ew]; exact ⟨by omega, this⟩

variable {pr : Nat → Nat × Nat} {k : Nat}

theorem roundN_inv (h : Lst (Prs pr k) L) (hr : ∀ i, i < k → (pr i).1 < M ∧ (pr i).2 < M) (hg : GInv (Prs pr k) M g) : ∀ i, i ≤ k → GInv (Prs pr k) M (roundN g pr i) ∧ ∀ w, w < M → g w = L w → roundN g pr i w = L w
  | 0, _ => ⟨hg, fun _ _ e => e⟩
  | i + 1, hi => by
    obtain ⟨h1, h2⟩ := roundN_inv h hr hg i (by omega)
    obtain ⟨e1, e2⟩ := hr i (by omega)
    obtain ⟨s1, s2, _⟩ := h1.step h e1 e2 (.edge ⟨i, by omega, rfl, rfl⟩)
    exact ⟨s1, fun w hw e => s2 w hw (h2 w hw e)⟩

theorem roundN_later (h : Lst (Prs pr k) L) (hr : ∀ i, i < k → (pr i).1 < M ∧ (pr i).2 < M) (hg : GInv (Prs pr k) M g) {i : Nat} (hw : w < M) (e : roundN g pr i w = L w) : ∀ d, i + d ≤ k → roundN g pr (i + d) w = L w
  | 0, _ => e
  | d + 1, hd => by
    obtain ⟨h1, _⟩ := roundN_inv h hr hg (i + d) (by omega)
    obtain ⟨e1, e2⟩ := hr (i + d) (by omega)
    exact (h1.step h e1 e2 (.edge ⟨i + d, by omega, rfl, rfl⟩)).2.1 w hw (roundN_later h hr hg hw e d (by omega))

theorem round_bad (h : Lst (Prs pr k) L) (hr : ∀ i, i < k → (pr i).1 < M ∧ (pr i).2 < M) (hg : GInv (Prs pr k) M g) : bad L M (roundN g pr k) < bad L M g ∨ ∀ v, v < M → g v = L v := by
  obtain ⟨h1, h2⟩ := roundN_inv h hr hg k (Nat.le_refl _)
  by_cases hx : ∃ w, w < M ∧ roundN g pr k w = L w ∧ g w ≠ L w
  · obtain ⟨w, hw, e1, e2⟩ := hx
    refine .inl (cnt_lt (fun i hi hp => ?_) hw (by simp [e1]) (by simp [e2]))
    simp only [Bool.not_eq_true', beq_eq_false_iff_ne] at hp ⊢
    exact fun e => hp (h2 i hi e)
  · refine .inr ?_
    have back : ∀ w, w < M → roundN g pr k w = L w → g w = L w := fun w hw e => by
      by_cases e2 : g w = L w
      · exact e2
      · exact (hx ⟨w, hw, e, e2⟩).elim
    have edge : ∀ x y, Prs pr k x y → (g x = L x) = (g y = L y) := by
      rintro x y ⟨i, hi, rfl, rfl⟩
      obtain ⟨e1, e2⟩ := hr i hi
      obtain ⟨q1, q2⟩ := roundN_inv h hr hg i (by omega)
      have s := (q1.step h e1 e2 (.edge ⟨i, hi, rfl, rfl⟩)).2.2
      have fin : ∀ w, w < M → roundN g pr (i + 1) w = L w → g w = L w := fun w hw e => back w hw (by
        have := roundN_later h hr hg hw e (k - (i + 1)) (by omega)
        rwa [show i + 1 + (k - (i + 1)) = k by omega] at this)
      exact propext ⟨fun e => fin _ e2 (s (.inl (q2 _ e1 e))).2, fun e => fin _ e1 (s (.inr (q2 _ e2 e))).1⟩
    intro v hv
    have hm : L v < M := Nat.lt_of_le_of_lt h.self hv
    have := (h.cn v).resp (fun x => g x = L x) edge
    refine this.mp ?_
    have e1 := h.idem (v := v)
    have a := (hg _ hm).2
    have b := h.le _ _ (hg _ hm).1
    omega

theorem roundsN_inv (h : Lst (Prs pr k) L) (hr : ∀ i, i < k → (pr i).1 < M ∧ (pr i).2 < M) (hg : GInv (Prs pr k) M g) : ∀ r, GInv (Prs pr k) M (roundsN g pr k r) ∧ bad L M (roundsN g pr k r) ≤ bad L M g - r
  | 0 => ⟨hg, Nat.le_refl _⟩
  | r + 1 => by
    obtain ⟨h1, h2⟩ := roundsN_inv h hr hg r
    obtain ⟨q1, q2⟩ := roundN_inv h hr h1 k (Nat.le_refl _)
    refine ⟨q1, ?_⟩
    rcases round_bad h hr h1 with hb | hb
    · show bad L M (roundN (roundsN g pr k r) pr k) ≤ _
      omega
    · have : bad L M (roundN (roundsN g pr k r) pr k) = 0 := cnt_none fun i hi => by rw [q2 i hi (hb i hi)]; simp
      show bad L M (roundN (roundsN g pr k r) pr k) ≤ _
      omega

/-- as many rounds as nodes -/
theorem parts_done (h : Lst (Prs pr k) L) (hr : ∀ i, i < k → (pr i).1 < M ∧ (pr i).2 < M) (hv : v < M) : roundsN (fun v => v) pr k M v = L v := by
  have hg : GInv (Prs pr k) M (fun v => v) := fun v hv => ⟨.refl v, Nat.le_refl _⟩
  obtain ⟨_, hb⟩ := roundsN_inv h hr hg M
  have hn : bad L M (fun v => v) ≤ M := cnt_le _ _
  have h0 : bad L M (roundsN (fun v => v) pr k M) = 0 := by omega
  by_cases e1 : roundsN (fun v => v) pr k M v = L v
  · exact e1
  · have := cnt_pos (p := fun v => !(roundsN (fun v => v) pr k M v == L v)) hv (by simp [e1])
    unfold bad at h0
    omega

/-- the number of a part -/
def pno (L : Nat → Nat) (v : Nat) : Nat := cnt (fun w => L w == w) (L v)

theorem pno_inj (h : Lst R L) (e : pno L u = pno L v) : L u = L v := by
  unfold pno at e
  have mono : ∀ a d, L a = a → cnt (fun w => L w == w) a < cnt (fun w => L w == w) (a + 1 + d) := by
    intro a d ha
    induction d with
    | zero => simp only [Nat.add_zero, cnt, ha, beq_self_eq_true, if_true]; omega
    | succ d ih => show _ < cnt _ (a + 1 + d) + _; omega
  rcases Nat.lt_trichotomy (L u) (L v) with hlt | heq | hlt
  · have := mono (L u) (L v - (L u + 1)) h.idem
    rw [show L u + 1 + (L v - (L u + 1)) = L v by omega] at this
    omega
  · exact heq
  · have := mono (L v) (L u - (L v + 1)) h.idem
    rw [show L v + 1 + (L u - (L v + 1)) = L u by omega] at this
    omega
end

/-! ### The parts that are left -/

/-- the ends of edges, as numbers of nodes -/
def ePr (e : Nat → Edg) : Nat → Nat × Nat := fun i => ((e i).fr.toNat, (e i).to.toNat)

end Go.Mz

/-
  The plain law of the cheapest forest: which edges are in it, that it is free of circles, that it holds together what hangs together, and that any way of taking right edges takes it. No program in sight.
-/
namespace Go.Mz

theorem Cn.split {R : Nat → Nat → Prop} {a b u v : Nat} (h : Cn (fun x y => R x y ∨ (x = a ∧ y = b)) u v) : Cn R u v ∨ (Cn R u a ∧ Cn R b v) ∨ (Cn R u b ∧ Cn R a v) := by
  induction h with
  | refl u => exact .inl (.refl u)
  | edge h =>
    rcases h with h | ⟨rfl, rfl⟩
    · exact .inl (.edge h)
    · exact .inr (.inl ⟨.refl _, .refl _⟩)
  | symm _ ih =>
    rcases ih with h | ⟨h, k⟩ | ⟨h, k⟩
    · exact .inl h.symm
    · exact .inr (.inr ⟨k.symm, h.symm⟩)
    · exact .inr (.inl ⟨k.symm, h.symm⟩)
  | trans _ _ ih ih' =>
    rcases ih with h | ⟨h, k⟩ | ⟨h, k⟩ <;> rcases ih' with h' | ⟨h', k'⟩ | ⟨h', k'⟩
    · exact .inl (h.trans h')
    · exact .inr (.inl ⟨h.trans h', k'⟩)
    · exact .inr (.inr ⟨h.trans h', k'⟩)
    · exact .inr (.inl ⟨h, k.trans h'⟩)
    · exact .inr (.inl ⟨h, k'⟩)
    · exact .inl (h.trans k')
    · exact .inr (.inr ⟨h, k.trans h'⟩)
    · exact .inl (h.trans k')
    · exact .inr (.inr ⟨h, k'⟩)

/-- joined by one of the pairs that P names -/
def Sel (pr : Nat → Nat × Nat) (n : Nat) (P : Nat → Prop) (x y : Nat) : Prop := ∃ i, i < n ∧ P i ∧ x = (pr i).1 ∧ y = (pr i).2

section
variable {pr : Nat → Nat × Nat} {n : Nat}

theorem Sel.of {P : Nat → Prop} {i : Nat} (hi : i < n) (h : P i) : Sel pr n P (pr i).1 (pr i).2 := ⟨i, hi, h, rfl, rfl⟩
theorem Sel.mono {P Q : Nat → Prop} (h : ∀ i, i < n → P i → Q i) {u v : Nat} (k : Cn (Sel pr n P) u v) : Cn (Sel pr n Q) u v :=
  k.mono fun u v ⟨i, hi, hp, e1, e2⟩ => .edge ⟨i, hi, h i hi hp, e1, e2⟩
theorem Sel.via {P : Nat → Prop} {R : Nat → Nat → Prop} (h : ∀ i, i < n → P i → Cn R (pr i).1 (pr i).2) {u v : Nat} (k : Cn (Sel pr n P) u v) : Cn R u v :=
  k.mono fun u v ⟨i, hi, hp, e1, e2⟩ => by rw [e1, e2]; exact h i hi hp

/-! ### How many joins -/

theorem Rep.add {σ : USt} {R : Nat → Nat → Prop} (h : Rep σ R) {u v : Nat} (hu : u < σ.n) (hv : v < σ.n) :
    ∃ τ, Rep τ (fun x y => R x y ∨ (x = u ∧ y = v)) ∧ τ.n = σ.n ∧ ((Cn R u v ∧ τ.k = σ.k) ∨ (¬ Cn R u v ∧ τ.k = σ.k + 1)) := by
  by_cases e : rtOf σ.par u = rtOf σ.par v
  · exact ⟨σ, h.same hu hv e, rfl, .inl ⟨(h.rep u v hu hv).1 e, rfl⟩⟩
  · obtain ⟨r1, l1⟩ := h.hist.ok.rtOf hu
    obtain ⟨r2, l2⟩ := h.hist.ok.rtOf hv
    exact ⟨_, h.join hu hv e l1 l2 (.inl ⟨rfl, rfl⟩) r1.fix r2.fix, rfl, .inr ⟨fun c => e ((h.rep u v hu hv).2 c), rfl⟩⟩

/-- names are the least nodes -/
theorem Rep.lst {σ : USt} {R : Nat → Nat → Prop} {L : Nat → Nat} (h : Rep σ R) (hL : Lst R L) {v : Nat} (hv : v < σ.n) : σ.nm v = L v := by
  have h1 := h.hist.least.1 v hv
  have h2 : σ.nm v < σ.n := Nat.lt_of_le_of_lt h1.1 hv
  have h3 : Cn R (σ.nm v) v := (h.rep _ _ h2 hv).1 h1.2
  have h4 := hL.le _ _ h3
  have h5 : L v < σ.n := by omega
  have h6 := (h.hist.least.1 (L v) h5).1
  have h7 := (h.rep _ _ h5 hv).2 (hL.cn v)
  rw [h7] at h6
  have : σ.nm v ≤ L v := h6
  omega

theorem Rep.parts {σ : USt} {R : Nat → Nat → Prop} {L : Nat → Nat} (h : Rep σ R) (hL : Lst R L) : σ.k + cnt (fun v => L v == v) σ.n = σ.n := by
  have := h.hist.least.2
  rwa [cnt_congr (q := fun v => L v == v) fun i hi => by rw [h.lst hL hi]] at this
end

/-! ### The order of edges, and the forest -/

/-- edge a stands ahead of edge b -/
def ahd (e : Nat → Edg) (a b : Nat) : Prop := (e a).co < (e b).co ∨ ((e a).co = (e b).co ∧ a < b)

instance {e : Nat → Edg} {a b : Nat} : Decidable (ahd e a b) := by unfold ahd; infer_instance

/-- taken: what stands ahead of it doesn't join its ends -/
def InF (e : Nat → Edg) (n k : Nat) : Prop := k < n ∧ ¬ Cn (Sel (ePr e) n (fun i => ahd e i k)) (ePr e k).1 (ePr e k).2

section
variable {e : Nat → Edg} {n : Nat} {a b c i : Nat}

theorem ahd_irr : ¬ ahd e a a := by unfold ahd; omega
theorem ahd_trans (h : ahd e a b) (k : ahd e b c) : ahd e a c := by unfold ahd at *; omega
theorem ahd_tot (h : a ≠ b) : ahd e a b ∨ ahd e b a := by unfold ahd; omega
theorem ahd_asymm (h : ahd e a b) : ¬ ahd e b a := by unfold ahd at *; omega

/-- the last one of some -/
theorem last_ex {P : Nat → Prop} : ∀ {n : Nat}, (∃ t, t < n ∧ P t) → ∃ m, m < n ∧ P m ∧ ∀ t, t < n → P t → t ≠ m → ahd e t m
  | 0, ⟨t, h, _⟩ => by omega
  | n + 1, h => by
    by_cases h' : ∃ t, t < n ∧ P t
    · obtain ⟨m, hm, pm, hall⟩ := last_ex h'
      by_cases hn : P n ∧ ahd e m n
      · refine ⟨n, by omega, hn.1, fun t ht pt hne => ?_⟩
        by_cases em : t = m
        · rw [em]; exact hn.2
        · exact ahd_trans (hall t (by omega) pt em) hn.2
      · refine ⟨m, by omega, pm, fun t ht pt hne => ?_⟩
        by_cases et : t = n
        · subst et
          exact (ahd_tot hne).resolve_right fun k => hn ⟨pt, k⟩
        · exact hall t (by omega) pt hne
    · obtain ⟨t, ht, pt⟩ := h
      have : t = n := by
        by_cases ht' : t < n
        · exact (h' ⟨t, ht', pt⟩).elim
        · omega
      subst this
      exact ⟨t, by omega, pt, fun s hs ps hne => (h' ⟨s, by omega, ps⟩).elim⟩

/-- an edge that is the first to leave a set -/
theorem InF.cut {C : Nat → Prop} (hi : i < n) (hx : ¬ (C (ePr e i).1 ↔ C (ePr e i).2)) (h : ∀ j, j < n → ahd e j i → (C (ePr e j).1 ↔ C (ePr e j).2)) : InF e n i :=
  ⟨hi, fun hc => hx (hc.iff fun u v ⟨j, hj, ha, e1, e2⟩ => by rw [e1, e2]; exact h j hj ha)⟩

/-- no circles -/
theorem InF.free : ∀ (c : Nat) {T : Nat → Bool}, cnt T n ≤ c → (∀ t, t < n → T t = true → InF e n t) → ∀ {i : Nat}, InF e n i → T i = false → ¬ Cn (Sel (ePr e) n fun t => T t = true) (ePr e i).1 (ePr e i).2 := by
  intro c
  induction c with
  | zero =>
    intro T hc hT i hi hTi h
    exact hi.2 (Sel.mono (fun t ht htt => by have := cnt_pos ht htt; omega) h)
  | succ c ih =>
    intro T hc hT i hi hTi h
    obtain ⟨m, hm, pm, hall⟩ := last_ex (e := e) (P := fun t => T t = true ∨ t = i) ⟨i, hi.1, .inr rfl⟩
    by_cases em : m = i
    · subst em
      exact hi.2 (Sel.mono (fun t ht htt => hall t ht (.inl htt) fun et => by rw [et, hTi] at htt; cases htt) h)
    · have hTm : T m = true := pm.resolve_right em
      obtain ⟨T', hT'⟩ : ∃ T', T' = upf T m false := ⟨_, rfl⟩
      have hcn : cnt T n = cnt T' n + 1 := cnt_less hm hTm (by rw [hT', upf_same]) fun j _ hj => by rw [hT', upf_ne hj]
      have sub : ∀ t, T' t = true → T t = true ∧ t ≠ m := fun t ht => by
        by_cases et : t = m
        · subst et; rw [hT', upf_same] at ht; cases ht
        · rw [hT', upf_ne et] at ht; exact ⟨ht, et⟩
      have no := ih (T := T') (by omega) (fun t ht htt => hT t ht (sub t htt).1) hi (by rw [hT', upf_ne (fun h => em h.symm)]; exact hTi)
      have h2 : Cn (fun x y => Sel (ePr e) n (fun t => T' t = true) x y ∨ (x = (ePr e m).1 ∧ y = (ePr e m).2)) (ePr e i).1 (ePr e i).2 := h.mono fun u v ⟨t, ht, htt, e1, e2⟩ => by
        by_cases et : t = m
        · subst et; exact .edge (.inr ⟨e1, e2⟩)
        · exact .edge (.inl ⟨t, ht, by show T' t = true; rw [hT', upf_ne et]; exact htt, e1, e2⟩)
      have up : ∀ {u v : Nat}, Cn (Sel (ePr e) n fun t => T' t = true) u v → Cn (Sel (ePr e) n fun t => ahd e t m) u v := fun h => Sel.mono (fun t ht htt => hall t ht (.inl (sub t htt).1) (sub t htt).2) h
      have ie : Cn (Sel (ePr e) n fun t => ahd e t m) (ePr e i).1 (ePr e i).2 := .edge (Sel.of hi.1 (hall i hi.1 (.inr rfl) fun h => em h.symm))
      rcases h2.split with h3 | ⟨h3, h4⟩ | ⟨h3, h4⟩
      · exact no h3
      · exact (hT m hm hTm).2 ((up h3).symm.trans (ie.trans (up h4).symm))
      · exact (hT m hm hTm).2 ((up h4).trans (ie.symm.trans (up h3)))

/-- right edges that hold all together are all the right edges -/
theorem InF.all {T : Nat → Bool} (hT : ∀ t, t < n → T t = true → InF e n t) (hs : ∀ i, i < n → Cn (Sel (ePr e) n fun t => T t = true) (ePr e i).1 (ePr e i).2) {i : Nat} (h : InF e n i) : T i = true := by
  cases hTi : T i with
  | true => rfl
  | false => exact (InF.free n (cnt_le _ _) hT h hTi (hs i h.1)).elim

/-- the ends of each edge hang together by right edges no later than it -/
theorem InF.span : ∀ (c : Nat) {k : Nat}, cnt (fun t => decide (ahd e t k)) n = c → k < n → Cn (Sel (ePr e) n fun t => InF e n t ∧ (ahd e t k ∨ t = k)) (ePr e k).1 (ePr e k).2 := by
  intro c
  induction c using Nat.strongRecOn with
  | _ c ih =>
    intro k hc hk
    by_cases hF : InF e n k
    · exact .edge (Sel.of hk ⟨hF, .inr rfl⟩)
    · have hcn : Cn (Sel (ePr e) n (fun i => ahd e i k)) (ePr e k).1 (ePr e k).2 := by
        by_cases h : Cn (Sel (ePr e) n (fun i => ahd e i k)) (ePr e k).1 (ePr e k).2
        · exact h
        · exact (hF ⟨hk, h⟩).elim
      refine Sel.via (fun t ht hta => ?_) hcn
      have hlt : cnt (fun s => decide (ahd e s t)) n < cnt (fun s => decide (ahd e s k)) n := cnt_lt (w := t) (fun s hs hp => by
        simp only [decide_eq_true_eq] at hp ⊢
        exact ahd_trans hp hta) ht (decide_eq_false ahd_irr) (decide_eq_true hta)
      exact Sel.mono (fun s hs h => ⟨h.1, .inl (h.2.elim (fun h' => ahd_trans h' hta) fun h' => h' ▸ hta)⟩) (ih _ (hc ▸ hlt) rfl ht)

/-- what hangs together by the first edges does so by the right ones among them -/
theorem InF.low {D : Nat → Prop} (hD : ∀ a b, D b → ahd e a b → D a) {u v : Nat} : Cn (Sel (ePr e) n D) u v ↔ Cn (Sel (ePr e) n fun t => InF e n t ∧ D t) u v :=
  ⟨fun h => Sel.via (fun k hk hDk => Sel.mono (fun t ht h => ⟨h.1, h.2.elim (fun h' => hD _ _ hDk h') fun h' => h' ▸ hDk⟩) (InF.span _ rfl hk)) h, fun h => Sel.mono (fun _ _ h => h.2) h⟩

theorem InF.whole {u v : Nat} : Cn (Sel (ePr e) n fun _ => True) u v ↔ Cn (Sel (ePr e) n fun t => InF e n t) u v :=
  InF.low (D := fun _ => True) (fun _ _ _ _ => trivial) |>.trans ⟨fun h => Sel.mono (fun _ _ h => h.1) h, fun h => Sel.mono (fun _ _ h => ⟨h, trivial⟩) h⟩

end
end Go.Mz

/-
  The plain law of a forest that grows from a node (Prim): what is held of each node outside, and that the least is right. No program in sight.
-/
namespace Go.Mz

/-- the edges at each node, among so many -/
def adj (pr : Nat → Nat × Nat) : Nat → Nat → List Nat
  | 0 => fun _ => []
  | i + 1 => upf (upf (adj pr i) (pr i).1 (adj pr i (pr i).1 ++ [i])) (pr i).2 (upf (adj pr i) (pr i).1 (adj pr i (pr i).1 ++ [i]) (pr i).2 ++ [i])

theorem mem_adj {pr : Nat → Nat × Nat} : ∀ {i j v : Nat}, j ∈ adj pr i v ↔ j < i ∧ ((pr j).1 = v ∨ (pr j).2 = v)
  | 0, j, v => ⟨fun h => (by cases h), fun h => by omega⟩
  | i + 1, j, v => by
    have h1 : ∀ w, j ∈ upf (adj pr i) (pr i).1 (adj pr i (pr i).1 ++ [i]) w ↔ (j < i ∧ ((pr j).1 = w ∨ (pr j).2 = w)) ∨ (j = i ∧ (pr i).1 = w) := fun w => by
      by_cases e : w = (pr i).1
      · subst e
        rw [upf_same, List.mem_append, List.mem_singleton, mem_adj]
        exact or_congr_right ⟨fun h => ⟨h, rfl⟩, fun h => h.1⟩
      · rw [upf_ne e, mem_adj]
        exact ⟨.inl, fun h => h.resolve_right fun h => e h.2.symm⟩
    show j ∈ upf (upf (adj pr i) (pr i).1 (adj pr i (pr i).1 ++ [i])) (pr i).2 (upf (adj pr i) (pr i).1 (adj pr i (pr i).1 ++ [i]) (pr i).2 ++ [i]) v ↔ _
    have h2 : j ∈ upf (upf (adj pr i) (pr i).1 (adj pr i (pr i).1 ++ [i])) (pr i).2 (upf (adj pr i) (pr i).1 (adj pr i (pr i).1 ++ [i]) (pr i).2 ++ [i]) v ↔ ((j < i ∧ ((pr j).1 = v ∨ (pr j).2 = v)) ∨ (j = i ∧ (pr i).1 = v)) ∨ (j = i ∧ (pr i).2 = v) := by
      by_cases e : v = (pr i).2
      · subst e
        rw [upf_same, List.mem_append, List.mem_singleton, h1]
        exact or_congr_right ⟨fun h => ⟨h, rfl⟩, fun h => h.1⟩
      · rw [upf_ne e, h1]
        exact ⟨.inl, fun h => h.resolve_right fun h => e h.2.symm⟩
    rw [h2]
    constructor
    · rintro ((⟨h, k⟩ | ⟨rfl, h⟩) | ⟨rfl, h⟩)
      · exact ⟨by omega, k⟩
      · exact ⟨by omega, .inl h⟩
      · exact ⟨by omega, .inr h⟩
    · rintro ⟨h, k⟩
      by_cases e : j = i
      · subst e
        exact k.elim (fun h => .inl (.inr ⟨rfl, h⟩)) fun h => .inr ⟨rfl, h⟩
      · exact .inl (.inl ⟨by omega, k⟩)

theorem adj_len {pr : Nat → Nat × Nat} : ∀ {i v : Nat}, (adj pr i v).length ≤ 2 * i
  | 0, v => Nat.le_refl _
  | i + 1, v => by
    have h1 : ∀ w, (upf (adj pr i) (pr i).1 (adj pr i (pr i).1 ++ [i]) w).length ≤ 2 * i + 1 := fun w => by
      by_cases e : w = (pr i).1
      · subst e; rw [upf_same, List.length_append]; have := adj_len (pr := pr) (i := i) (v := (pr i).1); simp; omega
      · rw [upf_ne e]; have := adj_len (pr := pr) (i := i) (v := w); omega
    show (upf (upf (adj pr i) (pr i).1 (adj pr i (pr i).1 ++ [i])) (pr i).2 (upf (adj pr i) (pr i).1 (adj pr i (pr i).1 ++ [i]) (pr i).2 ++ [i]) v).length ≤ _
    by_cases e : v = (pr i).2
    · subst e; rw [upf_same, List.length_append]; have := h1 (pr i).2; simp; omega
    · rw [upf_ne e]; have := h1 v; omega

/-- an edge's place in the order, as one number -/
def codeE (e : Nat → Edg) (i : Nat) : Int := (e i).co * 4096 + i

theorem code_lt {e : Nat → Edg} {i j : Nat} (hi : i < 4096) (hj : j < 4096) : codeE e i < codeE e j ↔ ahd e i j := by
  unfold codeE ahd; omega

def Tw (e : Nat → Edg) (i w : Nat) : Prop := (ePr e i).1 = w ∨ (ePr e i).2 = w

structure PrT (e : Nat → Edg) (n : Nat) (took : List Nat) (inn : Nat → Bool) : Prop where
  nd : took.Nodup
  inf : ∀ k ∈ took, InF e n k ∧ inn (ePr e k).1 = true ∧ inn (ePr e k).2 = true
  jo : ∀ i, i < n → inn (ePr e i).1 = true → inn (ePr e i).2 = true → Cn (Sel (ePr e) n fun t => t ∈ took) (ePr e i).1 (ePr e i).2

def ClE (e : Nat → Edg) (n : Nat) (inn : Nat → Bool) : Prop := ∀ i, i < n → inn (ePr e i).1 = inn (ePr e i).2

structure PrD (e : Nat → Edg) (n : Nat) (took : List Nat) (inn D : Nat → Bool) (s0 : Nat) : Prop where
  cl : ClE e n D
  sub : ∀ v, D v = true → inn v = true
  cn : ∀ v, inn v = true → D v = false → Cn (Sel (ePr e) n fun t => t ∈ took) s0 v

/-- what is held of each node outside, by the edges that Q names -/
def Ky (e : Nat → Edg) (n : Nat) (inn : Nat → Bool) (Q : Nat → Prop) (S : Nat → Bool) (key via : Nat → Int) : Prop :=
  ∀ w, inn w = false → (S w = false ∧ ∀ i, i < n → Q i → ¬ Tw e i w) ∨ (S w = true ∧ ∃ i : Nat, i < n ∧ via w = (i : Int) ∧ Q i ∧ Tw e i w ∧ key w = codeE e i ∧ ∀ j, j < n → Q j → Tw e j w → ¬ ahd e j i)

def Qin (e : Nat → Edg) (inn : Nat → Bool) (i : Nat) : Prop := inn (ePr e i).1 = true ∨ inn (ePr e i).2 = true
def Qat (e : Nat → Edg) (inn : Nat → Bool) (v : Nat) (l : List Nat) (i : Nat) : Prop := (∃ u, u ≠ v ∧ inn u = true ∧ Tw e i u) ∨ i ∈ l

section
variable {e : Nat → Edg} {n : Nat} {took : List Nat} {inn D S : Nat → Bool} {key via : Nat → Int} {s0 v : Nat} {Q Q' : Nat → Prop}

theorem Ky.congr (h : Ky e n inn Q S key via) (hq : ∀ i, i < n → (Q i ↔ Q' i)) : Ky e n inn Q' S key via := fun w hw => by
  rcases h w hw with ⟨h1, h2⟩ | ⟨h1, i, hi, h2, h3, h4, h5, h6⟩
  · exact .inl ⟨h1, fun i hi hq' => h2 i hi ((hq i hi).2 hq')⟩
  · exact .inr ⟨h1, i, hi, h2, (hq i hi).1 h3, h4, h5, fun j hj hq' => h6 j hj ((hq j hj).2 hq')⟩

/-- the state between two handles: from a start on -/
def PrB (e : Nat → Edg) (n : Nat) (took : List Nat) (inn S : Nat → Bool) (key via : Nat → Int) : Prop :=
  PrT e n took inn ∧ (∃ D s0, PrD e n took inn D s0) ∧ Ky e n inn (Qin e inn) S key via ∧ ∀ w, S w = true → inn w = false

/-- the state with but the start held -/
def PrA (e : Nat → Edg) (n : Nat) (took : List Nat) (inn S : Nat → Bool) (via : Nat → Int) (s : Nat) : Prop :=
  PrT e n took inn ∧ ClE e n inn ∧ inn s = false ∧ (∀ w, S w = true ↔ w = s) ∧ via s = -1

/-- the state while the edges at a node are gone over -/
def PrC (e : Nat → Edg) (n : Nat) (took : List Nat) (inn S : Nat → Bool) (key via : Nat → Int) (v : Nat) (l : List Nat) : Prop :=
  PrT e n took inn ∧ (∃ D s0, PrD e n took inn D s0) ∧ Ky e n inn (Qat e inn v l) S key via ∧ (∀ w, S w = true → inn w = false) ∧ inn v = true

theorem PrB.closed (h : PrB e n took inn S key via) (hS : ∀ w, S w = false) : ClE e n inn := fun i hi => by
  obtain ⟨_, _, hk, _⟩ := h
  have no : ∀ w, inn w = false → Tw e i w → ¬ Qin e inn i := fun w hw ht hq => by
    rcases hk w hw with ⟨_, h2⟩ | ⟨h1, _⟩
    · exact h2 i hi hq ht
    · rw [hS w] at h1; cases h1
  cases h1 : inn (ePr e i).1 with
  | true =>
    cases h2 : inn (ePr e i).2 with
    | true => rfl
    | false => exact (no _ h2 (.inr rfl) (.inl h1)).elim
  | false =>
    cases h2 : inn (ePr e i).2 with
    | true => exact (no _ h1 (.inl rfl) (.inr h2)).elim
    | false => rfl

theorem qat_start (hv : inn v = false) : ∀ i, i < n → (Qin e inn i ↔ Qat e (upf inn v true) v [] i) := fun i _ => by
  constructor
  · rintro (h | h)
    · have hne : (ePr e i).1 ≠ v := fun e' => by rw [e', hv] at h; cases h
      exact .inl ⟨_, hne, by rw [upf_ne hne]; exact h, .inl rfl⟩
    · have hne : (ePr e i).2 ≠ v := fun e' => by rw [e', hv] at h; cases h
      exact .inl ⟨_, hne, by rw [upf_ne hne]; exact h, .inr rfl⟩
  · rintro (⟨u, hu, h, ht⟩ | h)
    · rw [upf_ne hu] at h
      rcases ht with rfl | rfl
      · exact .inl h
      · exact .inr h
    · cases h

theorem qat_end (hv : inn v = true) : ∀ i, i < n → (Qat e inn v (adj (ePr e) n v) i ↔ Qin e inn i) := fun i hi => by
  constructor
  · rintro (⟨u, hu, h, ht⟩ | h)
    · rcases ht with rfl | rfl
      · exact .inl h
      · exact .inr h
    · rcases (mem_adj.1 h).2 with h' | h'
      · exact .inl (by rw [h']; exact hv)
      · exact .inr (by rw [h']; exact hv)
  · rintro (h | h)
    · by_cases e' : (ePr e i).1 = v
      · exact .inr (mem_adj.2 ⟨hi, .inl e'⟩)
      · exact .inl ⟨_, e', h, .inl rfl⟩
    · by_cases e' : (ePr e i).2 = v
      · exact .inr (mem_adj.2 ⟨hi, .inr e'⟩)
      · exact .inl ⟨_, e', h, .inr rfl⟩

theorem PrC.done (h : PrC e n took inn S key via v (adj (ePr e) n v)) : PrB e n took inn S key via :=
  ⟨h.1, h.2.1, h.2.2.1.congr (qat_end h.2.2.2.2), h.2.2.2.1⟩

/-- the start comes out -/
theorem PrA.pop {s : Nat} (h : PrA e n took inn S via s) : PrC e n took (upf inn s true) (upf S s false) key via s [] := by
  obtain ⟨ht, hc, hs, hS, hv⟩ := h
  have into : ∀ i, i < n → upf inn s true (ePr e i).1 = true → upf inn s true (ePr e i).2 = true → (inn (ePr e i).1 = true ∧ inn (ePr e i).2 = true) ∨ ((ePr e i).1 = s ∧ (ePr e i).2 = s) := fun i hi h1 h2 => by
    have := hc i hi
    by_cases e1 : (ePr e i).1 = s
    · by_cases e2 : (ePr e i).2 = s
      · exact .inr ⟨e1, e2⟩
      · rw [upf_ne e2] at h2
        rw [h2, e1, hs] at this; cases this
    · rw [upf_ne e1] at h1
      exact .inl ⟨h1, by rw [← this]; exact h1⟩
  refine ⟨⟨ht.nd, fun k hk => ?_, fun i hi h1 h2 => ?_⟩, ⟨inn, s, hc, fun v hv' => ?_, fun v h1 h2 => ?_⟩, fun w hw => ?_, fun w hw => ?_, upf_same⟩
  · have := ht.inf k hk
    have up : ∀ u, inn u = true → upf inn s true u = true := fun u hu => by
      by_cases e' : u = s
      · rw [e', upf_same]
      · rw [upf_ne e']; exact hu
    exact ⟨this.1, up _ this.2.1, up _ this.2.2⟩
  · rcases into i hi h1 h2 with ⟨q1, q2⟩ | ⟨q1, q2⟩
    · exact ht.jo i hi q1 q2
    · rw [q1, q2]; exact .refl _
  · by_cases e' : v = s
    · rw [e', upf_same]
    · rw [upf_ne e']; exact hv'
  · by_cases e' : v = s
    · rw [e']; exact .refl _
    · rw [upf_ne e'] at h1; rw [h1] at h2; cases h2
  · have hne : w ≠ s := fun e' => by rw [e', upf_same] at hw; cases hw
    rw [upf_ne hne] at hw
    refine .inl ⟨?_, fun i hi hq htw => ?_⟩
    · rw [upf_ne hne]
      cases h : S w with
      | false => rfl
      | true => exact (hne ((hS w).1 h)).elim
    · rcases hq with ⟨u, hu, h, htu⟩ | h
      · rw [upf_ne hu] at h
        have := hc i hi
        rcases htw with rfl | rfl
        · rcases htu with rfl | rfl
          · rw [hw] at h; cases h
          · rw [hw, h] at this; cases this
        · rcases htu with rfl | rfl
          · rw [hw, h] at this; cases this
          · rw [hw] at h; cases h
      · cases h
  · by_cases e' : w = s
    · rw [e', upf_same] at hw; cases hw
    · rw [upf_ne e'] at hw; exact (e' ((hS w).1 hw)).elim

/-- another comes out: by a right edge -/
theorem PrB.pop (hn : n ≤ 4096) (h : PrB e n took inn S key via) (hS : S v = true) (hl : ∀ u, S u = true → ¬ lk key u v) : ∃ i : Nat, i < n ∧ via v = (i : Int) ∧ PrC e n (took ++ [i]) (upf inn v true) (upf S v false) key via v [] := by
  obtain ⟨ht, ⟨D, s0, hD⟩, hk, hs⟩ := h
  have hv := hs v hS
  rcases hk v hv with ⟨h1, _⟩ | ⟨_, i, hi, hvi, hq, htw, hke, hmin⟩
  · rw [hS] at h1; cases h1
  refine ⟨i, hi, hvi, ?_⟩
  -- one end inside
  obtain ⟨u0, hu0, hend⟩ : ∃ u0, inn u0 = true ∧ (((ePr e i).1 = u0 ∧ (ePr e i).2 = v) ∨ ((ePr e i).1 = v ∧ (ePr e i).2 = u0)) := by
    rcases htw with h' | h'
    · rcases hq with h2 | h2
      · rw [h', hv] at h2; cases h2
      · exact ⟨_, h2, .inr ⟨h', rfl⟩⟩
    · rcases hq with h2 | h2
      · exact ⟨_, h2, .inl ⟨rfl, h'⟩⟩
      · rw [h', hv] at h2; cases h2
  have hF : InF e n i := by
    refine InF.cut (C := fun u => inn u = true) hi (fun hh => ?_) fun j hj ha => ?_
    · rcases hend with ⟨q1, q2⟩ | ⟨q1, q2⟩
      · have := hh.1 (by rw [q1]; exact hu0)
        rw [q2, hv] at this; cases this
      · have := hh.2 (by rw [q2]; exact hu0)
        rw [q1, hv] at this; cases this
    · have no : ∀ w, inn w = false → Tw e j w → ¬ Qin e inn j := fun w hw htj hqj => by
        rcases hk w hw with ⟨_, h2⟩ | ⟨hSw, i', hi', _, _, _, hke', hmin'⟩
        · exact h2 j hj hqj htj
        · have h3 := hmin' j hj hqj htj
          have h4 := hl w hSw
          unfold lk at h4
          rw [hke, hke'] at h4
          have h5 := (code_lt (e := e) (i := j) (j := i) (by omega) (by omega)).2 ha
          have h6 : ¬ codeE e j < codeE e i' := fun h => h3 ((code_lt (by omega) (by omega)).1 h)
          omega
      constructor
      · intro h1
        cases h2 : inn (ePr e j).2 with
        | true => rfl
        | false => exact (no _ h2 (.inr rfl) (.inl h1)).elim
      · intro h2
        cases h1 : inn (ePr e j).1 with
        | true => rfl
        | false => exact (no _ h1 (.inl rfl) (.inr h2)).elim
  have hni : i ∉ took := fun hm => by
    obtain ⟨_, h1, h2⟩ := ht.inf i hm
    rcases htw with h' | h'
    · rw [h', hv] at h1; cases h1
    · rw [h', hv] at h2; cases h2
  have up : ∀ u, inn u = true → upf inn v true u = true := fun u hu => by
    by_cases e' : u = v
    · rw [e', upf_same]
    · rw [upf_ne e']; exact hu
  have mono : ∀ {a b : Nat}, Cn (Sel (ePr e) n fun t => t ∈ took) a b → Cn (Sel (ePr e) n fun t => t ∈ took ++ [i]) a b := fun h => Sel.mono (fun t _ hm => List.mem_append_left _ hm) h
  have ie : Cn (Sel (ePr e) n fun t => t ∈ took ++ [i]) u0 v := by
    have : Cn (Sel (ePr e) n fun t => t ∈ took ++ [i]) (ePr e i).1 (ePr e i).2 := .edge (Sel.of hi (by simp))
    rcases hend with ⟨q1, q2⟩ | ⟨q1, q2⟩
    · rwa [q1, q2] at this
    · rw [q1, q2] at this; exact this.symm
  have hDv : D v = false := by
    cases h : D v with
    | false => rfl
    | true => rw [hD.sub v h] at hv; cases hv
  -- a node inside that an edge joins with v lies in the same part
  have near : ∀ j, j < n → ∀ u, inn u = true → (((ePr e j).1 = u ∧ (ePr e j).2 = v) ∨ ((ePr e j).1 = v ∧ (ePr e j).2 = u)) → Cn (Sel (ePr e) n fun t => t ∈ took) s0 u := fun j hj u hu hor => by
    refine hD.cn u hu ?_
    have := hD.cl j hj
    rcases hor with ⟨q1, q2⟩ | ⟨q1, q2⟩
    · rw [q1, q2, hDv] at this; exact this
    · rw [q1, q2, hDv] at this; exact this.symm
  have hs0 := near i hi u0 hu0 hend
  refine ⟨⟨?_, fun k hk => ?_, fun j hj h1 h2 => ?_⟩, ⟨D, s0, hD.cl, fun u hu => up u (hD.sub u hu), fun u h1 h2 => ?_⟩, ?_, fun w hw => ?_, upf_same⟩
  · rw [List.nodup_append]
    refine ⟨ht.nd, by simp, fun a ha b hb => ?_⟩
    rw [List.mem_singleton] at hb
    subst hb
    exact fun e' => hni (e' ▸ ha)
  · rcases List.mem_append.1 hk with hm | hm
    · have := ht.inf k hm
      exact ⟨this.1, up _ this.2.1, up _ this.2.2⟩
    · rw [List.mem_singleton] at hm
      subst hm
      rcases hend with ⟨q1, q2⟩ | ⟨q1, q2⟩
      · exact ⟨hF, by rw [q1]; exact up _ hu0, by rw [q2]; exact upf_same⟩
      · exact ⟨hF, by rw [q1]; exact upf_same, by rw [q2]; exact up _ hu0⟩
  · by_cases e1 : (ePr e j).1 = v
    · by_cases e2 : (ePr e j).2 = v
      · rw [e1, e2]; exact .refl _
      · rw [upf_ne e2] at h2
        rw [e1]
        exact (ie.symm.trans (mono hs0).symm).trans (mono (near j hj _ h2 (.inr ⟨e1, rfl⟩)))
    · rw [upf_ne e1] at h1
      by_cases e2 : (ePr e j).2 = v
      · rw [e2]
        exact ((mono (near j hj _ h1 (.inl ⟨rfl, e2⟩))).symm.trans (mono hs0)).trans ie
      · rw [upf_ne e2] at h2
        exact mono (ht.jo j hj h1 h2)
  · by_cases e' : u = v
    · rw [e']; exact (mono hs0).trans ie
    · rw [upf_ne e'] at h1; exact mono (hD.cn u h1 h2)
  · have hk' := hk.congr (Q' := Qat e (upf inn v true) v []) (qat_start hv)
    intro w hw
    have hne : w ≠ v := fun e' => by rw [e', upf_same] at hw; cases hw
    rw [upf_ne hne] at hw
    rw [upf_ne hne]
    exact hk' w hw
  · by_cases e' : w = v
    · rw [e', upf_same] at hw; cases hw
    · rw [upf_ne e'] at hw ⊢; exact hs w hw

theorem qat_snoc {l : List Nat} {i : Nat} : ∀ j, Qat e inn v (l ++ [i]) j ↔ (Qat e inn v l j ∨ j = i) := fun j => by
  unfold Qat
  rw [List.mem_append, List.mem_singleton, or_assoc]

/-- an edge whose other end is inside -/
theorem PrC.skip {l : List Nat} {i w : Nat} (h : PrC e n took inn S key via v l) (hv : Tw e i v) (hw : inn w = true) (ho : ∀ u, Tw e i u → u = v ∨ u = w) : PrC e n took inn S key via v (l ++ [i]) := by
  obtain ⟨ht, hD, hk, hs, hiv⟩ := h
  refine ⟨ht, hD, fun x hx => ?_, hs, hiv⟩
  have no : ¬ Tw e i x := fun h => by
    rcases ho x h with rfl | rfl
    · rw [hiv] at hx; cases hx
    · rw [hw] at hx; cases hx
  rcases hk x hx with ⟨h1, h2⟩ | ⟨h1, j, hj, h2, h3, h4, h5, h6⟩
  · refine .inl ⟨h1, fun j hj hq htw => ?_⟩
    rcases (qat_snoc j).1 hq with hq | rfl
    · exact h2 j hj hq htw
    · exact no htw
  · refine .inr ⟨h1, j, hj, h2, (qat_snoc j).2 (.inl h3), h4, h5, fun t ht hq htw => ?_⟩
    rcases (qat_snoc t).1 hq with hq | rfl
    · exact h6 t ht hq htw
    · exact (no htw).elim

/-- a node outside is held, or held better -/
theorem PrC.hold {l : List Nat} {i w : Nat} (h : PrC e n took inn S key via v l) (hi : i < n) (hv : Tw e i v) (hw : inn w = false) (hiw : Tw e i w) (ho : ∀ u, Tw e i u → u = v ∨ u = w)
    (hbest : S w = true → ∃ k : Nat, k < n ∧ key w = codeE e k ∧ ahd e i k) (hn : n ≤ 4096) :
    PrC e n took inn (upf S w true) (upf key w (codeE e i)) (upf via w (i : Int)) v (l ++ [i]) := by
  obtain ⟨ht, hD, hk, hs, hiv⟩ := h
  refine ⟨ht, hD, fun x hx => ?_, fun x hx => ?_, hiv⟩
  · by_cases ex : x = w
    · subst ex
      rw [upf_same, upf_same, upf_same]
      refine .inr ⟨rfl, i, hi, rfl, (qat_snoc i).2 (.inr rfl), hiw, rfl, fun t ht' hq htw hl => ?_⟩
      rcases (qat_snoc t).1 hq with hq | rfl
      · rcases hk x hx with ⟨_, h2⟩ | ⟨h1, j, hj, _, _, _, h5, h6⟩
        · exact h2 t ht' hq htw
        · obtain ⟨k, hkn, hkk, hka⟩ := hbest h1
          have := h6 t ht' hq htw
          have e1 : codeE e j = codeE e k := h5.symm.trans hkk
          have e2 := (code_lt (e := e) (i := t) (j := k) (by omega) (by omega)).2 (ahd_trans hl hka)
          rw [← e1] at e2
          exact this ((code_lt (by omega) (by omega)).1 e2)
      · exact ahd_irr hl
    · rw [upf_ne ex, upf_ne ex, upf_ne ex]
      have no : ¬ Tw e i x := fun h => by
        rcases ho x h with rfl | rfl
        · rw [hiv] at hx; cases hx
        · exact ex rfl
      rcases hk x hx with ⟨h1, h2⟩ | ⟨h1, j, hj, h2, h3, h4, h5, h6⟩
      · refine .inl ⟨h1, fun j hj hq htw => ?_⟩
        rcases (qat_snoc j).1 hq with hq | rfl
        · exact h2 j hj hq htw
        · exact no htw
      · refine .inr ⟨h1, j, hj, h2, (qat_snoc j).2 (.inl h3), h4, h5, fun t ht hq htw => ?_⟩
        rcases (qat_snoc t).1 hq with hq | rfl
        · exact h6 t ht hq htw
        · exact (no htw).elim
  · by_cases ex : x = w
    · rw [ex]; exact hw
    · rw [upf_ne ex] at hx; exact hs x hx

/-- a node outside is held well enough -/
theorem PrC.stay {l : List Nat} {i w : Nat} (h : PrC e n took inn S key via v l) (hi : i < n) (hv : Tw e i v) (ho : ∀ u, Tw e i u → u = v ∨ u = w) (hS : S w = true) (hle : ¬ codeE e i < key w) (hn : n ≤ 4096) : PrC e n took inn S key via v (l ++ [i]) := by
  obtain ⟨ht, hD, hk, hs, hiv⟩ := h
  refine ⟨ht, hD, fun x hx => ?_, hs, hiv⟩
  rcases hk x hx with ⟨h1, h2⟩ | ⟨h1, j, hj, h2, h3, h4, h5, h6⟩
  · refine .inl ⟨h1, fun j hj hq htw => ?_⟩
    rcases (qat_snoc j).1 hq with hq | rfl
    · exact h2 j hj hq htw
    · rcases ho x htw with rfl | rfl
      · rw [hiv] at hx; cases hx
      · rw [hS] at h1; cases h1
  · refine .inr ⟨h1, j, hj, h2, (qat_snoc j).2 (.inl h3), h4, h5, fun t ht hq htw => ?_⟩
    rcases (qat_snoc t).1 hq with hq | rfl
    · exact h6 t ht hq htw
    · rcases ho x htw with rfl | rfl
      · rw [hiv] at hx; cases hx
      · intro ha
        rw [h5] at hle
        exact hle ((code_lt (by omega) (by omega)).2 ha)

theorem PrC.held {l : List Nat} {w : Nat} (h : PrC e n took inn S key via v l) (hw : inn w = false) (hS : S w = true) : ∃ k : Nat, k < n ∧ key w = codeE e k := by
  obtain ⟨ht, hD, hk, hs, hiv⟩ := h
  rcases hk w hw with ⟨h1, _⟩ | ⟨_, j, hj, _, _, _, h5, _⟩
  · rw [hS] at h1; cases h1
  · exact ⟨j, hj, h5⟩

end
end Go.Mz

/-
  What the functions of the sets of nodes do, told of plain heaps: New, node, root, Find, Join, Undo, Joins, Count, Members.
-/
import Derived.Test.YteobpjjocfbdgaaMzU
import Derived.Test.YteobpjjocfbdgaaGUni
set_option linter.unusedSimpArgs false
set_option linter.unusedVariables false
namespace Go.Mz

/-- sets' state: parents, least members, what was joined -/
structure USt where
  n : Nat
  par : Nat → Nat
  lst : Nat → Nat
  k : Nat
  log : Nat → Nat × Nat × Nat

def in3 (x : Nat × Nat × Nat) : Int × Int × Int := (x.1, x.2.1, x.2.2)

structure USets (H : Hp) (s bp bz bl : Nat) (lp : Option Addr) (lc : Nat) (t : BT) (siz : Nat → Int) (σ : USt) : Prop where
  hs : H s = some ⟨[.slice (some ⟨bp, 0, none⟩) σ.n σ.n, .slice (some ⟨bz, 0, none⟩) σ.n σ.n, .slice (some ⟨bl, 0, none⟩) σ.n σ.n, .slice lp σ.k lc], t⟩
  rp : Row H (some ⟨bp, 0, none⟩) σ.n σ.n (fun i => (σ.par i : Int))
  rz : Row H (some ⟨bz, 0, none⟩) σ.n σ.n siz
  rl : Row H (some ⟨bl, 0, none⟩) σ.n σ.n (fun i => (σ.lst i : Int))
  rg : Row H lp σ.k lc (fun i => in3 (σ.log i))
  ht : t.fz = (0, 0)
  d1 : s ≠ bp ∧ s ≠ bz ∧ s ≠ bl ∧ bp ≠ bz ∧ bp ≠ bl ∧ bz ≠ bl
  d2 : ¬ fpS lp s ∧ ¬ fpS lp bp ∧ ¬ fpS lp bz ∧ ¬ fpS lp bl

/-- the blocks that sets own -/
def UFp (s bp bz bl : Nat) (lp : Option Addr) (b : Nat) : Prop := b = s ∨ b = bp ∨ b = bz ∨ b = bl ∨ fpS lp b

def USt.Ok (σ : USt) : Prop := σ.n ≤ 1024 ∧ ∃ d : Nat → Nat, ∀ v, v < σ.n → σ.par v < σ.n ∧ (σ.par v ≠ v → d (σ.par v) < d v)

inductive Rt (par : Nat → Nat) : Nat → Nat → Prop
  | here {v : Nat} (h : par v = v) : Rt par v v
  | up {v r : Nat} (h : par v ≠ v) (k : Rt par (par v) r) : Rt par v r

section
variable {H : Hp} {s bp bz bl : Nat} {lp : Option Addr} {lc : Nat} {t : BT} {siz : Nat → Int} {σ : USt} {E : Value → Hp → Prop}

theorem USets.g0 (h : USets H s bp bz bl lp lc t siz σ) : H.get s 0 = some (.slice (some ⟨bp, 0, none⟩) σ.n σ.n) := by simp [Hp.get, h.hs]
theorem USets.g1 (h : USets H s bp bz bl lp lc t siz σ) : H.get s 1 = some (.slice (some ⟨bz, 0, none⟩) σ.n σ.n) := by simp [Hp.get, h.hs]
theorem USets.g2 (h : USets H s bp bz bl lp lc t siz σ) : H.get s 2 = some (.slice (some ⟨bl, 0, none⟩) σ.n σ.n) := by simp [Hp.get, h.hs]
theorem USets.g3 (h : USets H s bp bz bl lp lc t siz σ) : H.get s 3 = some (.slice lp σ.k lc) := by simp [Hp.get, h.hs]

theorem USets.keep {H' : Hp} {F : Nat → Prop} (h : USets H s bp bz bl lp lc t siz σ) (k : Step F H H') (d : ∀ b, UFp s bp bz bl lp b → ¬ F b) : USets H' s bp bz bl lp lc t siz σ where
  hs := k.keep _ _ h.hs (d _ (.inl rfl))
  rp := h.rp.keep k fun b hb => d b (by rw [fpS_mk] at hb; exact .inr (.inl hb))
  rz := h.rz.keep k fun b hb => d b (by rw [fpS_mk] at hb; exact .inr (.inr (.inl hb)))
  rl := h.rl.keep k fun b hb => d b (by rw [fpS_mk] at hb; exact .inr (.inr (.inr (.inl hb))))
  rg := h.rg.keep k fun b hb => d b (.inr (.inr (.inr (.inr hb))))
  ht := h.ht
  d1 := h.d1
  d2 := h.d2

theorem unode {v : Int} {K : Bool → Hp → Prop} (h : USets H s bp bz bl lp lc t siz σ) (k : K (decide (0 ≤ v ∧ v < (σ.n : Int))) H) : unions_Sets_node.call (some ⟨s, 0, none⟩) v E H K := by
  refine unions_Sets_node.of (unions_Sets_node.run_eq ?_)
  unfold unions_Sets_node.run_t
  refine bc (fun h0 => ?_) fun h0 => ?_
  · simp only [nn_mk, h.g0, ldS_mk]
    simpa [h0] using k
  · simpa [h0] using k

theorem uroot {v : Nat} {K : Int → Hp → Prop} (h : USets H s bp bz bl lp lc t siz σ) (ok : σ.Ok) (hv : v < σ.n) (k : ∀ r : Nat, Rt σ.par v r → r < σ.n → K r H) : unions_Sets_root.call (some ⟨s, 0, none⟩) v E H K := by
  obtain ⟨hn, d, hd⟩ := ok
  refine unions_Sets_root.of (unions_Sets_root.run_eq ?_)
  unfold unions_Sets_root.run_t
  refine unions_Sets_root.l1_rule (fun s0 v1 H' => s0 = some ⟨s, 0, none⟩ ∧ H' = H ∧ ∃ u : Nat, v1 = u ∧ u < σ.n ∧ ∀ r, Rt σ.par u r → Rt σ.par v r) (fun s0 v1 H' => d v1.toNat) ?_ ⟨rfl, rfl, v, rfl, hv, fun _ h => h⟩
  rintro s0 v1 H' ⟨rfl, rfl, u, rfl, hu, hr⟩ X hX
  refine unions_Sets_root.b1_eq ?_
  unfold unions_Sets_root.b1_t
  simp only [nn_mk, h.g0, ldS_mk]
  refine h.rp.ixI (by omega) (by omega) ?_
  refine bcn (fun hne => ?_) fun he => ?_
  · refine h.rp.ixI (by omega) (by omega) ?_
    simp only [Int.toNat_natCast] at hne ⊢
    have hne' : σ.par u ≠ u := fun e => hne (by rw [e])
    exact hX _ _ _ ⟨rfl, rfl, _, rfl, (hd u hu).1, fun r h => hr r (.up hne' h)⟩ (by simpa using (hd u hu).2 hne')
  · simp only [Int.toNat_natCast] at he
    exact k u (hr u (.here (by omega))) hu

theorem ufind {v : Int} {K : Int → Int → Hp → Prop} (h : USets H s bp bz bl lp lc t siz σ) (ok : σ.Ok)
    (k1 : 0 ≤ v → v < (σ.n : Int) → ∀ r : Nat, Rt σ.par v.toNat r → r < σ.n → K (σ.lst r) 0 H) (k2 : ¬ (0 ≤ v ∧ v < (σ.n : Int)) → K 0 30 H) : unions_Sets_Find.call (some ⟨s, 0, none⟩) v E H K := by
  refine unions_Sets_Find.of (unions_Sets_Find.run_eq ?_)
  unfold unions_Sets_Find.run_t
  refine unode h ?_
  by_cases hv : 0 ≤ v ∧ v < (σ.n : Int)
  · obtain ⟨u, rfl⟩ : ∃ u : Nat, v = u := ⟨v.toNat, by omega⟩
    simp only [hv, decide_true, Bool.not_true, bcase_f, nn_mk, Nat.zero_add, h.g2, ldS_mk, and_self]
    refine uroot h ok (by omega) fun r hr hrn => ?_
    simp only [h.g2, ldS_mk, true_and]
    refine h.rl.ixI (by omega) (by omega) ?_
    simpa using k1 (by omega) (by omega) r hr hrn
  · simp only [hv, decide_false, Bool.not_false, bcase_t]
    exact k2 hv

theorem ujoins {K : Int → Hp → Prop} (h : USets H s bp bz bl lp lc t siz σ) (k : K σ.k H) : unions_Sets_Joins.call (some ⟨s, 0, none⟩) E H K := by
  refine unions_Sets_Joins.of (unions_Sets_Joins.run_eq ?_)
  unfold unions_Sets_Joins.run_t
  simpa only [nn_mk, Nat.zero_add, h.g3, ldS_mk] using k

theorem ucount {K : Int → Hp → Prop} (h : USets H s bp bz bl lp lc t siz σ) (ok : σ.Ok) (hk : σ.k ≤ σ.n) (k : K ((σ.n : Int) - σ.k) H) : unions_Sets_Count.call (some ⟨s, 0, none⟩) E H K := by
  refine unions_Sets_Count.of (unions_Sets_Count.run_eq ?_)
  unfold unions_Sets_Count.run_t
  have := ok.1
  simp only [nn_mk, Nat.zero_add, h.g0, h.g3, ldS_mk]
  rw [i64w (by omega) (by omega)]
  exact k

def USt.join (σ : USt) (a b : Nat) : USt := { σ with par := upf σ.par b a, lst := upf σ.lst a (min (σ.lst a) (σ.lst b)), k := σ.k + 1, log := upf σ.log σ.k (b, a, σ.lst a) }


theorem cast_upf {f : Nat → Nat} {i x : Nat} : (fun j => ((upf f i x j : Nat) : Int)) = upf (fun j => (f j : Int)) i (x : Int) := by
  funext j; unfold upf; split <;> rfl

theorem USets.stp (h : USets H s bp bz bl lp lc t siz σ) {i : Int} (h0 : 0 ≤ i) (h1 : i < (σ.n : Int)) (x : Nat) {K : Hp → Prop}
    (k : ∀ H', USets H' s bp bz bl lp lc t siz { σ with par := upf σ.par i.toNat x } → Step (UFp s bp bz bl lp) H H' → K H') : ix (some ⟨bp, 0, none⟩) σ.n i 1 fun b o => stC H b o [.int .i64 x] K := by
  refine h.rp.stI h0 h1 x fun H' hr hs => k H' ⟨hs.keep _ _ h.hs (by rw [fpS_mk]; exact h.d1.1), by rw [cast_upf]; exact hr, ?_, ?_, ?_, h.ht, h.d1, h.d2⟩ (hs.weak fun b hb => ?_)
  · exact h.rz.keep hs fun b hb => by rw [fpS_mk] at *; rw [hb]; exact fun e => h.d1.2.2.2.1 e.symm
  · exact h.rl.keep hs fun b hb => by rw [fpS_mk] at *; rw [hb]; exact fun e => h.d1.2.2.2.2.1 e.symm
  · exact h.rg.keep hs fun b hb => by rw [fpS_mk]; exact fun e => h.d2.2.1 (e ▸ hb)
  · rw [fpS_mk] at hb; exact .inl (.inr (.inl hb))

theorem USets.stz (h : USets H s bp bz bl lp lc t siz σ) {i : Int} (h0 : 0 ≤ i) (h1 : i < (σ.n : Int)) (x : Int) {K : Hp → Prop}
    (k : ∀ H', USets H' s bp bz bl lp lc t (upf siz i.toNat x) σ → Step (UFp s bp bz bl lp) H H' → K H') : ix (some ⟨bz, 0, none⟩) σ.n i 1 fun b o => stC H b o [.int .i64 x] K := by
  refine h.rz.stI h0 h1 x fun H' hr hs => k H' ⟨hs.keep _ _ h.hs (by rw [fpS_mk]; exact h.d1.2.1), ?_, hr, ?_, ?_, h.ht, h.d1, h.d2⟩ (hs.weak fun b hb => ?_)
  · exact h.rp.keep hs fun b hb => by rw [fpS_mk] at *; rw [hb]; exact h.d1.2.2.2.1
  · exact h.rl.keep hs fun b hb => by rw [fpS_mk] at *; rw [hb]; exact fun e => h.d1.2.2.2.2.2 e.symm
  · exact h.rg.keep hs fun b hb => by rw [fpS_mk]; exact fun e => h.d2.2.2.1 (e ▸ hb)
  · rw [fpS_mk] at hb; exact .inl (.inr (.inr (.inl hb)))

theorem USets.stl (h : USets H s bp bz bl lp lc t siz σ) {i : Int} (h0 : 0 ≤ i) (h1 : i < (σ.n : Int)) (x : Nat) {K : Hp → Prop}
    (k : ∀ H', USets H' s bp bz bl lp lc t siz { σ with lst := upf σ.lst i.toNat x } → Step (UFp s bp bz bl lp) H H' → K H') : ix (some ⟨bl, 0, none⟩) σ.n i 1 fun b o => stC H b o [.int .i64 x] K := by
  refine h.rl.stI h0 h1 x fun H' hr hs => k H' ⟨hs.keep _ _ h.hs (by rw [fpS_mk]; exact h.d1.2.2.1), ?_, ?_, by rw [cast_upf]; exact hr, ?_, h.ht, h.d1, h.d2⟩ (hs.weak fun b hb => ?_)
  · exact h.rp.keep hs fun b hb => by rw [fpS_mk] at *; rw [hb]; exact h.d1.2.2.2.2.1
  · exact h.rz.keep hs fun b hb => by rw [fpS_mk] at *; rw [hb]; exact h.d1.2.2.2.2.2
  · exact h.rg.keep hs fun b hb => by rw [fpS_mk]; exact fun e => h.d2.2.2.2 (e ▸ hb)
  · rw [fpS_mk] at hb; exact .inl (.inr (.inr (.inr (.inl hb))))

theorem USets.live (h : USets H s bp bz bl lp lc t siz σ) {b : Nat} (hb : UFp s bp bz bl lp b) : H b ≠ none := by
  rcases hb with (rfl | rfl | rfl | rfl | hb)
  · rw [h.hs]; simp
  · exact h.rp.live ⟨_, rfl⟩
  · exact h.rz.live ⟨_, rfl⟩
  · exact h.rl.live ⟨_, rfl⟩
  · exact h.rg.live hb

/-- the log anew -/
theorem USets.stg {H' : Hp} {lp' : Option Addr} {lc' k' : Nat} {log' : Nat → Nat × Nat × Nat} (h : USets H s bp bz bl lp lc t siz σ) (hs : Step (fpS lp) H H') (hr : Row H' lp' k' lc' (fun i => in3 (log' i)))
    (hf : ∀ b, fpS lp' b → fpS lp b ∨ H b = none) : ∃ H'', USets H'' s bp bz bl lp' lc' t siz { σ with k := k', log := log' } ∧ Step (UFp s bp bz bl lp) H H'' ∧ Step (· = s) H' H'' ∧ ∀ K : Hp → Prop, K H'' → stC H' s 3 [.slice lp' k' lc'] K := by
  have e : H' s = _ := hs.keep _ _ h.hs h.d2.1
  have live : ∀ b, UFp s bp bz bl lp b → H b ≠ none := fun b hb => h.live hb
  have no : ∀ b, UFp s bp bz bl lp b → ¬ fpS lp b → ¬ fpS lp' b := fun b h1 h2 h3 => by
    cases hf b h3 with
    | inl h => exact h2 h
    | inr h => exact live b h1 h
  have d2 : ¬ fpS lp' s ∧ ¬ fpS lp' bp ∧ ¬ fpS lp' bz ∧ ¬ fpS lp' bl := ⟨no _ (.inl rfl) h.d2.1, no _ (.inr (.inl rfl)) h.d2.2.1, no _ (.inr (.inr (.inl rfl))) h.d2.2.2.1, no _ (.inr (.inr (.inr (.inl rfl)))) h.d2.2.2.2⟩
  have hw : Step (· = s) H' (H'.upd s ⟨[.slice (some ⟨bp, 0, none⟩) σ.n σ.n, .slice (some ⟨bz, 0, none⟩) σ.n σ.n, .slice (some ⟨bl, 0, none⟩) σ.n σ.n, .slice lp' k' lc'], t⟩) := Step.wr e rfl
  refine ⟨_, ⟨upd_same, ?_, ?_, ?_, ?_, h.ht, h.d1, d2⟩, (hs.weak fun b hb => ?_).trans hw fun b hb => ?_, hw, fun K hK => ⟨_, e, ⟨by simp, h.ht⟩, hK⟩⟩
  · exact (h.rp.keep hs fun b hb => by rw [fpS_mk] at hb; rw [hb]; exact h.d2.2.1).keep hw fun b hb => by rw [fpS_mk] at hb; rw [hb]; exact h.d1.1.symm
  · exact (h.rz.keep hs fun b hb => by rw [fpS_mk] at hb; rw [hb]; exact h.d2.2.2.1).keep hw fun b hb => by rw [fpS_mk] at hb; rw [hb]; exact h.d1.2.1.symm
  · exact (h.rl.keep hs fun b hb => by rw [fpS_mk] at hb; rw [hb]; exact h.d2.2.2.2).keep hw fun b hb => by rw [fpS_mk] at hb; rw [hb]; exact h.d1.2.2.1.symm
  · exact hr.keep hw fun b hb e => d2.1 (e ▸ hb)
  · exact .inl (.inr (.inr (.inr (.inr hb))))
  · exact .inl (.inl hb)

theorem UFp.grow {lp' : Option Addr} (hf : ∀ b, fpS lp' b → fpS lp b ∨ H b = none) {x : Nat} (h : UFp s bp bz bl lp' x) : UFp s bp bz bl lp x ∨ H x = none := by
  rcases h with h | h | h | h | h
  · exact .inl (.inl h)
  · exact .inl (.inr (.inl h))
  · exact .inl (.inr (.inr (.inl h)))
  · exact .inl (.inr (.inr (.inr (.inl h))))
  · rcases hf x h with h | h
    · exact .inl (.inr (.inr (.inr (.inr h))))
    · exact .inr h

theorem ujoin1 {a b : Nat} {K : Bool → Int → Hp → Prop} (h : USets H s bp bz bl lp lc t siz σ) (hk : σ.k ≤ 1048576) (ha : a < σ.n) (hb : b < σ.n)
    (k : ∀ H' lp' lc' siz', USets H' s bp bz bl lp' lc' t siz' (σ.join a b) → Step (UFp s bp bz bl lp) H H' → (∀ x, fpS lp' x → fpS lp x ∨ H x = none) → K true 0 H') :
    unions_Sets_Join.j1 (some ⟨s, 0, none⟩) a b E H K := by
  refine unions_Sets_Join.j1_eq ?_
  unfold unions_Sets_Join.j1_t
  simp only [nn_mk, Nat.zero_add, h.g2, h.g3, ldS_mk]
  refine h.rl.ixI (by omega) (by omega) ?_
  refine h.rg.app (in3 (b, a, σ.lst a)) rfl hk (by decide) fun p' c' H2 hr hs hf => ?_
  obtain ⟨H3, h3, hs3, _, hK⟩ := h.stg (log' := upf σ.log σ.k (b, a, σ.lst a)) hs (hr.congr fun i _ => by unfold upf; split <;> rfl) hf
  refine hK _ ?_
  simp only [h3.g0, ldS_mk]
  refine h3.stp (by omega) (by simpa using hb) a fun H4 h4 hs4 => ?_
  have hs4' := hs3.trans hs4 (fun x hx => UFp.grow hf hx)
  simp only [h4.g1, ldS_mk]
  refine h4.rz.ixI (by omega) (by simpa using ha) ?_
  refine h4.rz.ixI (by omega) (by simpa using hb) ?_
  refine h4.stz (by omega) (by simpa using ha) _ fun H5 h5 hs5 => ?_
  simp only [h5.g2, ldS_mk]
  refine h5.rl.ixI (by omega) (by simpa using ha) ?_
  refine h5.rl.ixI (by omega) (by simpa using hb) ?_
  simp only [Int.toNat_natCast]
  have e : (if (σ.lst b : Int) < σ.lst a then (σ.lst b : Int) else σ.lst a) = ((min (σ.lst a) (σ.lst b) : Nat) : Int) := by split <;> omega
  rw [e]
  refine h5.stl (by omega) (by simpa using ha) _ fun H6 h6 hs6 => ?_
  refine k _ _ _ _ (by simpa [USt.join] using h6) ((hs4'.trans hs5 ?_).trans hs6 ?_) hf
  all_goals exact fun x hx => UFp.grow hf hx

theorem ujoin {u v : Int} {K : Bool → Int → Hp → Prop} (h : USets H s bp bz bl lp lc t siz σ) (ok : σ.Ok) (hk : σ.k ≤ 1048576)
    (kbad : ¬ ((0 ≤ u ∧ u < (σ.n : Int)) ∧ 0 ≤ v ∧ v < (σ.n : Int)) → K false 30 H)
    (ksame : 0 ≤ u → u < (σ.n : Int) → 0 ≤ v → v < (σ.n : Int) → ∀ r, Rt σ.par u.toNat r → Rt σ.par v.toNat r → K false 0 H)
    (k : 0 ≤ u → u < (σ.n : Int) → 0 ≤ v → v < (σ.n : Int) → ∀ a b, a ≠ b → a < σ.n → b < σ.n → (Rt σ.par u.toNat a ∧ Rt σ.par v.toNat b ∨ Rt σ.par u.toNat b ∧ Rt σ.par v.toNat a) →
      ∀ H' lp' lc' siz', USets H' s bp bz bl lp' lc' t siz' (σ.join a b) → Step (UFp s bp bz bl lp) H H' → (∀ x, fpS lp' x → fpS lp x ∨ H x = none) → K true 0 H') :
    unions_Sets_Join.call (some ⟨s, 0, none⟩) u v E H K := by
  refine unions_Sets_Join.of (unions_Sets_Join.run_eq ?_)
  unfold unions_Sets_Join.run_t
  refine unode h ?_
  by_cases hu : 0 ≤ u ∧ u < (σ.n : Int)
  case neg =>
    simp only [hu, decide_false, Bool.not_false, bcase_t]
    exact kbad fun h => hu h.1
  simp only [hu, decide_true, Bool.not_true, bcase_f, and_self]
  refine unode h ?_
  by_cases hv : 0 ≤ v ∧ v < (σ.n : Int)
  case neg =>
    simp only [hv, decide_false, Bool.not_false, bcase_t]
    exact kbad fun h => hv h.2
  simp only [hv, decide_true, Bool.not_true, bcase_f, and_self]
  obtain ⟨u, rfl⟩ : ∃ u' : Nat, u = u' := ⟨u.toNat, by omega⟩
  obtain ⟨v, rfl⟩ : ∃ v' : Nat, v = v' := ⟨v.toNat, by omega⟩
  refine uroot h ok (by omega) fun a ha han => ?_
  refine uroot h ok (by omega) fun b hb hbn => ?_
  refine bc (fun e => ?_) fun e => ?_
  · have : a = b := by omega
    subst this
    exact ksame hu.1 hu.2 hv.1 hv.2 a ha hb
  have hab : a ≠ b := fun e' => e (by rw [e'])
  simp only [nn_mk, Nat.zero_add, h.g1, ldS_mk]
  refine h.rz.ixI (by omega) (by omega) ?_
  refine h.rz.ixI (by omega) (by omega) ?_
  refine bc (fun _ => ?_) fun _ => ?_
  · exact ujoin1 h hk hbn han (k hu.1 hu.2 hv.1 hv.2 b a hab.symm hbn han (.inr ⟨ha, hb⟩))
  · exact ujoin1 h hk han hbn (k hu.1 hu.2 hv.1 hv.2 a b hab han hbn (.inl ⟨ha, hb⟩))

/-- the state a join back -/
def USt.undo (σ : USt) (j : Nat × Nat × Nat) : USt := { σ with par := upf σ.par j.1 j.1, lst := upf σ.lst j.2.1 j.2.2, k := σ.k - 1 }

theorem uundo {K : Int → Hp → Prop} (h : USets H s bp bz bl lp lc t siz σ) (hk : σ.k ≤ 1048576) (hb : 0 < σ.k → (σ.log (σ.k - 1)).1 < σ.n ∧ (σ.log (σ.k - 1)).2.1 < σ.n)
    (k0 : σ.k = 0 → K 4 H)
    (k : 0 < σ.k → ∀ H' siz', USets H' s bp bz bl lp lc t siz' (σ.undo (σ.log (σ.k - 1))) → Step (UFp s bp bz bl lp) H H' → K 0 H') :
    unions_Sets_Undo.call (some ⟨s, 0, none⟩) E H K := by
  refine unions_Sets_Undo.of (unions_Sets_Undo.run_eq ?_)
  unfold unions_Sets_Undo.run_t
  simp only [nn_mk, Nat.zero_add, h.g3, ldS_mk]
  refine bc (fun e => k0 (by omega)) fun e => ?_
  have hk0 : 0 < σ.k := by omega
  obtain ⟨hb1, hb2⟩ := hb hk0
  rw [i64w (by omega) (by omega)]
  refine h.rg.ix (α := Int × Int × Int) (by omega) (by omega) fun b o _ hg => ?_
  have ei : ((σ.k : Int) - 1).toNat = σ.k - 1 := by omega
  rw [ei] at hg
  obtain ⟨j1, j2, j3, ej⟩ : ∃ a b c, σ.log (σ.k - 1) = (a, b, c) := ⟨_, _, _, rfl⟩
  rw [ej] at hb1 hb2 hg k
  have g0 := hg 0 (by decide)
  have g1 := hg 1 (by decide)
  have g2 := hg 2 (by decide)
  simp only [in3, El.enc, Nat.add_zero] at g0 g1 g2
  simp at g0 g1 g2
  rw [g0, g1, g2]
  simp only [ldI_mk]
  intro b5 hn5
  refine ⟨_, upd_same, ⟨by simp, rfl⟩, ?_⟩
  have e5 : ((H.upd b5 ⟨[.int .i64 0, .int .i64 0, .int .i64 0], 56⟩).upd b5 ⟨putL [.int .i64 0, .int .i64 0, .int .i64 0] 0 [.int .i64 j1, .int .i64 j2, .int .i64 j3], 56⟩) b5 = some ⟨[.int .i64 j1, .int .i64 j2, .int .i64 j3], 56⟩ := upd_same
  have hs2 : Step (fun _ => False) H ((H.upd b5 ⟨[.int .i64 0, .int .i64 0, .int .i64 0], 56⟩).upd b5 ⟨putL [.int .i64 0, .int .i64 0, .int .i64 0] 0 [.int .i64 j1, .int .i64 j2, .int .i64 j3], 56⟩) :=
    (Step.new (F := fun _ => False) hn5).trans (Step.wr (F := (· = b5)) upd_same rfl) fun b hb => .inr (hb ▸ hn5)
  generalize ((H.upd b5 ⟨[.int .i64 0, .int .i64 0, .int .i64 0], 56⟩).upd b5 ⟨putL [.int .i64 0, .int .i64 0, .int .i64 0] 0 [.int .i64 j1, .int .i64 j2, .int .i64 j3], 56⟩) = H2 at e5 hs2
  simp only [(h.keep hs2 fun _ _ h => h).g3, ldS_mk]
  rw [i64w (n := (σ.k : Int) - 1) (by omega) (by omega), ei, h.rg.slp0]
  refine ⟨⟨by omega, by have := h.rg.le; omega⟩, ?_⟩
  obtain ⟨H3, h3, hs3, hs3', hK⟩ := h.stg (hs2.weak fun _ h => h.elim) ((h.rg.cut (m := σ.k - 1) (by omega)).keep hs2 fun _ _ h => h) (fun b hb => .inl hb)
  refine hK _ ?_
  have e3 := hs3'.keep _ _ e5 (fun e => by have := h.hs; rw [← e, hn5] at this; cases this)
  have i0 : H3.get b5 0 = some (.int .i64 j1) := by simp [Hp.get, e3]
  simp only [h3.g0, ldS_mk, i0, ldI_mk]
  refine h3.stp (by omega) (by simpa using hb1) j1 fun H4 h4 hs4 => ?_
  have hnl : ¬ UFp s bp bz bl lp b5 := fun hu => h.live hu hn5
  have e4 := hs4.keep _ _ e3 hnl
  have i0 : H4.get b5 0 = some (.int .i64 j1) := by simp [Hp.get, e4]
  have i1 : H4.get b5 1 = some (.int .i64 j2) := by simp [Hp.get, e4]
  simp only [h4.g1, ldS_mk, i0, i1, ldI_mk]
  refine h4.rz.ixI (by omega) (by simpa using hb2) ?_
  refine h4.rz.ixI (by omega) (by simpa using hb1) ?_
  refine h4.stz (by omega) (by simpa using hb2) _ fun H5 h5 hs5 => ?_
  have e6 := hs5.keep _ _ e4 hnl
  have i1 : H5.get b5 1 = some (.int .i64 j2) := by simp [Hp.get, e6]
  have i2 : H5.get b5 2 = some (.int .i64 j3) := by simp [Hp.get, e6]
  simp only [h5.g2, ldS_mk, i1, i2, ldI_mk]
  refine h5.stl (by omega) (by simpa using hb2) _ fun H6 h6 hs6 => ?_
  exact k hk0 H6 _ h6 (((hs3.trans hs4 fun _ h => .inl h).trans hs5 fun _ h => .inl h).trans hs6 fun _ h => .inl h)


theorem Rt.det {par : Nat → Nat} {v a b : Nat} (h : Rt par v a) (k : Rt par v b) : a = b := by
  induction h generalizing b with
  | here e => cases k with
    | here _ => rfl
    | up e' _ => exact (e' e).elim
  | up e _ ih => cases k with
    | here e' => exact (e e').elim
    | up _ k => exact ih k

theorem Rt.fix {par : Nat → Nat} {v a : Nat} (h : Rt par v a) : par a = a := by
  induction h with
  | here e => exact e
  | up _ _ ih => exact ih

theorem USt.Ok.rt (ok : σ.Ok) {v : Nat} (hv : v < σ.n) : ∃ r, Rt σ.par v r ∧ r < σ.n := by
  obtain ⟨hn, d, hd⟩ := ok
  have key : ∀ k v, d v = k → v < σ.n → ∃ r, Rt σ.par v r ∧ r < σ.n := by
    intro k
    induction k using Nat.strongRecOn with
    | _ k ih =>
      intro v hk hv
      by_cases e : σ.par v = v
      · exact ⟨v, .here e, hv⟩
      · obtain ⟨r, hr, hrn⟩ := ih _ (hk ▸ (hd v hv).2 e) _ rfl (hd v hv).1
        exact ⟨r, .up e hr, hrn⟩
  exact key _ v rfl hv

open Classical in
noncomputable def rtOf (par : Nat → Nat) (v : Nat) : Nat := if h : ∃ r, Rt par v r then h.choose else 0

theorem Rt.of {par : Nat → Nat} {v a : Nat} (h : Rt par v a) : rtOf par v = a := by
  unfold rtOf
  rw [dif_pos ⟨a, h⟩]
  exact (Exists.choose_spec (⟨a, h⟩ : ∃ r, Rt par v r)).det h

theorem USt.Ok.rtOf (ok : σ.Ok) {v : Nat} (hv : v < σ.n) : Rt σ.par v (rtOf σ.par v) ∧ Mz.rtOf σ.par v < σ.n := by
  obtain ⟨r, hr, hrn⟩ := ok.rt hv
  rw [hr.of]; exact ⟨hr, hrn⟩

/-- a node's name -/
noncomputable def USt.nm (σ : USt) (v : Nat) : Nat := σ.lst (Mz.rtOf σ.par v)

/-- numbers in a row, as a list has them -/
def lsI (l : List Nat) : Nat → Int := fun i => (l.getD i 0 : Int)

theorem lsI_app {l : List Nat} {x : Nat} : upf (lsI l) l.length (x : Int) = lsI (l ++ [x]) := by
  funext i
  unfold upf lsI
  split
  · rename_i e; subst e; simp
  · rename_i e
    simp only [List.getD_eq_getElem?_getD]
    rcases Nat.lt_or_gt_of_ne e with e | e
    · rw [List.getElem?_append_left e]
    · rw [List.getElem?_eq_none (by omega), List.getElem?_eq_none (by simp; omega)]

noncomputable def USt.mem (σ : USt) (v m : Nat) : List Nat := (List.range m).filter fun u => Mz.rtOf σ.par u == Mz.rtOf σ.par v

theorem umembers {v : Int} {K : Option Addr → Nat → Nat → Int → Hp → Prop} (h : USets H s bp bz bl lp lc t siz σ) (ok : σ.Ok)
    (kbad : ¬ (0 ≤ v ∧ v < (σ.n : Int)) → K none 0 0 30 H)
    (k : 0 ≤ v → v < (σ.n : Int) → ∀ H' p c, Row H' p (σ.mem v.toNat σ.n).length c (lsI (σ.mem v.toNat σ.n)) → Step (fun _ => False) H H' → (∀ b, fpS p b → H b = none) → K p (σ.mem v.toNat σ.n).length c 0 H') :
    unions_Sets_Members.call (some ⟨s, 0, none⟩) v E H K := by
  refine unions_Sets_Members.of (unions_Sets_Members.run_eq ?_)
  unfold unions_Sets_Members.run_t
  refine unode h ?_
  by_cases hv : 0 ≤ v ∧ v < (σ.n : Int)
  case neg =>
    simp only [hv, decide_false, Bool.not_false, bcase_t]
    exact kbad hv
  simp only [hv, decide_true, Bool.not_true, bcase_f, and_self]
  obtain ⟨v, rfl⟩ : ∃ u' : Nat, v = u' := ⟨v.toNat, by omega⟩
  have hvn : v < σ.n := by omega
  refine uroot h ok hvn fun r hr hrn => ?_
  simp only [nn_mk, Nat.zero_add, h.g0, ldS_mk]
  have hn := ok.1
  refine unions_Sets_Members.l1_rule (fun s0 op on oc r' t20 t21 H' => s0 = some ⟨s, 0, none⟩ ∧ r' = r ∧ t20 = σ.n ∧ ∃ i : Nat, t21 = i ∧ i ≤ σ.n ∧ on = (σ.mem v i).length ∧ Row H' op on oc (lsI (σ.mem v i)) ∧ Step (fun _ => False) H H' ∧ ∀ b, fpS op b → H b = none)
    (fun s0 op on oc r' t20 t21 H' => σ.n - t21.toNat) ?_ ⟨rfl, rfl, rfl, 0, rfl, by omega, rfl, .nil, .refl, fun b hb => by rw [fpS_none] at hb; exact hb.elim⟩
  rintro s0 op on oc r' t20 t21 H1 ⟨rfl, rfl, rfl, i, rfl, hi, rfl, hrow, hst, hfr⟩ X hX
  refine unions_Sets_Members.b1_eq ?_
  unfold unions_Sets_Members.b1_t
  refine bc (fun hlt => ?_) fun hge => ?_
  · have h1 := h.keep hst fun _ _ h => h
    refine uroot h1 ok (by omega) fun a ha han => ?_
    have hlen : (σ.mem v i).length ≤ 1024 := Nat.le_trans (List.length_filter_le _ _) (by simp; omega)
    have hmem : σ.mem v (i + 1) = if a = r then σ.mem v i ++ [i] else σ.mem v i := by
      unfold USt.mem
      rw [List.range_succ, List.filter_append]
      split
      · rename_i e; simp [ha.of, hr.of, e]
      · rename_i e; simp [ha.of, hr.of, e]
    refine bc (fun e => ?_) fun e => ?_
    · have e' : a = r := by omega
      refine hrow.appI _ (by omega) fun p' c' H2 hr2 hs2 hf2 => ?_
      refine unions_Sets_Members.j1_eq ?_
      unfold unions_Sets_Members.j1_t
      rw [i64w (by omega) (by omega)]
      refine hX _ _ _ _ _ _ _ _ ⟨rfl, rfl, rfl, i + 1, by omega, by omega, ?_, ?_, hst.trans hs2 fun b hb => .inr (hfr b hb), fun b hb => ?_⟩ (by omega)
      · rw [hmem, if_pos e']; simp
      · rw [hmem, if_pos e', ← lsI_app]; exact hr2
      · rcases hf2 b hb with h | h
        · exact hfr b h
        · exact hst.mono b h
    · have e' : a ≠ r := fun e' => e (by rw [e'])
      refine unions_Sets_Members.j1_eq ?_
      unfold unions_Sets_Members.j1_t
      rw [i64w (by omega) (by omega)]
      refine hX _ _ _ _ _ _ _ _ ⟨rfl, rfl, rfl, i + 1, by omega, by omega, ?_, ?_, hst, hfr⟩ (by omega)
      · rw [hmem, if_neg e']
      · rw [hmem, if_neg e']; exact hrow
  · have e : i = σ.n := by omega
    subst e
    have := k (by omega) (by omega) H1 op oc
    simp only [Int.toNat_natCast] at this
    exact this hrow hst hfr

def USt.init (n : Nat) : USt := ⟨n, id, id, 0, fun _ => (0, 0, 0)⟩

theorem unew {n : Int} {K : Option Addr → Int → Hp → Prop} (kbad : ¬ (0 ≤ n ∧ n ≤ 1024) → K none 3 H)
    (k : 0 ≤ n → n ≤ 1024 → ∀ H' s bp bz bl t siz, USets H' s bp bz bl none 0 t siz (USt.init n.toNat) → Step (fun _ => False) H H' → (∀ b, UFp s bp bz bl none b → H b = none) → K (some ⟨s, 0, none⟩) 0 H') :
    unions_New.call n E H K := by
  refine unions_New.of (unions_New.run_eq ?_)
  unfold unions_New.run_t
  refine bc (fun e => kbad (by omega)) fun h0 => ?_
  refine bc (fun e => kbad (by omega)) fun h1 => ?_
  obtain ⟨n, rfl⟩ : ∃ u' : Nat, n = u' := ⟨n.toNat, by omega⟩
  simp only [Int.toNat_natCast]
  refine Row.make (0 : Int) rfl (by omega) (by omega) (by decide) fun bp H1 hn1 hp hs1 => ?_
  refine Row.make (0 : Int) rfl (by omega) (by omega) (by decide) fun bz H2 hn2 hz hs2 => ?_
  refine Row.make (0 : Int) rfl (by omega) (by omega) (by decide) fun bl H3 hn3 hl hs3 => ?_
  intro s hn4
  have h4 : Step (fun _ => False) H3 (H3.upd s ⟨[.slice (some ⟨bp, 0, none⟩) n n, .slice (some ⟨bz, 0, none⟩) n n, .slice (some ⟨bl, 0, none⟩) n n, .slice none 0 0], 53⟩) := Step.new hn4
  have hp2 := hp.keep hs2 fun _ _ h => h
  have hp3 := hp2.keep hs3 fun _ _ h => h
  have hz3 := hz.keep hs3 fun _ _ h => h
  have d12 : bp ≠ bz := fun e => hp.live (fpS_mk.2 rfl) (e ▸ hn2)
  have d13 : bp ≠ bl := fun e => hp2.live (fpS_mk.2 rfl) (e ▸ hn3)
  have d23 : bz ≠ bl := fun e => hz.live (fpS_mk.2 rfl) (e ▸ hn3)
  have d14 : s ≠ bp := fun e => hp3.live (fpS_mk.2 rfl) (e ▸ hn4)
  have d24 : s ≠ bz := fun e => hz3.live (fpS_mk.2 rfl) (e ▸ hn4)
  have d34 : s ≠ bl := fun e => hl.live (fpS_mk.2 rfl) (e ▸ hn4)
  have u0 : USets (H3.upd s ⟨[.slice (some ⟨bp, 0, none⟩) n n, .slice (some ⟨bz, 0, none⟩) n n, .slice (some ⟨bl, 0, none⟩) n n, .slice none 0 0], 53⟩) s bp bz bl none 0 53 (fun _ => 0) ⟨n, fun _ => 0, fun _ => 0, 0, fun _ => (0, 0, 0)⟩ :=
    ⟨upd_same, hp3.keep h4 fun _ _ h => h, hz3.keep h4 fun _ _ h => h, hl.keep h4 fun _ _ h => h, .nil, rfl, ⟨d14, d24, d34, d12, d13, d23⟩, by simp [fpS_none]⟩
  have hs : Step (fun _ => False) H (H3.upd s ⟨[.slice (some ⟨bp, 0, none⟩) n n, .slice (some ⟨bz, 0, none⟩) n n, .slice (some ⟨bl, 0, none⟩) n n, .slice none 0 0], 53⟩) :=
    ((hs1.trans hs2 fun _ h => .inl h).trans hs3 fun _ h => .inl h).trans h4 fun _ h => .inl h
  have hfr : ∀ b, UFp s bp bz bl none b → H b = none := by
    rintro b (rfl | rfl | rfl | rfl | h)
    · exact hs1.mono _ (hs2.mono _ (hs3.mono _ hn4))
    · exact hn1
    · exact hs1.mono _ hn2
    · exact hs1.mono _ (hs2.mono _ hn3)
    · rw [fpS_none] at h; exact h.elim
  generalize (H3.upd s ⟨[.slice (some ⟨bp, 0, none⟩) n n, .slice (some ⟨bz, 0, none⟩) n n, .slice (some ⟨bl, 0, none⟩) n n, .slice none 0 0], 53⟩) = H4 at u0 hs
  refine unions_New.l1_rule (fun s4 t20 t21 H' => s4 = some ⟨s, 0, none⟩ ∧ t20 = n ∧ ∃ i : Nat, t21 = i ∧ i ≤ n ∧ Step (fun _ => False) H H' ∧ ∃ siz par lst, USets H' s bp bz bl none 0 53 siz ⟨n, par, lst, 0, fun _ => (0, 0, 0)⟩ ∧ ∀ j, j < i → par j = j ∧ lst j = j)
    (fun s4 t20 t21 H' => n - t21.toNat) ?_ ⟨rfl, rfl, 0, rfl, by omega, hs, _, _, _, u0, fun j hj => by omega⟩
  rintro s4 t20 t21 H' ⟨rfl, rfl, i, rfl, hi, hst, siz, par, lst, hu, hj⟩ X hX
  refine unions_New.b1_eq ?_
  unfold unions_New.b1_t
  refine bc (fun hlt => ?_) fun hge => ?_
  · simp only [nn_mk, Nat.zero_add, hu.g0, hu.g1, hu.g2, ldS_mk]
    refine hu.stp (by omega) (by simpa using hlt) i fun H5 hu5 hs5 => ?_
    refine hu5.stz (by omega) (by simpa using hlt) 1 fun H6 hu6 hs6 => ?_
    refine hu6.stl (by omega) (by simpa using hlt) i fun H7 hu7 hs7 => ?_
    rw [i64w (by omega) (by omega)]
    refine hX _ _ _ _ ⟨rfl, rfl, i + 1, by omega, by omega, ?_, _, _, _, hu7, fun j hj' => ?_⟩ (by omega)
    · exact hst.trans ((hs5.trans hs6 fun _ h => .inl h).trans hs7 fun _ h => .inl h) fun b hb => .inr (hfr b hb)
    · simp only [Int.toNat_natCast]
      by_cases e : j = i
      · subst e; simp [upf_same]
      · rw [upf_ne e, upf_ne e]; exact hj j (by omega)
  · have e : i = n := by omega
    subst e
    refine k (by omega) (by omega) H' s bp bz bl 53 siz ?_ hst hfr
    simp only [Int.toNat_natCast]
    exact ⟨hu.hs, hu.rp.congr fun j hj' => by simp [USt.init, (hj j hj').1], hu.rz, hu.rl.congr fun j hj' => by simp [USt.init, (hj j hj').2], .nil, hu.ht, hu.d1, hu.d2⟩

end
end Go.Mz

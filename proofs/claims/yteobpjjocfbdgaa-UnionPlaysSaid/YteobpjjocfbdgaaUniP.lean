/-
  The plain law of sets that are joined: roots, names, what a join changes. No program in sight.
-/
import Derived.Test.YteobpjjocfbdgaaUniS
set_option linter.unusedSimpArgs false
set_option linter.unusedVariables false
namespace Go.Mz

def cnt (p : Nat → Bool) : Nat → Nat
  | 0 => 0
  | n + 1 => cnt p n + if p n then 1 else 0

theorem cnt_congr {p q : Nat → Bool} {n : Nat} (h : ∀ i, i < n → p i = q i) : cnt p n = cnt q n := by
  induction n with
  | zero => rfl
  | succ n ih => simp only [cnt]; rw [ih fun i hi => h i (by omega), h n (by omega)]

theorem cnt_less {p q : Nat → Bool} {n b : Nat} (hb : b < n) (hp : p b = true) (hq : q b = false) (h : ∀ i, i < n → i ≠ b → p i = q i) : cnt p n = cnt q n + 1 := by
  induction n with
  | zero => omega
  | succ n ih =>
    simp only [cnt]
    by_cases e : b = n
    · subst e
      rw [cnt_congr fun i hi => h i (by omega) (by omega), hp, hq]; simp
    · rw [ih (by omega) fun i hi => h i (by omega), h n (by omega) (by omega)]; omega

theorem cnt_pos {p : Nat → Bool} {n a : Nat} (ha : a < n) (hp : p a = true) : 0 < cnt p n := by
  induction n with
  | zero => omega
  | succ n ih =>
    simp only [cnt]
    by_cases e : a = n
    · subst e; rw [hp]; simp
    · have := ih (by omega); omega

theorem cnt_all {p : Nat → Bool} {n : Nat} (h : ∀ i, i < n → p i = true) : cnt p n = n := by
  induction n with
  | zero => rfl
  | succ n ih => simp only [cnt]; rw [ih fun i hi => h i (by omega), h n (by omega)]; simp

inductive UHist : USt → Prop
  | base {n : Nat} (h : n ≤ 1024) : UHist (USt.init n)
  | join {σ : USt} {a b : Nat} (h : UHist σ) (hab : a ≠ b) (ha : a < σ.n) (hb : b < σ.n) (ra : σ.par a = a) (rb : σ.par b = b) : UHist (σ.join a b)

theorem Rt.same {par : Nat → Nat} {v : Nat} : rtOf par (par v) = rtOf par v := by
  by_cases e : par v = v
  · rw [e]
  · by_cases h : ∃ r, Rt par v r
    · obtain ⟨r, hr⟩ := h
      have hr' := hr
      cases hr with
      | here e' => exact (e e').elim
      | up _ k => rw [k.of, hr'.of]
    · have h' : ¬ ∃ r, Rt par (par v) r := fun ⟨r, hr⟩ => h ⟨r, .up e hr⟩
      unfold rtOf
      rw [dif_neg h, dif_neg h']

theorem UHist.facts {σ : USt} (h : UHist σ) : σ.Ok ∧ σ.k + cnt (fun v => σ.par v == v) σ.n = σ.n := by
  induction h with
  | base h => exact ⟨⟨h, fun _ => 0, fun v hv => ⟨hv, fun e => (e rfl).elim⟩⟩, by simp [USt.init, cnt_all]⟩
  | @join σ a b h hab ha hb ra rb ih =>
    obtain ⟨ok, hc⟩ := ih
    have ok0 := ok
    obtain ⟨hn, d, hd⟩ := ok
    refine ⟨⟨hn, fun v => if rtOf σ.par v = b then d v + d a + 1 else d v, fun v hv => ?_⟩, ?_⟩
    · by_cases e : v = b
      · subst e
        have e1 : (σ.join a v).par v = a := upf_same
        have e2 : rtOf σ.par a ≠ v := by rw [(Rt.here ra).of]; exact hab
        have e3 : rtOf σ.par v = v := (Rt.here rb).of
        simp only [e1, e2, e3, if_true, if_false]
        exact ⟨ha, fun _ => by omega⟩
      · have e1 : (σ.join a b).par v = σ.par v := upf_ne e
        simp only [e1, Rt.same]
        refine ⟨(hd v hv).1, fun hne => ?_⟩
        have := (hd v hv).2 hne
        split <;> omega
    · have : cnt (fun v => σ.par v == v) σ.n = cnt (fun v => (σ.join a b).par v == v) σ.n + 1 := by
        refine cnt_less hb (by simp [rb]) (by simp [USt.join, upf_same, hab]) fun i hi e => by simp [USt.join, upf_ne e]
      show σ.k + 1 + cnt (fun v => (σ.join a b).par v == v) σ.n = σ.n
      omega

theorem UHist.ok {σ : USt} (h : UHist σ) : σ.Ok := h.facts.1
theorem UHist.le {σ : USt} (h : UHist σ) : σ.k ≤ σ.n := by have := h.facts.2; omega
theorem UHist.small {σ : USt} (h : UHist σ) : σ.k ≤ 1048576 := by have := h.le; have := h.ok.1; omega

theorem UHist.undo {σ : USt} (h : UHist σ) (hk : 0 < σ.k) : ∃ σ' a b, UHist σ' ∧ σ = σ'.join a b ∧ a < σ'.n ∧ b < σ'.n ∧ σ'.par b = b ∧ σ'.par a = a ∧ a ≠ b := by
  cases h with
  | base h => simp [USt.init] at hk
  | join h hab ha hb ra rb => exact ⟨_, _, _, h, rfl, ha, hb, rb, ra, hab⟩

theorem join_log {σ : USt} {a b : Nat} : (σ.join a b).log ((σ.join a b).k - 1) = (b, a, σ.lst a) := by
  simp [USt.join, upf_same]

/-- a join taken back -/
theorem USets.back {H : Hp} {s bp bz bl : Nat} {lp : Option Addr} {lc : Nat} {t : BT} {siz : Nat → Int} {σ : USt} {a b : Nat} (rb : σ.par b = b)
    (h : USets H s bp bz bl lp lc t siz ((σ.join a b).undo (b, a, σ.lst a))) : USets H s bp bz bl lp lc t siz σ := by
  have e1 : upf (upf σ.par b a) b b = σ.par := by
    funext i; unfold upf; split
    · rename_i e; rw [e, rb]
    · rfl
  have e2 : upf (upf σ.lst a (min (σ.lst a) (σ.lst b))) a (σ.lst a) = σ.lst := by
    funext i; unfold upf; split
    · rename_i e; rw [e]
    · rfl
  obtain ⟨hs, rp, rz, rl, rg, ht, d1, d2⟩ := h
  simp only [USt.undo, USt.join, e1, e2, Nat.add_sub_cancel] at hs rp rz rl rg
  exact ⟨hs, rp, rz, rl, rg.congr fun i hi => by rw [upf_ne (by omega)], ht, d1, d2⟩

noncomputable def nmI (σ : USt) : Nat → Int := fun v => (σ.nm v : Int)

end Go.Mz

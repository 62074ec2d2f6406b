/-
  More lemmas on rows: the later ones alone, grown where there is no room; records written in part. It proves nothing of the program by itself.
-/
import Derived.Test.YtjdhhepphbhjgaaMzX
set_option linter.unusedSimpArgs false
set_option linter.unusedVariables false
namespace Go.Mz
section
variable {α : Type} [El α]

/-- the later ones alone -/
theorem Row.drop {H : Hp} {p : Option Addr} {n c l : Nat} {f : Nat → α} (h : Row H p n c f) (hl : l ≤ n) : Row H (slp p l c (El.w α)) (n - l) (c - l) (fun i => f (i + l)) := by
  have hc := h.le
  have hcap := h.cap
  unfold slp
  split
  · rename_i e
    refine ⟨by omega, by omega, ?_⟩
    rcases h.cells with ⟨h1, h2⟩ | ⟨b', o', x, e', hx, ⟨hl1, hl2⟩, ha⟩
    · exact .inl ⟨h1, by omega⟩
    · refine .inr ⟨b', o', x, e', hx, ⟨?_, hl2⟩, fun i hi => by omega⟩
      have : c - l = 0 := by omega
      rw [this]
      have := Nat.le_trans (Nat.le_add_right o' (c * El.w α)) hl1
      omega
  · rename_i e
    refine ⟨by omega, by omega, ?_⟩
    rcases h.cells with ⟨h1, h2⟩ | ⟨b', o', x, e', hx, ⟨hl1, hl2⟩, ha⟩
    · subst h1; exact .inl ⟨rfl, by omega⟩
    · subst e'
      refine .inr ⟨b', o' + l * El.w α, x, (by simp [Addr.add]), hx, ⟨?_, hl2⟩, fun i hi j hj => ?_⟩
      · rw [Nat.sub_mul]
        have : l * El.w α ≤ c * El.w α := Nat.mul_le_mul_right _ (by omega)
        omega
      · have := ha (i + l) (by omega) j hj
        rw [Nat.add_mul] at this
        rw [← this]
        congr 1
        omega

/-- one more at the end, where there is no room: what was there is left -/
theorem Row.appFull {H : Hp} {p : Option Addr} {n c : Nat} {f : Nat → α} (h : Row H p n c f) {e : TypeId} {t : BT} {ks : List CK} {bytes : Nat} (x : α) {K : Option Addr → Nat → Nat → Hp → Prop}
    (hk : ks.length = El.w α) (hn : n ≤ 1048576) (hb : bytes ≤ 1024) (hfull : c = n)
    (k : ∀ b' c' H', H b' = none → Row H' (some ⟨b', 0, none⟩) (n + 1) c' (upf f n x) → Step (fun _ => False) H H' → K (some ⟨b', 0, none⟩) (n + 1) c' H') :
    nw H ⟨El.enc x, t⟩ fun b H' => appM e ks bytes p n c (some ⟨b, 0, none⟩) 1 H' K := by
  intro b hbn
  have hw := El.pos (α := α)
  have hlen := El.len x
  have s1 : Step (fun _ => False) H (H.upd b ⟨El.enc x, t⟩) := Step.new hbn
  have h1 := h.keep s1 fun _ _ h => h
  refine ⟨_, upd_same, by simp [hk, El.len], ?_⟩
  have htake : ((El.enc x).drop 0).take (1 * ks.length) = El.enc x := by simp [hk, ← El.len x]
  simp only [htake]
  refine ⟨El.one x, ?_⟩
  rw [if_neg (by omega)]
  have hcap : c < n + 1 := by omega
  refine ⟨⟨by omega, ?_⟩, ?_⟩
  · have h1 := room_le (n + 1) c hcap
    have h2 : Builtin.nextslicecap (n + 1) c * bytes ≤ (2 * (n + 1) + 256) * 1024 := Nat.mul_le_mul h1 hb
    have h3 : (2 * (n + 1) + 256) * 1024 ≤ 2 ^ 48 := by omega
    exact Nat.le_trans h2 h3
  · rw [hk]
    refine h1.rdN fun old hol hoa c' b' hc1 hc2 hb' => ?_
    refine k _ _ _ (s1.mono _ hb') ⟨hc1, hc2, .inr ⟨b', 0, _, rfl, upd_same, ⟨?_, rfl⟩, ?_⟩⟩ (s1.and (Step.new hb'))
    · simp only [List.length_append, hol, El.len, zr_length, hk, Nat.sub_mul, Nat.add_mul]
      have : (n + 1) * El.w α ≤ c' * El.w α := Nat.mul_le_mul_right _ hc1
      rw [Nat.add_mul] at this
      omega
    · intro i hi j hj
      rw [List.append_assoc]
      by_cases ei : i = n
      · subst ei
        rw [List.getElem?_append_right (by omega), List.getElem?_append_left (by rw [El.len]; omega), upf_same, hol]; congr 1; omega
      · have : (i + 1) * El.w α ≤ n * El.w α := Nat.mul_le_mul_right _ (by omega)
        rw [Nat.add_mul] at this
        rw [List.getElem?_append_left (by omega), upf_ne ei, Nat.zero_add]
        exact hoa i (by omega) j hj
end

/-- a record, written in part -/
theorem stp {H : Hp} {b o : Nat} {z vs : List Value} {t : BT} {K : Hp → Prop} (e : H b = some ⟨z, t⟩) (ho : o + vs.length ≤ z.length) (ht : t.fz = (0, 0))
    (k : ∀ H', H' b = some ⟨putL z o vs, t⟩ → Step (· = b) H H' → K H') : stC H b o vs K :=
  ⟨_, e, ⟨ho, ht⟩, k _ upd_same (Step.wr e rfl)⟩
end Go.Mz

/-
  Walks of the statements of layer 8: awake, longs, below.
-/
import Derived.Test.YtajgpmohnbjpcaaPkD
import Derived.Test.YtajgpmohnbjpcaaPkR
import Derived.Test.YtajgpmohnbjpcaaGShA
set_option linter.unusedSimpArgs false
set_option linter.unusedVariables false
namespace Go.Mz

/-- the graph of the first question -/
def aw8 : Nat → Edg
  | 0 => (0, 2, 0, 9)
  | 1 => (0, 1, 0, 2)
  | _ => (1, 2, 0, 3)

theorem aw8_right : Right 3 3 aw8 := by
  refine ⟨by decide, by decide, by decide, fun i hi => ?_⟩
  have : i = 0 ∨ i = 1 ∨ i = 2 := by omega
  rcases this with rfl | rfl | rfl <;> constructor <;> decide

theorem aw8_pos : ∀ i, i < 3 → 0 ≤ gc aw8 i := fun i hi => by
  have : i = 0 ∨ i = 1 ∨ i = 2 := by omega
  rcases this with rfl | rfl | rfl <;> decide

theorem aw8_dist {d via : Nat → Int} (h : SolG 3 3 aw8 (dz (0 : Int).toNat) d via) : d 2 = 5 := by
  have := h.jacM aw8_right.gr (fun v _ => dz_or v) 2 (by decide)
  rw [← this]
  decide

theorem aw8_way {m : Nat} {f : Nat → Int} (hm : m < 3) (h : WayG 3 aw8 0 2 m f) (hc : cst aw8 f m = 5) : m = 2 ∧ f 0 = 1 ∧ f 1 = 2 := by
  have hf : ∀ k, k < m → f k = 0 ∨ f k = 1 ∨ f k = 2 := fun k hk => by
    have := h.rg k hk
    omega
  have h0 : m ≠ 0 := fun e => by have := h.no e; cases this
  have hst := h.st (by omega)
  have hcase : m = 1 ∨ m = 2 := by omega
  rcases hcase with rfl | rfl
  · have hen := h.en (by omega)
    have e1 : cst aw8 f 1 = (aw8 (f 0).toNat).co := by simp [cst]
    rw [e1] at hc
    rcases hf 0 (by omega) with e | e | e <;> rw [e] at hst hen hc <;> first | exact absurd hst (by decide) | exact absurd hen (by decide) | exact absurd hc (by decide)
  · have hon := h.on 0 (by omega)
    rcases hf 0 (by omega) with e | e | e <;> rw [e] at hst hon
    · rcases hf 1 (by omega) with e' | e' | e' <;> rw [e'] at hon <;> exact absurd hon (by decide)
    · rcases hf 1 (by omega) with e' | e' | e'
      · rw [e'] at hon; exact absurd hon (by decide)
      · rw [e'] at hon; exact absurd hon (by decide)
      · exact ⟨rfl, e, e'⟩
    · exact absurd hst (by decide)

section
variable {E : Value → Hp → Prop}

theorem lawake8 {H : Hp} {K : Bool → Hp → Prop} (kk : ∀ H', Step (fun _ => False) H H' → K true H') : compasslaw08_awake.call E H K := by
  refine compasslaw08_awake.of (compasslaw08_awake.run_eq ?_)
  unfold compasslaw08_awake.run_t
  refine nwk fun b1 H1 hb1 e1 s1 => ?_
  refine nwst rfl rfl fun b2 H3 hb2 e2 s2 => ?_
  have e13 := s2.keep _ _ e1 fun h => h
  have s03 := s1.and s2
  have he : Rdr H3 (some ⟨b1, 0, none⟩) 3 aw8 := fun i hi => ⟨b1, 0, rfl, fun j hj => by
    have hi' : i = 0 ∨ i = 1 ∨ i = 2 := by omega
    have hj' : j = 0 ∨ j = 1 ∨ j = 2 ∨ j = 3 := by have : El.w Edg = 4 := rfl; omega
    rw [get_at e13]
    rcases hi' with rfl | rfl | rfl <;> rcases hj' with rfl | rfl | rfl | rfl <;> rfl⟩
  simp only [get_at e2, List.getElem?_cons_zero, List.getElem?_cons_succ, ldI_mk, ldS_mk]
  refine sdijkstra (g := binEng E) he aw8_right (by decide) (by decide) (fun k => qnew1 (by decide) (by decide) k) (fun h => (h aw8_pos).elim) fun _ H4 bd bv dist via s4 fd fv dv rD rV hS => ?_
  refine nwst rfl rfl fun b3 H5 hb3 e3 s5 => ?_
  have e25 := (s4.and s5).keep _ _ e2 fun h => h
  have s05 := (s03.and s4).and s5
  have rD5 := rD.keep s5 fun _ _ h => h
  have hd := aw8_dist hS
  simp only [get_at e25, List.getElem?_cons_zero, List.getElem?_cons_succ, ldI_mk, ldS_mk]
  have hw : wrg 3 3 aw8 0 = 0 := wrg_zero.2 ⟨aw8_right, by decide, by decide⟩
  refine sway (he.keep (s4.and s5) fun _ _ _ h => h) (by decide) (fun h => (h hw).elim) (fun _ _ _ h => (h (hS.stl aw8_right.gr fun v _ => dz_or v)).elim) (fun _ _ _ _ _ _ h => absurd h (by decide)) (fun _ _ _ dist' via' hS' _ _ h => absurd (aw8_dist hS') (by rw [show (2 : Int).toNat = 2 from rfl] at h; rw [h]; decide)) fun _ _ _ dist' via' hS' _ _ hlt H6 p m c f s6 rf ff hW hcost hm => ?_
  have hd' : dist' (2 : Int).toNat = 5 := aw8_dist hS'
  rw [hd'] at hcost ⊢
  obtain ⟨rfl, f0, f1⟩ := aw8_way hm hW hcost
  have e36 := s6.keep _ _ e3 fun h => h
  have rD6 := rD5.keep s6 fun _ _ h => h
  refine bc (fun _ => ?_) fun h => (h (by trivial)).elim
  refine bc (fun _ => ?_) fun h => (h (by trivial)).elim
  simp only [get_at e36, List.getElem?_cons_zero, List.getElem?_cons_succ, ldI_mk, ldS_mk]
  refine bc (fun _ => ?_) fun h => (h (by decide)).elim
  try simp only [get_at e36, List.getElem?_cons_zero, List.getElem?_cons_succ, ldI_mk, ldS_mk]
  refine rD6.ixI (by decide) (by decide) ?_
  rw [show (2 : Int).toNat = 2 from rfl]
  refine bc (fun _ => ?_) fun h => (h hd).elim
  refine bc (fun _ => ?_) fun h => (h (by decide)).elim
  refine rf.ixI (by decide) (by decide) ?_
  refine bc (fun _ => ?_) fun h => (h f0).elim
  refine rf.ixI (by decide) (by decide) ?_
  refine bc (fun _ => ?_) fun h => (h f1).elim
  refine bc (fun _ => ?_) fun h => (h (by trivial)).elim
  exact kk H6 (s05.and s6)

/-- the same numbers -/
theorem llongs {p q : Option Addr} {n m c1 c2 : Nat} {f g : Nat → Int} {H : Hp} {K : Bool → Hp → Prop} (hp : Rdr H p n f) (hq : Rdr H q m g) (hn : n < 2 ^ 62) (hnm : n = m) (hfg : ∀ i, i < n → f i = g i) (kk : K true H) : compasslaw08_longs.call p n c1 q m c2 E H K := by
  subst hnm
  refine compasslaw08_longs.of (compasslaw08_longs.run_eq ?_)
  unfold compasslaw08_longs.run_t
  refine bcn (fun h => (h rfl).elim) fun _ => ?_
  refine compasslaw08_longs.l1_rule (fun ap an ac bp bn bc t12 t13 H' => ap = p ∧ an = n ∧ bp = q ∧ bn = n ∧ t12 = n ∧ H' = H ∧ ∃ i : Nat, t13 = i ∧ i ≤ n) (fun ap an ac bp bn bc t12 t13 H' => n - t13.toNat) ?_ ⟨rfl, rfl, rfl, rfl, rfl, rfl, 0, rfl, Nat.zero_le _⟩
  rintro ap an ac bp bn bc' t12 t13 H' ⟨rfl, rfl, rfl, rfl, rfl, rfl, i, rfl, hi⟩ X hX
  refine compasslaw08_longs.b1_eq ?_
  unfold compasslaw08_longs.b1_t
  refine bc (fun hlt => ?_) fun hge => kk
  refine hp.ixI (by omega) (by omega) ?_
  refine hq.ixI (by omega) (by omega) ?_
  refine bcn (fun h => (h (hfg _ (by omega))).elim) fun _ => ?_
  rw [i64w (by omega) (by omega)]
  exact hX _ _ _ _ _ _ _ _ _ ⟨rfl, rfl, rfl, rfl, rfl, rfl, i + 1, by omega, by omega⟩ (by omega)

end
end Go.Mz

/-
  What the statements on keeping what is handed in do first: a copy of the graph with one more edge behind its own.
-/
import Derived.Test.YthcehonpfnmpiaaGreatRfK
set_option linter.unusedSimpArgs false
set_option linter.unusedVariables false
namespace Go.Mz

theorem Rdr.edgeQ {H : Hp} {p : Option Addr} {n : Nat} {f : Nat → Edg} (h : Rdr H p n f) {i : Int} (h0 : 0 ≤ i) (h1 : i < (n : Int)) {G : Int → Prop}
    (k : G (f i.toNat).cp) : Mz.ix p n i 4 fun b o => ldI .i64 (H.get b (o + 2)) G := by
  refine h.ix (α := Edg) h0 h1 fun b o _ hg => ?_
  rw [(Rdr.cells4 hg).2.2.1]
  exact k

section
variable {E : Value → Hp → Prop}

theorem kmine {N : Int} {ep : Option Addr} {n ec b1 : Nat} {e : Nat → Edg} {H : Hp} {X : Nat → Hp → Prop} (he : Rdr H ep n e) (hn : n ≤ 4398046511103) (e1 : H b1 = some ⟨[.int .i64 N, .slice ep n ec], 24⟩)
    (k : ∀ b2 H' p c e', Step (fun _ => False) H H' → H' b2 = some ⟨[.int .i64 N, .slice p n c], 24⟩ → H b2 = none → Row H' p (n + 1) c e' → (∀ i, i < n → e' i = e i) → e' n = (0, 0, -7, 0) → (∀ y, fpS p y → H y = none) → ¬ fpS p b2 → X b2 H') :
    compassref03_Copy.call N ep n ec E H fun r_2_Nodes r_2_Edgesp r_2_Edgesn r_2_Edgesc H_3 =>
      nw H_3 ⟨[.int .i64 0, .slice none 0 0], 24⟩ fun b_2 H_4 =>
      stC H_4 b_2 0 [.int .i64 r_2_Nodes, .slice r_2_Edgesp r_2_Edgesn r_2_Edgesc] fun H_5 =>
      ldS (H_5.get b_2 1) fun x_3p x_3n x_3c =>
      nw H_5 ⟨[.int .i64 0, .int .i64 0, .int .i64 (-7), .int .i64 0], 44⟩ fun b_3 H_6 =>
      ldS (H_6.get b1 1) fun x_4p x_4n x_4c =>
      appM 44 [.i .i64, .i .i64, .i .i64, .i .i64] 32 x_3p x_3n x_3c (some ⟨b_3, 0, none⟩) 1 H_6 fun a_1p a_1n a_1c H_7 =>
      (ldS (H_7.get b1 1) fun x_17p x_17n x_17c =>
      Value.slice x_17p x_17n x_17c = Value.slice x_4p x_4n x_4c) ∧
      ((0 : Int) ≤ (x_4n : Int) ∧ (x_4n : Int) ≤ (a_1c : Int)) ∧
      stC H_7 b_2 1 [.slice (slp a_1p 0 a_1c 4) ((x_4n : Int).toNat) a_1c] fun H_8 => X b_2 H_8 := by
  refine rcopy he (by omega) fun H3 p3 c3 e' s3 r3 hee f3 => ?_
  refine nwst rfl rfl fun b2 H5 hb2 e2 s5 => ?_
  have s35 := s3.and s5
  have e15 := s35.keep _ _ e1 fun h => h
  have r5 := r3.keep s5 fun _ _ h => h
  have fb2 : H b2 = none := s3.mono _ hb2
  have d21 : b2 ≠ b1 := fun h => by rw [h, s3.keep _ _ e1 fun h => h] at hb2; cases hb2
  have n2 : ¬ fpS p3 b2 := fun h => r3.live h hb2
  have n1 : ¬ fpS p3 b1 := fun h => by have := f3 _ h; rw [e1] at this; cases this
  simp only [get_at e2, List.getElem?_cons_zero, List.getElem?_cons_succ, ldI_mk, ldS_mk]
  intro b3 hb3
  have st6 : Step (fun _ => False) H5 (H5.upd b3 ⟨[.int .i64 0, .int .i64 0, .int .i64 (-7), .int .i64 0], 44⟩) := Step.new hb3
  have e16 := st6.keep _ _ e15 fun h => h
  simp only [get_at e16, List.getElem?_cons_zero, List.getElem?_cons_succ, ldI_mk, ldS_mk]
  refine Row.appW (α := Edg) r5 ((0, 0, -7, 0) : Edg) rfl (by omega) (by omega) (fun p7 c7 H7 r7 s7 f7 => ?_) b3 hb3
  have e17 := s7.keep _ _ e15 n1
  have e27 := s7.keep _ _ e2 n2
  have s07 := s35.own s7 f3
  have f07 : ∀ y, fpS p7 y → H y = none := fun y hy => (f7 y hy).elim (f3 y) (s35.mono y)
  have m2 : ¬ fpS p7 b2 := fun h => (f7 _ h).elim n2 fun h => by rw [e2] at h; cases h
  simp only [get_at e17, List.getElem?_cons_zero, List.getElem?_cons_succ, ldI_mk, ldS_mk]
  have hle := r7.le
  refine ⟨trivial, ⟨by omega, by omega⟩, ?_⟩
  rw [Int.toNat_natCast, r7.slp0]
  refine stp e27 (by simp) rfl fun H8 e28 s8 => ?_
  replace e28 : H8 b2 = some ⟨[.int .i64 N, .slice p7 n c7], 24⟩ := e28
  exact k b2 H8 p7 c7 _ (s07.own s8 fun y hy => hy ▸ fb2) e28 fb2 (r7.keep s8 fun y hy h => m2 (h ▸ hy)) (fun i hi => by rw [upf_ne (by omega)]; exact hee i hi) upf_same f07 m2

/-- and that it is still there afterwards -/
theorem ksame {N : Int} {ep p : Option Addr} {n ec c b1 b2 : Nat} {e e' : Nat → Edg} {H : Hp} {Y Z Z' : Hp → Prop} (he : Rdr H ep n e) (hn : n ≤ 4398046511103) (e1 : H b1 = some ⟨[.int .i64 N, .slice ep n ec], 24⟩) (e2 : H b2 = some ⟨[.int .i64 N, .slice p n c], 24⟩)
    (r : Row H p (n + 1) c e') (hee : ∀ i, i < n → e' i = e i) (hl : e' n = (0, 0, -7, 0)) (k : ∀ H', Step (fun _ => False) H H' → Y H') :
    ldI .i64 (H.get b2 0) fun x_9 =>
    ldS (H.get b2 1) fun x_10p x_10n x_10c =>
    ldI .i64 (H.get b1 0) fun x_11 =>
    ldS (H.get b1 1) fun x_12p x_12n x_12c =>
    compassref03_Same.call x_9 x_10p x_10n x_10c x_11 x_12p x_12n x_12c E H fun r_9 H_11 =>
    bcase ((!r_9)) (Z H_11)
    (ldS (H_11.get b2 1) fun x_13p x_13n x_13c =>
    ldS (H_11.get b1 1) fun x_14p x_14n x_14c =>
    ((0 : Int) ≤ (IntKind.wrap .i64 ((x_14n : Int) + 1)) ∧ (IntKind.wrap .i64 ((x_14n : Int) + 1)) ≤ (x_13c : Int)) ∧
    ldS (H_11.get b1 1) fun x_15p x_15n x_15c =>
    ix (slp x_13p 0 x_13c 4) ((IntKind.wrap .i64 ((x_14n : Int) + 1)).toNat) (x_15n : Int) 4 fun b_4 o_1 =>
    ldI .i64 (H_11.get b_4 (o_1 + 2)) fun x_16 =>
    bcase (!decide ((x_16 : Int) = (-7))) (Z' H_11) (Y H_11)) := by
  simp only [get_at e1, get_at e2, List.getElem?_cons_zero, List.getElem?_cons_succ, ldI_mk, ldS_mk]
  have g : Rdr H p n e := ((r.cut (m := n) (by omega)).congr hee).rdr
  have hle := r.le
  refine rsame3 g he (by omega) fun H20 s20 => ?_
  have e1g := s20.keep _ _ e1 fun h => h
  have e2g := s20.keep _ _ e2 fun h => h
  refine bcb (fun h => by cases h) fun _ => ?_
  simp only [get_at e1g, get_at e2g, List.getElem?_cons_zero, List.getElem?_cons_succ, ldI_mk, ldS_mk]
  have r20 := r.keep s20 fun _ _ h => h
  rw [i64w (by omega) (by omega)]
  refine ⟨⟨by omega, by omega⟩, ?_⟩
  rw [r20.slp0]
  have en : ((n : Int) + 1).toNat = n + 1 := by omega
  rw [en]
  refine r20.rdr.edgeQ (by omega) (by omega) ?_
  rw [Int.toNat_natCast, hl]
  refine bcn (fun h => (h rfl).elim) fun _ => ?_
  exact k H20 s20
end
end Go.Mz

/-
  Joined: DjA, DjE, RfC.
-/
import Derived.Test.YtajgpmohnbjpcaaDjP
import Derived.Test.YtajgpmohnbjpcaaPkP
import Derived.Test.YtajgpmohnbjpcaaPkG
import Derived.Test.YtajgpmohnbjpcaaPkF
import Derived.Test.YtajgpmohnbjpcaaPkA
import Derived.Test.YtajgpmohnbjpcaaPkB
import Derived.Test.YtajgpmohnbjpcaaPkR
import Derived.Test.YtajgpmohnbjpcaaMzZ
import Derived.Test.YtajgpmohnbjpcaaGRfc
set_option linter.unusedSimpArgs false
set_option linter.unusedVariables false
/-
  Walks of layer 8: Dijkstra, by a queue of any kind.
-/
namespace Go.Mz

/-- the edges that go out of each node, among so many -/
def outs (a : Nat → Nat) : Nat → Nat → List Nat
  | 0 => fun _ => []
  | i + 1 => upf (outs a i) (a i) (outs a i (a i) ++ [i])

theorem mem_outs {a : Nat → Nat} : ∀ {i j v : Nat}, j ∈ outs a i v ↔ j < i ∧ a j = v
  | 0, j, v => ⟨fun h => (by cases h), fun h => by omega⟩
  | i + 1, j, v => by
    show j ∈ upf (outs a i) (a i) (outs a i (a i) ++ [i]) v ↔ _
    by_cases e : v = a i
    · subst e
      rw [upf_same]
      simp only [List.mem_append, List.mem_singleton, mem_outs]
      constructor
      · rintro (⟨h1, h2⟩ | rfl)
        · exact ⟨by omega, h2⟩
        · exact ⟨by omega, rfl⟩
      · rintro ⟨h1, h2⟩
        by_cases e' : j = i
        · exact .inr e'
        · exact .inl ⟨by omega, h2⟩
    · rw [upf_ne e, mem_outs]
      constructor
      · rintro ⟨h1, h2⟩; exact ⟨by omega, h2⟩
      · rintro ⟨h1, h2⟩
        refine ⟨?_, h2⟩
        by_cases e' : j = i
        · subst e'; exact (e h2.symm).elim
        · omega

theorem outs_len {a : Nat → Nat} : ∀ {i v : Nat}, (outs a i v).length ≤ i
  | 0, v => Nat.le_refl _
  | i + 1, v => by
    show (upf (outs a i) (a i) (outs a i (a i) ++ [i]) v).length ≤ _
    by_cases e : v = a i
    · subst e; rw [upf_same]; have := outs_len (a := a) (i := i) (v := a i); simp; omega
    · rw [upf_ne e]; have := outs_len (a := a) (i := i) (v := v); omega

theorem Dst.wk {M n s : Nat} {a b : Nat → Nat} {c d via : Nat → Int} {S dn : Nat → Bool} {rk : Nat → Nat} {dl : Int} {T T' : Nat → Prop} (h : Dst M n a b c s d via S dn rk dl T) (hT : ∀ i, i < n → T i → T' i) : Dst M n a b c s d via S dn rk dl T' :=
  ⟨h.src, h.cls, h.dis, h.via1, h.edg, fun i hi h1 h2 => h.sat i hi h1 fun h3 => h2 (hT i hi h3), h.lo, h.up, h.bnd, h.rkl, h.bdn, h.low⟩

/-- places that are apart -/
structure DjC (H : Hp) (M b1 b2 bt bd bv bo : Nat) (sl : Nat → Sl) : Prop where
  d1 : b1 ≠ bd
  d2 : b2 ≠ bd
  dt : bt ≠ bd
  dob : bo ≠ bd
  dv : bv ≠ bd
  v1 : b1 ≠ bv
  v2 : b2 ≠ bv
  vt : bt ≠ bv
  vo : bo ≠ bv
  ds : ∀ v, v < M → ∀ y, fpS (sl v).p y → y ≠ bd
  vs : ∀ v, v < M → ∀ y, fpS (sl v).p y → y ≠ bv
  fd : H bd = none
  fv : H bv = none
  f2 : H b2 = none

def DjW (M b1 b2 bt bd bv bo : Nat) (sl : Nat → Sl) (y : Nat) : Prop := y = b1 ∨ y = b2 ∨ y = bt ∨ y = bd ∨ y = bv ∨ y = bo ∨ ∃ v, v < M ∧ fpS (sl v).p y

section
variable {E : Value → Hp → Prop}

/-- Dijkstra's memory, while it looks -/
structure DjM (g : Engine E) (H H0 H' : Hp) (N : Int) (n : Nat) (ep : Option Addr) (ec : Nat) (e : Nat → Edg) (kind : Int) (b1 b2 bt bd bv bo q : Nat) (sl : Nat → Sl) (d via key : Nat → Int) (S : Nat → Bool) (last : Int) (FP : Nat → Prop) : Prop where
  st : Step (fun _ => False) H H'
  c1 : H' b1 = some ⟨[.int .i64 N, .slice ep n ec], 51⟩
  c2 : H' b2 = some ⟨[.slice none 0 0, .slice none 0 0], 54⟩
  ct : H' bt = some ⟨[.slice (some ⟨bd, 0, none⟩) N.toNat N.toNat, .slice (some ⟨bv, 0, none⟩) N.toNat N.toNat], 54⟩
  rD : Row H' (some ⟨bd, 0, none⟩) N.toNat N.toNat d
  rV : Row H' (some ⟨bv, 0, none⟩) N.toNat N.toNat via
  ro : Rows2 H0 H' bo N.toNat sl (outs (ga e) n)
  qu : Qu g H' q N.toNat kind key last S FP
  fq : ∀ y, FP y → H y = none ∧ ¬ DjW N.toNat b1 b2 bt bd bv bo sl y

section
variable {g : Engine E} {H H0 H' : Hp} {N : Int} {n : Nat} {ep : Option Addr} {ec : Nat} {e : Nat → Edg} {kind : Int} {b1 b2 bt bd bv bo q : Nat} {sl : Nat → Sl} {d via key : Nat → Int} {S : Nat → Bool} {last : Int} {FP : Nat → Prop}

theorem DjM.live (h : DjM g H H0 H' N n ep ec e kind b1 b2 bt bd bv bo q sl d via key S last FP) : ∀ y, DjW N.toNat b1 b2 bt bd bv bo sl y → H' y ≠ none := fun y hy => by
  rcases hy with rfl | rfl | rfl | rfl | rfl | rfl | ⟨v, hv, hy⟩
  · rw [h.c1]; exact fun h => by cases h
  · rw [h.c2]; exact fun h => by cases h
  · rw [h.ct]; exact fun h => by cases h
  · exact h.rD.live ⟨0, rfl⟩
  · exact h.rV.live ⟨0, rfl⟩
  · exact h.ro.row.live ⟨0, rfl⟩
  · exact (h.ro.each v hv).live hy

theorem DjM.new {H'' : Hp} (h : DjM g H H0 H' N n ep ec e kind b1 b2 bt bd bv bo q sl d via key S last FP) (s : Step (fun _ => False) H' H'') : DjM g H H0 H'' N n ep ec e kind b1 b2 bt bd bv bo q sl d via key S last FP :=
  ⟨h.st.and s, s.keep _ _ h.c1 fun h => h, s.keep _ _ h.c2 fun h => h, s.keep _ _ h.ct fun h => h, h.rD.keep s fun _ _ h => h, h.rV.keep s fun _ _ h => h, h.ro.keep0 s, h.qu.keep s fun _ _ h => h, h.fq⟩

theorem DjM.que {H'' : Hp} {key' : Nat → Int} {S' : Nat → Bool} {last' : Int} {FP' : Nat → Prop} (h : DjM g H H0 H' N n ep ec e kind b1 b2 bt bd bv bo q sl d via key S last FP) (hq : Qu g H'' q N.toNat kind key' last' S' FP') (s : Step FP H' H'') (hf : ∀ y, FP' y → FP y ∨ H' y = none) :
    DjM g H H0 H'' N n ep ec e kind b1 b2 bt bd bv bo q sl d via key' S' last' FP' := by
  have hW : ∀ y, DjW N.toNat b1 b2 bt bd bv bo sl y → ¬ FP y := fun y hy hF => (h.fq y hF).2 hy
  refine ⟨h.st.own s fun y hy => (h.fq y hy).1, s.keep _ _ h.c1 (hW _ (.inl rfl)), s.keep _ _ h.c2 (hW _ (.inr (.inl rfl))), s.keep _ _ h.ct (hW _ (.inr (.inr (.inl rfl)))), h.rD.keep s fun y hy => ?_, h.rV.keep s fun y hy => ?_, h.ro.keep s (hW _ (.inr (.inr (.inr (.inr (.inr (.inl rfl))))))) fun v hv y hy => hW y (.inr (.inr (.inr (.inr (.inr (.inr ⟨v, hv, hy⟩)))))), hq, fun y hy => ?_⟩
  · rw [fpS_mk] at hy; exact hW y (.inr (.inr (.inr (.inl hy))))
  · rw [fpS_mk] at hy; exact hW y (.inr (.inr (.inr (.inr (.inl hy)))))
  · rcases hf y hy with h1 | h1
    · exact h.fq y h1
    · exact ⟨h.st.mono y h1, fun hw => h.live y hw h1⟩

theorem DjM.setD {H'' : Hp} {d' : Nat → Int} (h : DjM g H H0 H' N n ep ec e kind b1 b2 bt bd bv bo q sl d via key S last FP) (hC : DjC H N.toNat b1 b2 bt bd bv bo sl) (r : Row H'' (some ⟨bd, 0, none⟩) N.toNat N.toNat d') (s : Step (fpS (some ⟨bd, 0, none⟩)) H' H'') :
    DjM g H H0 H'' N n ep ec e kind b1 b2 bt bd bv bo q sl d' via key S last FP := by
  replace s : Step (· = bd) H' H'' := s.weak fun y hy => by rw [fpS_mk] at hy; exact .inl hy
  exact ⟨h.st.own s fun y hy => hy ▸ hC.fd, s.keep _ _ h.c1 hC.d1, s.keep _ _ h.c2 hC.d2, s.keep _ _ h.ct hC.dt, r, h.rV.keep s fun y hy hh => (by rw [fpS_mk] at hy; exact hC.dv (hy.symm.trans hh)), h.ro.keep s hC.dob hC.ds, h.qu.keep s fun y hy hh => (h.fq y hy).2 (.inr (.inr (.inr (.inl hh)))), h.fq⟩

theorem DjM.setV {H'' : Hp} {via' : Nat → Int} (h : DjM g H H0 H' N n ep ec e kind b1 b2 bt bd bv bo q sl d via key S last FP) (hC : DjC H N.toNat b1 b2 bt bd bv bo sl) (r : Row H'' (some ⟨bv, 0, none⟩) N.toNat N.toNat via') (s : Step (fpS (some ⟨bv, 0, none⟩)) H' H'') :
    DjM g H H0 H'' N n ep ec e kind b1 b2 bt bd bv bo q sl d via' key S last FP := by
  replace s : Step (· = bv) H' H'' := s.weak fun y hy => by rw [fpS_mk] at hy; exact .inl hy
  exact ⟨h.st.own s fun y hy => hy ▸ hC.fv, s.keep _ _ h.c1 hC.v1, s.keep _ _ h.c2 hC.v2, s.keep _ _ h.ct hC.vt, h.rD.keep s fun y hy hh => (by rw [fpS_mk] at hy; exact hC.dv (hh.symm.trans hy)), r, h.ro.keep s hC.vo hC.vs, h.qu.keep s fun y hy hh => (h.fq y hy).2 (.inr (.inr (.inr (.inr (.inl hh))))), h.fq⟩
end

/-- what Dijkstra's first errors are -/
theorem sdijWrong {N s kind : Int} {ep : Option Addr} {n ec : Nat} {e : Nat → Edg} {H : Hp} {K : Option Addr → Nat → Nat → Option Addr → Nat → Nat → Int → Hp → Prop} (he : Rdr H ep n e) (hn : n < 2 ^ 63)
    (bad : wrg N n e s ≠ 0 → ∀ H', Step (fun _ => False) H H' → K none 0 0 none 0 0 (wrg N n e s) H')
    (knd : wrg N n e s = 0 → newC kind N ≠ 0 → ∀ H', Step (fun _ => False) H H' → K none 0 0 none 0 0 (newC kind N) H') (hb : wrg N n e s ≠ 0 ∨ newC kind N ≠ 0) : short_Dijkstra.call N ep n ec s kind E H K := by
  refine short_Dijkstra.of (short_Dijkstra.run_eq ?_)
  unfold short_Dijkstra.run_t
  refine nwk fun b1 H1 hb1 e1 s1 => ?_
  refine nwk fun b2 H2 hb2 e2 s2 => ?_
  have e12 := s2.keep _ _ e1 fun h => h
  have s02 := s1.and s2
  have f2 : H b2 = none := s1.mono _ hb2
  simp only [get_at e12, List.getElem?_cons_zero, List.getElem?_cons_succ, ldI_mk, ldS_mk]
  refine swrong (he.keep s02 fun _ _ _ h => h) hn fun H3 s3 => ?_
  have c1 := s3.keep _ _ e12 fun h => h
  have c2 := s3.keep _ _ e2 fun h => h
  have s03 := s02.and s3
  refine bcn (fun hw => ?_) fun hw => ?_
  · refine stk c2 rfl rfl fun H4 e4 s4 => ?_
    simp only [get_at e4, List.getElem?_cons_zero, List.getElem?_cons_succ, ldI_mk, ldS_mk]
    exact bad hw H4 (s03.own s4 fun y hy => hy ▸ f2)
  · simp only [get_at c1, List.getElem?_cons_zero, List.getElem?_cons_succ, ldI_mk, ldS_mk]
    have hk := hb.resolve_left fun h => h hw
    refine qnewBad hk ?_
    refine bcn (fun _ => ?_) fun h => (hk h).elim
    refine stk c2 rfl rfl fun H4 e4 s4 => ?_
    simp only [get_at e4, List.getElem?_cons_zero, List.getElem?_cons_succ, ldI_mk, ldS_mk]
    exact knd hw hk H4 (s03.own s4 fun y hy => hy ▸ f2)

/-- what holds at each round's head; k: how many are not given out yet -/
def DjJ (g : Engine E) (H H4 : Hp) (N : Int) (i : Nat) (tp : Option Addr) (ec : Nat) (e : Nat → Edg) (kind s1' : Int) (g3 t6 bt bd bv bo q : Nat) (sl : Nat → Sl) (a3 a6 : Nat) (q9 op : Option Addr) (on a14 : Nat) (H' : Hp) (k : Nat) : Prop :=
  a3 = g3 ∧ a6 = t6 ∧ q9 = some ⟨q, 0, none⟩ ∧ op = some ⟨bo, 0, none⟩ ∧ on = N.toNat ∧ a14 = bt ∧ ∃ d via key S dn rk dl FP, DjM g H H4 H' N i tp ec e kind g3 t6 bt bd bv bo q sl d via key S dl FP ∧ Dst N.toNat i (ga e) (gb e) (gc e) s1'.toNat d via S dn rk dl (fun _ => False) ∧ (∀ v, S v = true → key v = d v) ∧ k = N.toNat - cnt dn N.toNat

theorem sdijkstra {g : Engine E} {N s kind : Int} {ep : Option Addr} {n ec : Nat} {e : Nat → Edg} {H : Hp} {K : Option Addr → Nat → Nat → Option Addr → Nat → Nat → Int → Hp → Prop} (he : Rdr H ep n e) (hr : Right N n e) (hs0 : 0 ≤ s) (hs1 : s < N)
    (hnew : ∀ {H : Hp} {K : Option Addr → Int → Hp → Prop}, (∀ H' q FP, Qu g H' q N.toNat kind (fun _ => 0) 0 (fun _ => false) FP → Step (fun _ => False) H H' → (∀ y, FP y → H y = none) → K (some ⟨q, 0, none⟩) 0 H') → heaps_New.call kind N E H K)
    (neg : ¬ (∀ i, i < n → 0 ≤ gc e i) → ∀ H', Step (fun _ => False) H H' → K none 0 0 none 0 0 80 H')
    (ok : (∀ i, i < n → 0 ≤ gc e i) → ∀ H' d v dist via, Step (fun _ => False) H H' → H d = none → H v = none → d ≠ v → Row H' (some ⟨d, 0, none⟩) N.toNat N.toNat dist → Row H' (some ⟨v, 0, none⟩) N.toNat N.toNat via →
      SolG N n e (dz s.toNat) dist via → K (some ⟨d, 0, none⟩) N.toNat N.toNat (some ⟨v, 0, none⟩) N.toNat N.toNat 0 H') : short_Dijkstra.call N ep n ec s kind E H K := by
  have hN0 := hr.N0; have hN1 := hr.N1; have hn1 := hr.n1
  have hG := hr.gr
  have hF : Far = 4611686018427387904 := rfl
  refine short_Dijkstra.of (short_Dijkstra.run_eq ?_)
  unfold short_Dijkstra.run_t
  refine nwk fun b1 H1 hb1 e1 s1 => ?_
  refine nwk fun b2 H2 hb2 e2 s2 => ?_
  have e12 := s2.keep _ _ e1 fun h => h
  have s02 := s1.and s2
  have f2 : H b2 = none := s1.mono _ hb2
  have d12 : b1 ≠ b2 := ne_of_live hb2 (by rw [e1]; exact fun h => by cases h)
  simp only [get_at e12, List.getElem?_cons_zero, List.getElem?_cons_succ, ldI_mk, ldS_mk]
  refine swrong (he.keep s02 fun _ _ _ h => h) (by omega) fun H3 s3 => ?_
  have c1 := s3.keep _ _ e12 fun h => h
  have c2 := s3.keep _ _ e2 fun h => h
  have s03 := s02.and s3
  refine bcn (fun hw => (hw (wrg_zero.2 ⟨hr, hs0, hs1⟩)).elim) fun _ => ?_
  simp only [get_at c1, List.getElem?_cons_zero, List.getElem?_cons_succ, ldI_mk, ldS_mk]
  refine hnew fun H4 q FP hq s4 hfp => ?_
  have c14 := s4.keep _ _ c1 fun h => h
  have c24 := s4.keep _ _ c2 fun h => h
  have s04 := s03.and s4
  have fq4 : ∀ y, FP y → H y = none ∧ y ≠ b1 ∧ y ≠ b2 ∧ H4 y ≠ none := fun y hy => ⟨s03.mono y (hfp y hy), fun h => (by have := hfp y hy; rw [h, c1] at this; cases this), fun h => (by have := hfp y hy; rw [h, c2] at this; cases this), hq.live y hy⟩
  refine bcn (fun h => (h rfl).elim) fun _ => ?_
  simp only [get_at c14, List.getElem?_cons_zero, List.getElem?_cons_succ, ldI_mk, ldS_mk]
  refine Row.mkSl hN0 (by omega) fun bo H5 hbo ro s5 => ?_
  have c15 := s5.keep _ _ c14 fun h => h
  have c25 := s5.keep _ _ c24 fun h => h
  have hq5 := hq.keep s5 fun _ _ h => h
  simp only [get_at c15, List.getElem?_cons_zero, List.getElem?_cons_succ, ldI_mk, ldS_mk]
  have start : Rows2 H4 H5 bo N.toNat (fun _ => ⟨none, 0, 0⟩) (outs (ga e) 0) := ⟨ro, hbo, fun _ _ => rfl, fun _ _ => .nil, fun _ _ _ _ _ _ h => (by rw [fpS_none] at h; exact h.elim), fun _ _ _ h => (by rw [fpS_none] at h; exact h.elim), fun _ _ _ h => by rw [fpS_none] at h; exact h.elim⟩
  have ne1 : b1 ≠ bo := ne_of_live hbo (by rw [c14]; exact fun h => by cases h)
  have ne2 : b2 ≠ bo := ne_of_live hbo (by rw [c24]; exact fun h => by cases h)
  refine short_Dijkstra.l1_rule (fun s1' g3 t6 q9 op on oc tp tn tc t46 t47 H' => s1' = s ∧ g3 = b1 ∧ t6 = b2 ∧ q9 = some ⟨q, 0, none⟩ ∧ op = some ⟨bo, 0, none⟩ ∧ on = N.toNat ∧ tp = ep ∧ tn = n ∧ t46 = n ∧ ∃ i : Nat, t47 = i ∧ i ≤ n ∧ Step (fun _ => False) H4 H' ∧ (∀ j, j < i → 0 ≤ gc e j) ∧ ∃ sl, Rows2 H4 H' bo N.toNat sl (outs (ga e) i))
    (fun s1' g3 t6 q9 op on oc tp tn tc t46 t47 H' => n - t47.toNat) ?_ ⟨rfl, rfl, rfl, rfl, rfl, rfl, rfl, rfl, rfl, 0, rfl, by omega, s5, fun j hj => by omega, _, start⟩
  clear start ro c15 c25 hq5 s5 e1 e2 e12 s1 s2 s3 c1 c2
  rintro s1' g3 t6 q9 op on oc tp tn tc t46 t47 H6 ⟨rfl, rfl, rfl, rfl, rfl, rfl, rfl, rfl, rfl, i, rfl, hi, s6, hpos, sl, rows⟩ X hX
  have c16 := s6.keep _ _ c14 fun h => h
  have c26 := s6.keep _ _ c24 fun h => h
  have l1 : H4 g3 ≠ none := by rw [c14]; exact fun h => by cases h
  have l2 : H4 t6 ≠ none := by rw [c24]; exact fun h => by cases h
  have s06 := s04.and s6
  refine short_Dijkstra.b1_eq ?_
  unfold short_Dijkstra.b1_t
  refine bc (fun hlt => ?_) fun hge => ?_
  · obtain ⟨u, w, hu, hw, hun, hwn⟩ := (hr.ed i (by omega)).nat
    have eu : ga e i = u := by unfold ga; omega
    have hco : (e i).co = gc e i := rfl
    refine (he.keep s06 fun _ _ _ h => h).edge (by omega) (by omega) ?_
    simp only [Int.toNat_natCast]
    rw [hu, hw, hco]
    refine nwst rfl rfl fun b4 H7 hb4 e4 s7 => ?_
    have c17 := s7.keep _ _ c16 fun h => h
    have c27 := s7.keep _ _ c26 fun h => h
    simp only [get_at e4, List.getElem?_cons_zero, List.getElem?_cons_succ, ldI_mk, ldS_mk]
    refine bc (fun hc => ?_) fun hc => ?_
    · refine stk c27 rfl rfl fun H8 e8 s8 => ?_
      simp only [get_at e8, List.getElem?_cons_zero, List.getElem?_cons_succ, ldI_mk, ldS_mk]
      exact neg (fun h => by have := h i (by omega); omega) H8 ((s06.and s7).own s8 fun y hy => hy ▸ f2)
    · try simp only [get_at e4, List.getElem?_cons_zero, List.getElem?_cons_succ, ldI_mk, ldS_mk]
      have rows7 := rows.keep0 s7
      have s47 := s6.and s7
      have lb4 : ∀ v, v < N.toNat → ∀ y, fpS (sl v).p y → y ≠ b4 := fun v hv y hy ey => (rows.each v hv).live hy (ey ▸ hb4)
      have b4o : b4 ≠ bo := fun ee => rows.row.live (b := bo) ⟨_, rfl⟩ (ee ▸ hb4)
      refine rows7.row.rdr.ixS (by omega) (by omega) ?_
      simp only [Int.toNat_natCast]
      rw [rows7.len u hun]
      have hla := outs_len (a := ga e) (i := i) (v := u)
      refine (rows7.each u hun).appI _ (by omega) fun p8 c8 H8 r8 s8 f8 => ?_
      have e48 := s8.keep _ _ e4 fun h => lb4 u hun b4 h rfl
      simp only [get_at e48, List.getElem?_cons_zero, List.getElem?_cons_succ, ldI_mk, ldS_mk]
      refine ⟨trivial, ?_⟩
      have row8 := rows7.row.keep s8 fun y hy hy' => by rw [fpS_mk] at hy; exact rows7.out u hun y hy' hy
      refine row8.st (α := Sl) (by omega) (by omega) ⟨p8, (outs (ga e) i u).length + 1, c8⟩ fun H9 r9 s9 => ?_
      simp only [Int.toNat_natCast] at r9
      have rows9 := rows7.push hun s47 r8 s8 f8 r9 s9
      have s49 := (s47.own s8 (rows7.new u hun)).own s9 fun y hy => by rw [fpS_mk] at hy; exact hy ▸ hbo
      rw [i64w (by omega) (by omega)]
      refine hX _ _ _ _ _ _ _ _ _ _ _ _ _ ⟨rfl, rfl, rfl, rfl, rfl, rfl, rfl, rfl, rfl, i + 1, by omega, by omega, s49, fun j hj => ?_, _, by rw [outs, eu]; exact rows9⟩ (by omega)
      by_cases ej : j = i
      · subst ej; omega
      · exact hpos j (by omega)
  · have : i = tn := by omega
    subst this
    clear hX
    refine short_Dijkstra.j1_eq ?_
    unfold short_Dijkstra.j1_t
    simp only [get_at c16, List.getElem?_cons_zero, List.getElem?_cons_succ, ldI_mk, ldS_mk]
    refine sempty hN0 hN1 fun bd bv H7 s7 fd fv dv rd rv => ?_
    refine nwst rfl rfl fun bt H8 hbt et s8 => ?_
    have c17 := s7.keep _ _ c16 fun h => h
    have c27 := s7.keep _ _ c26 fun h => h
    have rows8 := (rows.keep0 s7).keep0 s8
    have s68 := s7.and s8
    have hM8 : DjM g H H4 H8 N i tp ec e kind g3 t6 bt bd bv bo q sl (fun _ => Far) (fun _ => -1) (fun _ => 0) (fun _ => false) 0 FP := by
      refine ⟨s06.and s68, s68.keep _ _ c16 fun h => h, s68.keep _ _ c26 fun h => h, et, rd.keep s8 fun _ _ h => h, rv.keep s8 fun _ _ h => h, rows8, (hq.keep s6 fun _ _ h => h).keep s68 fun _ _ h => h, fun y hy => ⟨(fq4 y hy).1, fun hw => ?_⟩⟩
      have hl4 := (fq4 y hy).2.2.2
      have hl6 : H6 y ≠ none := s6.live hl4
      rcases hw with h | h | h | h | h | h | ⟨v, hv, h⟩
      · exact (fq4 y hy).2.1 h
      · exact (fq4 y hy).2.2.1 h
      · exact (s7.live hl6) (h ▸ hbt)
      · exact hl6 (h ▸ fd)
      · exact hl6 (h ▸ fv)
      · exact hl4 (h ▸ hbo)
      · exact hl4 (rows.new v hv y h)
    have hC : DjC H N.toNat g3 t6 bt bd bv bo sl := by
      have l61 : H6 g3 ≠ none := by rw [c16]; exact fun h => by cases h
      have l62 : H6 t6 ≠ none := by rw [c26]; exact fun h => by cases h
      have l6o : H6 bo ≠ none := rows.row.live ⟨0, rfl⟩
      refine ⟨ne_of_live fd l61, ne_of_live fd l62, fun h => rd.live ⟨0, rfl⟩ (h ▸ hbt), ne_of_live fd l6o, fun h => dv h.symm, ne_of_live fv l61, ne_of_live fv l62, fun h => rv.live ⟨0, rfl⟩ (h ▸ hbt), ne_of_live fv l6o, fun v hv y hy h => (rows.each v hv).live hy (h ▸ fd), fun v hv y hy h => (rows.each v hv).live hy (h ▸ fv), s06.mono _ fd, s06.mono _ fv, f2⟩
    simp only [get_at et, List.getElem?_cons_zero, List.getElem?_cons_succ, ldI_mk, ldS_mk]
    clear rows8 rd rv et s8 s7 c17 c27 s68 rows c16 c26 s06 s6
    have hsn : s1'.toNat < N.toNat := by omega
    refine hM8.rD.stI hs0 (by omega) _ fun H9 r9 s9 => ?_
    have hdz : upf (fun _ => Far) s1'.toNat 0 = dz s1'.toNat := by
      funext u; unfold upf dz; rfl
    rw [hdz] at r9
    have hM9 := hM8.setD hC r9 s9
    have hp0 : pushC N.toNat kind (fun _ => false) 0 s1' 0 = 0 := by
      unfold pushC
      rw [if_neg (by omega), if_neg (by simp), if_neg (by omega)]
    refine qpush (by decide) hM9.qu (fun h => (h hp0).elim) fun _ HA FPA hqA sA hfA => ?_
    have hMA := hM9.que hqA sA hfA
    -- the rounds
    refine short_Dijkstra.l2_rule (fun a3 a6 q9 op on oc' a14 H' => ∃ k, DjJ g H H4 N i tp ec e kind s1' g3 t6 bt bd bv bo q sl a3 a6 q9 op on a14 H' k)
      (fun a3 a6 q9 op on oc' a14 H' => lm (DjJ g H H4 N i tp ec e kind s1' g3 t6 bt bd bv bo q sl a3 a6 q9 op on a14 H')) ?_
      ⟨_, rfl, rfl, rfl, rfl, rfl, rfl, _, _, _, _, _, _, _, _, hMA, Dst.start hsn, fun v hv => ?_, rfl⟩
    · rintro a3 a6 q9 op on oc' a14 HB hex X hX
      obtain ⟨k0, hk0⟩ := hex
      have hlm := (lm_of hk0).1
      clear hk0
      generalize hkk : lm (DjJ g H H4 N i tp ec e kind s1' g3 t6 bt bd bv bo q sl a3 a6 q9 op on a14 HB) = kk at hlm hX
      obtain ⟨rfl, rfl, rfl, rfl, rfl, rfl, d, via, key, S, dn, rk, dl, FP', hM, hD, hkey, hkd⟩ := hlm
      refine short_Dijkstra.b2_eq ?_
      unfold short_Dijkstra.b2_t
      refine qlen hM.qu ?_
      refine bc (fun hlen => ?_) fun hlen => ?_
      · have hex : ∃ v, S v = true := by
          by_cases h : ∃ v, S v = true
          · exact h
          · have : cnt S N.toNat = 0 := cnt_none fun i _ => by
              cases hS : S i with
              | false => rfl
              | true => exact (h ⟨i, hS⟩).elim
            omega
        refine qpop hM.qu (fun h => ?_) fun w HC FPC hSw hleast hqC sC hfC => ?_
        · obtain ⟨v, hv⟩ := hex; rw [h v] at hv; cases hv
        have hMC := hM.que hqC sC hfC
        have hwn := hM.qu.sub w hSw
        rw [hkey w hSw] at hMC ⊢
        have hDC := (hD.pop hG (fun _ _ h => h) hwn hSw fun v hv hSv => by
          have := hleast v hSv
          unfold lk at this
          rw [hkey v hSv, hkey w hSw] at this; omega).wk (T' := fun j => j ∈ (outs (ga e) i w).drop 0) fun j hj hT => by rw [List.drop_zero, mem_outs]; exact ⟨hj, hT⟩
        have hdnw : dn w = false := by
          cases h : dn w with
          | false => rfl
          | true => exact (hD.dis w hSw h).elim
        have hcnt : cnt (upf dn w true) N.toNat = cnt dn N.toNat + 1 := cnt_less hwn upf_same hdnw fun i _ hne => upf_ne hne
        have hcle := cnt_le (upf dn w true) N.toNat
        have hLn := outs_len (a := ga e) (i := i) (v := w)
        obtain ⟨L, hL⟩ : ∃ L, outs (ga e) i w = L := ⟨_, rfl⟩
        rw [hL] at hDC hLn
        refine hMC.ro.row.rdr.ixS (by omega) (by omega) ?_
        simp only [Int.toNat_natCast]
        rw [hMC.ro.len w hwn, hL]
        refine short_Dijkstra.l3_rule (fun a3' a6' q9 op on oc'' a14' d16 p91 n91 c91 t92 t93 H' => a3' = a3 ∧ a6' = a6 ∧ q9 = some ⟨q, 0, none⟩ ∧ op = some ⟨bo, 0, none⟩ ∧ on = N.toNat ∧ oc'' = oc' ∧ a14' = a14 ∧ d16 = d w ∧ p91 = (sl w).p ∧ n91 = L.length ∧ t92 = L.length ∧ ∃ j : Nat, t93 = j ∧ j ≤ L.length ∧ ∃ d' via key S FP, DjM g H H4 H' N i tp ec e kind a3 a6 a14 bd bv bo q sl d' via key S (d w) FP ∧ Dst N.toNat i (ga e) (gb e) (gc e) s1'.toNat d' via S (upf dn w true) (upf rk w (cnt dn N.toNat)) (d w) (fun x => x ∈ L.drop j) ∧ (∀ v, S v = true → key v = d' v) ∧ d' w = d w)
          (fun a3' a6' q9 op on oc'' a14' d16 p91 n91 c91 t92 t93 H' => L.length - t93.toNat) ?_ ⟨rfl, rfl, rfl, rfl, rfl, rfl, rfl, rfl, rfl, rfl, rfl, 0, rfl, Nat.zero_le _, _, _, _, _, _, hMC, hDC, fun v hv => ?_, rfl⟩
        · clear hMC hDC hqC sC hfC
          rintro a3' a6' q9 op on oc'' a14' d16 p91 n91 c91 t92 t93 HD ⟨rfl, rfl, rfl, rfl, rfl, rfl, rfl, rfl, rfl, rfl, rfl, j, rfl, hj, d', via', key', S', FPD, hMD, hDD, hkeyD, hdw⟩ Y hY
          refine short_Dijkstra.b3_eq ?_
          unfold short_Dijkstra.b3_t
          refine bc (fun hlt3 => ?_) fun hge3 => ?_
          · have hjL : j < L.length := by omega
            obtain ⟨x, hx⟩ : ∃ x, L[j] = x := ⟨_, rfl⟩
            have hxm : x ∈ outs (ga e) i w := by rw [hL, ← hx]; exact List.getElem_mem hjL
            obtain ⟨hxi, hxw⟩ := mem_outs.1 hxm
            have hdrop : L.drop j = x :: L.drop (j + 1) := by rw [List.drop_eq_getElem_cons hjL, hx]
            have hTn : ∀ y, y < i → y ∈ L.drop j → y ∈ L.drop (j + 1) ∨ y = x := fun y _ hy => by
              rw [hdrop] at hy
              rcases List.mem_cons.1 hy with h | h
              · exact .inr h
              · exact .inl h
            have hlx : lsF L j = (x : Int) := by unfold lsF; rw [List.getElem?_eq_getElem hjL, hx]; rfl
            obtain ⟨u, y, hu, hy, hun, hyn⟩ := (hr.ed x hxi).nat
            have eu : ga e x = u := by unfold ga; omega
            have ey : gb e x = y := by unfold gb; omega
            have euw : u = w := by rw [← eu, hxw]
            have hco : (e x).co = gc e x := rfl
            have hc0 := hpos x hxi
            have hc1 := hG.hi x hxi
            have hrow := hMD.ro.each w hwn
            rw [hL] at hrow
            refine hrow.ixI (by omega) (by omega) ?_
            simp only [Int.toNat_natCast, get_at hMD.c1, List.getElem?_cons_zero, List.getElem?_cons_succ, ldI_mk, ldS_mk]
            rw [hlx]
            refine (he.keep hMD.st fun _ _ _ h => h).edge (by omega) (by omega) ?_
            simp only [Int.toNat_natCast]
            rw [hu, hy, hco]
            refine nwst rfl rfl fun b4 HE hb4 e4 sE => ?_
            have hME := hMD.new sE
            have hW4 : ∀ z, DjW N.toNat a3' a6' a14' bd bv bo sl z → z ≠ b4 := fun z hz hh => hMD.live z hz (hh ▸ hb4)
            have hF4 : ¬ FPD b4 := fun h => hMD.qu.live b4 h hb4
            have hdwn : upf dn w true w = true := upf_same
            have hbw : 0 ≤ d w ∧ d w ≤ 1073741824 := by
              have h1 := hDD.bdn w hwn hdwn
              have h2 := hDD.bnd w hwn
              have h3 := hDD.rkl w hwn hdwn
              have h4 := (hDD.cls w hwn).2 (.inr hdwn)
              rw [hdw] at h1 h2 h4
              omega
            have hsum : IntKind.wrap .i64 (d w + gc e x) = d w + gc e x := i64w (by omega) (by omega)
            have next : ∀ H' d'' via'' key'' S'' FP'', DjM g H H4 H' N i tp ec e kind a3' a6' a14' bd bv bo q sl d'' via'' key'' S'' (d w) FP'' → Dst N.toNat i (ga e) (gb e) (gc e) s1'.toNat d'' via'' S'' (upf dn w true) (upf rk w (cnt dn N.toNat)) (d w) (fun x => x ∈ L.drop (j + 1)) → (∀ v, S'' v = true → key'' v = d'' v) → d'' w = d w →
                short_Dijkstra.j2 a3' a6' (some ⟨q, 0, none⟩) (some ⟨bo, 0, none⟩) N.toNat oc'' a14' (d w) (sl w).p L.length c91 (L.length : Int) (j : Int) X Y E H' K := fun H' d'' via'' key'' S'' FP'' q1 q2 q3 q4 => by
              refine short_Dijkstra.j2_eq ?_
              unfold short_Dijkstra.j2_t
              rw [i64w (by omega) (by omega)]
              exact hY _ _ _ _ _ _ _ _ _ _ _ _ _ _ ⟨rfl, rfl, rfl, rfl, rfl, rfl, rfl, rfl, rfl, rfl, rfl, j + 1, by omega, by omega, d'', via'', key'', S'', FP'', q1, q2, q3, q4⟩ (by omega)
            simp only [get_at hME.ct, get_at e4, List.getElem?_cons_zero, List.getElem?_cons_succ, ldI_mk, ldS_mk]
            refine hME.rD.ixI (by omega) (by omega) ?_
            try simp only [get_at hME.ct, get_at e4, List.getElem?_cons_zero, List.getElem?_cons_succ, ldI_mk, ldS_mk]
            refine bc (fun hge4 => ?_) fun hlt4 => ?_
            · simp only [Int.toNat_natCast, hsum] at hge4
              refine next HE d' via' key' S' FPD hME (hDD.skip hxi (by rw [ey, eu, euw, hdw]; exact hge4) hTn) hkeyD hdw
            · simp only [Int.toNat_natCast, hsum] at hlt4
              obtain ⟨hdy, hSy, hDE⟩ := hDD.lower hG hxi hc0 (by rw [eu, euw]; exact hdwn) (by rw [eu, euw]; exact hdw) hsn (by rw [eu, ey, euw, hdw]; omega) hTn
              rw [eu, ey, euw, hdw] at hDE
              rw [ey] at hdy hSy
              have hyw : y ≠ w := fun h => by rw [h, upf_same] at hdy; cases hdy
              try simp only [get_at hME.ct, get_at e4, List.getElem?_cons_zero, List.getElem?_cons_succ, ldI_mk, ldS_mk]
              refine hME.rD.stI (by omega) (by omega) _ fun HF rF sF => ?_
              simp only [Int.toNat_natCast] at rF
              have hMF := hME.setD hC rF sF
              have e4F := sF.keep _ _ e4 fun h => hW4 bd (.inr (.inr (.inr (.inl rfl)))) (by rw [fpS_mk] at h; exact h.symm)
              simp only [get_at hMF.ct, get_at e4F, List.getElem?_cons_zero, List.getElem?_cons_succ, ldI_mk, ldS_mk]
              refine ⟨trivial, trivial, ?_⟩
              refine hMF.rV.stI (by omega) (by omega) _ fun HG rG sG => ?_
              simp only [Int.toNat_natCast] at rG
              have hMG := hMF.setV hC rG sG
              have e4G := sG.keep _ _ e4F fun h => hW4 bv (.inr (.inr (.inr (.inr (.inl rfl))))) (by rw [fpS_mk] at h; exact h.symm)
              simp only [hsum] at hMG ⊢
              have hkeyE : ∀ v, upf S' y true v = true → upf key' y (d w + gc e x) v = upf d' y (d w + gc e x) v := fun v hv => by
                by_cases ev : v = y
                · subst ev; rw [upf_same, upf_same]
                · rw [upf_ne ev] at hv
                  rw [upf_ne ev, upf_ne ev]; exact hkeyD v hv
              refine bc (fun hfar => ?_) fun hnear => ?_
              · simp only [Int.toNat_natCast] at hfar
                have hS0 : S' y = false := by
                  cases h : S' y with
                  | false => rfl
                  | true => exact (hSy.1 h hfar).elim
                simp only [get_at e4G, List.getElem?_cons_zero, List.getElem?_cons_succ, ldI_mk, ldS_mk]
                have hpc : pushC N.toNat kind S' (d w) (y : Int) (d w + gc e x) = 0 := by
                  unfold pushC
                  rw [if_neg (by omega), Int.toNat_natCast, hS0, if_neg (by simp), if_neg (by omega)]
                refine qpush (by omega) hMG.qu (fun h => (h hpc).elim) fun _ HI FPI hqI sI hfI => ?_
                simp only [Int.toNat_natCast] at hqI
                refine next HI _ _ _ _ _ (hMG.que hqI sI hfI) hDE hkeyE (by rw [upf_ne (fun h => hyw h.symm)]; exact hdw)
              · simp only [Int.toNat_natCast] at hnear
                have hS1 : S' y = true := hSy.2 hnear
                simp only [get_at e4G, List.getElem?_cons_zero, List.getElem?_cons_succ, ldI_mk, ldS_mk]
                have hkl : key' y = d' y := hkeyD y hS1
                have hlc : lowerC N.toNat kind key' S' (d w) (y : Int) (d w + gc e x) = 0 := by
                  unfold lowerC
                  rw [if_neg (by omega), Int.toNat_natCast, hS1, if_neg (by simp), if_neg (by omega), if_neg (by omega)]
                refine qlower hMG.qu (fun h => (h hlc).elim) fun _ HI FPI hqI sI hfI => ?_
                simp only [Int.toNat_natCast] at hqI
                have hSS : upf S' y true = S' := by
                  funext v
                  by_cases ev : v = y
                  · subst ev; rw [upf_same, hS1]
                  · rw [upf_ne ev]
                rw [hSS] at hDE hkeyE
                refine next HI _ _ _ _ _ (hMG.que hqI sI hfI) hDE hkeyE (by rw [upf_ne (fun h => hyw h.symm)]; exact hdw)
          · have : j = L.length := by omega
            subst this
            have hJ : DjJ g H H4 N i tp ec e kind s1' a3' a6' a14' bd bv bo q sl a3' a6' (some ⟨q, 0, none⟩) (some ⟨bo, 0, none⟩) N.toNat a14' HD (N.toNat - cnt (upf dn w true) N.toNat) := ⟨rfl, rfl, rfl, rfl, rfl, rfl, d', via', key', S', _, _, _, FPD, hMD, hDD.wk fun x _ h => (by rw [List.drop_length] at h; cases h), hkeyD, rfl⟩
            refine hX _ _ _ _ _ _ _ _ ⟨_, hJ⟩ ?_
            have h1 := (lm_of hJ).2
            exact Nat.lt_of_le_of_lt h1 (by omega)
        · by_cases ev : v = w
          · subst ev; rw [upf_same] at hv; cases hv
          · rw [upf_ne ev] at hv; exact hkey v hv
      · have hno : ∀ v, v < N.toNat → S v = false := fun v hv => by
          cases hS : S v with
          | false => rfl
          | true => have := cnt_pos hv hS; omega
        refine short_Dijkstra.j3_eq ?_
        unfold short_Dijkstra.j3_t
        simp only [get_at hM.ct, List.getElem?_cons_zero, List.getElem?_cons_succ, ldI_mk, ldS_mk]
        refine stk hM.c2 rfl rfl fun HC eC sC => ?_
        simp only [get_at eC, List.getElem?_cons_zero, List.getElem?_cons_succ, ldI_mk, ldS_mk]
        refine ok hpos HC bd bv d via (hM.st.own sC fun y hy => hy ▸ hC.f2) hC.fd hC.fv (fun h => hC.dv h.symm) (hM.rD.keep sC fun y hy h => ?_) (hM.rV.keep sC fun y hy h => ?_) (hD.sol hG (fun _ _ h => h) hno hsn)
        · rw [fpS_mk] at hy; exact hC.d2 (h.symm.trans hy)
        · rw [fpS_mk] at hy; exact hC.v2 (h.symm.trans hy)
    · by_cases ev : v = s1'.toNat
      · subst ev; rw [upf_same]; exact (if_pos rfl).symm
      · rw [upf_ne ev] at hv; cases hv
end
end Go.Mz

/-
  Layer 8: Dijkstra with a heap of any kind; what its answers have in common.
-/
namespace Go.Mz

open Classical in
/-- Dijkstra's error, for a kind that there is -/
noncomputable def dj0 (N : Int) (n : Nat) (e : Nat → Edg) (s : Int) : Int := if wrg N n e s ≠ 0 then wrg N n e s else if ∀ i, i < n → 0 ≤ gc e i then 0 else 80

theorem dj0_zero {N : Int} {n : Nat} {e : Nat → Edg} {s : Int} : dj0 N n e s = 0 ↔ Right N n e ∧ (0 ≤ s ∧ s < N) ∧ ∀ i, i < n → 0 ≤ gc e i := by
  unfold dj0
  by_cases hw : wrg N n e s = 0
  · rw [if_neg (fun h => h hw)]
    have := wrg_zero.1 hw
    by_cases hc : ∀ i, i < n → 0 ≤ gc e i
    · rw [if_pos hc]; exact ⟨fun _ => ⟨this.1, this.2, hc⟩, fun _ => rfl⟩
    · rw [if_neg hc]; exact ⟨fun h => (by cases h), fun h => (hc h.2.2).elim⟩
  · rw [if_pos hw]
    exact ⟨fun h => (hw h).elim, fun h => (hw (wrg_zero.2 ⟨h.1, h.2.1⟩)).elim⟩

/-- what is told of an answer of Dijkstra's -/
def DjF (N : Int) (n : Nat) (e : Nat → Edg) (s : Int) (m : Nat) (dist via : Nat → Int) : Prop :=
  (dj0 N n e s ≠ 0 ∧ m = 0) ∨ (dj0 N n e s = 0 ∧ m = N.toNat ∧ SolG N n e (dz s.toNat) dist via)

theorem SolG.uniq {N : Int} {n s : Nat} {e : Nat → Edg} {d via d' via' : Nat → Int} (hr : Right N n e) (h : SolG N n e (dz s) d via) (h' : SolG N n e (dz s) d' via') : ∀ v, v < N.toNat → d v = d' v := by
  intro v hv
  have h0 : ∀ v, v < N.toNat → dz s v = 0 ∨ dz s v = Far := fun v _ => dz_or v
  rw [← h.jacM hr.gr h0 v hv, ← h'.jacM hr.gr h0 v hv]

theorem DjF.uniq {N : Int} {n m m' : Nat} {e : Nat → Edg} {s : Int} {d via d' via' : Nat → Int} (h : DjF N n e s m d via) (h' : DjF N n e s m' d' via') : m = m' ∧ ∀ i, i < m → d i = d' i := by
  rcases h with ⟨h, hm⟩ | ⟨h, hm, hS⟩
  · rcases h' with ⟨_, hm'⟩ | ⟨h', _⟩
    · exact ⟨by omega, fun i hi => by omega⟩
    · exact (h h').elim
  · rcases h' with ⟨h', _⟩ | ⟨_, hm', hS'⟩
    · exact (h' h).elim
    · exact ⟨by omega, fun i hi => hS.uniq (dj0_zero.1 h).1 hS' i (by omega)⟩

theorem DjF.small {N : Int} {n m : Nat} {e : Nat → Edg} {s : Int} {d via : Nat → Int} (h : DjF N n e s m d via) : m < 2 ^ 62 := by
  rcases h with ⟨_, hm⟩ | ⟨h, hm, _⟩
  · omega
  · have := (dj0_zero.1 h).1.N1; omega

section
variable {E : Value → Hp → Prop}

theorem sdij {N s kind : Int} {ep : Option Addr} {n ec : Nat} {e : Nat → Edg} {H : Hp} {K : Option Addr → Nat → Nat → Option Addr → Nat → Nat → Int → Hp → Prop} (he : Rdr H ep n e) (hn : n < 2 ^ 63) (k1 : 1 ≤ kind) (k4 : kind ≤ 4)
    (k : ∀ H' dp m vp dist via, Step (fun _ => False) H H' → Row H' dp m m dist → Row H' vp m m via → (∀ y, fpS dp y → H y = none) → (∀ y, fpS vp y → H y = none) → (∀ y, fpS dp y → ¬ fpS vp y) → DjF N n e s m dist via → K dp m m vp m m (dj0 N n e s) H') : short_Dijkstra.call N ep n ec s kind E H K := by
  have hnil : ∀ H' : Hp, dj0 N n e s ≠ 0 → Step (fun _ => False) H H' → K none 0 0 none 0 0 (dj0 N n e s) H' := fun H' h0 st =>
    k H' none 0 none (fun _ => 0) (fun _ => 0) st Row.nil Row.nil (fun y h => by rw [fpS_none] at h; exact h.elim) (fun y h => by rw [fpS_none] at h; exact h.elim) (fun y h => by rw [fpS_none] at h; exact h.elim) (.inl ⟨h0, rfl⟩)
  by_cases hw : wrg N n e s = 0
  · obtain ⟨hr, hs0, hs1⟩ := wrg_zero.1 hw
    have hN0 := hr.N0; have hN1 := hr.N1
    have neg : ¬ (∀ i, i < n → 0 ≤ gc e i) → ∀ H', Step (fun _ => False) H H' → K none 0 0 none 0 0 80 H' := fun hc H' st => by
      have e80 : dj0 N n e s = 80 := by unfold dj0; rw [if_neg (fun h => h hw), if_neg hc]
      have := hnil H' (by rw [e80]; decide) st
      rwa [e80] at this
    have ok : (∀ i, i < n → 0 ≤ gc e i) → ∀ H' d v dist via, Step (fun _ => False) H H' → H d = none → H v = none → d ≠ v → Row H' (some ⟨d, 0, none⟩) N.toNat N.toNat dist → Row H' (some ⟨v, 0, none⟩) N.toNat N.toNat via →
        SolG N n e (dz s.toNat) dist via → K (some ⟨d, 0, none⟩) N.toNat N.toNat (some ⟨v, 0, none⟩) N.toNat N.toNat 0 H' := fun hc H' d v dist via st fd fv dv rD rV hS => by
      have e0 : dj0 N n e s = 0 := dj0_zero.2 ⟨hr, ⟨hs0, hs1⟩, hc⟩
      have := k H' (some ⟨d, 0, none⟩) N.toNat (some ⟨v, 0, none⟩) dist via st rD rV (fun y h => by rw [fpS_mk] at h; exact h ▸ fd) (fun y h => by rw [fpS_mk] at h; exact h ▸ fv) (fun y h h' => by rw [fpS_mk] at h h'; exact dv (h.symm.trans h')) (.inr ⟨e0, rfl, hS⟩)
      rwa [e0] at this
    rcases (by omega : kind = 1 ∨ kind = 2 ∨ kind = 3 ∨ kind = 4) with rfl | rfl | rfl | rfl
    · exact sdijkstra (g := binEng E) he hr hs0 hs1 (fun k => qnew1 hN0 (by omega) k) neg ok
    · exact sdijkstra (g := paiEng E) he hr hs0 hs1 (fun k => qnew2 hN0 (by omega) k) neg ok
    · exact sdijkstra (g := fibEng E) he hr hs0 hs1 (fun k => qnew3 hN0 (by omega) k) neg ok
    · exact sdijkstra (g := radEng E) he hr hs0 hs1 (fun k => qnew4 hN0 (by omega) k) neg ok
  · have ew : dj0 N n e s = wrg N n e s := if_pos hw
    refine sdijWrong he hn (fun _ H' st => ?_) (fun h => (hw h).elim) (.inl hw)
    have := hnil H' (by rw [ew]; exact hw) st
    rwa [ew] at this

end
end Go.Mz

/-
  The document's functions of layer 3, walked: Copy and Same; Dijkstra with a heap of any kind, or of none.
-/
namespace Go.Mz

section
variable {E : Value → Hp → Prop}

end
end Go.Mz

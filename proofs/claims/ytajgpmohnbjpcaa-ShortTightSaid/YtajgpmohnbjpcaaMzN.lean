/-
  Regions are sound: in the text's order, and in any order. It proves nothing of the program by itself.
-/
import Derived.Test.YtajgpmohnbjpcaaMzM
set_option linter.unusedSimpArgs false
set_option linter.unusedVariables false
namespace Go.Mz
open Go.RowKit

section
variable {P : Program} {T : Tab} {ops : Array Oper} {st : Nat → List Nat} {Q : Exit → Act → World → Prop}

theorem put_defers' (a : Act) (d : Option Nat) (v : Value) : (a.put d v).defers = a.defers := by cases d <;> rfl

/-- what a step leaves to the rest -/
structure Ends (Q : Exit → Act → World → Prop) (E : Value → Hp → Prop) (n : Nat) (w0 : World) : Prop where
  pan : ∀ a w v, a.defers = [] → Rest w0 w → E v (hp w) → Q (.panic [{ v, recovered := false }]) a w

theorem wanted_of {a : Act} {o : Oper} {b : Bool} (h : goesA ops.toList a o.guard = some b) : Region.wanted o (yielded ops a.tmps) = b := by
  unfold goesA at h
  unfold Region.wanted
  cases hg : o.guard with
  | none => rw [hg] at h; simp at h; subst h; rfl
  | some jw =>
    obtain ⟨j, want⟩ := jw
    rw [hg] at h
    simp only at h ⊢
    split at h
    · rename_i oj hj
      split at h
      · rename_i d hd
        split at h
        · rename_i hu
          simp at h
          subst h
          have hj' : ops[j]? = some oj := by simpa using hj
          have : yielded ops a.tmps j = none := by
            simp only [yielded, hj', hd, Option.bind_some]
            have hu' : a.eval (.tmp d) = .tuple ⟨[]⟩ := by
              unfold isU at hu; split at hu
              · assumption
              · cases hu
            simp only [Act.eval, Array.getD_eq_getD_getElem?] at hu'
            cases hh : a.tmps[d]? with
            | none => rfl
            | some x => rw [hh] at hu'; simp at hu'; rw [hu']
          rw [this]; rfl
        split at h
        · rename_i b' hb'
          simp at h
          have hj' : ops[j]? = some oj := by simpa using hj
          have ht : a.tmps[d]? = some (.bool b') := by
            simp only [Act.eval, Array.getD_eq_getD_getElem?] at hb'
            cases hh : a.tmps[d]? with
            | none => rw [hh] at hb'; simp [undef] at hb'
            | some x => rw [hh] at hb'; simp at hb'; rw [hb']
          simp [yielded, hj', hd, ht]
          rw [← h]
        · cases h
      · cases h
    · cases h

theorem step_wpOp (hT : TabOk P T) {n : Nat} {w0 w : World} {i : Nat} {done : List Nat} {a : Act} {C : Act → Hp → Prop} {E : Value → Hp → Prop} {K : Act → World → Prop} (hQ : Ends Q E n w0) (hr : Rest w0 w) (hd : a.defers = [])
    (hK : ∀ a' w', a'.defers = [] → a'.tmps.size = a.tmps.size → Rest w0 w' → C a' (hp w') → K a' w') (h : stepG fmA P T ops.toList st i done a C E (hp w)) : wpOp P ops Q i K a w := by
  unfold stepG at h
  split at h
  · exact h.elim
  · rename_i o ho
    have ho' : ops[i]? = some o := by simpa using ho
    rw [gate_iff] at h
    unfold wpOp
    rw [ho']
    simp only
    rcases h with ⟨hg, h⟩ | ⟨hg, h⟩
    · rw [wanted_of hg]
      simp only [if_true]
      left
      unfold Oper.wp
      have hs := shp_sound hT o (fun _ => rfl) h
      have hput : ∀ (v : Value) (w' : World), Rest w w' → (spl (isG ops.toList i o.dst) v fun v => stabG fmA T ops.toList done (fmA.put a o.dst v) (hp w') (st i) (C (fmA.put a o.dst v) (hp w'))) → K (a.put o.dst v) w' := by
        intro v w' hr' hk
        rw [spl_iff] at hk
        exact hK _ _ (by rw [put_defers']; exact hd) (put_size _ _ _) (hr.trans hr') (stab_end hk)
      simp only [fmA_ev] at hs
      generalize (execOp a.eval o).run P w = r at hs ⊢
      cases r with
      | ok nx w' =>
        cases nx with
        | value v => exact hput v w' hs.1 hs.2
        | skip => exact hput undef w' hs.1 hs.2
        | enter f args =>
          obtain ⟨rfl, hs⟩ := hs
          refine (hs w' rfl).mono ?_
          intro e w'' ⟨hr', he⟩
          split at he
          · exact hput _ _ hr' he
          · rename_i c
            obtain ⟨v, rec, gx⟩ := c
            obtain ⟨hrec, hgx, he⟩ := he
            simp only at hrec hgx
            subst hrec
            subst hgx
            exact hQ.pan _ _ _ hd (hr.trans hr') he
          · exact he.elim
        | _ => exact hs.elim
      | halt x w' =>
        cases x with
        | panic v =>
          obtain ⟨rfl, hs⟩ := hs
          exact hQ.pan _ _ _ hd hr hs
        | _ => exact hs.elim
    · rw [wanted_of hg]
      simp only [Bool.false_eq_true, if_false]
      exact hK _ _ (by rw [put_defers']; exact hd) (put_size _ _ _) hr h

theorem reg_wpOps (hT : TabOk P T) {n : Nat} {w0 : World} {K : Act → Hp → Prop} {E : Value → Hp → Prop} (hQ : Ends Q E n w0)
    (hK : ∀ a' w', a'.defers = [] → a'.tmps.size = n → Rest w0 w' → K a' (hp w') → Q .normal a' w') : ∀ (l done : List Nat) {a : Act} {w : World}, a.defers = [] → a.tmps.size = n → Rest w0 w →
    regG fmA P T ops.toList st l done a K E (hp w) → wpOps P ops Q l a w
  | [], done, a, w, hd, hn, hr, h => hK _ _ hd hn hr h
  | i :: l, done, a, w, hd, hn, hr, h => by
    rw [wpOps_cons]
    exact step_wpOp hT hQ hr hd (fun a' w' hd' hn' hr' h' => reg_wpOps hT hQ hK l (i :: done) hd' (hn'.trans hn) hr' h') h

/-! ### Any order -/

/-- lists of what is still to be done, in an order that waits for what must be waited for -/
def LE (pre : Nat → List Nat) : List Nat → List Nat → Prop
  | _, [] => True
  | done, i :: l => (∀ k ∈ pre i, k ∈ done) ∧ LE pre (i :: done) l

def PO (ops : Array Oper) (st pre : Nat → List Nat) : List Nat → Prop
  | [] => True
  | t :: l => (∀ i ∈ l, t ∈ pre i ∨ ∃ (ot oi : Oper), ops[t]? = some ot ∧ ops[i]? = some oi ∧ ot.apart ops oi = true ∧ clsOk st t i ot oi = true ∧ (∀ d, ot.dst = some d → d ∉ ot.looksAt ops)) ∧ PO ops st pre l

/-- what is checked of a region by computing -/
structure RegOk (ops : Array Oper) (st : Nat → List Nat) (pre : Nat → List Nat) (ord : List Nat) (n : Nat) : Prop where
  mem : ∀ i, i ∈ ord ↔ i < ops.size
  nodup : ord.Nodup
  len : ord.length ≤ ops.size
  after : ∀ (i : Nat) (o : Oper), ops[i]? = some o → ∀ e ∈ o.after, Region.binds .any e = true → e.on ∈ pre i
  clos : ∀ (i : Nat) (o : Oper), ops[i]? = some o → ∀ k ∈ pre i, ∃ e ∈ o.after, Region.binds .any e = true ∧ (e.on = k ∨ k ∈ pre e.on)
  le : LE pre [] ord
  po : PO ops st pre ord
  calm : ∀ (i : Nat) (o : Oper), ops[i]? = some o → ocl o.op ≤ 2 → st i = []
  safe : ∀ i x, x ∈ st i → ∀ (ox : Oper), ops[x]? = some ox → ∀ (t : Nat) (ot : Oper), ops[t]? = some ot → t ≠ x → t ∈ pre x ∨ safe ops ot ox
  dst : ∀ (i : Nat) (o : Oper), ops[i]? = some o → ∀ d, o.dst = some d → d < n

theorem LE.sub {pre : Nat → List Nat} : ∀ {l done done' : List Nat}, (∀ x ∈ done, x ∈ done') → LE pre done l → LE pre done' l
  | [], _, _, _, _ => trivial
  | i :: l, done, done', h, hl => ⟨fun k hk => h k (hl.1 k hk), LE.sub (fun x hx => by
      rcases List.mem_cons.1 hx with rfl | hx
      · simp
      · simp [h x hx]) hl.2⟩

theorem LE.out {pre : Nat → List Nat} {i : Nat} : ∀ {l1 l2 done : List Nat}, LE pre done (l1 ++ i :: l2) → LE pre (i :: done) (l1 ++ l2)
  | [], l2, done, h => h.2
  | t :: l1, l2, done, h => ⟨fun k hk => by simp [h.1 k hk], LE.sub (fun x hx => by simp at hx ⊢; rcases hx with h | h | h <;> simp [h]) (LE.out h.2)⟩

theorem PO.out {st pre : Nat → List Nat} {i : Nat} : ∀ {l1 l2 : List Nat}, PO ops st pre (l1 ++ i :: l2) → PO ops st pre (l1 ++ l2)
  | [], l2, h => h.2
  | t :: l1, l2, h => ⟨fun j hj => h.1 j (by simp at hj ⊢; rcases hj with h | h <;> simp [h]), PO.out h.2⟩

theorem PO.pairOf {st pre : Nat → List Nat} {i : Nat} : ∀ {l1 l2 : List Nat}, PO ops st pre (l1 ++ i :: l2) → ∀ t ∈ l1, t ∈ pre i ∨ ∃ ot oi, ops[t]? = some ot ∧ ops[i]? = some oi ∧ ot.apart ops oi = true ∧ clsOk st t i ot oi = true ∧ (∀ d, ot.dst = some d → d ∉ ot.looksAt ops)
  | [], _, _, t, ht => by cases ht
  | x :: l1, l2, h, t, ht => by
    cases ht with
    | head => exact h.1 i (by simp)
    | tail _ ht => exact PO.pairOf h.2 t ht

theorem front {pre : Nat → List Nat} {ord : List Nat} {n : Nat} (hR : RegOk ops st pre ord n) {K : Act → Hp → Prop} {E : Value → Hp → Prop} {i : Nat} : ∀ (l1 : List Nat) {l2 done : List Nat} {a : Act} {H : Hp}, Fin H → a.tmps.size = n →
    (∀ x ∈ done, ∀ k ∈ pre x, k ∈ done) → LE pre done (l1 ++ i :: l2) → PO ops st pre (l1 ++ i :: l2) → (l1 ++ i :: l2).Nodup → (∀ x ∈ l1 ++ i :: l2, x ∉ done) → (∀ k ∈ pre i, k ∈ done) →
    regG fmA P T ops.toList st (l1 ++ i :: l2) done a K E H → regG fmA P T ops.toList st (i :: (l1 ++ l2)) done a K E H
  | [], l2, done, a, H, _, _, _, _, _, _, _, _, h => h
  | t :: l1, l2, done, a, H, hf, hn, hcl, hle, hpo, hnd, hdis, hi, h => by
    have hnd' := List.nodup_cons.1 hnd
    have hti : t ≠ i := fun e => hnd'.1 (by simp [e])
    have htd : t ∉ done := hdis t (by simp)
    have h1 : stepG fmA P T ops.toList st t done a (fun a1 H1 => stepG fmA P T ops.toList st i (t :: done) a1 (fun a2 H2 => regG fmA P T ops.toList st (l1 ++ l2) (i :: t :: done) a2 K E H2) E H1) E H := by
      refine step_mono hf (fun a' H' hf' hs h' => ?_) (show stepG fmA P T ops.toList st t done a (fun a' H' => regG fmA P T ops.toList st (l1 ++ i :: l2) (t :: done) a' K E H') E H from h)
      refine front hR l1 hf' (hs.trans hn) ?_ hle.2 hpo.2 hnd'.2 ?_ (fun k hk => by simp [hi k hk]) h'
      · intro x hx k hk
        rcases List.mem_cons.1 hx with rfl | hx
        · simp [hle.1 k hk]
        · simp [hcl x hx k hk]
      · intro x hx hxd
        rcases List.mem_cons.1 hxd with rfl | hxd
        · exact hnd'.1 hx
        · exact hdis x (by simp at hx ⊢; rcases hx with h | h | h <;> simp [h]) hxd
    have htp : t ∉ pre i := fun e => htd (hi t e)
    rcases hpo.1 i (by simp) with e | ⟨ot, oi, hot, hoi, hap, hcls, hself⟩
    · exact absurd e htp
    · have h2 := swap hot hoi hap hcls (hR.calm t ot hot) (hR.calm i oi hoi) (fun x hx hxd ox hox => by
        have hxd' : x ∈ done := hasN_iff.1 hxd
        rcases hR.safe i x hx ox hox t ot hot (fun e => htd (e ▸ hxd')) with e | e
        · exact absurd (hcl x hxd' t e) htd
        · exact e) (fun d hd => ⟨hself d hd, by rw [hn]; exact hR.dst t ot hot d hd⟩) hf h1
      exact step_mono hf (fun a' H' hf' _ h' => step_mono hf' (fun a'' H'' hf'' _ h'' => reg_done _ hf'' (fun x hx => by simp at hx ⊢; rcases hx with h | h | h <;> simp [h]) h'') h') h2

theorem reg_wpAny (hT : TabOk P T) {pre : Nat → List Nat} {ord : List Nat} {n : Nat} (hR : RegOk ops st pre ord n) {w0 : World} {K : Act → Hp → Prop} {E : Value → Hp → Prop} (hQ : Ends Q E n w0)
    (hK : ∀ a' w', a'.defers = [] → a'.tmps.size = n → Rest w0 w' → K a' (hp w') → Q .normal a' w') : ∀ (fuel : Nat) (l done : List Nat) (listed : Array Bool) {a : Act} {w : World}, listed.size = ops.size →
    (∀ i, i ∈ l ↔ i < ops.size ∧ listed.getD i true = false) → (∀ x, x ∈ done ↔ listed.getD x false = true) → l.length ≤ fuel → l.Nodup → (∀ x ∈ done, ∀ k ∈ pre x, k ∈ done) → LE pre done l → PO ops st pre l →
    a.defers = [] → a.tmps.size = n → Rest w0 w → regG fmA P T ops.toList st l done a K E (hp w) → wpAny P .any ops Q fuel listed a w := by
  intro fuel
  induction fuel with
  | zero =>
    intro l done listed a w hsz hl hdn hlen hnd hcl hle hpo hd hn hr h
    have : l = [] := List.length_eq_zero_iff.1 (by omega)
    subst this
    refine ⟨?_, hK _ _ hd hn hr h⟩
    unfold Region.ready
    rw [List.filter_eq_nil_iff]
    intro i hi hx
    simp at hi
    have := (hl i).2 ⟨hi, by simp only [Bool.and_eq_true, Bool.not_eq_true'] at hx; exact hx.1⟩
    cases this
  | succ fuel ih =>
    intro l done listed a w hsz hl hdn hlen hnd hcl hle hpo hd hn hr h
    constructor
    · intro hno
      cases l with
      | nil => exact hK _ _ hd hn hr h
      | cons i l =>
        exfalso
        have hi := (hl i).1 (by simp)
        have hmem : i ∈ Region.ready .any ops listed := by
          unfold Region.ready
          rw [List.mem_filter]
          refine ⟨by simp [hi.1], ?_⟩
          obtain ⟨o, ho⟩ : ∃ o, ops[i]? = some o := ⟨_, Array.getElem?_eq_getElem hi.1⟩
          simp only [hi.2, Bool.not_false, Bool.true_and, ho, Option.map_some, Option.getD_some, Array.all_eq_true']
          intro e he
          cases hb : Region.binds .any e with
          | false => rfl
          | true =>
            have : e.on ∈ done := hle.1 _ (hR.after i o ho e (by simpa using he) hb)
            rw [(hdn _).1 this]; rfl
        rw [hno] at hmem; cases hmem
    · intro i hi
      have hi' : i < ops.size ∧ listed.getD i true = false ∧ ((ops[i]?).map (·.after.all fun e => !Region.binds .any e || listed.getD e.on false)).getD false = true := by
        unfold Region.ready at hi
        rw [List.mem_filter] at hi
        obtain ⟨h1, h2⟩ := hi
        simp only [Bool.and_eq_true, Bool.not_eq_true'] at h2
        exact ⟨by simpa using h1, h2.1, h2.2⟩
      obtain ⟨hlt, hlf, haft⟩ := hi'
      have hil : i ∈ l := (hl i).2 ⟨hlt, hlf⟩
      obtain ⟨o, ho⟩ : ∃ o, ops[i]? = some o := ⟨_, Array.getElem?_eq_getElem hlt⟩
      have hpre : ∀ k ∈ pre i, k ∈ done := by
        intro k hk
        obtain ⟨e, he, hb, hor⟩ := hR.clos i o ho k hk
        rw [ho] at haft
        simp only [Option.map_some, Option.getD_some, Array.all_eq_true'] at haft
        have := haft e he
        rw [hb] at this
        simp at this
        have hed : e.on ∈ done := (hdn _).2 (by simpa using this)
        rcases hor with rfl | hk'
        · exact hed
        · exact hcl _ hed k hk'
      obtain ⟨l1, l2, rfl⟩ := List.append_of_mem hil
      have hdis : ∀ x ∈ l1 ++ i :: l2, x ∉ done := by
        intro x hx hxd
        have h1 := ((hl x).1 hx)
        have h2 := (hdn x).1 hxd
        simp only [Array.getD_eq_getD_getElem?] at h1 h2
        have h3 := h1.2
        cases hx2 : listed[x]? with
        | none => rw [hx2] at h2; simp at h2
        | some b => rw [hx2] at h2 h3; simp at h2 h3; rw [h2] at h3; cases h3
      have h1 := front hR l1 (fin_hp w) hn hcl hle hpo hnd hdis hpre h
      refine step_wpOp hT hQ hr hd (fun a' w' hd' hn' hr' h' => ?_) h1
      have hii : i < listed.size := by omega
      have hnd2 : (i :: (l1 ++ l2)).Nodup := (List.perm_middle.nodup_iff).1 hnd
      refine ih (l1 ++ l2) (i :: done) (listed.setIfInBounds i true) (by simp [hsz]) ?_ ?_ (by simp at hlen ⊢; omega) (List.nodup_cons.1 hnd2).2 ?_ hle.out hpo.out hd' (hn'.trans hn) hr' h'
      · intro j
        have hj := hl j
        by_cases e : j = i
        · subst e
          have : j ∉ l1 ++ l2 := (List.nodup_cons.1 hnd2).1
          simp [Array.getD_eq_getD_getElem?, hii, this]
        · have : (j ∈ l1 ++ l2) ↔ (j ∈ l1 ++ i :: l2) := by simp [e]
          rw [this, hj]
          simp [Array.getD_eq_getD_getElem?, Array.getElem?_setIfInBounds_ne (Ne.symm e)]
      · intro j
        have hj := hdn j
        by_cases e : j = i
        · subst e; simp [Array.getD_eq_getD_getElem?, hii]
        · simp only [List.mem_cons, e, false_or, hj]
          simp [Array.getD_eq_getD_getElem?, Array.getElem?_setIfInBounds_ne (Ne.symm e)]
      · intro x hx k hk
        rcases List.mem_cons.1 hx with rfl | hx
        · simp [hpre k hk]
        · simp [hcl x hx k hk]

end
end Go.Mz

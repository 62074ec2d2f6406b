/-
  slices.Sort over whole numbers, from the kit's contract to plain heaps.
-/
import Derived.Test.YthcehonpfnmpiaaGreatPkM
import Derived.Test.YthcehonpfnmpiaaGreatShp
import Derived.Test.YthcehonpfnmpiaaGreatTab
set_option linter.unusedSimpArgs false
set_option linter.unusedVariables false
namespace Go.Mz
open Go.RowKit

theorem hp_ahead (w : World) (m : Nat) : hp (Sort.ahead w m) = hp w := rfl

theorem hp_putRow {w : World} {b o : Nat} {x : Blk} {d : Array Int} (hx : hp w b = some x) :
    hp (Sort.putRow (Value.int .i64) w b o d) = (hp w).upd b ⟨(Sort.putCells (Value.int .i64) o d x.cells.toArray).toList, x.ty⟩ := by
  have ho := hp_obj hx
  funext b'
  by_cases e : b' = b
  · subst e
    simp [hp, Sort.putRow, Sort.mapBlock, Array.getElem?_modify, ho, Sort.onCells, vis, Hp.upd]
  · have e' : ¬ b = b' := fun h => e h.symm
    simp [hp, Sort.putRow, Sort.mapBlock, Array.getElem?_modify, e, e', Hp.upd]

theorem hp_grow {w : World} {os : Array Obj} {b : Nat} (hb : b < w.heap.size) : hp (Sort.grow w os) b = hp w b := by
  simp [hp, Sort.grow, Array.getElem?_append, hb]

theorem putRow_size (w : World) (b o : Nat) (d : Array Int) : (Sort.putRow (Value.int .i64) w b o d).heap.size = w.heap.size := by
  simp [Sort.putRow, Sort.mapBlock]

section
variable {E : Value → Hp → Prop}

theorem sortI {p : Option Addr} {n c : Nat} {f : Nat → Int} {H : Hp} {K : Hp → Prop} (h : Row H p n c f) (hn : n < 4611686018427387904)
    (k : ∀ H' g, Row H' p n c g → Step (fpS p) H H' → (∀ i j, i < j → j < n → g i ≤ g j) → ((List.range n).map g).Perm ((List.range n).map f) → K H') : slices_Sort.call p n c E H K := by
  unfold slices_Sort.call
  intro w hw
  subst hw
  rcases h.cells with ⟨rfl, hc⟩ | ⟨b, o, x, rfl, hx, ⟨hl, hz⟩, ha⟩
  · have h0 : n = 0 := by have := h.le; omega
    subst h0
    refine (show Calls P0 21 #[.slice none 0 c] w _ from Proofs.Any.slices_Sort_int_none Proofs.Tryz.lays189 none c w).mono ?_
    rintro e w' ⟨rfl, rfl⟩
    exact ⟨Rest.refl w', k _ f h .refl (fun i j _ hj => by omega) (List.Perm.refl _)⟩
  · obtain ⟨zs, hzs⟩ : ∃ zs, zs = (List.range n).map f := ⟨_, rfl⟩
    have hlen : zs.length = n := by rw [hzs]; simp
    have hw1 : El.w Int = 1 := rfl
    rw [hw1] at hl
    have hle := h.le
    have hcell : ∀ j, j < n → x.cells[o + j]? = some (.int .i64 (f j)) := fun j hj => by
      have := ha j hj 0 (by decide)
      rw [hw1, Nat.mul_one, Nat.add_zero] at this
      exact this
    have hH : Sort.Holds (Value.int .i64) w b o zs.toArray := fun j hj => by
      have hj' : j < n := by simpa [hlen] using hj
      refine ⟨cell_of_hp ?_, frozen_of_hp hx hz⟩
      rw [get_at (show hp w b = some ⟨x.cells, x.ty⟩ from hx), hcell j hj']
      have : zs.toArray[j]! = f j := by
        rw [getElem!_pos zs.toArray j hj]
        simp [hzs]
      rw [this]
    have hb : b < w.heap.size := hp_lt hx
    have hcall := Proofs.Any.slices_Sort_int Proofs.Tryz.lays189 b o c zs w hH hb (by omega)
    rw [hlen] at hcall
    refine (show Calls P0 21 #[.slice (some ⟨b, o, none⟩) n c] w _ from hcall).mono ?_
    rintro e w' ⟨rfl, m, os, rfl⟩
    obtain ⟨sz, hsz⟩ : ∃ sz, sz = zs.mergeSort fun x y => decide (x ≤ y) := ⟨_, rfl⟩
    have hperm : sz.Perm zs := by rw [hsz]; exact List.mergeSort_perm zs _
    have hslen : sz.length = n := by rw [hperm.length_eq, hlen]
    have hsorted : sz.Pairwise fun a b => decide (a ≤ b) = true := by
      rw [hsz]
      exact List.pairwise_mergeSort (fun a b c h1 h2 => by simp at h1 h2 ⊢; omega) (fun a b => by simp; omega) zs
    rw [← hsz]
    have hx1 : hp (Sort.ahead w m) b = some x := hx
    have hP := hp_putRow (o := o) (d := sz.toArray) hx1
    have hs1 : (Sort.putRow (Value.int .i64) (Sort.ahead w m) b o sz.toArray).heap.size = w.heap.size := putRow_size _ _ _ _
    have hat : ∀ b', b' < w.heap.size → hp (Sort.grow (Sort.putRow (Value.int .i64) (Sort.ahead w m) b o sz.toArray) os) b' = ((hp w).upd b ⟨(Sort.putCells (Value.int .i64) o sz.toArray x.cells.toArray).toList, x.ty⟩) b' := fun b' hb' => by
      rw [hp_grow (by rw [hs1]; exact hb'), hP, hp_ahead]
    have hst : Step (fpS (some ⟨b, o, none⟩)) (hp w) (hp (Sort.grow (Sort.putRow (Value.int .i64) (Sort.ahead w m) b o sz.toArray) os)) := by
      refine ⟨fun b' y hy hf => ?_, fun b' hn' => ?_⟩
      · rw [hat b' (hp_lt hy)]
        have : b' ≠ b := fun e => hf (by rw [fpS_mk]; exact e)
        rw [upd_ne this]; exact hy
      · cases hy : hp w b' with
        | none => rfl
        | some y =>
          rw [hat b' (hp_lt hy)] at hn'
          by_cases e : b' = b
          · subst e; rw [upd_same] at hn'; cases hn'
          · rw [upd_ne e, hy] at hn'; cases hn'
    refine ⟨⟨rfl, rfl, rfl, ?_, fun b' hb' hh => ?_, fun b' hh h' => hh (hst.mono b' h'), by show w.drawn ≤ w.drawn + m; omega⟩, ?_⟩
    · show w.heap.size ≤ _
      simp [Sort.grow, hs1]
    · have hne : b ≠ b' := fun e => by subst e; rw [hx] at hh; cases hh
      have h1 : b' < (Sort.putRow (Value.int .i64) (Sort.ahead w m) b o sz.toArray).heap.size := by rw [hs1]; exact hb'
      simp only [Sort.grow, Array.getElem?_append, h1, if_true]
      simp [Sort.putRow, Sort.mapBlock, Array.getElem?_modify, hne, Sort.ahead]
    · refine k _ (fun i => sz[i]?.getD 0) ⟨h.le, h.cap, .inr ⟨b, o, ⟨(Sort.putCells (Value.int .i64) o sz.toArray x.cells.toArray).toList, x.ty⟩, rfl, by rw [hat b hb, upd_same], ⟨by rw [hw1]; simp [Sort.putCells]; omega, hz⟩, fun i hi j hj => ?_⟩⟩ hst (fun i j hij hj => ?_) ?_
      · have hj0 : j = 0 := by rw [hw1] at hj; omega
        subst hj0
        rw [hw1]
        have hlt : o + i < x.cells.length := by omega
        have hb' : o ≤ o + i * 1 + 0 ∧ o + i * 1 + 0 < o + sz.length := by omega
        simp only [Sort.putCells, Array.getElem?_toList, Array.getElem?_mapIdx, List.size_toArray, hb', and_self, if_true]
        have e1 : o + i * 1 + 0 = o + i := by omega
        rw [e1, List.getElem?_toArray, List.getElem?_eq_getElem hlt]
        have e2 : o + i - o = i := by omega
        have hsi : i < sz.toArray.size := by simp [hslen, hi]
        simp only [Option.map_some, e2]
        rw [getElem!_pos sz.toArray i hsi]
        have e3 : sz[i]?.getD 0 = sz.toArray[i] := by rw [List.getElem?_eq_getElem (by omega)]; rfl
        rw [e3]; rfl
      · have := List.pairwise_iff_getElem.1 hsorted i j (by omega) (by omega) hij
        simp only [List.getElem?_eq_getElem (show i < sz.length by omega), List.getElem?_eq_getElem (show j < sz.length by omega), Option.getD_some]
        simpa using this
      · have : (List.range n).map (fun i => sz[i]?.getD 0) = sz := by
          apply List.ext_getElem (by simp [hslen])
          intro i h1 h2
          simp [List.getElem?_eq_getElem h2]
        rw [this, ← hzs]
        exact hperm
end
end Go.Mz

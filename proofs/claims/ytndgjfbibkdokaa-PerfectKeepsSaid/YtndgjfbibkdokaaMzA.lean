/-
  A heap of plain blocks; what one operation of the model asks and gives there, as a plain shape; contracts of calls over such heaps. It proves nothing of the program by itself.
-/
import Derived.Orders
import Derived.Below
namespace Go.Mz
open Go.RowKit
/-! ### Heaps -/
structure BT where
  t:TypeId
  fz:Nat × Nat
instance (n:Nat):OfNat BT n:=⟨⟨n,(0,0)⟩⟩
instance:Coe TypeId BT:=⟨fun t=>⟨t,(0,0)⟩⟩
structure Blk where
  cells:List Value
  ty:BT
abbrev Hp:=Nat→Option Blk
abbrev OA:=Option Addr
abbrev VP:=Value→Hp→Prop
theorem gZ {α:Type} {a:α} {l:List α}:(a :: l)[0]?=some a:=List.getElem?_cons_zero
theorem gS {α:Type} {a:α} {l:List α} {i:Nat}:(a :: l)[i+1]?=l[i]?:=List.getElem?_cons_succ
theorem tN (n:Nat):(n:Int).toNat=n:=Int.toNat_natCast n
def vis:Obj→Option Blk
  | .cells c t f=>some ⟨c.toList,⟨t,f⟩⟩
  | _=>none
def hp (w:World):Hp:=fun b=>(w.heap[b]?).bind vis
def Hp.upd (H:Hp) (b:Nat) (x:Blk):Hp:=fun b'=>if b'=b then some x else H b'
def Hp.get (H:Hp) (b o:Nat):Option Value:=(H b).bind fun x=>x.cells[o]?
def putL (xs:List Value) (o:Nat):List Value→List Value
  | []=>xs
  | v :: vs=>putL (xs.set o v) (o+1) vs
theorem putL_length (xs:List Value) (o:Nat) (vs:List Value):(putL xs o vs).length=xs.length:=by
  induction vs generalizing xs o with
  | nil=>rfl
  | cons v vs ih=>simp [putL,ih]
/-! ### What a run leaves alone -/
structure Rest (w w':World):Prop where
  os:w'.os=w.os
  tape:w'.tape=w.tape
  output:w'.output=w.output
  size:w.heap.size≤w'.heap.size
  hid:∀b,b<w.heap.size→hp w b=none→w'.heap[b]?=w.heap[b]?
  live:∀b,hp w b≠none→hp w' b≠none
  dr:w.drawn≤w'.drawn
theorem Rest.refl (w:World):Rest w w:=⟨rfl,rfl,rfl,Nat.le_refl _,fun _ _ _=>rfl,fun _ h=>h,Nat.le_refl _⟩
theorem Rest.trans {a b c:World} (h:Rest a b) (k:Rest b c):Rest a c:=by
  refine ⟨k.os.trans h.os,k.tape.trans h.tape,k.output.trans h.output,Nat.le_trans h.size k.size,fun i hi hn=>?_,fun i hi=>k.live i (h.live i hi),Nat.le_trans h.dr k.dr⟩
  have e:=h.hid i hi hn
  have hn':hp b i=none:=by
    have:hp b i=hp a i:=by unfold hp; rw [e]
    rw [this]; exact hn
  rw [k.hid i (Nat.lt_of_lt_of_le hi h.size) hn',e]
theorem Rest.drew (w:World) (n:Nat) (hn:w.drawn≤n):Rest w { w with drawn:=n }:=⟨rfl,rfl,rfl,Nat.le_refl _,fun _ _ _=>rfl,fun _ h=>h,hn⟩
theorem hp_drawn (w:World) (n:Nat):hp { w with drawn:=n }=hp w:=rfl
theorem hp_lt {w:World} {b:Nat} {x:Blk} (h:hp w b=some x):b<w.heap.size:=by
  unfold hp at h
  cases hb:w.heap[b]? with
  | none=>simp [hb] at h
  | some o=>exact (Array.getElem?_eq_some_iff.1 hb).1
theorem vis_some {o:Obj} {x:Blk} (h:vis o=some x):o=.cells x.cells.toArray x.ty.t x.ty.fz:=by
  unfold vis at h
  split at h
  · simp at h; subst h; simp
  · cases h
theorem hp_obj {w:World} {b:Nat} {x:Blk} (h:hp w b=some x):w.heap[b]?=some (.cells x.cells.toArray x.ty.t x.ty.fz):=by
  unfold hp at h
  cases hb:w.heap[b]? with
  | none=>simp [hb] at h
  | some o=>simp [hb] at h; rw [vis_some h]
theorem hp_of_obj {w:World} {b:Nat} {c:Array Value} {t:TypeId} {f:Nat × Nat} (h:w.heap[b]?=some (.cells c t f)):hp w b=some ⟨c.toList,⟨t,f⟩⟩:=by
  simp [hp,h,vis]
theorem hp_same {w w':World} {b:Nat} {x:Blk} (h:hp w b=some x) (h':hp w' b=some x):w'.heap[b]?=w.heap[b]?:=by
  rw [hp_obj h,hp_obj h']
theorem cell_of_hp {w:World} {b o:Nat} {v:Value} (h:(hp w).get b o=some v):w.cell? ⟨b,o,none⟩=some v:=by
  unfold Hp.get at h
  cases hb:hp w b with
  | none=>simp [hb] at h
  | some x=>
    simp [hb] at h
    simp [World.cell?,hp_obj hb]
    exact h
theorem frozen_of_hp {w:World} {b o:Nat} {x:Blk} (h:hp w b=some x) (hz:x.ty.fz=(0,0)):w.frozen? ⟨b,o,none⟩=false:=by
  simp [World.frozen?,hp_obj h,hz]
/-! ### The kinds of cells -/
inductive CK where
  | i (k:IntKind) | bool | str | ptr | sl | fn | ifc
def zeroCK:CK→Value
  | .i k=>.int k 0
  | .bool=>.bool false
  | .str=>.string ByteArray.empty
  | .ptr=>.pointer none
  | .sl=>.slice none 0 0
  | .fn=>.nilFunc
  | .ifc=>.nilIface
def _root_.Go.Value.oneC:Value→Bool
  | .agg _ | .tuple _=>false
  | _=>true
def IfcV:Value→Prop
  | .iface _ _=>True
  | .nilIface=>True
  | _=>False
def ldI (k:IntKind) (x:Option Value) (K:Int→Prop):Prop:=
  match k,x with
  | .i8,some (.int .i8 n)=>K n
  | .i16,some (.int .i16 n)=>K n
  | .i32,some (.int .i32 n)=>K n
  | .i64,some (.int .i64 n)=>K n
  | .u8,some (.int .u8 n)=>K n
  | .u16,some (.int .u16 n)=>K n
  | .u32,some (.int .u32 n)=>K n
  | .u64,some (.int .u64 n)=>K n
  | _,_=>False
def ldB (x:Option Value) (K:Bool→Prop):Prop:=match x with | some (.bool b)=>K b | _=>False
def ldStr (x:Option Value) (K:ByteArray→Prop):Prop:=match x with | some (.string b)=>K b | _=>False
def ldP (x:Option Value) (K:Option Addr→Prop):Prop:=match x with | some (.pointer p)=>K p | _=>False
def ldS (x:Option Value) (K:Option Addr→Nat→Nat→Prop):Prop:=match x with | some (.slice p n c)=>K p n c | _=>False
def ldF (x:Option Value) (K:Nat→List Value→Prop):Prop:=match x with | some (.func (.func g) ⟨[]⟩ ⟨cap⟩)=>K g cap | _=>False
def ldV (x:Option Value) (K:Value→Prop):Prop:=match x with | some v=>IfcV v∧K v | _=>False
def ld:CK→Option Value→(Value→Prop)→Prop
  | .i k,x,K=>ldI k x fun n=>K (.int k n)
  | .bool,x,K=>ldB x fun b=>K (.bool b)
  | .str,x,K=>ldStr x fun b=>K (.string b)
  | .ptr,x,K=>ldP x fun b=>K (.pointer b)
  | .sl,x,K=>ldS x fun p n c=>K (.slice p n c)
  | .fn,x,K=>ldF x fun g cap=>K (.func (.func g) ⟨[]⟩ ⟨cap⟩)
  | .ifc,x,K=>ldV x K
theorem ldI_spec {k:IntKind} {x:Option Value} {K:Int→Prop} (h:ldI k x K):∃n,x=some (.int k n)∧K n:=by
  unfold ldI at h
  split at h<;>first | exact h.elim | exact ⟨_,rfl,h⟩
theorem ld_spec {k:CK} {x:Option Value} {K:Value→Prop} (h:ld k x K):∃v,x=some v∧v≠undef∧v.oneC=true∧K v:=by
  cases k with
  | i k=>obtain ⟨n,hx,h⟩:=ldI_spec (K:=fun n=>K (.int k n)) h; exact ⟨_,hx,by simp [undef],rfl,h⟩
  | bool=>simp only [ld] at h; unfold ldB at h; split at h<;>first | exact h.elim | exact ⟨_,rfl,by simp [undef],rfl,h⟩
  | str=>simp only [ld] at h; unfold ldStr at h; split at h<;>first | exact h.elim | exact ⟨_,rfl,by simp [undef],rfl,h⟩
  | ptr=>simp only [ld] at h; unfold ldP at h; split at h<;>first | exact h.elim | exact ⟨_,rfl,by simp [undef],rfl,h⟩
  | sl=>simp only [ld] at h; unfold ldS at h; split at h<;>first | exact h.elim | exact ⟨_,rfl,by simp [undef],rfl,h⟩
  | fn=>simp only [ld] at h; unfold ldF at h; split at h<;>first | exact h.elim | exact ⟨_,rfl,by simp [undef],rfl,h⟩
  | ifc=>
    simp only [ld] at h; unfold ldV at h; split at h
    · rename_i v
      refine ⟨v,rfl,?_,?_,h.2⟩
      · rintro rfl; exact h.1
      · have h1:=h.1
        cases v<;>first | rfl | exact h1.elim
    · exact h.elim
theorem ldI_mono {k:IntKind} {x:Option Value} {K K':Int→Prop} (hk:∀v,K v→K' v) (h:ldI k x K):ldI k x K':=by
  unfold ldI at *; split at h<;>first | exact h.elim | exact hk _ h
theorem ld_mono {k:CK} {x:Option Value} {K K':Value→Prop} (hk:∀v,K v→K' v) (h:ld k x K):ld k x K':=by
  cases k with
  | i k=>exact ldI_mono (fun n=>hk _) h
  | bool=>simp only [ld] at *; unfold ldB at *; split at h<;>first | exact h.elim | exact hk _ h
  | str=>simp only [ld] at *; unfold ldStr at *; split at h<;>first | exact h.elim | exact hk _ h
  | ptr=>simp only [ld] at *; unfold ldP at *; split at h<;>first | exact h.elim | exact hk _ h
  | sl=>simp only [ld] at *; unfold ldS at *; split at h<;>first | exact h.elim | exact hk _ h
  | fn=>simp only [ld] at *; unfold ldF at *; split at h<;>first | exact h.elim | exact hk _ h
  | ifc=>simp only [ld] at *; unfold ldV at *; split at h<;>first | exact h.elim | exact ⟨h.1,hk _ h.2⟩
def lds:List CK→Hp→Nat→Nat→(List Value→Prop)→Prop
  | [],_,_,_,K=>K []
  | k :: ks,H,b,o,K=>ld k (H.get b o) fun v=>lds ks H b (o+1) fun vs=>K (v :: vs)
def ldL:List CK→List Value→(List Value→Prop)→Prop
  | [],xs,K=>match xs with
    | []=>K []
    | _ :: _=>False
  | k :: ks,xs,K=>match xs with
    | x :: xs=>ld k (some x) fun v=>ldL ks xs fun vs=>K (v :: vs)
    | []=>False
theorem lds_mono {ks:List CK} {H:Hp} {b o:Nat} {K K':List Value→Prop} (hk:∀v,K v→K' v) (h:lds ks H b o K):lds ks H b o K':=by
  induction ks generalizing o K K' with
  | nil=>exact hk _ h
  | cons k ks ih=>exact ld_mono (fun v hv=>ih (fun vs=>hk _) hv) h
theorem lds_spec {ks:List CK} {H:Hp} {b o:Nat} {K:List Value→Prop} (h:lds ks H b o K) :
    ∃vs,vs.length=ks.length∧(∀j,j<vs.length→H.get b (o+j)=vs[j]?)∧(∀v∈vs,v≠undef)∧K vs:=by
  induction ks generalizing o K with
  | nil=>exact ⟨[],rfl,by simp,by simp,h⟩
  | cons k ks ih=>
    obtain ⟨v,hv,hu,_,h⟩:=ld_spec h
    obtain ⟨vs,hl,hg,hus,h⟩:=ih h
    refine ⟨v :: vs,by simp [hl],?_,?_,h⟩
    · intro j hj
      cases j with
      | zero=>simpa using hv
      | succ j=>have:=hg j (by simpa using hj); simpa [Nat.add_assoc,Nat.add_comm 1 j] using this
    · intro x hx
      cases hx with
      | head=>exact hu
      | tail _ hx=>exact hus x hx
theorem ldL_spec {ks:List CK} {xs:List Value} {K:List Value→Prop} (h:ldL ks xs K):xs.length=ks.length∧(∀v∈xs,v≠undef∧v.oneC=true)∧K xs:=by
  induction ks generalizing xs K with
  | nil=>cases xs with
    | nil=>exact ⟨rfl,by simp,h⟩
    | cons x xs=>exact h.elim
  | cons k ks ih=>cases xs with
    | nil=>exact h.elim
    | cons x xs=>
      obtain ⟨v,hv,hu,hc,h⟩:=ld_spec h
      cases hv
      obtain ⟨hl,hus,h⟩:=ih h
      refine ⟨by simp [hl],?_,h⟩
      intro y hy
      cases hy with
      | head=>exact ⟨hu,hc⟩
      | tail _ hy=>exact hus y hy
theorem ldL_mono {ks:List CK} {xs:List Value} {K K':List Value→Prop} (hk:∀v,K v→K' v) (h:ldL ks xs K):ldL ks xs K':=by
  induction ks generalizing xs K K' with
  | nil=>cases xs with
    | nil=>exact hk _ h
    | cons x xs=>exact h.elim
  | cons k ks ih=>cases xs with
    | nil=>exact h.elim
    | cons x xs=>exact ld_mono (fun v hv=>ih (fun vs=>hk _) hv) h
def vcells:Value→List Value
  | .agg cs=>cs.toList
  | v=>[v]
theorem vcells_eq (v:Value):v.cells.toList=vcells v:=by cases v<;>rfl
def ldT (agg:Bool) (ks:List CK) (v:Value) (K:Value→Prop):Prop:=
  match agg with
  | true=>match v with
    | .agg cs=>ldL ks cs.toList fun vs=>K (.agg ⟨vs⟩)
    | _=>False
  | false=>match ks with
    | [k]=>ld k (some v) K
    | _=>False
theorem ldT_spec {agg:Bool} {ks:List CK} {v:Value} {K:Value→Prop} (h:ldT agg ks v K):v≠undef∧K v∧(vcells v).length=ks.length∧(∀x∈vcells v,x≠undef∧x.oneC=true):=by
  unfold ldT at h
  cases agg with
  | true=>
    cases v with
    | agg cs=>
      obtain ⟨hl,hu,h⟩:=ldL_spec h
      exact ⟨by simp [undef],h,hl,hu⟩
    | _=>exact h.elim
  | false=>
    simp only at h
    split at h
    · obtain ⟨x,hx,hu,hc,h⟩:=ld_spec h
      cases hx
      have e:vcells v=[v]:=by cases v<;>first | rfl | cases hc
      refine ⟨hu,h,by rw [e]; rfl,?_⟩
      rw [e]; intro x hx; cases hx with
      | head=>exact ⟨hu,hc⟩
      | tail _ hx=>cases hx
    · exact h.elim
theorem ldT_mono {agg:Bool} {ks:List CK} {v:Value} {K K':Value→Prop} (hk:∀v,K v→K' v) (h:ldT agg ks v K):ldT agg ks v K':=by
  unfold ldT at *
  cases agg with
  | true=>cases v<;>first | exact h.elim | exact ldL_mono (fun _=>hk _) h
  | false=>
    simp only at *
    split at h
    · exact ld_mono hk h
    · exact h.elim
end Go.Mz

/-
  From contracts over plain heaps to the rows: what an argument's reading tells of its cells, and what a call that leaves all plain blocks alone leaves alone. It proves nothing of the program by itself.
-/
import Derived.Test.YtndgjfbibkdokaaMzU
import Derived.WalkKit
import Derived.ProofKit
import Derived.OpenShut
import Derived.ShutString
import Derived.ChangeOld
import Derived.Below
import Derived.SizedLaws
import Derived.ChangeArms
import Derived.DataReads
set_option linter.unusedSimpArgs false
set_option linter.unusedVariables false
namespace Go.Mz
open Go.RowKit
theorem below_of {w w':World} (r:Rest w w') (s:Step (fun _=>False) (hp w) (hp w')):Below w.heap.size w w':=
  ⟨r.os,r.tape,r.output,r.size,fun k hk=>by
    cases h:hp w k with
    | none=>exact r.hid k hk h
    | some x=>exact hp_same h (s.keep k x h fun h=>h)⟩
theorem ldR_bool {r:Value} {K:Value→Prop} (h:ldR (.one false [.bool]) r K):∃b,r=.bool b∧K (.bool b):=by
  have h':=ldR_spec h
  simp only [ldR,ldT] at h
  cases r<;>simp [ldL,ld,ldB] at h
  exact ⟨_,rfl,h'⟩
theorem calls_true {P:Program} {f:FuncId} {args:List Value} {w:World}
    (h:callW P f args (fun r H=>ldR (.one false [.bool]) r fun u=>(asB u=true∧Step (fun _=>False) (hp w) H)) (fun _ _=>False) (hp w)) :
    Calls P f ⟨args⟩ w fun e w'=>e=.returned (.bool true)∧Below w.heap.size w w':=by
  refine (h w rfl).mono ?_
  rintro e w' ⟨hr,h⟩
  split at h
  · obtain ⟨b,rfl,hb,hs⟩:=ldR_bool h
    simp only [asB] at hb
    subst hb
    exact ⟨rfl,below_of hr hs⟩
  · exact h.2.2.elim
  · exact h.elim
structure TyR (P:Program) (t:TypeId) (α:Type) [El α] (Q:World→α→Prop):Prop where
  w:P.cellsOf t=El.w α
  read:∀{H:Type} (enc:TypeId × Value→H) (w:World) (base:Nat) (sp:Nat→Bool) (held:Bool) (fuel:Nat) (cs:List Value) (x:DataW H × List MemPlace),
    DataW.trod enc P w base sp held fuel t cs=some x→∃a:α,cs=El.enc a∧Q w a
def rng64 (n:Int):Prop:=-9223372036854775808≤n∧n≤9223372036854775807
theorem TyR.int {P:Program} {t:TypeId} (ht:P.underlying t=some (.int .i64)) (hw:P.cellsOf t=1):TyR P t Int (fun _ n=>rng64 n):=
  ⟨hw,fun enc w base sp held fuel cs x h=>by
    obtain ⟨n,rfl,_,hwf⟩:=DataW.trod_int ht h
    refine ⟨n,rfl,?_⟩
    simp [Lit.wf,IntKind.min,IntKind.max,IntKind.signed,IntKind.bits] at hwf
    exact ⟨by omega,by omega⟩⟩
theorem TyR.bool {P:Program} {t:TypeId} (ht:P.underlying t=some .bool) (hw:P.cellsOf t=1):TyR P t Bool (fun _ _=>True):=
  ⟨hw,fun enc w base sp held fuel cs x h=>by
    cases fuel with
    | zero=>simp [DataW.trod] at h
    | succ n=>
      unfold DataW.trod at h
      rw [ht] at h
      split at h<;>first | exact ⟨_,rfl,trivial⟩ | simp_all⟩
structure FldR (P:Program) (fs:List Field) (o:Nat) (γ:Type) [El γ] (Q:World→γ→Prop):Prop where
  read:∀{H:Type} (enc:TypeId × Value→H) (w:World) (base:Nat) (sp:Nat→Bool) (held:Bool) (fuel:Nat) (cs:List Value),cs.length=o+El.w γ→
    (∀f∈fs,∃x,DataW.trod enc P w base sp held fuel f.type ((cs.drop f.offset).take (P.cellsOf f.type))=some x)→∃a:γ,cs.drop o=El.enc a∧Q w a
theorem FldR.one {P:Program} {f:Field} {o:Nat} {α:Type} [El α] {Q:World→α→Prop} (ho:f.offset=o) (h:TyR P f.type α Q):FldR P [f] o α Q:=by
  constructor
  intro H enc w base sp held fuel cs hl hx
  obtain ⟨x,hx⟩:=hx f (by simp)
  obtain ⟨a,ha,hq⟩:=h.read _ _ _ _ _ _ _ _ hx
  refine ⟨a,?_,hq⟩
  rw [←ha,ho,h.w,List.take_of_length_le (by simp; omega)]
theorem FldR.cons {P:Program} {f:Field} {fs:List Field} {o:Nat} {α β:Type} [El α] [El β] {Q:World→α→Prop} {Q':World→β→Prop} (ho:f.offset=o) (h:TyR P f.type α Q) (k:FldR P fs (o+El.w α) β Q') :
    FldR P (f :: fs) o (α × β) (fun w a=>Q w a.1∧Q' w a.2):=by
  constructor
  intro H enc w base sp held fuel cs hl hx
  have hw:El.w (α × β)=El.w α+El.w β:=rfl
  obtain ⟨x,hx0⟩:=hx f (by simp)
  obtain ⟨a,ha,hq⟩:=h.read _ _ _ _ _ _ _ _ hx0
  obtain ⟨b,hb,hq'⟩:=k.read enc w base sp held fuel cs (by omega) fun g hg=>hx g (by simp [hg])
  refine ⟨(a,b),?_,hq,hq'⟩
  show cs.drop o=El.enc a++El.enc b
  rw [←hb,←ha,ho,h.w,←List.drop_drop,List.take_append_drop]
theorem TyR.struct {P:Program} {t:TypeId} {fs:Array Field} {γ:Type} [El γ] {Q:World→γ→Prop} (ht:P.underlying t=some (.struct fs)) (hw:P.cellsOf t=El.w γ) (h:FldR P fs.toList 0 γ Q):TyR P t γ Q:=
  ⟨hw,fun enc w base sp held fuel cs x hx=>by
    obtain ⟨xs,n,_,_,hl,hlen,hf⟩:=DataW.trod_struct ht hx
    obtain ⟨a,ha,hq⟩:=h.read enc w base sp held n cs (by omega) fun f hfm=>by
      obtain ⟨i,hi,rfl⟩:=List.getElem_of_mem hfm
      have hi':i<fs.size:=by simpa using hi
      have:=hf i fs[i] (by simp [hi'])
      rw [List.getElem?_eq_getElem (by omega)] at this
      exact ⟨_,by simpa using this⟩
    exact ⟨a,by simpa using ha,hq⟩⟩
def SlR {β:Type} [El β] (Q:World→β→Prop) (w:World) (s:Sl):Prop:=
  s.n≤s.c∧s.c≤maxLen∧∃f:Nat→β,Rdr (hp w) s.p s.n f∧∀i,i<s.n→Q w (f i)
theorem get_of_cell {w:World} {b o:Nat} {v:Value} (h:w.cell? ⟨b,o,none⟩=some v):(hp w).get b o=some v:=by
  unfold World.cell? at h
  split at h
  · rename_i c t f hc
    simp only [Option.isSome_none,Bool.false_eq_true,if_false] at h
    simp [Hp.get,hp_of_obj hc,h]
  · cases h
theorem spot_of_cell {w:World} {a:Addr} {v:Value} (h:w.cell? a=some v):a.spot=none:=by
  unfold World.cell? at h
  split at h
  · cases hs:a.spot with
    | none=>rfl
    | some s=>simp [hs] at h
  · cases h
theorem TyR.slice {P:Program} {t e:TypeId} {β:Type} [El β] [Inhabited β] {Q:World→β→Prop} (ht:P.underlying t=some (.slice e)) (hw:P.cellsOf t=1) (he:TyR P e β Q):TyR P t Sl (SlR Q):=
  ⟨hw,fun enc w base sp held fuel cs x hx=>by
    rcases DataW.trod_slice ht hx with ⟨rfl,_⟩ | ⟨a,len,cap,elems,rest,n,_,rfl,_,hb,hl,hm,hlen,hel,_⟩
    · exact ⟨⟨none,0,0⟩,rfl,Nat.le_refl _,Nat.zero_le _,fun _=>default,⟨fun i hi=>(Nat.not_lt_zero i hi).elim,fun i hi=>(Nat.not_lt_zero i hi).elim⟩⟩
    · refine ⟨⟨some a,len,cap⟩,rfl,hl,hm,?_⟩
      have each:∀i,i<len→∃v:β,(∀j,j<El.w β→w.cell? ((a.add (i*El.w β)).add j)=(El.enc v)[j]?)∧Q w v:=by
        intro i hi
        have h:=hel i hi
        rw [List.getElem?_eq_getElem (by omega),he.w] at h
        simp only [Option.bind_eq_some_iff] at h
        obtain ⟨cs',hcs,hy⟩:=h
        obtain ⟨v,hv,hq⟩:=he.read _ _ _ _ _ _ _ _ hy
        subst hv
        exact ⟨v,(World.cells?_some hcs).2.2,hq⟩
      rcases Nat.eq_zero_or_pos len with h0 | h0
      · subst h0
        exact ⟨fun _=>default,⟨fun i hi=>(Nat.not_lt_zero i hi).elim,fun i hi=>(Nat.not_lt_zero i hi).elim⟩⟩
      · have hpos:=El.pos (α:=β)
        obtain ⟨v0,hv0,_⟩:=each 0 h0
        have hl0:=El.len v0
        have hv0:=hv0 0 hpos
        rw [List.getElem?_eq_getElem (by omega)] at hv0
        have hs:a.spot=none:=by
          have:=spot_of_cell hv0
          simpa [Addr.add] using this
        obtain ⟨b,o,s⟩:=a
        simp only at hs
        subst hs
        have each':∀i,∃v:β,i<len→(∀j,j<El.w β→(hp w).get b (o+i*El.w β+j)=(El.enc v)[j]?)∧Q w v:=fun i=>by
          by_cases hi:i<len
          · obtain ⟨v,hv,hq⟩:=each i hi
            refine ⟨v,fun _=>⟨fun j hj=>?_,hq⟩⟩
            have h1:=hv j hj
            have hl1:=El.len v
            rw [List.getElem?_eq_getElem (by omega)] at h1 ⊢
            rw [addr_add,addr_add] at h1
            exact get_of_cell h1
          · exact ⟨default,fun h=>(hi h).elim⟩
        obtain ⟨f,hf⟩:=Classical.axiomOfChoice each'
        exact ⟨f,⟨fun i hi=>⟨b,o,rfl,(hf i hi).1⟩,fun i hi=>(hf i hi).2⟩⟩⟩
theorem TyR.one {P:Program} {t:TypeId} {α:Type} [El α] {Q:World→α→Prop} (h:TyR P t α Q) {H:Type} {enc:TypeId × Value→H} {w:World} {base:Nat} {sp:Nat→Bool} {held:Bool} {v:Value} {d:DataW H} {ps:List MemPlace}
    (hd:DataW.Trod enc P w base sp held t v d ps):∃a:α,v.cells.toList=El.enc a∧Q w a:=by
  obtain ⟨fuel,hf⟩:=hd
  exact h.read _ _ _ _ _ _ _ _ hf
end Go.Mz

/-
  What the reading of a table, as an argument, tells of its rows: how much they weigh. It proves nothing of the program by itself.
-/
import Derived.Test.YtndgjfbibkdokaaPkA10
import Derived.Test.YtndgjfbibkdokaaPkA08
import Derived.Test.YtndgjfbibkdokaaMzZ
set_option linter.unusedSimpArgs false
set_option linter.unusedVariables false
namespace Go.Mz
open Go.RowKit
theorem wA {H:Type} {P:Program} {p:Nat→Bool} {e:TypeId}:∀{ds:List (DataW H)} {i:Nat} {d:DataW H},ds[i]?=some d→(DataW.weightsAll P e ds).all p=true→(d.weights P e).all p=true
  | [],_,_,h,_=>by simp at h
  | d0 :: ds,0,d,h,hw=>by
    simp at h
    subst h
    rw [DataW.weightsAll,List.all_append,Bool.and_eq_true] at hw
    exact hw.1
  | d0 :: ds,i+1,d,h,hw=>by
    rw [DataW.weightsAll,List.all_append,Bool.and_eq_true] at hw
    exact wA (ds:=ds) (i:=i) (by simpa using h) hw.2
theorem tab_more {P:Program} {t e e2:TypeId} (ht:P.underlying t=some (.slice e)) (hte:P.underlying e=some (.slice e2)) (he1:P.cellsOf e=1) {H:Type} {enc:TypeId × Value→H} {w:World} {base:Nat} {sp:Nat→Bool} {held:Bool} {a:OA} {l c:Nat} {d:DataW H} {ps:List MemPlace}
    (hd:DataW.Trod enc P w base sp held t (.slice a l c) d ps) (hw:(d.weights P t).all (·≤reachBytes)=true) {dl:Nat→Sl} (hR:Rdr (hp w) a l dl) :
    ∀i,i<l→(dl i).n*P.bytesOf e2≤reachBytes:=by
  intro i hi
  obtain ⟨fuel,hx⟩:=hd
  obtain ⟨b,o,ha,hg⟩:=hR i hi
  have hg0:(hp w).get b (o+i*1+0)=some (.slice (dl i).p (dl i).n (dl i).c):=hg 0 (by decide)
  rw [Nat.mul_one,Nat.add_zero] at hg0
  subst ha
  rcases DataW.trod_slice ht hx with ⟨h,_⟩ | ⟨a',len,cap,elems,rest,n,_,h,hde,hb,_,_,hlen,hel,_⟩
  · simp [Value.cells] at h
  · simp [Value.cells] at h
    obtain ⟨rfl,rfl,rfl⟩:=h
    cases hde
    have h1:=hel i hi
    rw [List.getElem?_eq_getElem (by omega),he1] at h1
    simp only [Option.bind_eq_some_iff] at h1
    obtain ⟨cs',hcs,hy⟩:=h1
    have h2:=(World.cells?_some hcs).2.2
    have h3:=(World.cells?_some hcs).2.1
    have hv:cs'=[.slice (dl i).p (dl i).n (dl i).c]:=by
      match cs',h3,h2 with
      | [v],_,h2=>
        have h4:=h2 0 (by decide)
        rw [addr_add,addr_add,Nat.mul_one,Nat.add_zero] at h4
        have h5:=get_of_cell h4
        rw [h5] at hg0
        cases hg0
        rfl
    rw [DataW.weights,ht] at hw
    simp only [List.all_cons,List.all_append,Bool.and_eq_true] at hw
    have hwi:=wA (i:=i) (d:=elems[i].1) (by rw [List.getElem?_map,List.getElem?_eq_getElem (by omega)]; rfl) hw.2.1
    exact wt_slice hte hy hwi _ _ _ hv
end Go.Mz

/-
  What one operation asks and gives, as a shape over plain heaps, read off a table of types; and what it is to run one. It proves nothing of the program by itself.
-/
import Derived.Test.YtndgjfbibkdokaaMzA
namespace Go.Mz
open Go.RowKit
/-! ### The table of types -/
inductive D where
  | int (k:IntKind) | bool | sl (e:TypeId) | arr (n:Nat) (e:TypeId) | st (offs:List (Nat × TypeId)) | ptr | str | other
  deriving DecidableEq
def dOf:TypeDesc→D
  | .int k=>.int k
  | .bool=>.bool
  | .slice e=>.sl e
  | .array n e=>.arr n e
  | .struct fs=>.st (fs.toList.map fun f=>(f.offset,f.type))
  | .pointer _=>.ptr
  | .string=>.str
  | _=>.other
structure TI where
  id:TypeId
  kinds:List CK
  bytes:Nat
  d:D
  ifc:Bool
def TI.agg (t:TI):Bool:=match t.d with | .arr _ _ | .st _=>true | _=>false
structure Tab where
  tys:List TI
  tups:List (TypeId × List TypeId)
  fns:Nat
  bad:List Nat
  eqs:List TypeId
  meths:List (TypeId × String × FuncId)
def TI.bad:TI:=⟨0,[],0,.other,true⟩
def findT:List TI→TypeId→TI
  | [],_=>TI.bad
  | x :: r,t=>bif Nat.beq x.id t then x else findT r t
def Tab.find (T:Tab) (t:TypeId):TI:=findT T.tys t
def hasN:List Nat→Nat→Bool
  | [],_=>false
  | x :: r,t=>bif Nat.beq x t then true else hasN r t
def Tab.fok (T:Tab) (f:Nat):Bool:=bif Nat.blt f T.fns then (bif hasN T.bad f then false else true) else false
def findP:List (TypeId × List TypeId)→TypeId→Option (List TypeId)
  | [],_=>none
  | x :: r,t=>bif Nat.beq x.1 t then some x.2 else findP r t
def Tab.kd (T:Tab) (t:TypeId):Bool × List CK:=let i:=T.find t; (i.agg,i.kinds)
inductive RK where
  | one (agg:Bool) (ks:List CK)
  | tup (l:List (Bool × List CK))
def Tab.rk (T:Tab) (t:TypeId):RK:=match findP T.tups t with
  | some ts=>.tup (ts.map T.kd)
  | none=>let i:=T.find t; .one i.agg i.kinds
def ldTs:List (Bool × List CK)→List Value→(List Value→Prop)→Prop
  | [],xs,K=>match xs with
    | []=>K []
    | _ :: _=>False
  | k :: ks,xs,K=>match xs with
    | x :: xs=>ldT k.1 k.2 x fun v=>ldTs ks xs fun vs=>K (v :: vs)
    | []=>False
def ldR:RK→Value→(Value→Prop)→Prop
  | .one agg ks,v,K=>ldT agg ks v K
  | .tup l,v,K=>match v with
    | .tuple vs=>ldTs l vs.toList fun vs=>K (.tuple ⟨vs⟩)
    | _=>False
theorem ldTs_spec {l:List (Bool × List CK)} {xs:List Value} {K:List Value→Prop} (h:ldTs l xs K):(∀v∈xs,v≠undef)∧xs.length=l.length∧K xs:=by
  induction l generalizing xs K with
  | nil=>cases xs with
    | nil=>exact ⟨by simp,rfl,h⟩
    | cons x xs=>exact h.elim
  | cons k ks ih=>cases xs with
    | nil=>exact h.elim
    | cons x xs=>
      obtain ⟨hu,h,_,_⟩:=ldT_spec (show ldT k.1 k.2 x (fun v=>ldTs ks xs fun vs=>K (v :: vs)) from h)
      obtain ⟨hus,hl,h⟩:=ih h
      refine ⟨?_,by simp [hl],h⟩
      intro y hy
      cases hy with
      | head=>exact hu
      | tail _ hy=>exact hus y hy
theorem ldTs_mono {l:List (Bool × List CK)} {xs:List Value} {K K':List Value→Prop} (hk:∀v,K v→K' v) (h:ldTs l xs K):ldTs l xs K':=by
  induction l generalizing xs K K' with
  | nil=>cases xs with
    | nil=>exact hk _ h
    | cons x xs=>exact h.elim
  | cons k ks ih=>cases xs with
    | nil=>exact h.elim
    | cons x xs=>exact ldT_mono (fun v hv=>ih (fun vs=>hk _) hv) h
theorem ldR_spec {r:RK} {v:Value} {K:Value→Prop} (h:ldR r v K):K v:=by
  cases r with
  | one agg ks=>exact (ldT_spec h).2.1
  | tup l=>
    simp only [ldR] at h
    split at h
    · exact (ldTs_spec h).2.2
    · exact h.elim
theorem ldR_mono {r:RK} {v:Value} {K K':Value→Prop} (hk:∀v,K v→K' v) (h:ldR r v K):ldR r v K':=by
  cases r with
  | one agg ks=>exact ldT_mono hk h
  | tup l=>
    simp only [ldR] at *
    split at h
    · exact ldTs_mono (fun _=>hk _) h
    · exact h.elim
/-! ### Calls -/
def callW (P:Program) (f:FuncId) (args:List Value) (K E:VP) (H:Hp):Prop:=
  ∀w,hp w=H→Calls P f ⟨args⟩ w fun e w'=>Rest w w'∧match e with
    | .returned v=>K v (hp w')
    | .panicked [c]=>c.recovered=false∧c.goexit=false∧E c.v (hp w')
    | _=>False
theorem callW_mono {P:Program} {f:FuncId} {args:List Value} {K E K' E':VP} {H:Hp} (hk:∀v H,K v H→K' v H) (he:∀v H,E v H→E' v H)
    (h:callW P f args K E H):callW P f args K' E' H:=fun w hw=>(h w hw).mono fun e w' ⟨hr,h⟩=>⟨hr,by
      split at h
      · exact hk _ _ h
      · exact ⟨h.1,h.2.1,he _ _ h.2.2⟩
      · exact h.elim⟩
/-! ### Cells, many at once -/
def rdN (H:Hp) (p:OA) (k:Nat) (G:List Value→Prop):Prop:=
  match p with
  | some ⟨b,o,none⟩=>∃x,H b=some x∧o+k≤x.cells.length∧G ((x.cells.drop o).take k)
  | none=>k=0∧G []
  | _=>False
def stC (H:Hp) (b o:Nat) (vs:List Value) (K:Hp→Prop):Prop:=
  ∃x,H b=some x∧(o+vs.length≤x.cells.length∧x.ty.fz=(0,0))∧K (H.upd b ⟨putL x.cells o vs,x.ty⟩)
def zr (n:Nat) (ks:List CK):List Value:=(List.range (n*ks.length)).map fun i=>(ks.map zeroCK)[i%ks.length]?.getD undef
def appO (e:TypeId) (ks:List CK) (bytes:Nat) (p:OA) (n c:Nat) (p2:OA) (m:Nat) (H:Hp) (K:OA→Nat→Nat→Hp→Prop):Prop:=
  rdN H p2 (m*ks.length) fun src=>(∀v∈src,v.oneC=true)∧
    if n+m≤c then
      match p with
      | some ⟨b,o,none⟩=>stC H b (o+n*ks.length) src fun H'=>K (some ⟨b,o,none⟩) (n+m) c H'
      | none=>K none (n+m) c H
      | _=>False
    else
      (n+m<2 ^ 63∧Builtin.nextslicecap (n+m) c*bytes≤2 ^ 48)∧
      rdN H p (n*ks.length) fun old=>
        ∀c' b,n+m≤c'→c'<2 ^ 63→H b=none→K (some ⟨b,0,none⟩) (n+m) c' (H.upd b ⟨old++src++zr (c'-(n+m)) ks,e⟩)
def appM (e:TypeId) (ks:List CK) (bytes:Nat) (p:OA) (n c:Nat) (p2:OA) (m:Nat) (H:Hp) (K:OA→Nat→Nat→Hp→Prop):Prop:=
  appO e ks bytes p n c p2 m H K∨(m=0∧appO e ks bytes p n c none 0 H K)
def cpyM (sz:Nat) (p:OA) (n:Nat) (p2:OA) (m:Nat) (H:Hp) (K:Int→Hp→Prop):Prop:=
  rdN H p2 (min m n*sz) fun src=>(∀v∈src,v.oneC=true)∧
    match p with
    | some ⟨b,o,none⟩=>stC H b o src fun H'=>K (min m n:Nat) H'
    | none=>K (min m n:Nat) H
    | _=>False
def clrM (ks:List CK) (p:OA) (n:Nat) (H:Hp) (K:Hp→Prop):Prop:=
  match p with
  | some ⟨b,o,none⟩=>stC H b o (zr n ks) fun H'=>K H'
  | _=>False
/-! ### Shapes -/
inductive Shp where
  | fail
  | val (v:Value)
  | dec (k:CK) (v:Option Value)
  | rd (agg:Bool) (ks:List CK) (b o:Nat)
  | new (x:Blk) (f:Nat→Value)
  | wr (b o:Nat) (vs:List Value)
  | app (e:TypeId) (ks:List CK) (bytes:Nat) (p:OA) (n c:Nat) (p2:OA) (m:Nat)
  | cpy (sz:Nat) (p:OA) (n:Nat) (p2:OA) (m:Nat)
  | clr (ks:List CK) (p:OA) (n:Nat)
  | call (f:FuncId) (args:List Value) (r:RK)
  | inv (v:Value) (name:String) (args:List Value) (r:RK)
  | pan (v:Value)
  | req (p:Prop) (s:Shp)
  | fit (agg:Bool) (ks:List CK) (v:Value) (s:Shp)
  | opt (p:OA) (f:Nat→Nat→Shp)
def rdV (agg:Bool) (ks:List CK) (H:Hp) (b o:Nat) (K:Value→Prop):Prop:=
  match agg with
  | true=>lds ks H b o fun vs=>K (.agg ⟨vs⟩)
  | false=>match ks with
    | [k]=>ld k (H.get b o) K
    | _=>False
def findM:List (TypeId × String × FuncId)→TypeId→String→Option FuncId
  | [],_,_=>none
  | x :: r,t,n=>if x.1=t∧x.2.1=n then some x.2.2 else findM r t n
def invW (P:Program) (T:Tab) (v:Value) (name:String) (args:List Value) (K E:VP) (H:Hp):Prop:=
  match v with
  | .iface t (.pointer (some a))=>∃f,findM T.meths t name=some f∧callW P f (.pointer (some a) :: args) K E H
  | _=>False
def nn (p:OA) (G:Nat→Nat→Prop):Prop:=match p with | some ⟨b,o,none⟩=>G b o | _=>False
def Shp.run (P:Program) (T:Tab):Shp→(VP)→(VP)→Hp→Prop
  | .fail,_,_,_=>False
  | .val v,K,_,H=>K v H
  | .dec k v,K,_,H=>ld k v fun v=>K v H
  | .rd agg ks b o,K,_,H=>rdV agg ks H b o fun v=>K v H
  | .new x f,K,_,H=>∀b,H b=none→K (f b) (H.upd b x)
  | .wr b o vs,K,_,H=>stC H b o vs fun H'=>K undef H'
  | .app e ks bytes p n c p2 m,K,_,H=>appM e ks bytes p n c p2 m H fun p n c H'=>K (.slice p n c) H'
  | .cpy sz p n p2 m,K,_,H=>cpyM sz p n p2 m H fun i H'=>K (.int .i64 i) H'
  | .clr ks p n,K,_,H=>clrM ks p n H fun H'=>K (.tuple #[]) H'
  | .call f args r,K,E,H=>callW P f args (fun v H'=>ldR r v fun v=>K v H') E H
  | .inv v name args r,K,E,H=>invW P T v name args (fun v H'=>ldR r v fun v=>K v H') E H
  | .pan v,_,E,H=>E v H
  | .req p s,K,E,H=>p∧s.run P T K E H
  | .fit agg ks v s,K,E,H=>ldT agg ks v fun _=>s.run P T K E H
  | .opt p f,K,E,H=>nn p fun b o=>(f b o).run P T K E H
/-! ### Values, looked at before they are handed on (so that no text stands for a value) -/
def frc1 (v:Value) (f:Value→Shp):Shp:=
  match v with
  | .bool b=>f (.bool b)
  | .int k n=>f (.int k n)
  | .float k b=>f (.float k b)
  | .complex k a b=>f (.complex k a b)
  | .string s=>f (.string s)
  | .pointer a=>f (.pointer a)
  | .slice a n c=>f (.slice a n c)
  | .map r=>f (.map r)
  | .chan r=>f (.chan r)
  | .func a b c=>f (.func a b c)
  | .nilFunc=>f .nilFunc
  | .iface t v=>f (.iface t v)
  | .nilIface=>f .nilIface
  | .agg cs=>f (.agg cs)
  | .tuple vs=>f (.tuple vs)
def frcC:List Value→(List Value→Shp)→Shp
  | [],f=>f []
  | x :: xs,f=>frc1 x fun x=>frcC xs fun xs=>f (x :: xs)
def frc (v:Value) (f:Value→Shp):Shp:=
  match v with
  | .agg cs=>frcC cs.toList fun cs=>f (.agg ⟨cs⟩)
  | v=>frc1 v f
theorem frc1_eq (v:Value) (f:Value→Shp):frc1 v f=f v:=by cases v<;>rfl
theorem frcC_eq (l:List Value) (f:List Value→Shp):frcC l f=f l:=by
  induction l generalizing f with
  | nil=>rfl
  | cons x l ih=>simp only [frcC,frc1_eq,ih]
theorem frc_eq (v:Value) (f:Value→Shp):frc v f=f v:=by
  cases v<;>simp only [frc,frcC_eq,frc1_eq]
def hasIfc:List CK→Bool
  | []=>false
  | .ifc :: _=>true
  | _ :: r=>hasIfc r
def frcT (T:Tab) (t:TypeId) (v:Value) (f:Value→Shp):Shp:=
  match (T.find t).ifc with
  | true=>f v
  | false=>match hasIfc (T.find t).kinds with
    | true=>f v
    | false=>frc v f
theorem frcT_eq (T:Tab) (t:TypeId) (v:Value) (f:Value→Shp):frcT T t v f=f v:=by
  unfold frcT
  split
  · rfl
  · split
    · rfl
    · exact frc_eq v f
/-! ### The shape of an operation -/
def kEq:IntKind→IntKind→Bool
  | .i8,.i8 | .i16,.i16 | .i32,.i32 | .i64,.i64 | .u8,.u8 | .u16,.u16 | .u32,.u32 | .u64,.u64=>true
  | _,_=>false
def fitAll (T:Tab):List TypeId→List Value→Shp→Shp
  | t :: ts,v :: vs,s=>match v with
    | .pointer p=>.fit false [.ptr] (.pointer p) (fitAll T ts vs s)
    | v=>let i:=T.find t; .fit i.agg i.kinds v (fitAll T ts vs s)
  | [],[],s=>s
  | _,_,_=>.fail
def slp (p:OA) (l m sz:Nat):OA:=if m=l then p else p.map fun a=>a.add (l*sz)
def binInt (op:BinOp) (k:IntKind) (a b:Int):Shp:=
  match op with
  | .add=>.val (.int k (k.wrap (a+b)))
  | .sub=>.val (.int k (k.wrap (a-b)))
  | .mul=>.val (.int k (k.wrap (a*b)))
  | .quo=>.req (b≠0) (.val (.int k (k.wrap (a.tdiv b))))
  | .rem=>.req (b≠0) (.val (.int k (a.tmod b)))
  | .and=>.val (.int k (k.wrap (BitVec.ofInt k.bits a &&& BitVec.ofInt k.bits b).toNat))
  | .or=>.val (.int k (k.wrap (BitVec.ofInt k.bits a ||| BitVec.ofInt k.bits b).toNat))
  | .xor=>.val (.int k (k.wrap (BitVec.ofInt k.bits a ^^^ BitVec.ofInt k.bits b).toNat))
  | .eql=>.val (.bool (decide (a=b)))
  | .neq=>.val (.bool (!decide (a=b)))
  | .lss=>.val (.bool (decide (a<b)))
  | .leq=>.val (.bool (decide (a≤b)))
  | .gtr=>.val (.bool (decide (b<a)))
  | .geq=>.val (.bool (decide (b≤a)))
  | _=>.fail
def shiftInt (op:BinOp) (k:IntKind) (a b:Int):Shp:=
  match op with
  | .shl=>.req (0≤b) (.val (.int k (k.wrap (a*2 ^ (min b.toNat k.bits)))))
  | .shr=>.req (0≤b) (.val (.int k (a.fdiv (2 ^ (min b.toNat k.bits)))))
  | _=>.fail
def eqCells:List Value→List Value→Option Bool
  | [],[]=>some true
  | .int k a :: xs,.int k' b :: ys=>match kEq k k',eqCells xs ys with
    | true,some r=>some (decide (a=b) && r)
    | _,_=>none
  | _,_=>none
def shpBin (T:Tab) (op:BinOp) (t:TypeId) (x y:Value):Shp:=
  match x,y with
  | .int k a,.int k' b=>match op with
    | .shl | .shr=>shiftInt op k a b
    | _=>match kEq k k' with
      | true=>binInt op k a b
      | false=>.fail
  | .pointer p,.pointer none=>match (T.find t).d with
    | .ptr=>match op with
      | .eql=>.val (.bool p.isNone)
      | .neq=>.val (.bool (!p.isNone))
      | _=>.fail
    | _=>.fail
  | .bool a,.bool b=>match (T.find t).d with
    | .bool=>match op with
      | .eql=>.val (.bool (a == b))
      | .neq=>.val (.bool (!(a == b)))
      | _=>.fail
    | _=>.fail
  | .agg xs,.agg ys=>match eqCells xs.toList ys.toList,hasN T.eqs t,(T.find t).d with
    | some r,true,.st _=>match op with
      | .eql=>.fit true (T.find t).kinds (.agg xs) (.fit true (T.find t).kinds (.agg ys) (.val (.bool r)))
      | .neq=>.fit true (T.find t).kinds (.agg xs) (.fit true (T.find t).kinds (.agg ys) (.val (.bool (!r))))
      | _=>.fail
    | _,_,_=>.fail
  | _,_=>.fail
def shpUn (op:UnOp) (x:Value):Shp:=
  match op,x with
  | .not,.bool b=>.val (.bool !b)
  | .neg,.int k n=>.val (.int k (k.wrap (0-n)))
  | _,_=>.fail
def bnd (x:Option Value) (y:Nat) (dflt:Nat) (G:Nat→Shp):Shp:=
  match x with
  | none=>G dflt
  | some (.int _ i)=>.req (0≤i∧i≤(y:Int)) (G i.toNat)
  | _=>.fail
def shpSlice (T:Tab) (t:TypeId) (x:Value) (lo hi mx:Option Value):Shp:=
  match x,(T.find t).d,mx with
  | .slice p n c,.sl e,none=>match (T.find e).kinds with
    | []=>.fail
    | _ :: _=>bnd hi c n fun h=>bnd lo h 0 fun l=>.val (.slice (slp p l c (T.find e).kinds.length) (h-l) (c-l))
  | _,_,_=>.fail
def nthF:List (Nat × TypeId)→Nat→Option (Nat × TypeId)
  | [],_=>none
  | x :: _,0=>some x
  | _ :: r,n+1=>nthF r n
def fillC (T:Tab) (pl:Nat→Option (Nat × TypeId)):List Value→List (Nat × Value)→(List Value→Shp)→Shp
  | cs,[],G=>G cs
  | cs,(i,v) :: r,G=>match pl i with
    | some (off,t)=>let ti:=T.find t; match Nat.ble (off+ti.kinds.length) cs.length with
      | true=>frcT T t v fun v=>.fit ti.agg ti.kinds v (fillC T pl (putL cs off (vcells v)) r G)
      | false=>.fail
    | none=>.fail
def allK (T:Tab):List (Nat × TypeId)→Bool
  | []=>true
  | x :: r=>match (T.find x.2).kinds with
    | []=>false
    | _ :: _=>allK T r
def shpBuild (T:Tab) (t:TypeId) (parts:List (Nat × Value)):Shp:=
  let ti:=T.find t
  match ti.d with
  | .st offs=>match allK T offs with
    | true=>fillC T (fun i=>nthF offs i) (ti.kinds.map zeroCK) parts fun cs=>(match hasIfc ti.kinds with | true=>.val (.agg ⟨cs⟩) | false=>frcC cs fun cs=>.val (.agg ⟨cs⟩))
    | false=>.fail
  | .arr _ e=>match (T.find e).kinds with
    | []=>.fail
    | _ :: _=>fillC T (fun i=>some (i*(T.find e).kinds.length,e)) (ti.kinds.map zeroCK) parts fun cs=>.val (.agg ⟨cs⟩)
  | _=>.fail
def shpBuildSlice (T:Tab) (t:TypeId) (len:Nat) (parts:List (Nat × Value)):Shp:=
  match (T.find t).d with
  | .sl e=>
    let ei:=T.find e
    match ei.kinds with
    | []=>.fail
    | _ :: _=>match Nat.ble (len*ei.kinds.length) (2 ^ 24) with
      | true=>fillC T (fun i=>some (i*ei.kinds.length,e)) (zr len ei.kinds) parts fun cs=>.new ⟨cs,e⟩ fun b=>.slice (some ⟨b,0,none⟩) len len
      | false=>.fail
  | _=>.fail
def shpIndexAddr (T:Tab) (t:TypeId) (x i:Value):Shp:=
  match x,i,(T.find t).d with
  | .slice p n _,.int _ i,.sl e=>match (T.find e).kinds with
    | []=>.fail
    | _ :: _=>.opt p fun b o=>.req (0≤i∧i<(n:Int)) (.val (.pointer (some ⟨b,o+i.toNat*(T.find e).kinds.length,none⟩)))
  | .pointer p,.int _ i,.arr n e=>match (T.find e).kinds with
    | []=>.fail
    | _ :: _=>.opt p fun b o=>.req (0≤i∧i<(n:Int)) (.val (.pointer (some ⟨b,o+i.toNat*(T.find e).kinds.length,none⟩)))
  | _,_,_=>.fail
def shpIndex (T:Tab) (t:TypeId) (x i:Value):Shp:=
  match x,i,(T.find t).d with
  | .agg cs,.int _ i,.arr n e=>match (T.find e).kinds,(T.find e).agg with
    | [k],false=>.req (0≤i∧i<(n:Int)) (.dec k cs.toList[i.toNat]?)
    | _,_=>.fail
  | .string s,.int _ i,.str=>.req (0≤i∧i<(s.size:Int)) (.val (.int .u8 ((s[i.toNat]?.getD 0).toNat:Int)))
  | _,_,_=>.fail
def shpFieldAddr (T:Tab) (t:TypeId) (x:Value) (f:Nat):Shp:=
  match x,(T.find t).d with
  | .pointer (some ⟨b,o,none⟩),.st offs=>match nthF offs f with
    | some (off,e)=>match (T.find e).kinds with
      | _ :: _=>.val (.pointer (some ⟨b,o+off,none⟩))
      | []=>.fail
    | none=>.fail
  | _,_=>.fail
def shpField (T:Tab) (t:TypeId) (x:Value) (f:Nat):Shp:=
  match x,(T.find t).d with
  | .agg cs,.st offs=>match nthF offs f with
    | some (off,e)=>
      let ei:=T.find e
      .fit true (T.find t).kinds (.agg cs) (match ei.agg with
      | true=>.val (.agg ⟨(cs.toList.drop off).take ei.kinds.length⟩)
      | false=>match ei.kinds,cs.toList[off]? with
        | _ :: _,some v=>.val v
        | _,_=>.fail)
    | none=>.fail
  | _,_=>.fail
def shpMakeSlice (T:Tab) (t:TypeId) (l c:Value):Shp:=
  match l,c,(T.find t).d with
  | .int .i64 l,.int .i64 c,.sl e=>
    let ei:=T.find e
    match ei.kinds with
    | []=>.fail
    | _ :: _=>.req (0≤l∧l≤c∧c<2 ^ 63∧(ei.bytes:Int)*c≤2 ^ 48) (.new ⟨zr c.toNat ei.kinds,e⟩ fun b=>.slice (some ⟨b,0,none⟩) l.toNat c.toNat)
  | _,_,_=>.fail
def shpBuiltin (T:Tab) (b:Builtin) (ats:List TypeId) (args:List Value):Shp:=
  match b,ats,args with
  | .len,[t],[.slice _ n _]=>match (T.find t).d with
    | .sl _=>.val (.int .i64 n)
    | _=>.fail
  | .min,_,[.int k x,.int _ y]=>.val (.int k (if y<x then y else x))
  | .max,_,[.int k x,.int _ y]=>.val (.int k (if x<y then y else x))
  | .append,[t,t2],[.slice p n c,.slice p2 m _]=>match (T.find t).d,(T.find t2).d with
    | .sl e,.sl _=>let ei:=T.find e; match ei.kinds,ei.bytes with
      | _ :: _,_+1=>.app e ei.kinds ei.bytes p n c p2 m
      | _,_=>.fail
    | _,_=>.fail
  | .copy,[t,_],[.slice p n _,.slice p2 m _]=>match (T.find t).d with
    | .sl e=>let ei:=T.find e; match ei.kinds with
      | _ :: _=>.cpy ei.kinds.length p n p2 m
      | _=>.fail
    | _=>.fail
  | .clear,[t],[.slice p n _]=>match (T.find t).d with
    | .sl e=>let ei:=T.find e; match ei.kinds with
      | _ :: _=>.clr ei.kinds p n
      | _=>.fail
    | _=>.fail
  | _,_,_=>.fail
def shp (T:Tab) (o:Oper) (ρ:Operand→Value):Shp:=
  match o.op with
  | .move x | .assign x=>frcT T o.type (ρ x) .val
  | .pick c a b=>match ρ c with
    | .bool t=>frcT T o.type (match t with | true=>ρ a | false=>ρ b) .val
    | _=>.fail
  | .alloc t=>let i:=T.find t; match i.kinds with
    | []=>.fail
    | _ :: _=>.new ⟨i.kinds.map zeroCK,t⟩ fun b=>.pointer (some ⟨b,0,none⟩)
  | .box t x=>let i:=T.find t; frcT T t (ρ x) fun v=>.fit i.agg i.kinds v (.new ⟨vcells v,t⟩ fun b=>.pointer (some ⟨b,0,none⟩))
  | .build t parts=>shpBuild T t (parts.toList.map fun p=>(p.1,ρ p.2))
  | .buildSlice t len parts=>shpBuildSlice T t len (parts.toList.map fun p=>(p.1,ρ p.2))
  | .load t a=>match ρ a with
    | .pointer (some ⟨b,o,none⟩)=>let i:=T.find t; match i.kinds with
      | []=>.fail
      | _ :: _=>.rd i.agg i.kinds b o
    | _=>.fail
  | .store t a x=>match ρ a with
    | .pointer (some ⟨b,o,none⟩)=>let i:=T.find t; .fit i.agg i.kinds (ρ x) (.wr b o (vcells (ρ x)))
    | _=>.fail
  | .nilCheck x=>match ρ x with
    | .pointer p=>.opt p fun b o=>.val (.pointer (some ⟨b,o,none⟩))
    | .func (.func f) a c=>.val (.func (.func f) a c)
    | _=>.fail
  | .binOp op t x y _=>shpBin T op t (ρ x) (ρ y)
  | .unOp op _ x=>shpUn op (ρ x)
  | .convert s d x=>match ρ x,(T.find s).d,(T.find d).d with
    | .int _ n,.int _,.int k=>.val (.int k (k.wrap n))
    | _,_,_=>.fail
  | .makeInterface t x=>let i:=T.find t; match i.ifc with
    | true=>.fail
    | false=>frcT T t (ρ x) fun v=>.fit i.agg i.kinds v (.val (.iface t v))
  | .makeFunc (.func f) first cap=>match first.toList with
    | []=>frcC (cap.toList.map ρ) fun l=>l.foldr (fun v s=>.fit false [.ptr] v s) (.val (.func (.func f) #[] ⟨l⟩))
    | _=>.fail
  | .makeSlice t l c=>shpMakeSlice T t (ρ l) (ρ c)
  | .slice t x lo hi mx=>shpSlice T t (ρ x) (lo.map ρ) (hi.map ρ) (mx.map ρ)
  | .fieldAddr t x f=>shpFieldAddr T t (ρ x) f
  | .field t x f=>shpField T t (ρ x) f
  | .indexAddr t x i=>shpIndexAddr T t (ρ x) (ρ i)
  | .index t x i=>shpIndex T t (ρ x) (ρ i)
  | .extract t n=>match ρ t with
    | .tuple vs=>match vs.toList[n]? with
      | some v=>.val v
      | none=>.fail
    | _=>.fail
  | .call c=>match c.callee with
    | .builtin b=>shpBuiltin T b c.argTypes.toList (c.args.toList.map ρ)
    | .value (.func g)=>match T.fok g with
      | true=>fitAll T c.argTypes.toList (c.args.toList.map ρ) (.call g (c.args.toList.map ρ) (T.rk o.type))
      | false=>.fail
    | .value f=>match ρ f with
      | .func (.func g) first cap=>match first.toList with
        | []=>.req (T.fok g=true) (fitAll T c.argTypes.toList (c.args.toList.map ρ) (.call g (c.args.toList.map ρ++cap.toList) (T.rk o.type)))
        | _=>.fail
      | _=>.fail
    | .invoke recv name=>fitAll T c.argTypes.toList (c.args.toList.map ρ) (.inv (ρ recv) name (c.args.toList.map ρ) (T.rk o.type))
  | .panic x=>match ρ x with
    | .iface t v=>.pan (.iface t v)
    | _=>.fail
  | _=>.fail
end Go.Mz

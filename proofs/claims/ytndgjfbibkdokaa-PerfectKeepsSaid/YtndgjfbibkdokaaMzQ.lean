/-
  Places in code, cut off from what follows them: what is told of a place may be told over other places' names. It proves nothing of the program by itself.
-/
import Derived.Test.YtndgjfbibkdokaaMzP
set_option linter.unusedSimpArgs false
set_option linter.unusedVariables false
namespace Go.Mz
open Go.RowKit
def peq:List Nat→List Nat→Bool
  | [],[]=>true
  | x :: xs,y :: ys=>match Nat.beq x y with | true=>peq xs ys | false=>false
  | _,_=>false
def hasP:List (List Nat)→List Nat→Bool
  | [],_=>false
  | x :: r,p=>match peq x p with | true=>true | false=>hasP r p
theorem peq_eq {a b:List Nat} (h:peq a b=true):a=b:=by
  induction a generalizing b with
  | nil=>cases b<;>first | rfl | cases h
  | cons x xs ih=>cases b with
    | nil=>cases h
    | cons y ys=>
      unfold peq at h
      split at h
      · rename_i e; rw [Nat.eq_of_beq_eq_true e,ih h]
      · cases h
theorem hasP_mem {l:List (List Nat)} {p:List Nat} (h:hasP l p=true):p∈l:=by
  induction l with
  | nil=>cases h
  | cons x l ih=>
    unfold hasP at h
    split at h
    · rename_i e; rw [peq_eq e]; simp
    · simp [ih h]
section
variable (P:Program) (T:Tab) (A:An) (ns:List (List Nat)) (G:List Nat→FP)
def brk (c:Code) (p:List Nat) (K:FP) (F:Fr) (H:Hp):Prop:=
  match hasP ns p with
  | true=>G p (F.keep (A.lv (hdR c))) H
  | false=>K F H
def codeR:Code→List Nat→(Ex→FP)→FP
  | .skip,_,Q,F,H=>Q .normal F H
  | .label _,_,Q,F,H=>Q .normal F H
  | .exit id,_,Q,F,H=>Q (.exit id) F H
  | .ret,_,Q,F,H=>Q .ret F H
  | .seq a b,p,Q,F,H=>codeR a (0 :: p) (thenM (brk A ns G b (1 :: p) (fun F H=>codeR b (1 :: p) Q F H)) Q) F H
  | .cond c a b,p,Q,F,H=>match F.ev c with
    | .bool x=>bcase x (brk A ns G a (0 :: p) (fun F H=>codeR a (0 :: p) Q F H) F H) (brk A ns G b (1 :: p) (fun F H=>codeR b (1 :: p) Q F H) F H)
    | _=>False
  | .block id c,p,Q,F,H=>codeR c (0 :: p) (blkM id Q) F H
  | .scope c,p,Q,F,H=>codeR c (0 :: p) Q F H
  | .region id ops dr,_,Q,F,H=>regD P T A id ops dr (F.keep (A.lv id),[]) (fun F H=>Q .normal F.1 H) (fun v H=>Q (.pan v) [] H) H
  | .loop c,p,_,F,H=>match hasP ns p with
    | true=>G p (F.keep (A.lv (hdR c))) H
    | false=>False
  | _,_,_,_,_=>False
def ctxR:Code→List Nat→List Nat→List (FP)→(Ex→FP)→Ex→FP
  | .seq a b,q,0 :: p,Xs,Q=>ctxR a (0 :: q) p Xs (thenM (brk A ns G b (1 :: q) (fun F H=>codeR P T A ns G b (1 :: q) Q F H)) Q)
  | .seq _ b,q,1 :: p,Xs,Q=>ctxR b (1 :: q) p Xs Q
  | .cond _ a _,q,0 :: p,Xs,Q=>ctxR a (0 :: q) p Xs Q
  | .cond _ _ b,q,1 :: p,Xs,Q=>ctxR b (1 :: q) p Xs Q
  | .block id c,q,0 :: p,Xs,Q=>ctxR c (0 :: q) p Xs (blkM id Q)
  | .scope c,q,0 :: p,Xs,Q=>ctxR c (0 :: q) p Xs Q
  | .loop c,q,0 :: p,X :: Xs,Q=>ctxR c (0 :: q) p Xs (thenM (fun F H=>X (F.keep (A.lv (hdR c))) H) Q)
  | _,_,_,_,Q=>Q
def nodeR (code:Code) (p:List Nat) (Xs:List (FP)) (Q:Ex→FP) (F:Fr) (H:Hp):Prop:=
  codeR P T A ns G (nav code p) p.reverse (ctxR P T A ns G code [] p Xs Q) F H
end
/-! ### The first region of a place keeps what lives -/
def starts:Code→Bool
  | .region _ _ _=>true
  | .seq a _=>starts a
  | .block _ c=>starts c
  | .scope c=>starts c
  | .loop _=>true
  | _=>false
theorem keep_get {F:Fr} {l:List Nat} {t:Nat} (h:t∈l):(F.keep l).get t=F.get t:=by
  induction l with
  | nil=>cases h
  | cons x l ih=>
    simp only [Fr.keep,Fr.get]
    cases e:Nat.beq x t with
    | true=>have:=Nat.eq_of_beq_eq_true e; subst this; rfl
    | false=>
      cases h with
      | head=>rw [Nat.beq_refl] at e; cases e
      | tail _ h=>exact ih h
theorem keep_keep (F:Fr) (l:List Nat):(F.keep l).keep l=F.keep l:=by
  have key:∀l',(∀t∈l',t∈l)→(F.keep l).keep l'=F.keep l':=by
    intro l'
    induction l' with
    | nil=>intro _; rfl
    | cons x l' ih=>intro hl; simp only [Fr.keep]; rw [keep_get (hl x (by simp)),ih fun t ht=>hl t (by simp [ht])]
  exact key l fun t h=>h
section
variable {P:Program} {T:Tab} {A:An}
theorem codeM_keep:∀(c:Code) {Q:Ex→FP} {F:Fr} {H:Hp},starts c=true→(codeM P T A c Q (F.keep (A.lv (hdR c))) H↔codeM P T A c Q F H):=by
  intro c
  induction c with
  | region id ops dr=>intro Q F H _; simp only [codeM,hdR,keep_keep]
  | seq a b iha ihb=>intro Q F H h; exact iha h
  | block id c ih=>intro Q F H h; exact ih h
  | scope c ih=>intro Q F H h; exact ih h
  | loop c ih=>intro Q F H h; simp only [codeM,hdR,keep_keep]
  | _=>intro Q F H h; cases h
def nodesOk (code:Code):List (List Nat)→Bool
  | []=>true
  | p :: r=>match starts (nav code p.reverse) with | true=>nodesOk code r | false=>false
theorem nodesOk_mem {code:Code} {ns:List (List Nat)} (h:nodesOk code ns=true):∀p∈ns,starts (nav code p.reverse)=true:=by
  induction ns with
  | nil=>simp
  | cons x l ih=>
    unfold nodesOk at h
    split at h
    · rename_i e
      intro p hp
      cases hp with
      | head=>exact e
      | tail _ hp=>exact ih h p hp
    · cases h
variable {ns:List (List Nat)} {G:List Nat→FP}
def Good (P:Program) (T:Tab) (A:An) (ns:List (List Nat)) (G:List Nat→FP) (c:Code) (p:List Nat) (Ys:List (FP)) (Q:Ex→FP):Prop:=
  ∀s F H,hasP ns (s.reverse++p)=true→G (s.reverse++p) (F.keep (A.lv (hdR (nav c s)))) H→codeM P T A (nav c s) (ctx P T A c s Ys Q) F H
theorem nav_nil (c:Code):nav c []=c:=by cases c<;>rfl
theorem ctx_nil (c:Code) (Ys:List (FP)) (Q:Ex→FP):ctx P T A c [] Ys Q=Q:=by cases c<;>rfl
theorem ctxR_nil (c:Code) (q:List Nat) (Ys:List (FP)) (Q:Ex→FP):ctxR P T A ns G c q [] Ys Q=Q:=by cases c<;>rfl
theorem Good.here {c:Code} {p:List Nat} {Ys:List (FP)} {Q:Ex→FP} (hg:Good P T A ns G c p Ys Q) {F:Fr} {H:Hp} (e:hasP ns p=true) (h:G p (F.keep (A.lv (hdR c))) H):codeM P T A c Q F H:=by
  have:=hg [] F H (by simpa using e) (by rw [nav_nil]; simpa using h)
  rw [nav_nil,ctx_nil] at this; exact this
theorem brk_imp {c:Code} {p:List Nat} {K:FP} {Q:Ex→FP} {F:Fr} {H:Hp} {Ys:List (FP)} (hg:Good P T A ns G c p Ys Q) (hk:K F H→codeM P T A c Q F H)
    (h:brk A ns G c p K F H):codeM P T A c Q F H:=by
  unfold brk at h
  split at h
  · rename_i e; exact hg.here e h
  · exact hk h
theorem Good.sub {c c':Code} {i:Nat} {p:List Nat} {Ys Ys':List (FP)} {Q Q':Ex→FP} (hg:Good P T A ns G c p Ys Q) (hn:∀s,nav c (i :: s)=nav c' s) (hc:∀s,ctx P T A c (i :: s) Ys Q=ctx P T A c' s Ys' Q') :
    Good P T A ns G c' (i :: p) Ys' Q':=by
  intro s F H h hG
  have:=hg (i :: s) F H (by simpa using h) (by rw [hn]; simpa using hG)
  rw [hn,hc] at this
  exact this
theorem Shp_E_mono {s:Shp}:∀{K E E':VP} {H:Hp},(∀v H,E v H→E' v H)→s.run P T K E H→s.run P T K E' H:=by
  induction s with
  | call f args r=>intro K E E' H he h; exact callW_mono (fun _ _ h=>h) he h
  | inv v name args r=>
    intro K E E' H he h
    have h':invW P T v name args (fun v H'=>ldR r v fun v=>K v H') E H:=h
    show invW P T v name args (fun v H'=>ldR r v fun v=>K v H') E' H
    unfold invW at *
    split at h'
    · obtain ⟨f,hf',h'⟩:=h'
      exact ⟨f,hf',callW_mono (fun _ _ h=>h) he h'⟩
    · exact h'.elim
  | pan v=>intro K E E' H he h; exact he _ _ h
  | req p s ih=>intro K E E' H he h; exact ⟨h.1,ih he h.2⟩
  | fit agg ks v s ih=>intro K E E' H he h; exact ldT_mono (fun _=>ih he) h
  | opt p f ih=>
    intro K E E' H he h
    obtain ⟨b,o,rfl,h⟩:=nn_spec h
    exact ih _ _ he h
  | _=>intro K E E' H he h; exact h
end
section
variable {P:Program} {T:Tab} {A:An} {ns:List (List Nat)} {G:List Nat→FP}
theorem Shp_run_mono {s:Shp} {K K' E:VP} {H:Hp} (hk:∀v H,K v H→K' v H) (h:s.run P T K E H):s.run P T K' E H:=by
  induction s generalizing K K' H with
  | fail=>exact h
  | val v=>exact hk _ _ h
  | dec k v=>exact ld_mono (fun v=>hk v _) h
  | rd agg ks b o=>exact rdV_mono (fun v=>hk v _) h
  | new x f=>exact fun b hb=>hk _ _ (h b hb)
  | wr b o vs=>obtain ⟨x,hx,hl,h⟩:=h; exact ⟨x,hx,hl,hk _ _ h⟩
  | app e ks bytes p n c p2 m=>
    have h0:appM e ks bytes p n c p2 m H (fun p n c H'=>K (.slice p n c) H'):=h
    show appM e ks bytes p n c p2 m H (fun p n c H'=>K' (.slice p n c) H')
    have key:∀p2 m,appO e ks bytes p n c p2 m H (fun p n c H'=>K (.slice p n c) H')→appO e ks bytes p n c p2 m H (fun p n c H'=>K' (.slice p n c) H'):=by
      intro p2 m h0
      unfold appO at h0 ⊢
      refine rdN_mono (fun src ⟨h1,h2⟩=>⟨h1,?_⟩) h0
      split
      · rename_i hle
        rw [if_pos hle] at h2
        split
        · obtain ⟨x,hx,hl,h⟩:=h2; exact ⟨x,hx,hl,hk _ _ h⟩
        · exact hk _ _ h2
        · rename_i h3 h4; split at h2
          · exact absurd rfl (h3 _ _)
          · exact absurd rfl h4
          · exact h2
      · rename_i hle
        rw [if_neg hle] at h2
        exact ⟨h2.1,rdN_mono (fun old h c' b hc hc2 hb=>hk _ _ (h c' b hc hc2 hb)) h2.2⟩
    exact h0.imp (key _ _) fun ⟨a,b⟩=>⟨a,key _ _ b⟩
  | cpy sz p n p2 m=>
    have h0:cpyM sz p n p2 m H (fun i H'=>K (.int .i64 i) H'):=h
    show cpyM sz p n p2 m H (fun i H'=>K' (.int .i64 i) H')
    unfold cpyM at h0 ⊢
    refine rdN_mono (fun src ⟨h1,h2⟩=>⟨h1,?_⟩) h0
    split
    · obtain ⟨x,hx,hl,h⟩:=h2; exact ⟨x,hx,hl,hk _ _ h⟩
    · exact hk _ _ h2
    · rename_i h3 h4; split at h2
      · exact absurd rfl (h3 _ _)
      · exact absurd rfl h4
      · exact h2
  | clr ks p n=>
    have h':clrM ks p n H (fun H'=>K (.tuple #[]) H'):=h
    show clrM ks p n H (fun H'=>K' (.tuple #[]) H')
    unfold clrM at *
    split
    · obtain ⟨x,hx,hl,h⟩:=h'; exact ⟨x,hx,hl,hk _ _ h⟩
    · rename_i h3; split at h'
      · exact absurd rfl (h3 _ _)
      · exact h'
  | call f args r=>exact callW_mono (fun v H'=>ldR_mono fun v=>hk v H') (fun _ _ h=>h) h
  | inv v name args r=>
    have h':invW P T v name args (fun v H'=>ldR r v fun v=>K v H') E H:=h
    show invW P T v name args (fun v H'=>ldR r v fun v=>K' v H') E H
    unfold invW at *
    split at h'
    · obtain ⟨f,hf',h'⟩:=h'
      exact ⟨f,hf',callW_mono (fun v H'=>ldR_mono fun v=>hk v H') (fun _ _ h=>h) h'⟩
    · exact h'.elim
  | pan v=>exact h
  | req p s ih=>exact ⟨h.1,ih hk h.2⟩
  | fit agg ks v s ih=>exact ldT_mono (fun _=>ih hk) h
  | opt p f ih=>
    obtain ⟨b,o,rfl,h⟩:=nn_spec h
    exact ih _ _ hk h
theorem gateG_mono {φ:Type} {fm:Fm φ} {l:List Oper} {F:φ} {g:Option (Nat × Bool)} {X Y X' Y':Prop} (hx:X→X') (hy:Y→Y') (h:gateG fm l F g X Y):gateG fm l F g X' Y':=by
  unfold gateG at *
  split at h
  · exact hx h
  · split at h
    · split at h
      · split at h
        · exact hy h
        · split at h<;>first | exact hx h | exact hy h | exact h.elim
      · exact h.elim
    · exact h.elim
theorem stabG_mono {φ:Type} {fm:Fm φ} {l:List Oper} {F:φ} {H:Hp} {done:List Nat} {X X':Prop} (hx:X→X'):∀{xs:List Nat},stabG fm T l done F H xs X→stabG fm T l done F H xs X'
  | [],h=>hx h
  | t :: r,h=>by
    unfold stabG at *
    split
    · rename_i e; rw [e] at h; exact ⟨h.1,stabG_mono hx h.2⟩
    · rename_i e; rw [e] at h; exact stabG_mono hx h
theorem regG_mono {φ:Type} {fm:Fm φ} {l:List Oper} {st:Nat→List Nat} {K K':φ→Hp→Prop} {E E':VP} (hk:∀F H,K F H→K' F H) (he:∀v H,E v H→E' v H):∀(xs done:List Nat) {F:φ} {H:Hp},
    regG fm P T l st xs done F K E H→regG fm P T l st xs done F K' E' H
  | [],done,F,H,h=>hk _ _ h
  | i :: xs,done,F,H,h=>by
    unfold regG at *
    unfold stepG at *
    split at h
    · exact h.elim
    · refine gateG_mono (fun h=>?_) (fun h=>regG_mono hk he xs _ h) h
      refine Shp_E_mono he (Shp_run_mono (fun v H' hk'=>?_) h)
      rw [spl_iff] at hk' ⊢
      exact stabG_mono (fun h=>regG_mono hk he xs _ h) hk'
theorem stepG_mono {φ:Type} {fm:Fm φ} {l:List Oper} {st:Nat→List Nat} {i:Nat} {C C':φ→Hp→Prop} {E E':VP} (hk:∀F H,C F H→C' F H) (he:∀v H,E v H→E' v H) {done:List Nat} {F:φ} {H:Hp}
    (h:stepG fm P T l st i done F C E H):stepG fm P T l st i done F C' E' H:=by
  unfold stepG at *
  split at h
  · exact h.elim
  · refine gateG_mono (fun h=>?_) (fun h=>hk _ _ h) h
    refine Shp_E_mono he (Shp_run_mono (fun v H' hk'=>?_) h)
    rw [spl_iff] at hk' ⊢
    exact stabG_mono (fun h=>hk _ _ h) hk'
theorem regT_mono {φ:Type} {fm:Fm φ} {l:List Oper} {st:Nat→List Nat} {a:Nat} {cs D:List Nat} {K K':φ→Hp→Prop} {E E':VP} (hk:∀F H,K F H→K' F H) (he:∀v H,E v H→E' v H):∀(M done:List Nat) {F:φ} {H:Hp},
    regT fm P T l st a cs D M done F K E H→regT fm P T l st a cs D M done F K' E' H
  | [],done,F,H,h=>regG_mono hk he _ _ h
  | i :: M,done,F,H,h=>by
    unfold regT at h ⊢
    cases e:hasN cs i with
    | true=>rw [e] at h; exact ⟨regG_mono hk he _ _ h.1,stepG_mono (fun F H h=>regT_mono hk he M _ h) he h.2⟩
    | false=>rw [e] at h; exact stepG_mono (fun F H h=>regT_mono hk he M _ h) he h
theorem regD_mono {id:Nat} {ops:Array Oper} {dr:Bool} {F:Fr × List Nat} {K K':Fr × List Nat→Hp→Prop} {E E':VP} {H:Hp} (hk:∀F H,K F H→K' F H) (he:∀v H,E v H→E' v H)
    (h:regD P T A id ops dr F K E H):regD P T A id ops dr F K' E' H:=by
  unfold regD at *
  split
  · exact regG_mono hk he _ _ h
  · split
    · rename_i e; simp only [e] at h; exact regG_mono hk he _ _ h
    · rename_i e; simp only [e] at h; exact regT_mono hk he _ _ h
theorem codeR_imp:∀(c:Code) (p:List Nat) {Ys:List (FP)} {Q Q':Ex→FP} {F:Fr} {H:Hp},(∀e F H,Q e F H→Q' e F H)→Good P T A ns G c p Ys Q'→codeR P T A ns G c p Q F H→codeM P T A c Q' F H:=by
  intro c
  induction c with
  | skip=>intro p Ys Q Q' F H hq hg h; exact hq _ _ _ h
  | label l=>intro p Ys Q Q' F H hq hg h; exact hq _ _ _ h
  | exit id=>intro p Ys Q Q' F H hq hg h; exact hq _ _ _ h
  | ret=>intro p Ys Q Q' F H hq hg h; exact hq _ _ _ h
  | seq a b iha ihb=>
    intro p Ys Q Q' F H hq hg h
    have hgb:Good P T A ns G b (1 :: p) Ys Q':=hg.sub (fun s=>rfl) (fun s=>rfl)
    have hga:Good P T A ns G a (0 :: p) Ys (thenM (fun F H=>codeM P T A b Q' F H) Q'):=hg.sub (fun s=>rfl) (fun s=>rfl)
    refine iha (0 :: p) (Q':=thenM (fun F H=>codeM P T A b Q' F H) Q') (fun e F H he=>?_) hga h
    cases e with
    | normal=>exact brk_imp hgb (fun hk=>ihb (1 :: p) hq hgb hk) he
    | exit id=>exact hq _ _ _ he
    | ret=>exact hq _ _ _ he
    | pan v=>exact hq _ _ _ he
  | cond x a b iha ihb=>
    intro p Ys Q Q' F H hq hg h
    have hgb:Good P T A ns G b (1 :: p) Ys Q':=hg.sub (fun s=>rfl) (fun s=>rfl)
    have hga:Good P T A ns G a (0 :: p) Ys Q':=hg.sub (fun s=>rfl) (fun s=>rfl)
    simp only [codeR] at h
    simp only [codeM]
    split at h
    · rename_i x e
      rw [e]
      cases x with
      | true=>exact brk_imp hga (fun hk=>iha (0 :: p) hq hga hk) h
      | false=>exact brk_imp hgb (fun hk=>ihb (1 :: p) hq hgb hk) h
    · exact h.elim
  | block id c ih=>
    intro p Ys Q Q' F H hq hg h
    have hgc:Good P T A ns G c (0 :: p) Ys (blkM id Q'):=hg.sub (fun s=>rfl) (fun s=>rfl)
    refine ih (0 :: p) (fun e F H he=>?_) hgc h
    cases e with
    | exit i=>
      simp only [blkM] at he ⊢
      split at he
      · exact hq _ _ _ he
      · exact hq _ _ _ he
    | normal=>exact hq _ _ _ he
    | ret=>exact hq _ _ _ he
    | pan v=>exact hq _ _ _ he
  | region id ops dr=>
    intro p Ys Q Q' F H hq hg h
    exact regD_mono (K:=fun (F:Fr × List Nat) H=>Q .normal F.1 H) (K':=fun F H=>Q' .normal F.1 H) (E:=fun v H=>Q (.pan v) [] H) (E':=fun v H=>Q' (.pan v) [] H) (fun F H=>hq _ F.1 H) (fun v H=>hq _ _ H) h
  | scope c ih=>
    intro p Ys Q Q' F H hq hg h
    exact ih (0 :: p) hq (hg.sub (fun s=>rfl) (fun s=>rfl)) h
  | loop c ih=>
    intro p Ys Q Q' F H hq hg h
    simp only [codeR] at h
    split at h
    · rename_i e; exact hg.here e h
    · exact h.elim
  | _=>intro p Ys Q Q' F H hq hg h; exact h.elim
theorem ctxR_imp:∀(c:Code) (q p:List Nat) {Ys:List (FP)} {Q Q':Ex→FP},pathOk c p Ys.length=true→(∀e F H,Q e F H→Q' e F H)→Good P T A ns G c q Ys Q'→
    (∀e F H,ctxR P T A ns G c q p Ys Q e F H→ctx P T A c p Ys Q' e F H)∧∃Zs,Good P T A ns G (nav c p) (p.reverse++q) Zs (ctx P T A c p Ys Q'):=by
  have hnil:∀(c:Code) (q:List Nat) {Ys:List (FP)} {Q Q':Ex→FP},(∀e F H,Q e F H→Q' e F H)→Good P T A ns G c q Ys Q'→
    (∀e F H,ctxR P T A ns G c q [] Ys Q e F H→ctx P T A c [] Ys Q' e F H)∧∃Zs,Good P T A ns G (nav c []) (([]:List Nat).reverse++q) Zs (ctx P T A c [] Ys Q'):=by
    intro c q Ys Q Q' hq hg
    rw [ctxR_nil,ctx_nil,nav_nil]
    exact ⟨hq,Ys,by simpa using hg⟩
  have hstep:∀{c c':Code} {i:Nat} {q p:List Nat} {Ys Ys':List (FP)} {Q' Q'':Ex→FP} {R R':Ex→FP},nav c (i :: p)=nav c' p→ctx P T A c (i :: p) Ys Q'=ctx P T A c' p Ys' Q''→R=R'→
    ((∀e F H,R' e F H→ctx P T A c' p Ys' Q'' e F H)∧∃Zs,Good P T A ns G (nav c' p) (p.reverse++(i :: q)) Zs (ctx P T A c' p Ys' Q''))→
    (∀e F H,R e F H→ctx P T A c (i :: p) Ys Q' e F H)∧∃Zs,Good P T A ns G (nav c (i :: p)) ((i :: p).reverse++q) Zs (ctx P T A c (i :: p) Ys Q'):=by
    intro c c' i q p Ys Ys' Q' Q'' R R' h1 h2 h3 h
    rw [h1,h2,h3]
    refine ⟨h.1,?_⟩
    obtain ⟨Zs,hz⟩:=h.2
    exact ⟨Zs,by simpa using hz⟩
  intro c
  induction c with
  | seq a b iha ihb=>
    intro q p Ys Q Q' hp hq hg
    match p,hp with
    | [],_=>exact hnil _ _ hq hg
    | 0 :: p,hp=>
      have hgb:Good P T A ns G b (1 :: q) Ys Q':=hg.sub (fun s=>rfl) (fun s=>rfl)
      have hga:Good P T A ns G a (0 :: q) Ys (thenM (fun F H=>codeM P T A b Q' F H) Q'):=hg.sub (fun s=>rfl) (fun s=>rfl)
      exact hstep rfl rfl rfl (iha (0 :: q) p (Q:=thenM (brk A ns G b (1 :: q) (fun F H=>codeR P T A ns G b (1 :: q) Q F H)) Q) (Q':=thenM (fun F H=>codeM P T A b Q' F H) Q') hp (fun e F H he=>by
          cases e with
          | normal=>exact brk_imp hgb (fun hk=>codeR_imp b (1 :: q) hq hgb hk) he
          | exit id=>exact hq _ _ _ he
          | ret=>exact hq _ _ _ he
          | pan v=>exact hq _ _ _ he) hga)
    | 1 :: p,hp=>exact hstep rfl rfl rfl (ihb (1 :: q) p hp hq (hg.sub (fun s=>rfl) (fun s=>rfl)))
    | (i+2) :: p,hp=>cases hp
  | cond x a b iha ihb=>
    intro q p Ys Q Q' hp hq hg
    match p,hp with
    | [],_=>exact hnil _ _ hq hg
    | 0 :: p,hp=>exact hstep rfl rfl rfl (iha (0 :: q) p hp hq (hg.sub (fun s=>rfl) (fun s=>rfl)))
    | 1 :: p,hp=>exact hstep rfl rfl rfl (ihb (1 :: q) p hp hq (hg.sub (fun s=>rfl) (fun s=>rfl)))
    | (i+2) :: p,hp=>cases hp
  | block id c ih=>
    intro q p Ys Q Q' hp hq hg
    match p,hp with
    | [],_=>exact hnil _ _ hq hg
    | 0 :: p,hp=>
      exact hstep rfl rfl rfl (ih (0 :: q) p (Q:=blkM id Q) (Q':=blkM id Q') hp (fun e F H he=>by
        cases e with
        | exit i=>
          simp only [blkM] at he ⊢
          split at he
          · exact hq _ _ _ he
          · exact hq _ _ _ he
        | normal=>exact hq _ _ _ he
        | ret=>exact hq _ _ _ he
        | pan v=>exact hq _ _ _ he) (hg.sub (fun s=>rfl) (fun s=>rfl)))
    | (i+1) :: p,hp=>simp [pathOk] at hp
  | scope c ih=>
    intro q p Ys Q Q' hp hq hg
    match p,hp with
    | [],_=>exact hnil _ _ hq hg
    | 0 :: p,hp=>exact hstep rfl rfl rfl (ih (0 :: q) p hp hq (hg.sub (fun s=>rfl) (fun s=>rfl)))
    | (i+1) :: p,hp=>simp [pathOk] at hp
  | loop c ih=>
    intro q p Ys Q Q' hp hq hg
    match p,Ys,hp with
    | [],_,_=>exact hnil _ _ hq hg
    | 0 :: p,X :: Ys,hp=>
      exact hstep rfl rfl rfl (ih (0 :: q) p (Q:=thenM (fun F H=>X (F.keep (A.lv (hdR c))) H) Q) (Q':=thenM (fun F H=>X (F.keep (A.lv (hdR c))) H) Q') hp (fun e F H he=>by
        cases e with
        | normal=>exact he
        | exit id=>exact hq _ _ _ he
        | ret=>exact hq _ _ _ he
        | pan v=>exact hq _ _ _ he) (hg.sub (fun s=>rfl) (fun s=>rfl)))
    | 0 :: p,[],hp=>cases hp
    | (i+1) :: p,_,hp=>simp [pathOk] at hp
  | _=>
    intro q p Ys Q Q' hp hq hg
    cases p with
    | nil=>exact hnil _ _ hq hg
    | cons i p=>simp [pathOk] at hp
theorem nodeR_imp {code:Code} {ns:List (List Nat)} {p:List Nat} {Xs:List (FP)} {Q:Ex→FP} {F:Fr} {H:Hp} (hok:nodesOk code ns=true) (hp:pathOk code p Xs.length=true)
    (h:nodeR P T A ns (fun q F H=>nodeM P T A code q.reverse Xs Q F H) code p Xs Q F H):nodeM P T A code p Xs Q F H:=by
  have hgood:Good P T A ns (fun q F H=>nodeM P T A code q.reverse Xs Q F H) code [] Xs Q:=by
    intro s F H hs hG
    simp only [List.append_nil] at hs hG
    have hst:=nodesOk_mem hok _ (hasP_mem hs)
    simp only [List.reverse_reverse] at hst hG
    exact (codeM_keep _ hst).1 hG
  obtain ⟨h1,Zs,h2⟩:=ctxR_imp code [] p hp (fun e F H h=>h) hgood
  rw [List.append_nil] at h2
  exact codeR_imp (nav code p) p.reverse h1 h2 h
theorem nodeR_imp2 {code:Code} {ns:List (List Nat)} {p:List Nat} {Xs:List (FP)} {Q:Ex→FP} {F:Fr} {H:Hp} (B:(List Nat→FP)→Prop) (hok:nodesOk code ns=true) (hp:pathOk code p Xs.length=true)
    (k1:∀G,nodeR P T A ns G code p Xs Q F H=B G) (h:B (fun q F H=>nodeM P T A code q.reverse Xs Q F H)):nodeM P T A code p Xs Q F H:=
  nodeR_imp hok hp ((k1 _).mpr h)
end
end Go.Mz

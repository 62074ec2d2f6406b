/-
  Joined: PmC, PmD, PmE, PmF, PmG, PmH, PmI.
-/
import Derived.Test.YtndgjfbibkdokaaPkA04
set_option linter.unusedSimpArgs false
set_option linter.unusedVariables false
/-
  Walks of layer 18: rebasing a knot.
-/
namespace Go.Mz
section
variable {E:VP}
variable {H0 H H':Hp} {Y:PY} {X:KX} {n ne:Nat} {fr to:Nat→Nat} {tw:Nat→Int} {σ σ':KS} {f f1:Nat→Nat} {g g1:Nat→Int} {b v a q:Nat}
theorem RbI.mid (h:Kps n ne fr to σ) (hb:σ.Lv n b) (k:RbI n σ f g b v a q) {i j x:Nat} (hi:i<σ.kn b) (hj:j<σ.kn b) (hne:i≠j) (r1:Rb n (σ.wb f g) f1 g1 (σ.kd b j) x):BasI n (σ.wb f1 g1) (σ.kd b i):=
  BasI.frame (σ:=σ.wb f g) (h.wb (f:=f) (g:=g)) (k.ks i hi) (fun c hc=>r1.bo c (h.kapart hb hi hj hne hc)) r1.bs.nd fun w hw=>r1.mo w (.inl (h.kapart hb hi hj hne hw))
theorem prebase:∀(b:Nat) {H:Hp} {σ:KS} {v:Nat} {K:Hp→Prop},PsM H0 H Y X n ne fr to tw σ→Nds n ne fr to→Kps n ne fr to σ→BasI n σ b→b<σ.m→σ.up b≠-2→v<n→Kin σ.up v b→
    (∀H' f g,PsM H0 H' Y X n ne fr to tw (σ.wb f g)→Rb n σ f g b v→Stp Y X H H'→K H')→Q57.call (some ⟨Y.sb,0,none⟩) (b:Int) (v:Int) E H K:=by
  intro b
  induction b using Nat.strongRecOn with
  | _ b ih=>
    intro H σ v K h hN hK hB hb hu hv hin k
    refine Q57.of (Q57.run_eq ?_)
    unfold Q57.run_t
    simp only [nn_mk,get_at h.cell,gZ,gS,ldI_mk,ldS_mk,Nat.zero_add]
    refine h.pt (by omega) (by omega) fun b2 o2 q2=>?_
    rw [tN] at q2
    refine h.stF (base:=upf σ.base b v) (z:=σ.z) (lab:=σ.lab) (ve:=σ.ve) (vi:=σ.vi) (vo:=σ.vo) (up:=σ.up) q2 hb (show 2+1≤9 by decide) ?_ (fun j hj=>?_) fun H1 h1 s1=>?_
    · simp only [knF,KS.nums,upf_same]; rfl
    · simp only [knF,KS.nums,upf_ne hj]
    replace h1:PsM H0 H1 Y X n ne fr to tw (σ.wb (upf σ.base b v) σ.mb):=h1
    simp only [nn_mk,get_at h1.cell,gZ,gS,ldI_mk,ldS_mk,Nat.zero_add]
    refine bc (fun hlt=>?_) fun hge=>?_
    · have hbn:b<n:=by omega
      have:v=b:=hK.node_in hbn hin
      subst this
      exact k H1 _ _ h1 (Rb.node hK hB.nd hbn) (.k s1)
    · have hn:n≤b:=by omega
      have lv:σ.Lv n b:=⟨hn,hb,hu⟩
      have g1:=h1.get q2 hb
      obtain ⟨kn1,kr,ln1,lr⟩:=h1.kd b hn hb
      have kn1:(X.ks b).n=σ.kn b:=kn1
      have ln1:(X.ls b).n=σ.kn b:=ln1
      have kr:Rdr H1 (X.ks b).p (σ.kn b) (fun i=>(σ.kd b i:Int)):=kr
      have hkm:σ.kn b≤2*n:=(h1.km b hn hb).2
      have hnN:=h1.nN
      simp only [g1.1,ldS_mk]
      refine pkid (b:=b) h1 hK.wb lv hin (by omega) fun a ha hva=>?_
      have ha:a<σ.kn b:=ha
      have hva:Kin σ.up v (σ.kd b a):=hva
      simp only [g1.1,ldS_mk]
      refine ⟨trivial,?_⟩
      rw [kn1]
      refine kr.ixI (by omega) (by omega) ?_
      rw [tN]
      have hka:=hK.kid b a lv ha
      have hBa:BasI n (σ.wb (upf σ.base b v) σ.mb) (σ.kd b a):=
        BasI.frame hK (hB.part (.one hka.2)) (fun c hc=>upf_ne fun e=>by have:=hc.le hK.upg; omega) (fun w hw=>by
          rw [upf_ne (by omega)]; exact hB.nd w hw) fun w _=>rfl
      refine ih _ hka.1 h1 hN hK.wb hBa (hK.up_lt hka.2).1 (by show σ.up (σ.kd b a)≠-2; rw [hka.2]; omega) hv hva fun H2 f g h2 r2 s2=>?_
      have hS:=RbI.start hK hB lv ha hva r2
      replace h2:PsM H0 H2 Y X n ne fr to tw (σ.wb f g):=h2
      have t2:Stp Y X H H2:=(Stp.k s1).trans s2
      obtain ⟨hodd,h3⟩:=hK.odd b lv
      refine Q57.l1_rule (fun s0 k6 at7 n8 i9 H3=>s0=some ⟨Y.sb,0,none⟩∧k6=some ⟨b2,o2,none⟩∧at7=(a:Int)∧n8=(σ.kn b:Int)∧∃(i:Nat) (f:Nat→Nat) (g:Nat→Int),i9=i∧i%2=1∧i≤σ.kn b∧PsM H0 H3 Y X n ne fr to tw (σ.wb f g)∧RbI n σ f g b v a i∧Stp Y X H H3)
        (fun _ _ _ _ i9 _=>σ.kn b-i9.toNat) ?_ ⟨rfl,rfl,rfl,rfl,1,f,g,rfl,rfl,by omega,h2,hS,t2⟩
      clear h2 r2 s2 hS t2 f g h1 g1 kr lr hBa s1
      rintro s0 k6 at7 n8 i9 H3 ⟨rfl,rfl,rfl,rfl,i,f,g,rfl,hio,hik,h3',hS,t3⟩ X1 hX
      refine Q57.b1_eq ?_
      unfold Q57.b1_t
      refine bc (fun hl=>?_) fun hge2=>?_
      · have hl:i<σ.kn b:=by omega
        have gg:=h3'.get q2 hb
        have kd3:=h3'.kd b hn hb
        have ew:IntKind.wrap .i64 ((a:Int)+(i:Int))=((a+i:Nat):Int):=by rw [i64w (by omega) (by omega)]; omega
        have ew1:IntKind.wrap .i64 (((a+i:Nat):Int)+1)=((a+i+1:Nat):Int):=by rw [i64w (by omega) (by omega)]; omega
        rw [ew,ew1,tmodn,tmodn]
        obtain ⟨j,ej⟩:∃j,j=(a+i)%σ.kn b:=⟨_,rfl⟩
        obtain ⟨j',ej'⟩:∃j',j'=(a+i+1)%σ.kn b:=⟨_,rfl⟩
        have hj:j<σ.kn b:=by rw [ej]; exact Nat.mod_lt _ (by omega)
        have hj':j'<σ.kn b:=by rw [ej']; exact Nat.mod_lt _ (by omega)
        have hkz:(σ.kn b:Int)≠0:=by omega
        rw [←ej,←ej']
        have njj:j'≠j:=fun e=>by
          have:=mod_inj (k:=σ.kn b) (a:=a) (r:=i) (s:=i+1) (by omega) (by omega) (by rw [←ej,←Nat.add_assoc,←ej',e])
          omega
        simp only [nn_mk,gg.2.1,ldS_mk]
        refine ⟨hkz,?_⟩
        rw [show (X.ls b).n=σ.kn b from kd3.2.2.1]
        refine Rdr.ix3 kd3.2.2.2 (by omega) (by show (j:Int)<(σ.kn b:Int); omega) fun c3 p3 y1 y2 y3=>?_
        simp only [tN,lkF] at y1 y2 y3
        simp only [y1,y2,y3,ldI_mk]
        refine nwst rfl rfl fun b3 H4 hb3 e3 s4=>?_
        have aw3:=h3'.fresh hb3
        have h4:=h3'.keep0 s4
        have gg4:=h4.get q2 hb
        have kd4:=h4.kd b hn hb
        simp only [nn_mk,gg4.1,get_at e3,gZ,gS,ldI_mk,ldS_mk]
        refine ⟨hkz,?_⟩
        rw [show (X.ks b).n=σ.kn b from kd4.1]
        refine Rdr.ixI kd4.2.1 (by omega) (by show (j:Int)<(σ.kn b:Int); omega) ?_
        rw [tN]
        obtain ⟨l1,l2,l3,l4⟩:=hK.lnk b j lv hj
        have hkj:=hK.kid b j lv hj
        have hkj':=hK.kid b j' lv hj'
        have hs:(j+1)%σ.kn b=j':=by rw [ej,ej',Nat.mod_add_mod]
        rw [hs] at l4
        have hli:=l1.nd hN
        have hlo:σ.lo b j<n:=by rw [l2]; exact l1.ot.nd hN
        refine ih _ hkj.1 (v:=σ.li b j) h4 hN hK.wb (hS.ks j hj) (hK.up_lt hkj.2).1 (by show σ.up (σ.kd b j)≠-2; rw [hkj.2]; omega) hli l3 fun H5 f1 g1 h5 r5 t5=>?_
        replace h5:PsM H0 H5 Y X n ne fr to tw (σ.wb f1 g1):=h5
        have gg5:=h5.get q2 hb
        have kd5:=h5.kd b hn hb
        have e35:=t5.at' e3 aw3
        simp only [nn_mk,gg5.1,get_at e35,gZ,gS,ldI_mk,ldS_mk]
        refine ⟨hkz,?_⟩
        rw [show (X.ks b).n=σ.kn b from kd5.1]
        refine Rdr.ixI kd5.2.1 (by omega) (by show (j':Int)<(σ.kn b:Int); omega) ?_
        rw [tN]
        refine ih _ hkj'.1 (v:=σ.lo b j) h5 hN hK.wb (hS.mid hK lv hj' hj njj r5) (hK.up_lt hkj'.2).1 (by show σ.up (σ.kd b j')≠-2; rw [hkj'.2]; omega) hlo l4 fun H6 f2 g2 h6 r6 t6=>?_
        replace h6:PsM H0 H6 Y X n ne fr to tw (σ.wb f2 g2):=h6
        have e36:=t6.at' e35 aw3
        simp only [nn_mk,get_at h6.cell,get_at e36,gZ,gS,ldI_mk,ldS_mk,Nat.zero_add]
        refine h6.rb.stI (by omega) (Int.ofNat_lt.2 hli) _ fun H7 r7 s7=>?_
        have e37:=s7.keep _ _ e36 fun hh=>aw3.b (fp1 hh)
        simp only [get_at e37,gZ,gS,ldI_mk]
        refine ⟨trivial,trivial,?_⟩
        refine r7.stI (by omega) (Int.ofNat_lt.2 hlo) _ fun H8 r8 s8=>?_
        simp only [tN] at r7 r8
        have h8:PsM H0 H8 Y X n ne fr to tw (σ.wb f2 (upf (upf g2 (σ.li b j) (σ.le b j:Int)) (σ.lo b j) (σ.le b j:Int))):=(h6.setB s7 r7).setB s8 r8
        have hS':=RbI.step hK lv ha hS hio hl (by rw [←ej]; exact r5) (by rw [←ej,←ej']; exact r6)
        rw [←ej] at hS'
        rw [i64w (by omega) (by omega)]
        refine hX _ _ _ _ _ _ ⟨rfl,rfl,rfl,rfl,i+2,f2,_,by omega,by omega,by omega,h8,hS',(((t3.trans (.o s4)).trans (t5.trans t6)).trans (.b s7)).trans (.b s8)⟩ (by omega)
      · exact k H3 f g h3' (hS.fin hK lv ha (by omega)) t3
end
end Go.Mz
/-
  Walks of layer 18: growing a tree, ways back, turning them about.
-/
namespace Go.Mz
section
variable {E:VP}
variable {H0 H H':Hp} {Y:PY} {X:KX} {n ne:Nat} {fr to:Nat→Nat} {tw:Nat→Int} {σ σ':KS} {f f1 fs:Nat→Nat} {g g1 gs:Nat→Int} {a b q u v e:Nat} {R0 R D W:Int} {d:Nat→Nat}
theorem Kps.slt (h:Kps n ne fr to σ) (hv:v<n):σ.surf v<σ.m:=(h.srf v hv).1.1
theorem pgrow {K:Hp→Prop} (h:PsM H0 H Y X n ne fr to tw σ) (G:Gp n ne fr to tw R0 W) (I:Inv n ne fr to tw R0 D σ) (T:Tr n ne fr to tw R σ d) (he:En ne fr to e u) (ht:Tgt fr to tw σ e) (h0:σ.lab (σ.surf u)=0) (h1:σ.lab (σ.surf (ot fr to e u))=1)
    (k:∀(H':Hp) (σ':KS) (d':Nat→Nat),PsM H0 H' Y X n ne fr to tw σ'→Inv n ne fr to tw R0 D σ'→Tr n ne fr to tw R σ' d'→outs σ n+1≤outs σ' n→lives σ'=lives σ→σ'.m=σ.m→σ'.mb=σ.mb→Stp Y X H H'→K H'):Q50.call (some ⟨Y.sb,0,none⟩) (e:Int) (u:Int) (ot fr to e u:Int) E H K:=by
  have hN:=G.nd
  have hK:=I.kp
  have hu:=he.nd hN
  obtain ⟨e',m1,m2,m3,m4,d',T'⟩:=T.grow G I he ht h0 h1
  have hbs:=(hK.srf u hu).1
  have hbw:=I.bsf hbs
  have hx:=m2.ot.nd hN
  refine Q50.of (Q50.run_eq ?_)
  unfold Q50.run_t
  refine nwk fun b1 H1 hb1 e1 s1=>?_
  have p1:=h.keep0 s1
  have aw1:=h.fresh hb1
  simp only [nn_mk,get_at e1,get_at p1.cell,gZ,gS,ldI_mk,ldS_mk,Nat.zero_add]
  refine p1.rf.ixI (by omega) (by omega) ?_
  rw [tN]
  refine pmark p1 (hK.slt hu) fun H2 p2 s2=>?_
  refine pmate (b:=σ.surf u) (e:=e') p2 hN (hK.slt hu) hbw.2.1 m1 m2 fun H3 s3=>?_
  have p3:=p2.keep0 s3
  refine nwst rfl rfl fun b4 H5 hb4 e4 s4=>?_
  have p5:=p3.keep0 s4
  simp only [nn_mk,get_at e4,get_at p5.cell,gZ,gS,ldI_mk,ldS_mk,Nat.zero_add]
  refine p5.rf.ixI (by omega) (Int.ofNat_lt.2 hx) ?_
  rw [tN]
  refine pmark p5 (hK.slt hx) fun H6 p6 s6=>?_
  refine k H6 _ d' p6 (I.mk1.mk1) T' (outs_grow I h0 m3 hx rfl) rfl rfl rfl ((((Stp.o s1).trans s2).trans ((Stp.o s3).trans (.o s4))).trans s6)
def itr (σ:KS) (b:Nat):Nat→Nat
  | 0=>b
  | t+1=>σ.surf (σ.vo (itr σ b t))
theorem Wl.len {p:Nat→Nat} {la:Nat} (G:Gp n ne fr to tw R0 W) (I:Inv n ne fr to tw R0 D σ) (T:Tr n ne fr to tw R σ d) (k:Wl σ p la b) (hb:σ.Sf b) (hl:σ.lab b=1):la+1≤n:=by
  have key:∀j,j≤la+1→((List.range j).map fun t=>σ.base (p t)).Nodup∧∀x∈(List.range j).map fun t=>σ.base (p t),∃t,t<j∧x=σ.base (p t):=by
    intro j
    induction j with
    | zero=>intro _; exact ⟨List.nodup_nil,fun x hx=>by cases hx⟩
    | succ j ih=>
      intro hj
      obtain ⟨i1,i2⟩:=ih (by omega)
      rw [List.range_succ,List.map_append]
      refine ⟨?_,fun x hx=>?_⟩
      · rw [List.nodup_append]
        refine ⟨i1,by simp,fun x hx y hy e=>?_⟩
        obtain ⟨t,ht,ex⟩:=i2 x hx
        simp only [List.map_cons,List.map_nil,List.mem_singleton] at hy
        have s1:=(k.at' G I T hb hl t (by omega)).1
        have s2:=(k.at' G I T hb hl j (by omega)).1
        have:p t=p j:=by
          rw [←(I.bsf s1).2.2,←(I.bsf s2).2.2,←ex,e,hy]
        have:=k.inj G I T hb hl (by omega) (by omega) this
        omega
      · rcases List.mem_append.1 hx with hx | hx
        · obtain ⟨t,ht,ex⟩:=i2 x hx
          exact ⟨t,by omega,ex⟩
        · simp only [List.map_cons,List.map_nil,List.mem_singleton] at hx
          exact ⟨j,by omega,hx⟩
  obtain ⟨k1,k2⟩:=key (la+1) (Nat.le_refl _)
  have:=cnt_list (q:=fun _=>true) (N:=n) k1 fun x hx=>by
    obtain ⟨t,ht,ex⟩:=k2 x hx
    have s1:=(k.at' G I T hb hl t (by omega)).1
    exact ⟨by rw [ex]; exact (I.bsf s1).2.1,rfl⟩
  have h2:=cnt_le (fun _=>true) n
  simp only [List.length_map,List.length_range] at this
  omega
theorem pway {K:OA→Nat→Nat→Hp→Prop} (h:PsM H0 H Y X n ne fr to tw σ) (G:Gp n ne fr to tw R0 W) (I:Inv n ne fr to tw R0 D σ) (T:Tr n ne fr to tw R σ d) (hb:σ.Sf b) (hl:σ.lab b=1)
    (k:∀H' q c la,Step (fun _=>False) H H'→Wl σ (itr σ b) la b→σ.ve (itr σ b la)<0→Row H' q (la+1) c (fun t=>(itr σ b t:Int))→(∀y,fpS q y→H y=none)→K q (la+1) c H'):Q51.call (some ⟨Y.sb,0,none⟩) (b:Int) E H K:=by
  refine Q51.of (Q51.run_eq ?_)
  unfold Q51.run_t
  refine nwk fun b1 H1 hb1 e1 s1=>?_
  refine Q51.l1_rule (fun s0 c' op on oc H2=>s0=some ⟨Y.sb,0,none⟩∧∃t:Nat,c'=(itr σ b t:Int)∧on=t+1∧Wl σ (itr σ b) t b∧Row H2 op (t+1) oc (fun t=>(itr σ b t:Int))∧(∀y,fpS op y→H y=none)∧Step (fun _=>False) H H2)
    (fun _ c' _ _ _ _=>d c'.toNat) ?_ ⟨rfl,0,rfl,rfl,⟨rfl,fun t ht=>by omega⟩,(row_lsp e1 rfl).congr fun i hi=>by rw [show i=0 by omega]; rfl,fun y hy=>fp1 hy▸hb1,s1⟩
  rintro s0 c' op on oc H2 ⟨rfl,t,rfl,rfl,hW,r2,f2,s2⟩ X1 hX
  have p2:=h.keep0 s2
  have hnN:=h.nN
  have hlen:=hW.len G I T hb hl
  have hsf:=(hW.at' G I T hb hl t (Nat.le_refl _)).1
  have hlt:=hsf.1
  refine Q51.b1_eq ?_
  unfold Q51.b1_t
  simp only [nn_mk,get_at p2.cell,gZ,gS,ldI_mk,ldS_mk,Nat.zero_add]
  refine p2.pt (by omega) (by omega) fun b2 o2 q2=>?_
  rw [tN] at q2
  simp only [(p2.get q2 hlt).2.2.2.2.2.1,ldI_mk]
  refine bc (fun hge=>?_) fun hneg=>?_
  · obtain ⟨e,a1,a2,a3,a4,a5,a6,a7,_⟩:=T.via G I hsf (hW.lab G I T hb hl (Nat.le_refl _)) hge
    refine p2.pt (by omega) (by omega) fun b5 o5 q5=>?_
    rw [tN] at q5
    simp only [(p2.get q5 hlt).2.2.2.2.2.2.2.1,ldI_mk]
    refine p2.rf.ixI (by omega) (by omega) ?_
    rw [tN]
    refine r2.appI _ (by omega) fun p3 c3 H3 r3 s3 f3=>?_
    refine hX _ _ _ _ _ _ ⟨rfl,t+1,rfl,rfl,⟨rfl,fun s hs=>?_⟩,r3.congr fun i hi=>?_,fun y hy=>?_,s2.own s3 f2⟩ (by rw [tN,tN]; exact a7)
    · by_cases e:s=t
      · rw [e]; exact ⟨hge,rfl⟩
      · exact hW.nx s (by omega)
    · by_cases e:i=t+1
      · rw [e,upf_same]; rfl
      · rw [upf_ne e]
    · rcases f3 y hy with hh | hh
      · exact f2 y hh
      · exact s2.none_at hh
  · exact k H2 _ _ t s2 hW (by omega) r2 f2
theorem pturn {x:Nat→Prop} {v0 e0 r:Nat} {K:Hp→Prop} (h:PsM H0 H Y X n ne fr to tw (σ.wb f g)) (G:Gp n ne fr to tw R0 W) (I:Inv n ne fr to tw R0 D σ) (T:Tr n ne fr to tw R σ d) (hx:∀w,x w→w=v0) (Z:Tun n ne fr to tw σ d x fs gs v0 e0 r f g v e)
    (k:∀H' f' g',PsM H0 H' Y X n ne fr to tw (σ.wb f' g')→Tuz n ne fr to tw σ x fs gs v0 e0 r f' g'→Stp Y X H H'→K H'):Q53.call (some ⟨Y.sb,0,none⟩) (v:Int) (e:Int) E H K:=by
  have hN:=G.nd
  have hK:=I.kp
  refine Q53.of (Q53.run_eq ?_)
  unfold Q53.run_t
  refine Q53.l1_rule (fun s0 v' e' H1=>s0=some ⟨Y.sb,0,none⟩∧∃(v e:Nat) (f:Nat→Nat) (g:Nat→Int),v'=v∧e'=e∧PsM H0 H1 Y X n ne fr to tw (σ.wb f g)∧Tun n ne fr to tw σ d x fs gs v0 e0 r f g v e∧Stp Y X H H1)
    (fun _ v' _ _=>d (σ.surf v'.toNat)) ?_ ⟨rfl,v,e,f,g,rfl,rfl,h,Z,.refl⟩
  clear h Z
  rintro s0 v' e' H1 ⟨rfl,v,e,f,g,rfl,rfl,h1,Z,t1⟩ X1 hX
  have hv:=Z.vn
  obtain ⟨sb,hvb⟩:=hK.srf v hv
  refine Q53.b1_eq ?_
  unfold Q53.b1_t
  simp only [nn_mk,get_at h1.cell,gZ,gS,ldI_mk,ldS_mk,Nat.zero_add]
  refine h1.rf.ixI (by omega) (by omega) ?_
  rw [tN]
  refine h1.pt (by omega) (Int.ofNat_lt.2 sb.1) fun b4 o4 q4=>?_
  rw [tN] at q4
  have g4:=h1.get q4 sb.1
  simp only [g4.2.2.2.2.2.1,g4.2.2.2.2.2.2.1,g4.2.2.2.2.2.2.2.1,ldI_mk]
  refine nwst rfl rfl fun b5 H2 hb5 e5 s2=>?_
  have h2:=h1.keep0 s2
  have aw5:=h1.fresh hb5
  refine prebase _ h2 hN hK.wb (Z.ba.at' _) sb.1 (by show σ.up (σ.surf v)≠-2; rw [sb.2]; omega) hv hvb fun H3 f1 g1 h3 r3 s3=>?_
  replace h3:PsM H0 H3 Y X n ne fr to tw (σ.wb f1 g1):=h3
  have e53:=s3.at' e5 aw5
  simp only [nn_mk,get_at h3.cell,gZ,gS,ldI_mk,ldS_mk,Nat.zero_add]
  refine h3.rb.stI (by omega) (by omega) _ fun H4 r4 s4=>?_
  rw [tN] at r4
  have h4:PsM H0 H4 Y X n ne fr to tw (σ.wb f1 (upf g1 v (e:Int))):=h3.setB s4 r4
  have e54:=s4.keep _ _ e53 fun hh=>aw5.b (fp1 hh)
  have tc:=Rb.tch (e:=e) hK Z.ba sb hv hvb r3
  simp only [nn_mk,get_at e54,get_at h4.cell,gZ,gS,ldI_mk,ldS_mk,Nat.zero_add]
  have t4:Stp Y X H H4:=((t1.trans (.o s2)).trans s3).trans (.b s4)
  refine bc (fun hneg=>?_) fun hpos=>?_
  · exact k H4 _ _ h4 (Z.fin G I T hneg tc) t4
  · have hve:0≤σ.ve (σ.surf v):=by
      have:¬(σ.wb f g).ve (σ.surf v)<0:=hpos
      have:¬σ.ve (σ.surf v)<0:=this
      omega
    obtain ⟨e1,e2,a1,a2,a3,a4,a5,st,a6,a7,a8,a9,k1,k2,k3,k4,k5,k6,k7⟩:=Tun.on G I T sb Z.lb hve
    refine h4.rf.ixI (by omega) (Int.ofNat_lt.2 a5) ?_
    rw [tN]
    refine h4.pt (by omega) (Int.ofNat_lt.2 st.1) fun b11 o11 q11=>?_
    rw [tN] at q11
    have g11:=h4.get q11 st.1
    simp only [g11.2.2.2.2.2.1,g11.2.2.2.2.2.2.1,g11.2.2.2.2.2.2.2.1,ldI_mk]
    refine nwst rfl rfl fun b12 H6 hb12 e12 s6=>?_
    have h6:=h4.keep0 s6
    have aw12:=h4.fresh hb12
    simp only [get_at e12,gZ,gS,ldI_mk]
    refine prebase _ h6 hN hK.wb (tc.ba.at' _) st.1 (by show σ.up (σ.surf (σ.vo (σ.surf v)))≠-2; rw [st.2]; omega) (k2.nd hN) k4 fun H7 f3 g3 h7 r7 s7=>?_
    replace h7:PsM H0 H7 Y X n ne fr to tw (σ.wb f3 g3):=h7
    have e127:=s7.at' e12 aw12
    simp only [nn_mk,get_at h7.cell,get_at e127,gZ,gS,ldI_mk,ldS_mk,Nat.zero_add]
    refine h7.rb.stI (by omega) (Int.ofNat_lt.2 (k2.nd hN)) _ fun H8 r8 s8=>?_
    rw [tN] at r8
    have tc2:=Rb.tch (e:=e2) hK tc.ba st (k2.nd hN) k4 r7
    have r8:Row H8 (some ⟨Y.bb,0,none⟩) n n (upf g3 (σ.vi (σ.surf (σ.vo (σ.surf v)))) (σ.ve (σ.surf (σ.vo (σ.surf v))))):=r8
    rw [k1] at r8
    have h8:PsM H0 H8 Y X n ne fr to tw (σ.wb f3 (upf g3 (σ.vi (σ.surf (σ.vo (σ.surf v)))) (e2:Int))):=h7.setB s8 r8
    have e128:=s8.keep _ _ e127 fun hh=>aw12.b (fp1 hh)
    simp only [get_at e128,gZ,gS,ldI_mk]
    have Z':=Z.step G I T hx hve k1 tc tc2
    refine hX _ _ _ _ ⟨rfl,_,e2,_,_,rfl,k1,h8,Z',((t4.trans (.o s6)).trans s7).trans (.b s8)⟩ ?_
    rw [tN]
    show d (σ.surf (σ.vo (σ.surf (σ.vo (σ.surf v)))))<d (σ.surf v)
    omega
end
end Go.Mz
/-
  Walks of layer 18: an odd circle is one knot.
-/
namespace Go.Mz
section
variable {E:VP}
variable {H0 H H':Hp} {Y:PY} {X:KX} {n ne:Nat} {fr to:Nat→Nat} {tw:Nat→Int} {σ σ':KS} {a b u v e i la lb:Nat} {R0 R D W:Int} {d:Nat→Nat} {p q:Nat→Nat}
theorem Row.app3 {H:Hp} {p:OA} {n c:Nat} {f:Nat→Thr} (h:Row H p n c f) {e:TypeId} {t:BT} (x y z:Int) {K:OA→Nat→Nat→Hp→Prop} (hn:n≤1048576)
    (k:∀p' c' H',Row H' p' (n+1) c' (upf f n (x,y,z))→Step (fpS p) H H'→(∀b,fpS p' b→fpS p b∨H b=none)→K p' (n+1) c' H') :
    nw H ⟨[.int .i64 x,.int .i64 y,.int .i64 z],t⟩ fun b H'=>appM e [.i .i64,.i .i64,.i .i64] 24 p n c (some ⟨b,0,none⟩) 1 H' K:=h.app (α:=Thr) (x,y,z) rfl hn (by decide) k
theorem PsM.add {H2 H3:Hp} {p':OA} {c' K:Nat} {sk sl:Sl} {kd' le li lo:Nat→Nat} {ba vi vo:Nat} {z lab ve up:Int} (h:PsM H0 H Y X n ne fr to tw σ) (hnm:n≤σ.m)
    (s2:Step (fpS X.kp) H H2) (r2:Row H2 p' (σ.m+1) c' (upf (knF X σ) σ.m ⟨sk,sl,ba,z,lab,ve,vi,vo,up⟩)) (f2:∀y,fpS p' y→fpS X.kp y∨H y=none)
    (s3:Step (·=Y.sb) H2 H3) (e3:H3 Y.sb=some ⟨[.int .i64 (n:Int),.slice Y.ep ne Y.ec,.slice (some ⟨Y.yb,0,none⟩) n n,.slice (some ⟨Y.bb,0,none⟩) n n,.slice p' (σ.m+1) c',.slice (some ⟨Y.fb,0,none⟩) n n],112⟩)
    (hk:sk.n=K) (rk:Rdr H sk.p K (fun i=>(kd' i:Int))) (hl:sl.n=K) (rl:Rdr H sl.p K (fun i=>(((le i:Int),(li i:Int),(lo i:Int)):Thr))) (ak:∀y,fpS sk.p y→AwP Y X y) (al:∀y,fpS sl.p y→AwP Y X y) (hK:0<K∧K≤2*n) (hlt:∀i,i<K→kd' i<σ.m) :
    PsM H0 H3 Y ⟨p',c',upf X.ks σ.m sk,upf X.ls σ.m sl⟩ n ne fr to tw { σ with m:=σ.m+1,kn:=upf σ.kn σ.m K,kd:=upf σ.kd σ.m kd',le:=upf σ.le σ.m le,li:=upf σ.li σ.m li,lo:=upf σ.lo σ.m lo,base:=upf σ.base σ.m ba,z:=upf σ.z σ.m z,lab:=upf σ.lab σ.m lab,ve:=upf σ.ve σ.m ve,vi:=upf σ.vi σ.m vi,vo:=upf σ.vo σ.m vo,up:=upf σ.up σ.m up }:=by
  have hp':∀y,fpS p' y→H0 y=none∧y≠Y.sb∧y≠Y.yb∧y≠Y.bb∧y≠Y.fb:=fun y hy=>by
    rcases f2 y hy with hh | hh
    · exact h.fk y hh
    · have:=h.fresh hh
      exact ⟨h.st.none_at hh,this.s,this.y,this.b,this.f⟩
  have aw:∀y,AwP Y X y→H y≠none→AwP Y ⟨p',c',upf X.ks σ.m sk,upf X.ls σ.m sl⟩ y:=fun y ha hy=>⟨ha.s,ha.y,ha.b,ha.f,fun hh=>by
    rcases f2 y hh with h1 | h1
    · exact ha.k h1
    · exact hy h1⟩
  have big:∀{α:Type} [El α] {sp:OA} {k:Nat} {f:Nat→α},Rdr H sp k f→(∀y,fpS sp y→AwP Y X y)→Rdr H3 sp k f:=fun r hr=>(r.keep s2 fun y hy _ hh=>(hr y hy).k hh).keep s3 fun y hy _ hh=>(hr y hy).s hh
  have e1:∀{α:Type} (f:Nat→α) (x:α) {b:Nat},b<σ.m→upf f σ.m x b=f b:=fun f x b hb=>upf_ne (by omega)
  refine ⟨(h.st.own s2 fun y hy=>(h.fk y hy).1).own s3 fun y hy=>hy▸h.f1,h.he,e3,?_,?_,?_,?_,fun b h1 h2=>?_,fun b h1 h2=>?_,fun b i h1 h2 h3=>?_,fun b h1 h2=>?_,h.f1,h.f2,h.f3,h.f4,hp',h.d1,h.d2,h.d3,h.d4,h.d5,h.d6,h.nN,h.nE⟩
  · exact (h.ry.keep s2 fun y hy hh=>(h.fk y hh).2.2.1 (fp1 hy)).keep s3 fun y hy hh=>h.d1 (hh.symm.trans (fp1 hy))
  · exact (h.rb.keep s2 fun y hy hh=>(h.fk y hh).2.2.2.1 (fp1 hy)).keep s3 fun y hy hh=>h.d2 (hh.symm.trans (fp1 hy))
  · exact (h.rf.keep s2 fun y hy hh=>(h.fk y hh).2.2.2.2 (fp1 hy)).keep s3 fun y hy hh=>h.d3 (hh.symm.trans (fp1 hy))
  · refine (r2.keep s3 fun y hy hh=>(hp' y hy).2.1 hh).congr fun j hj=>?_
    by_cases ej:j=σ.m
    · subst ej
      simp only [knF,upf_same]
    · simp only [knF,upf_ne ej]
  · have h2:b<σ.m+1:=h2
    by_cases eb:b=σ.m
    · subst eb
      simp only [upf_same]
      refine ⟨hk,big rk ak,hl,?_⟩
      have:=big rl al
      refine fun j hj=>?_
      obtain ⟨b',o',e',hg⟩:=this j hj
      refine ⟨b',o',e',fun t ht=>?_⟩
      rw [hg t ht]
      simp only [lkF,upf_same]
    · simp only [upf_ne eb]
      obtain ⟨d1,d2,d3,d4⟩:=h.kd b h1 (by omega)
      refine ⟨d1,big d2 (h.ka b h1 (by omega)).1,d3,?_⟩
      have:=big d4 (h.ka b h1 (by omega)).2
      refine fun j hj=>?_
      obtain ⟨b',o',e',hg⟩:=this j hj
      refine ⟨b',o',e',fun t ht=>?_⟩
      rw [hg t ht]
      simp only [lkF,upf_ne eb]
  · have h2:b<σ.m+1:=h2
    by_cases eb:b=σ.m
    · subst eb
      simp only [upf_same]
      exact ⟨fun y hy=>aw y (ak y hy) (rk.live hy hK.1),fun y hy=>aw y (al y hy) (rl.live hy hK.1)⟩
    · simp only [upf_ne eb]
      have hkm:=(h.km b h1 (by omega)).1
      exact ⟨fun y hy=>aw y ((h.ka b h1 (by omega)).1 y hy) ((h.kd b h1 (by omega)).2.1.live hy hkm),fun y hy=>aw y ((h.ka b h1 (by omega)).2 y hy) ((h.kd b h1 (by omega)).2.2.2.live hy hkm)⟩
  · have h2:b<σ.m+1:=h2
    by_cases eb:b=σ.m
    · subst eb
      simp only [upf_same] at h3 ⊢
      exact hlt i h3
    · simp only [upf_ne eb] at h3 ⊢
      exact h.kl b i h1 (by omega) h3
  · have h2:b<σ.m+1:=h2
    by_cases eb:b=σ.m
    · subst eb
      simp only [upf_same]
      exact hK
    · simp only [upf_ne eb]
      exact h.km b h1 (by omega)
theorem PsM.congF {g:Nat→Nat} (h:PsM H0 H Y X n ne fr to tw σ) (e:∀v,v<n→g v=σ.surf v):PsM H0 H Y X n ne fr to tw { σ with surf:=g }:=
  ⟨h.st,h.he,h.cell,h.ry,h.rb,h.rf.congr fun v hv=>by
    show ((σ.surf v:Nat):Int)=((g v:Nat):Int)
    rw [e v hv],h.rk,h.kd,h.ka,h.kl,h.km,h.f1,h.f2,h.f3,h.f4,h.fk,h.d1,h.d2,h.d3,h.d4,h.d5,h.d6,h.nN,h.nE⟩
structure ShJ (H Hc:Hp) (kb:Nat) (kp:OA) (kn kc:Nat) (lp:OA) (ln lc:Nat) (ba z la ve vi vo up:Int) (fk:Nat→Int) (fl:Nat→Thr):Prop where
  st:Step (fun _=>False) H Hc
  cell:Hc kb=some ⟨[.slice kp kn kc,.slice lp ln lc,.int .i64 ba,.int .i64 z,.int .i64 la,.int .i64 ve,.int .i64 vi,.int .i64 vo,.int .i64 up],117⟩
  rk:Row Hc kp kn kc fk
  rl:Row Hc lp ln lc fl
  nb:H kb=none
  nk:∀y,fpS kp y→H y=none∧y≠kb
  nl:∀y,fpS lp y→H y=none∧y≠kb∧¬fpS kp y
section
variable {Hc:Hp} {kb:Nat} {kp lp:OA} {kn kc ln lc:Nat} {ba z lab ve vi vo up:Int} {fk:Nat→Int} {fl:Nat→Thr}
theorem ShJ.keep0 {H2:Hp} (J:ShJ H Hc kb kp kn kc lp ln lc ba z lab ve vi vo up fk fl) (s:Step (fun _=>False) Hc H2):ShJ H H2 kb kp kn kc lp ln lc ba z lab ve vi vo up fk fl:=
  ⟨J.st.trans s fun _ h=>h.elim,s.keep _ _ J.cell fun h=>h,J.rk.keep s fun _ _ h=>h,J.rl.keep s fun _ _ h=>h,J.nb,J.nk,J.nl⟩
theorem ShJ.kid {x:Int} {t:BT} {K:Hp→Prop} (J:ShJ H Hc kb kp kn kc lp ln lc ba z lab ve vi vo up fk fl) (hn:kn≤1048576)
    (k:∀H2 kp' kc',ShJ H H2 kb kp' (kn+1) kc' lp ln lc ba z lab ve vi vo up (upf fk kn x) fl→K H2) :
    nw Hc ⟨[.int .i64 x],t⟩ fun b2 H1=>appM 3 [.i .i64] 8 kp kn kc (some ⟨b2,0,none⟩) 1 H1 fun ap an ac H2=>stC H2 kb 0 [.slice ap an ac] K:=by
  refine J.rk.appI x hn fun p' c' H1 r1 s1 f1=>?_
  have n1:∀y,fpS p' y→H y=none∧y≠kb:=fun y hy=>by
    rcases f1 y hy with hh | hh
    · exact J.nk y hh
    · exact ⟨J.st.none_at hh,fun e=>by rw [e,J.cell] at hh; cases hh⟩
  have e1:=s1.keep _ _ J.cell fun hh=>(J.nk _ hh).2 rfl
  refine stp e1 (by simp) rfl fun H2 e2 s2=>k H2 p' c' ⟨(J.st.own s1 fun y hy=>(J.nk y hy).1).own s2 fun y hy=>hy▸J.nb,e2,r1.keep s2 fun y hy hh=>(n1 y hy).2 hh,(J.rl.keep s1 fun y hy hh=>(J.nl y hy).2.2 hh).keep s2 fun y hy hh=>(J.nl y hy).2.1 hh,J.nb,n1,fun y hy=>⟨(J.nl y hy).1,(J.nl y hy).2.1,fun hh=>?_⟩⟩
  rcases f1 y hh with h1 | h1
  · exact (J.nl y hy).2.2 h1
  · exact J.rl.live hy h1
theorem ShJ.link {x y z':Int} {t:BT} {K:Hp→Prop} (J:ShJ H Hc kb kp kn kc lp ln lc ba z lab ve vi vo up fk fl) (hn:ln≤1048576)
    (k:∀H2 lp' lc',ShJ H H2 kb kp kn kc lp' (ln+1) lc' ba z lab ve vi vo up fk (upf fl ln (x,y,z'))→K H2) :
    nw Hc ⟨[.int .i64 x,.int .i64 y,.int .i64 z'],t⟩ fun b2 H1=>appM 115 [.i .i64,.i .i64,.i .i64] 24 lp ln lc (some ⟨b2,0,none⟩) 1 H1 fun ap an ac H2=>stC H2 kb 1 [.slice ap an ac] K:=by
  refine J.rl.app3 x y z' hn fun p' c' H1 r1 s1 f1=>?_
  have n1:∀y,fpS p' y→H y=none∧y≠kb∧¬fpS kp y:=fun y hy=>by
    rcases f1 y hy with hh | hh
    · exact J.nl y hh
    · exact ⟨J.st.none_at hh,fun e=>(by rw [e,J.cell] at hh; cases hh),fun h'=>J.rk.live h' hh⟩
  have e1:=s1.keep _ _ J.cell fun hh=>(J.nl _ hh).2.1 rfl
  refine stp e1 (by simp) rfl fun H2 e2 s2=>k H2 p' c' ⟨(J.st.own s1 fun y hy=>(J.nl y hy).1).own s2 fun y hy=>hy▸J.nb,e2,(J.rk.keep s1 fun y hy hh=>(J.nl y hh).2.2 hy).keep s2 fun y hy hh=>(J.nk y hy).2 hh,r1.keep s2 fun y hy hh=>(n1 y hy).2.1 hh,J.nb,J.nk,n1⟩
end
end
end Go.Mz
/-
  Walks of layer 18: an odd circle is one knot, walked whole.
-/
namespace Go.Mz
section
variable {E:VP}
variable {H0 H Hc:Hp} {Y:PY} {X:KX} {n ne:Nat} {fr to:Nat→Nat} {tw:Nat→Int} {σ σ':KS} {a b u v e i la lb:Nat} {R0 R D W:Int} {d:Nat→Nat} {p q:Nat→Nat}
variable {kb:Nat} {kp lp:OA} {kc lc:Nat}
def shL (σ:KS) (p q:Nat→Nat) (la i u v t:Nat):Thr:=((shE σ p q la i t:Int),(shI σ p q la u t:Int),(shO σ p q la v t:Int))
open Classical in
noncomputable def shU (σ:KS) (p q:Nat→Nat) (la:Nat) (j x:Nat):Int:=if ∃t,t<j∧shK p q la t=x then (σ.m:Int) else upf σ.up σ.m (-1) x
theorem shU_zero:shU σ p q la 0=upf σ.up σ.m (-1):=by
  funext x
  unfold shU
  exact if_neg fun ⟨t,ht,_⟩=>by omega
theorem shU_succ {j:Nat}:shU σ p q la (j+1)=upf (shU σ p q la j) (shK p q la j) (σ.m:Int):=by
  funext x
  by_cases e:x=shK p q la j
  · rw [e,upf_same]
    unfold shU
    exact if_pos ⟨j,by omega,rfl⟩
  · rw [upf_ne e]
    unfold shU
    by_cases hx:∃t,t<j∧shK p q la t=x
    · obtain ⟨t,ht,et⟩:=hx
      rw [if_pos ⟨t,by omega,et⟩,if_pos ⟨t,ht,et⟩]
    · rw [if_neg hx,if_neg fun ⟨t,ht,et⟩=>hx ⟨t,by
        have:t≠j:=fun e'=>e (by rw [←et,e'])
        omega,et⟩]
theorem shU_full {v:Nat} (F:Cyf n ne fr to tw σ d p q la lb i u) (h:Kps n ne fr to σ):shU σ p q la (la+lb+1)=(σ.shr p q la lb i u v).up:=by
  funext x
  by_cases hx:InC p q la lb x
  · have:=F.lt h hx
    rw [shr_up_in (by omega) hx]
    unfold shU
    exact if_pos hx
  · have e1:shU σ p q la (la+lb+1) x=upf σ.up σ.m (-1) x:=by
      unfold shU
      exact if_neg hx
    rw [e1]
    by_cases e:x=σ.m
    · rw [e,upf_same,shr_up_m]
    · rw [upf_ne e,shr_up_out e hx]
theorem pshr4 {K:Hp→Prop} (h:PsM H0 H Y X n ne fr to tw σ) (G:Gp n ne fr to tw R0 W) (I:Inv n ne fr to tw R0 D σ) (T:Tr n ne fr to tw R σ d) (F:Cyf n ne fr to tw σ d p q la lb i u) (hm:σ.m≤1048576) (hlen:la+lb+1≤2*n)
    (J:ShJ H Hc kb kp (la+lb+1) kc lp (la+lb+1) lc (σ.base (p la)) 0 1 (σ.ve (p la)) (σ.vi (p la)) (σ.vo (p la)) (-1) (fun t=>(shK p q la t:Int)) (shL σ p q la i u (ot fr to i u)))
    (k:∀H' X',PsM H0 H' Y X' n ne fr to tw (σ.shr p q la lb i u (ot fr to i u))→K H'):Q52.j4 (some ⟨Y.sb,0,none⟩) kb E Hc K:=by
  have hK:=I.kp
  have hnm:=hK.nm
  have hc:=h.keep0 J.st
  have hnN:=h.nN
  refine Q52.j4_eq ?_
  unfold Q52.j4_t
  simp only [nn_mk,get_at hc.cell,get_at J.cell,gZ,gS,ldI_mk,ldS_mk,Nat.zero_add]
  have aw:∀y,H y=none→AwP Y X y:=fun y hy=>h.fresh hy
  refine Row.app (α:=Kn) hc.rk (⟨⟨kp,la+lb+1,kc⟩,⟨lp,la+lb+1,lc⟩,σ.base (p la),0,1,σ.ve (p la),σ.vi (p la),σ.vo (p la),-1⟩:Kn) rfl hm (by decide) fun p2 c2 H2 r2 s2 f2=>?_
  have cell2:=s2.keep _ _ hc.cell fun hh=>(hc.fk _ hh).2.1 rfl
  refine stp cell2 (by simp) rfl fun H3 e3 s3=>?_
  have e3:H3 Y.sb=some ⟨[.int .i64 (n:Int),.slice Y.ep ne Y.ec,.slice (some ⟨Y.yb,0,none⟩) n n,.slice (some ⟨Y.bb,0,none⟩) n n,.slice p2 (σ.m+1) c2,.slice (some ⟨Y.fb,0,none⟩) n n],112⟩:=e3
  have h3:=hc.add (kd':=shK p q la) (le:=shE σ p q la i) (li:=shI σ p q la u) (lo:=shO σ p q la (ot fr to i u)) (K:=la+lb+1) hnm s2 r2 f2 s3 e3 rfl J.rk.rdr rfl J.rl.rdr (fun y hy=>aw y (J.nk y hy).1) (fun y hy=>aw y (J.nl y hy).1) ⟨by omega,hlen⟩ fun t ht=>F.lt hK ⟨t,ht,rfl⟩
  have awk:AwP Y ⟨p2,c2,upf X.ks σ.m ⟨kp,la+lb+1,kc⟩,upf X.ls σ.m ⟨lp,la+lb+1,lc⟩⟩ kb:=by
    have a1:=aw kb J.nb
    refine ⟨a1.s,a1.y,a1.b,a1.f,fun hh=>?_⟩
    rcases f2 kb hh with h1 | h1
    · exact a1.k h1
    · rw [J.cell] at h1; cases h1
  have ek3:H3 kb=some ⟨_,117⟩:=s3.keep _ _ (s2.keep _ _ J.cell fun hh=>(aw kb J.nb).k hh) fun hh=>(aw kb J.nb).s hh
  generalize hX':(⟨p2,c2,upf X.ks σ.m ⟨kp,la+lb+1,kc⟩,upf X.ls σ.m ⟨lp,la+lb+1,lc⟩⟩:KX)=X' at h3 awk
  have hks:X'.ks σ.m=⟨kp,la+lb+1,kc⟩:=by rw [←hX']; exact upf_same
  have em:IntKind.wrap .i64 (((σ.m+1:Nat):Int)-1)=(σ.m:Int):=by rw [i64w (by omega) (by omega)]; omega
  have hkl:∀c t,n≤c→c<σ.m+1→t<(upf σ.kn σ.m (la+lb+1)) c→(upf σ.kd σ.m (shK p q la)) c t<c:=h3.kl
  simp only [nn_mk,get_at e3,gZ,gS,ldI_mk,ldS_mk,Nat.zero_add]
  rw [em]
  have I':=I.shr G T F
  have hnd:=nd_mem (σ:=σ.shr p q la lb i u (ot fr to i u)) I'.kp hkl σ.m (by show σ.m<σ.m+1; omega) (by rw [shr_up_m]; omega)
  have hndl:=nd_len (σ:=σ.shr p q la lb i u (ot fr to i u)) I'.kp hkl (b:=σ.m) (by show σ.m<σ.m+1; omega) (by rw [shr_up_m]; omega)
  refine psurface (b:=σ.m) h3 (by show σ.m<σ.m+1; omega) (Nat.le_trans hndl hnN) (fun w hw=>((hnd w).1 hw).1) fun H4 h4 t4=>?_
  have ek4:=t4.at' ek3 awk
  simp only [get_at ek4,gZ,gS,ldI_mk,ldS_mk,Nat.zero_add]
  have h4':=h4.congF (g:=(σ.shr p q la lb i u (ot fr to i u)).surf) fun w hw=>by
    show (σ.shr p q la lb i u (ot fr to i u)).surf w=if w∈nd n (σ.shr p q la lb i u (ot fr to i u)) σ.m then σ.m else σ.surf w
    by_cases hin:InC p q la lb (σ.surf w)
    · rw [shr_sf_in hin,if_pos ((hnd w).2 ⟨hw,(F.kin_m hK hw).2 hin⟩)]
    · rw [shr_sf_out hin,if_neg fun hh=>hin ((F.kin_m hK hw).1 ((hnd w).1 hh).2)]
  have h5:PsM H0 H4 Y X' n ne fr to tw { σ.shr p q la lb i u (ot fr to i u) with up:=shU σ p q la 0 }:=by
    refine h4'.eq ?_
    rw [shU_zero]
    unfold KS.shr
    simp only [KS.mk.injEq,true_and,and_true]
    funext x
    by_cases e:x=σ.m
    · rw [e,upf_same,upf_same]
    · rw [upf_ne e]
  clear h4' h4 h3
  refine Q52.l4_rule (fun s0 id tp tn tc t173 t174 H5=>s0=some ⟨Y.sb,0,none⟩∧id=(σ.m:Int)∧tp=kp∧tn=la+lb+1∧t173=((la+lb+1:Nat):Int)∧∃j:Nat,t174=j∧j≤la+lb+1∧PsM H0 H5 Y X' n ne fr to tw { σ.shr p q la lb i u (ot fr to i u) with up:=shU σ p q la j })
    (fun _ _ _ _ _ _ t174 _=>la+lb+1-t174.toNat) ?_ ⟨rfl,rfl,rfl,rfl,rfl,0,rfl,Nat.zero_le _,h5⟩
  rintro s0 id tp tn tc t173 t174 H5 ⟨rfl,rfl,rfl,rfl,rfl,j,rfl,hj,h5⟩ X1 hX
  refine Q52.b4_eq ?_
  unfold Q52.b4_t
  refine bc (fun hl=>?_) fun hge=>?_
  · have hl:j<la+lb+1:=by omega
    have kd:=h5.kd σ.m hnm (by show σ.m<σ.m+1; omega)
    rw [hks] at kd
    have kr:Rdr H5 tp (la+lb+1) (fun t=>(shK p q la t:Int)):=by
      have k2:=kd.2.1
      have ekn:({ σ.shr p q la lb i u (ot fr to i u) with up:=shU σ p q la j }:KS).kn σ.m=la+lb+1:=upf_same
      have ekd:({ σ.shr p q la lb i u (ot fr to i u) with up:=shU σ p q la j }:KS).kd σ.m=shK p q la:=upf_same
      rw [ekn,ekd] at k2
      exact k2
    refine kr.ixI (by omega) (by omega) ?_
    rw [tN]
    have hkm:=F.lt hK (x:=shK p q la j) ⟨j,hl,rfl⟩
    simp only [nn_mk,get_at h5.cell,gZ,gS,ldI_mk,ldS_mk,Nat.zero_add]
    refine h5.pt (by omega) (by show ((shK p q la j:Nat):Int)<((σ.m+1:Nat):Int); omega) fun b3 o3 q3=>?_
    rw [tN] at q3
    refine h5.stF (base:=(σ.shr p q la lb i u (ot fr to i u)).base) (z:=(σ.shr p q la lb i u (ot fr to i u)).z) (lab:=(σ.shr p q la lb i u (ot fr to i u)).lab) (ve:=(σ.shr p q la lb i u (ot fr to i u)).ve) (vi:=(σ.shr p q la lb i u (ot fr to i u)).vi) (vo:=(σ.shr p q la lb i u (ot fr to i u)).vo) (up:=shU σ p q la (j+1)) q3 (by show shK p q la j<σ.m+1; omega) (show 8+1≤9 by decide) ?_ (fun x hx=>?_) fun H6 h6 s6=>?_
    · simp only [knF,KS.nums,shU_succ,upf_same]; rfl
    · simp only [knF,KS.nums,shU_succ,upf_ne hx]
    rw [i64w (by omega) (by omega)]
    exact hX _ _ _ _ _ _ _ _ ⟨rfl,rfl,rfl,rfl,rfl,j+1,by omega,hl,h6⟩ (by omega)
  · have:j=la+lb+1:=by omega
    subst this
    refine k H5 X' (h5.eq ?_)
    rw [shU_full (v:=ot fr to i u) F hK]
theorem upf_eta {α:Type} {f:Nat→α} {i:Nat}:upf f i (f i)=f:=by
  funext j
  by_cases e:j=i
  · rw [e,upf_same]
  · rw [upf_ne e]
theorem Cyf.shK1 (F:Cyf n ne fr to tw σ d p q la lb i u) {s:Nat} (hs:s≤la):shK p q la s=p (la-s):=F.k1 hs
theorem Cyf.shK2 (F:Cyf n ne fr to tw σ d p q la lb i u) {j:Nat}:shK p q la (la+1+j)=q j:=by
  rw [F.k2 (by omega)]; congr 1; omega
theorem Cyf.shL1 (G:Gp n ne fr to tw R0 W) (I:Inv n ne fr to tw R0 D σ) (T:Tr n ne fr to tw R σ d) (F:Cyf n ne fr to tw σ d p q la lb i u) {s:Nat} (hs:s<la):shL σ p q la i u (ot fr to i u) s=(σ.ve (p (la-1-s)),(σ.vo (p (la-1-s)):Int),(σ.vi (p (la-1-s)):Int)):=by
  have:=(F.pn (la-1-s) (by omega)).1
  unfold shL shE shI shO
  simp only [if_pos hs]
  rw [Int.toNat_of_nonneg this]
theorem Cyf.shL0 (F:Cyf n ne fr to tw σ d p q la lb i u):shL σ p q la i u (ot fr to i u) la=((i:Int),(u:Int),(ot fr to i u:Int)):=by
  unfold shL shE shI shO
  simp only [Nat.lt_irrefl,↓reduceIte]
theorem Cyf.shL2 (F:Cyf n ne fr to tw σ d p q la lb i u) {j:Nat} (hj:j<lb):shL σ p q la i u (ot fr to i u) (la+1+j)=(σ.ve (q j),(σ.vi (q j):Int),(σ.vo (q j):Int)):=by
  have:=(F.qn j hj).1
  unfold shL shE shI shO
  simp only [if_neg (show ¬la+1+j<la by omega),if_neg (show ¬la+1+j=la by omega),show la+1+j-la-1=j by omega]
  rw [Int.toNat_of_nonneg this]
theorem pshr3 {ap bp:OA} {ac bq lb1:Nat} {K:Hp→Prop} (h:PsM H0 H Y X n ne fr to tw σ) (G:Gp n ne fr to tw R0 W) (I:Inv n ne fr to tw R0 D σ) (T:Tr n ne fr to tw R σ d) (F:Cyf n ne fr to tw σ d p q la lb i u) (hm:σ.m≤1048576) (hla:la+1≤n) (hlb:lb+1≤n)
    (rb:Rdr H bp (lb+1) (fun t=>(q t:Int))) (el:H lb1=some ⟨[.int .i64 (i:Int),.int .i64 (u:Int),.int .i64 (ot fr to i u:Int)],115⟩)
    (J:ShJ H Hc kb kp (la+1) kc lp la lc (σ.base (p la)) 0 1 (σ.ve (p la)) (σ.vi (p la)) (σ.vo (p la)) (-1) (fun t=>(shK p q la t:Int)) (shL σ p q la i u (ot fr to i u)))
    (k:∀H' X',PsM H0 H' Y X' n ne fr to tw (σ.shr p q la lb i u (ot fr to i u))→K H'):Q52.j3 (some ⟨Y.sb,0,none⟩) bp (lb+1) bq lb1 kb E Hc K:=by
  have hnN:=h.nN
  refine Q52.j3_eq ?_
  unfold Q52.j3_t
  have el1:=J.st.keep _ _ el fun h=>h
  simp only [get_at J.cell,get_at el1,gZ,gS,ldI_mk,ldS_mk,Nat.zero_add]
  refine J.link (by omega) fun H2 lp2 lc2 J2=>?_
  rw [←F.shL0,upf_eta] at J2
  refine Q52.l3_rule (fun s0 b' bn' bc' k9 i12 H3=>s0=some ⟨Y.sb,0,none⟩∧b'=bp∧bn'=lb+1∧k9=kb∧∃(j:Nat) (kp:OA) (kc:Nat) (lp:OA) (lc:Nat),i12=j∧j≤lb∧ShJ H H3 kb kp (la+1+j) kc lp (la+1+j) lc (σ.base (p la)) 0 1 (σ.ve (p la)) (σ.vi (p la)) (σ.vo (p la)) (-1) (fun t=>(shK p q la t:Int)) (shL σ p q la i u (ot fr to i u)))
    (fun _ _ _ _ _ i12 _=>lb-i12.toNat) ?_ ⟨rfl,rfl,rfl,rfl,0,_,_,_,_,rfl,Nat.zero_le _,J2⟩
  clear J2 J el1
  rintro s0 b' bn' bc' k9 i12 H3 ⟨rfl,rfl,rfl,rfl,j,kp,kc,lp,lc,rfl,hj,J⟩ X1 hX
  refine Q52.b3_eq ?_
  unfold Q52.b3_t
  have ew:IntKind.wrap .i64 (((lb+1:Nat):Int)-1)=(lb:Int):=by rw [i64w (by omega) (by omega)]; omega
  rw [ew]
  refine bc (fun hl=>?_) fun hge=>?_
  · have hl:j<lb:=by omega
    simp only [get_at J.cell,gZ,gS,ldI_mk,ldS_mk,Nat.zero_add]
    refine (rb.keep J.st fun _ _ _ h=>h).ixI (by omega) (by omega) ?_
    rw [tN]
    refine J.kid (by omega) fun H4 kp4 kc4 J4=>?_
    rw [show ((q j:Nat):Int)=(fun t=>(shK p q la t:Int)) (la+1+j) by show _=((shK p q la (la+1+j):Nat):Int); rw [F.shK2],upf_eta] at J4
    have p4:=h.keep0 J4.st
    simp only [nn_mk,get_at J4.cell,get_at p4.cell,gZ,gS,ldI_mk,ldS_mk,Nat.zero_add]
    refine (rb.keep J4.st fun _ _ _ h=>h).ixI (by omega) (by omega) ?_
    rw [tN]
    have hqs:=(F.qs j (by omega)).1.1
    refine p4.pt (by omega) (by omega) fun b5 o5 q5=>?_
    rw [tN] at q5
    have g5:=p4.get q5 hqs
    simp only [g5.2.2.2.2.2.1,g5.2.2.2.2.2.2.1,g5.2.2.2.2.2.2.2.1,ldI_mk]
    refine J4.link (by omega) fun H5 lp5 lc5 J5=>?_
    rw [←F.shL2 hl,upf_eta] at J5
    rw [i64w (by omega) (by omega)]
    exact hX _ _ _ _ _ _ _ ⟨rfl,rfl,rfl,rfl,j+1,_,_,_,_,by omega,by omega,J5⟩ (by omega)
  · have:j=lb:=by omega
    subst this
    rw [show la+1+j=la+j+1 by omega] at J
    exact pshr4 h G I T F hm (by omega) J k
theorem pshr2 {ap bp:OA} {ac bq lb1:Nat} {K:Hp→Prop} (h:PsM H0 H Y X n ne fr to tw σ) (G:Gp n ne fr to tw R0 W) (I:Inv n ne fr to tw R0 D σ) (T:Tr n ne fr to tw R σ d) (F:Cyf n ne fr to tw σ d p q la lb i u) (hm:σ.m≤1048576) (hla:la+1≤n) (hlb:lb+1≤n)
    (ra:Rdr H ap (la+1) (fun t=>(p t:Int))) (rb:Rdr H bp (lb+1) (fun t=>(q t:Int))) (el:H lb1=some ⟨[.int .i64 (i:Int),.int .i64 (u:Int),.int .i64 (ot fr to i u:Int)],115⟩)
    (k:∀H' X',PsM H0 H' Y X' n ne fr to tw (σ.shr p q la lb i u (ot fr to i u))→K H'):Q52.j1 (some ⟨Y.sb,0,none⟩) ap (la+1) ac bp (lb+1) bq lb1 E H K:=by
  have hnN:=h.nN
  refine Q52.j1_eq ?_
  unfold Q52.j1_t
  have ew:IntKind.wrap .i64 (((la+1:Nat):Int)-1)=(la:Int):=by rw [i64w (by omega) (by omega)]; omega
  rw [ew]
  refine ra.ixI (by omega) (by omega) ?_
  rw [tN]
  have htop:=(F.ps la (Nat.le_refl _)).1.1
  simp only [nn_mk,get_at h.cell,gZ,gS,ldI_mk,ldS_mk,Nat.zero_add]
  refine h.pt (by omega) (by omega) fun b3 o3 q3=>?_
  rw [tN] at q3
  simp only [(h.get q3 htop).2.2.1,ldI_mk]
  refine h.pt (by omega) (by omega) fun b5 o5 q5=>?_
  rw [tN] at q5
  have g5:=h.get q5 htop
  simp only [g5.2.2.2.2.2.1,g5.2.2.2.2.2.2.1,g5.2.2.2.2.2.2.2.1,ldI_mk]
  refine nwst rfl rfl fun kb H2 hb6 e6 s2=>?_
  refine Q52.l2_rule (fun s0 a' an' ac' b' bn' bc' l' k9 i10 H3=>s0=some ⟨Y.sb,0,none⟩∧a'=ap∧an'=la+1∧b'=bp∧bn'=lb+1∧l'=lb1∧k9=kb∧∃(s:Nat) (kp:OA) (kc:Nat) (lp:OA) (lc:Nat),i10=(la:Int)-s∧s≤la+1∧ShJ H H3 kb kp s kc lp (min s la) lc (σ.base (p la)) 0 1 (σ.ve (p la)) (σ.vi (p la)) (σ.vo (p la)) (-1) (fun t=>(shK p q la t:Int)) (shL σ p q la i u (ot fr to i u)))
    (fun _ _ _ _ _ _ _ _ _ i10 _=>(i10+1).toNat) ?_ ⟨rfl,rfl,rfl,rfl,rfl,rfl,rfl,0,none,0,none,0,by omega,by omega,⟨s2,e6,.nil,by rw [Nat.zero_min]; exact .nil,hb6,fun y hy=>by rw [fpS_none] at hy; exact hy.elim,fun y hy=>by rw [fpS_none] at hy; exact hy.elim⟩⟩
  clear g5 q5 q3 e6 s2
  rintro s0 a' an' ac' b' bn' bc' l' k9 i10 H3 ⟨rfl,rfl,rfl,rfl,rfl,rfl,rfl,s,kp,kc,lp,lc,rfl,hs,J⟩ X1 hX
  refine Q52.b2_eq ?_
  unfold Q52.b2_t
  refine bc (fun hl=>?_) fun hge=>?_
  · have hl:s≤la:=by omega
    rw [Nat.min_eq_left hl] at J
    have ei:(la:Int)-s=((la-s:Nat):Int):=by omega
    rw [ei]
    simp only [get_at J.cell,gZ,gS,ldI_mk,ldS_mk,Nat.zero_add]
    refine (ra.keep J.st fun _ _ _ h=>h).ixI (by omega) (by omega) ?_
    rw [tN]
    refine J.kid (by omega) fun H4 kp4 kc4 J4=>?_
    rw [show ((p (la-s):Nat):Int)=(fun t=>(shK p q la t:Int)) s by show _=((shK p q la s:Nat):Int); rw [F.shK1 hl],upf_eta] at J4
    have ew2:IntKind.wrap .i64 (((la-s:Nat):Int)-1)=(la:Int)-((s+1:Nat):Int):=by rw [i64w (by omega) (by omega)]; omega
    refine bc (fun hpos=>?_) fun hz=>?_
    · have hsl:s<la:=by omega
      have p4:=h.keep0 J4.st
      rw [ew2]
      simp only [nn_mk,get_at p4.cell,gZ,gS,ldI_mk,ldS_mk,Nat.zero_add]
      rw [show (la:Int)-((s+1:Nat):Int)=((la-1-s:Nat):Int) by omega]
      refine (ra.keep J4.st fun _ _ _ h=>h).ixI (by omega) (by omega) ?_
      rw [tN]
      have hps:=(F.ps (la-1-s) (by omega)).1.1
      refine p4.pt (by omega) (by omega) fun b5 o5 q5=>?_
      rw [tN] at q5
      have g5:=p4.get q5 hps
      simp only [g5.2.2.2.2.2.1,g5.2.2.2.2.2.2.1,g5.2.2.2.2.2.2.2.1,ldI_mk]
      refine nwst rfl rfl fun b6 H5 hb6 e6 s5=>?_
      have J5:=J4.keep0 s5
      simp only [get_at e6,get_at J5.cell,gZ,gS,ldI_mk,ldS_mk,Nat.zero_add]
      refine J5.link (by omega) fun H6 lp6 lc6 J6=>?_
      rw [←F.shL1 G I T hsl,upf_eta] at J6
      refine Q52.j2_eq ?_
      unfold Q52.j2_t
      rw [ew2]
      exact hX _ _ _ _ _ _ _ _ _ _ _ ⟨rfl,rfl,rfl,rfl,rfl,rfl,rfl,s+1,_,_,_,_,rfl,by omega,by rw [Nat.min_eq_left (show s+1≤la by omega)]; exact J6⟩ (by omega)
    · have:s=la:=by omega
      refine Q52.j2_eq ?_
      unfold Q52.j2_t
      rw [ew2]
      refine hX _ _ _ _ _ _ _ _ _ _ _ ⟨rfl,rfl,rfl,rfl,rfl,rfl,rfl,s+1,kp4,kc4,lp,lc,rfl,by omega,?_⟩ (by omega)
      rw [Nat.min_eq_right (show la≤s+1 by omega)]
      rw [this] at J4 ⊢
      exact J4
  · have:s=la+1:=by omega
    subst this
    rw [Nat.min_eq_right (show la≤la+1 by omega)] at J
    exact pshr3 (ap:=a') (ac:=ac) h G I T F hm hla hlb rb el J k
theorem pshrink {ap bp:OA} {ac bq la0 lb0:Nat} {K:Hp→Prop} (h:PsM H0 H Y X n ne fr to tw σ) (G:Gp n ne fr to tw R0 W) (I:Inv n ne fr to tw R0 D σ) (T:Tr n ne fr to tw R σ d) (hm:σ.m≤1048576)
    (en:En ne fr to i u) (ti:Tgt fr to tw σ i) (hne:σ.surf u≠σ.surf (ot fr to i u)) (lu:σ.lab (σ.surf u)=1) (lv:σ.lab (σ.surf (ot fr to i u))=1)
    (wp:Wl σ p la0 (σ.surf u)) (wq:Wl σ q lb0 (σ.surf (ot fr to i u))) (top:p la0=q lb0) (ra:Row H ap (la0+1) ac (fun t=>(p t:Int))) (rb:Row H bp (lb0+1) bq (fun t=>(q t:Int)))
    (k:∀H' X' la lb,Cyf n ne fr to tw σ d p q la lb i u→PsM H0 H' Y X' n ne fr to tw (σ.shr p q la lb i u (ot fr to i u))→K H'):Q52.call (some ⟨Y.sb,0,none⟩) (i:Int) (u:Int) (ot fr to i u:Int) ap (la0+1) ac bp (lb0+1) bq E H K:=by
  have su:=(I.kp.srf u (en.nd G.nd)).1
  have sv:=(I.kp.srf _ (en.ot.nd G.nd)).1
  have hnN:=h.nN
  have hla0:=wp.len G I T su lu
  have hlb0:=wq.len G I T sv lv
  refine Q52.of (Q52.run_eq ?_)
  unfold Q52.run_t
  refine nwk fun lb1 H1 hb1 e1 s1=>?_
  have h1:=h.keep0 s1
  have ra1:=ra.keep s1 fun _ _ h=>h
  have rb1:=rb.keep s1 fun _ _ h=>h
  refine Q52.l1_rule (fun s0 a' an' ac' b' bn' bc' l' H2=>s0=some ⟨Y.sb,0,none⟩∧a'=ap∧b'=bp∧ac'=ac∧bc'=bq∧l'=lb1∧H2=H1∧∃la lb:Nat,an'=la+1∧bn'=lb+1∧la≤la0∧lb≤lb0∧p la=q lb)
    (fun _ _ an' _ _ _ _ _ _=>an') ?_ ⟨rfl,rfl,rfl,rfl,rfl,rfl,rfl,la0,lb0,rfl,rfl,Nat.le_refl _,Nat.le_refl _,top⟩
  rintro s0 a' an' ac' b' bn' bc' l' H2 ⟨rfl,rfl,rfl,rfl,rfl,rfl,rfl,la,lb,rfl,rfl,hla,hlb,htop⟩ X1 hX
  have wp':Wl σ p la (σ.surf u):=⟨wp.st,fun t ht=>wp.nx t (by omega)⟩
  have wq':Wl σ q lb (σ.surf (ot fr to i u)):=⟨wq.st,fun t ht=>wq.nx t (by omega)⟩
  have fin:(la=0∨lb=0∨p (la-1)≠q (lb-1))→Q52.j1 (some ⟨Y.sb,0,none⟩) a' (la+1) ac' b' (lb+1) bc' l' E H2 K:=fun hcut=>by
    have F:Cyf n ne fr to tw σ d p q la lb i u:=Cyc.all G I T ⟨en,ti,hne,lu,lv,wp',wq',htop,hcut⟩
    exact pshr2 h1 G I T F hm (by omega) (by omega) (ra1.rdr.cut (by omega)) (rb1.rdr.cut (by omega)) e1 fun H' X' h'=>k H' X' la lb F h'
  refine Q52.b1_eq ?_
  unfold Q52.b1_t
  refine bc (fun h2=>?_) fun h2=>fin (.inl (by omega))
  refine bc (fun h3=>?_) fun h3=>fin (.inr (.inl (by omega)))
  have ew1:IntKind.wrap .i64 (((la+1:Nat):Int)-2)=((la-1:Nat):Int):=by rw [i64w (by omega) (by omega)]; omega
  have ew2:IntKind.wrap .i64 (((lb+1:Nat):Int)-2)=((lb-1:Nat):Int):=by rw [i64w (by omega) (by omega)]; omega
  have ew3:IntKind.wrap .i64 (((la+1:Nat):Int)-1)=(la:Int):=by rw [i64w (by omega) (by omega)]; omega
  have ew4:IntKind.wrap .i64 (((lb+1:Nat):Int)-1)=(lb:Int):=by rw [i64w (by omega) (by omega)]; omega
  rw [ew1,ew2,ew3,ew4]
  refine (ra1.rdr.cut (m:=la+1) (by omega)).ixI (by omega) (by omega) ?_
  rw [tN]
  refine (rb1.rdr.cut (m:=lb+1) (by omega)).ixI (by omega) (by omega) ?_
  rw [tN]
  refine bc (fun heq=>?_) fun hn=>fin (.inr (.inr fun e=>hn (by rw [e])))
  have hac:=ra1.le
  have hbc:=rb1.le
  refine ⟨⟨by omega,by omega⟩,⟨by omega,by omega⟩,?_⟩
  rw [ra1.slp0,rb1.slp0]
  simp only [tN]
  exact hX _ _ _ _ _ _ _ _ _ ⟨rfl,rfl,rfl,rfl,rfl,rfl,rfl,la-1,lb-1,by omega,by omega,by omega,by omega,by omega⟩ (by omega)
end
end Go.Mz
/-
  Walks of layer 18: an inner knot is taken apart.
-/
namespace Go.Mz
structure OJ (n:Nat) (σ:KS) (b j:Nat) (lab ve:Nat→Int) (vi vo:Nat→Nat) (up:Nat→Int) (surf:Nat→Nat):Prop where
  u1:∀t,t<j→up (σ.kd b t)=-1
  u0:∀x,(∀t,t<j→σ.kd b t≠x)→up x=σ.up x
  s1:∀t v,t<j→v<n→Kin σ.up v (σ.kd b t)→surf v=σ.kd b t
  s0:∀v,v<n→(∀t,t<j→¬Kin σ.up v (σ.kd b t))→surf v=σ.surf v
  l1:∀t,t<j→lab (σ.kd b t)=0∧ve (σ.kd b t)=-1
  l0:∀x,(∀t,t<j→σ.kd b t≠x)→lab x=σ.lab x∧ve x=σ.ve x∧vi x=σ.vi x∧vo x=σ.vo x
structure OPt (σ:KS) (b:Nat) (ix:Nat→Nat) (vE:Nat→Int) (vI vO:Nat→Nat) (k:Nat) (labB veB:Nat→Int) (viB voB:Nat→Nat) (lab ve:Nat→Int) (vi vo:Nat→Nat):Prop where
  l1:∀t,t<k→lab (σ.kd b (ix t))=(if t%2=0 then 2 else 1)∧ve (σ.kd b (ix t))=vE t∧vi (σ.kd b (ix t))=vI t∧vo (σ.kd b (ix t))=vO t
  l0:∀x,(∀t,t<k→σ.kd b (ix t)≠x)→lab x=labB x∧ve x=veB x∧vi x=viB x∧vo x=voB x
def vaE (σ:KS) (b:Nat) (pe:Nat→Nat) (t:Nat):Int:=match t with | 0=>σ.ve b | s+1=>(pe s:Int)
def vaN (x:Nat) (pi:Nat→Nat) (t:Nat):Nat:=match t with | 0=>x | s+1=>pi s
section
variable {n ne:Nat} {fr to:Nat→Nat} {tw:Nat→Int} {σ:KS} {b len:Nat} {ix pe pi po:Nat→Nat} {lab ve labB veB:Nat→Int} {vi vo viB voB:Nat→Nat} {up:Nat→Int} {surf:Nat→Nat}
theorem OJ.opd (h:Kps n ne fr to σ) (lv:σ.Lv n b) (sb:σ.up b=-1) (J:OJ n σ b (σ.kn b) labB veB viB voB up surf) (P:OpW n ne fr to tw σ b ix len pe pi po)
    (Q:OPt σ b ix (vaE σ b pe) (vaN (σ.vi b) pi) (vaN (σ.vo b) po) (len+1) labB veB viB voB lab ve vi vo):Opd n σ b ix len pe pi po lab ve vi vo (upf up b (-2)) surf:=by
  have notkid:∀x,σ.up x≠(b:Int)→∀t,t<σ.kn b→σ.kd b t≠x:=fun x hx t ht e=>hx (by rw [←e]; exact (h.kid b t lv ht).2)
  refine ⟨fun x=>?_,fun v hv hs=>?_,fun v i hv hi hk=>J.s1 i v hi hv hk,fun x hx=>?_,fun i hi hno=>?_,fun t ht=>(Q.l1 t (by omega)).1,?_,fun t ht=>?_⟩
  · by_cases e:x=b
    · rw [e,upf_same,if_pos rfl]
    · rw [upf_ne e,if_neg e]
      by_cases e2:σ.up x=(b:Int)
      · obtain ⟨_,_,t,ht,ek⟩:=h.up_lt e2
        rw [if_pos e2,←ek]; exact J.u1 t ht
      · rw [if_neg e2]
        exact J.u0 x (notkid x e2)
  · exact J.s0 v hv fun t ht hk=>hs (h.srf_eq hv sb (h.kin lv ht hk))
  · have hn:=notkid x hx
    obtain ⟨a1,a2,a3,a4⟩:=Q.l0 x fun t ht=>hn _ (P.lt t (by omega))
    obtain ⟨c1,c2,c3,c4⟩:=J.l0 x hn
    exact ⟨a1.trans c1,a2.trans c2,a3.trans c3,a4.trans c4⟩
  · obtain ⟨a1,a2,_⟩:=Q.l0 (σ.kd b i) fun t ht e=>hno t (by omega) (h.inj b _ _ lv (P.lt t (by omega)) hi e)
    obtain ⟨c1,c2⟩:=J.l1 i hi
    exact ⟨a1.trans c1,a2.trans c2⟩
  · exact (Q.l1 0 (by omega)).2
  · exact (Q.l1 (t+1) (by omega)).2
theorem OPt.step {k:Nat} {l:Int} {vE:Nat→Int} {vI vO:Nat→Nat} (Q:OPt σ b ix vE vI vO k labB veB viB voB lab ve vi vo) (hinj:∀t,t<k→σ.kd b (ix t)≠σ.kd b (ix k)) (hl:l=if k%2=0 then 2 else 1) :
    OPt σ b ix vE vI vO (k+1) labB veB viB voB (upf lab (σ.kd b (ix k)) l) (upf ve (σ.kd b (ix k)) (vE k)) (upf vi (σ.kd b (ix k)) (vI k)) (upf vo (σ.kd b (ix k)) (vO k)):=by
  refine ⟨fun t ht=>?_,fun x hx=>?_⟩
  · by_cases e:t=k
    · rw [e,upf_same,upf_same,upf_same,upf_same]; exact ⟨hl,rfl,rfl,rfl⟩
    · have hne:=hinj t (by omega)
      rw [upf_ne hne,upf_ne hne,upf_ne hne,upf_ne hne]; exact Q.l1 t (by omega)
  · have hne:x≠σ.kd b (ix k):=fun e=>hx k (by omega) e.symm
    rw [upf_ne hne,upf_ne hne,upf_ne hne,upf_ne hne]
    exact Q.l0 x fun t ht=>hx t (by omega)
theorem OJ.step {j:Nat} (h:Kps n ne fr to σ) (lv:σ.Lv n b) (hj:j<σ.kn b) (J:OJ n σ b j lab ve vi vo up surf) {L:List Nat} (hL:∀v,v∈L↔v<n∧Kin σ.up v (σ.kd b j)) :
    OJ n σ b (j+1) (upf lab (σ.kd b j) 0) (upf ve (σ.kd b j) (-1)) (upf vi (σ.kd b j) 0) (upf vo (σ.kd b j) 0) (upf up (σ.kd b j) (-1)) (fun v=>if v∈L then σ.kd b j else surf v):=by
  have hne:∀t,t<j→σ.kd b t≠σ.kd b j:=fun t ht e=>by have:=h.inj b t j lv (by omega) hj e; omega
  refine ⟨fun t ht=>?_,fun x hx=>?_,fun t v ht hv hk=>?_,fun v hv hno=>?_,fun t ht=>?_,fun x hx=>?_⟩
  · by_cases e:t=j
    · rw [e,upf_same]
    · rw [upf_ne (hne t (by omega))]; exact J.u1 t (by omega)
  · rw [upf_ne fun e=>hx j (by omega) e.symm]; exact J.u0 x fun t ht=>hx t (by omega)
  · show (if v∈L then σ.kd b j else surf v)=_
    by_cases e:t=j
    · rw [e] at hk ⊢
      rw [if_pos ((hL v).2 ⟨hv,hk⟩)]
    · rw [if_neg fun hh=>?_]
      · exact J.s1 t v (by omega) hv hk
      · have:=h.kidn lv (by omega) hj hk ((hL v).1 hh).2; omega
  · show (if v∈L then σ.kd b j else surf v)=_
    rw [if_neg fun hh=>hno j (by omega) ((hL v).1 hh).2]
    exact J.s0 v hv fun t ht=>hno t (by omega)
  · by_cases e:t=j
    · rw [e,upf_same,upf_same]; exact ⟨rfl,rfl⟩
    · rw [upf_ne (hne t (by omega)),upf_ne (hne t (by omega))]; exact J.l1 t (by omega)
  · have hx':x≠σ.kd b j:=fun e=>hx j (by omega) e.symm
    rw [upf_ne hx',upf_ne hx',upf_ne hx',upf_ne hx']
    exact J.l0 x fun t ht=>hx t (by omega)
end
section
variable {E:VP}
variable {H0 H Hc:Hp} {Y:PY} {X:KX} {n ne:Nat} {fr to:Nat→Nat} {tw:Nat→Int} {σ σ':KS} {b len i o j:Nat} {R0 R D W:Int} {d:Nat→Nat} {ix pe pi po:Nat→Nat} {lab ve labB veB:Nat→Int} {vi vo viB voB:Nat→Nat} {up:Nat→Int} {surf:Nat→Nat}
def Frs (H0:Hp) (Y:PY) (X:KX) (n:Nat) (σ:KS) (y:Nat):Prop:=H0 y=none∧AwP Y X y∧∀b,n≤b→b<σ.m→¬fpS (X.ks b).p y∧¬fpS (X.ls b).p y
theorem PsM.frs (h:PsM H0 H Y X n ne fr to tw σ) {y:Nat} (hy:H y=none):Frs H0 Y X n σ y:=
  ⟨h.st.none_at hy,h.fresh hy,fun b h1 h2=>⟨fun hh=>(h.kd b h1 h2).2.1.live hh (h.km b h1 h2).1 hy,fun hh=>(h.kd b h1 h2).2.2.2.live hh (h.km b h1 h2).1 hy⟩⟩
theorem popen2 {k4 vb:Nat} {on:Bool} {z9 l9 u9:Int} {K:Hp→Prop} (hK:Kps n ne fr to σ) (lv:σ.Lv n b) (P:OpW n ne fr to tw σ b ix len pe pi po)
    (hon:on=true→∀t,t<len→ix (t+1)=(ix t+1)%σ.kn b∧pe t=σ.le b (ix t)∧pi t=σ.lo b (ix t)∧po t=σ.li b (ix t))
    (hoff:on=false→∀t,t<len→ix (t+1)=(ix t+σ.kn b-1)%σ.kn b∧pe t=σ.le b (ix (t+1))∧pi t=σ.li b (ix (t+1))∧po t=σ.lo b (ix (t+1)))
    (hc:PsM H0 Hc Y X n ne fr to tw (σ.opn labB veB viB voB up surf)) (e4:Hc k4=some ⟨[.slice (X.ks b).p (X.ks b).n (X.ks b).c,.slice (X.ls b).p (X.ls b).n (X.ls b).c,.int .i64 (σ.base b:Int),.int .i64 z9,.int .i64 l9,.int .i64 (σ.ve b),.int .i64 (σ.vi b:Int),.int .i64 (σ.vo b:Int),.int .i64 u9],117⟩)
    (ev:Hc vb=some ⟨[.int .i64 (σ.ve b),.int .i64 (σ.vi b:Int),.int .i64 (σ.vo b:Int)],115⟩) (f4:AwP Y X k4) (fv:Frs H0 Y X n σ vb) (h4v:k4≠vb)
    (k:∀H' lab ve vi vo,PsM H0 H' Y X n ne fr to tw (σ.opn lab ve vi vo up surf)→OPt σ b ix (vaE σ b pe) (vaN (σ.vi b) pi) (vaN (σ.vo b) po) (len+1) labB veB viB voB lab ve vi vo→K H') :
    Q54.l2 (some ⟨Y.sb,0,none⟩) k4 (ix len:Int) (σ.kn b:Int) on vb 2 (ix 0:Int) E Hc K:=by
  have hb:=lv.1
  have hbm:=lv.2.1
  have hnN:=hc.nN
  have hkm:=hc.km b hb hbm
  have hkm:0<σ.kn b∧σ.kn b≤2*n:=hkm
  refine Q54.l2_rule (fun s0 k' ou' n' on' vb' la' at' H1=>s0=some ⟨Y.sb,0,none⟩∧k'=k4∧ou'=(ix len:Int)∧n'=(σ.kn b:Int)∧on'=on∧vb'=vb∧∃(t:Nat) (lab ve:Nat→Int) (vi vo:Nat→Nat),at'=(ix t:Int)∧t≤len∧la'=(if t%2=0 then 2 else 1)∧
      PsM H0 H1 Y X n ne fr to tw (σ.opn lab ve vi vo up surf)∧OPt σ b ix (vaE σ b pe) (vaN (σ.vi b) pi) (vaN (σ.vo b) po) t labB veB viB voB lab ve vi vo∧
      H1 k4=some ⟨[.slice (X.ks b).p (X.ks b).n (X.ks b).c,.slice (X.ls b).p (X.ls b).n (X.ls b).c,.int .i64 (σ.base b:Int),.int .i64 z9,.int .i64 l9,.int .i64 (σ.ve b),.int .i64 (σ.vi b:Int),.int .i64 (σ.vo b:Int),.int .i64 u9],117⟩∧
      H1 vb=some ⟨[.int .i64 (vaE σ b pe t),.int .i64 (vaN (σ.vi b) pi t:Int),.int .i64 (vaN (σ.vo b) po t:Int)],115⟩)
    (fun _ _ _ _ _ _ _ at' _=>len+1-gm fun t=>ix t=at'.toNat∧t≤len) ?_ ⟨rfl,rfl,rfl,rfl,rfl,rfl,0,_,_,_,_,rfl,Nat.zero_le _,rfl,hc,⟨fun t ht=>by omega,fun x _=>⟨rfl,rfl,rfl,rfl⟩⟩,e4,ev⟩
  clear hc e4 ev
  rintro s0 k' ou' n' on' vb' la' at' H1 ⟨rfl,rfl,rfl,rfl,rfl,rfl,t,lab,ve,vi,vo,rfl,ht,rfl,hc,Q,e4,ev⟩ X1 hX
  have mu:∀s,s≤len→gm (fun t=>ix t=((ix s:Nat):Int).toNat∧t≤len)=s:=fun s hs=>by
    obtain ⟨⟨a1,a2⟩,_⟩:=gm_of (p:=fun t=>ix t=((ix s:Nat):Int).toNat∧t≤len) (k:=s) ⟨by rw [tN],hs⟩
    rw [tN] at a1
    exact P.inj _ _ a2 hs a1
  have hlt:=P.lt t ht
  have kd:=hc.kd b hb hbm
  have kn1:(X.ks b).n=σ.kn b:=kd.1
  have ln1:(X.ls b).n=σ.kn b:=kd.2.2.1
  refine Q54.b2_eq ?_
  unfold Q54.b2_t
  simp only [get_at e4,get_at ev,gZ,gS,ldI_mk,ldS_mk,Nat.zero_add]
  rw [kn1]
  refine Rdr.ixI kd.2.1 (by omega) (by show ((ix t:Nat):Int)<(σ.kn b:Int); omega) ?_
  rw [tN]
  have hkid:=hK.kid b (ix t) lv hlt
  refine pmark (b:=σ.kd b (ix t)) hc (by show σ.kd b (ix t)<σ.m; omega) fun H2 h2 s2=>?_
  have e42:=s2.at' e4 f4
  have ev2:=s2.at' ev fv.2.1
  have Q2:=Q.step (l:=if t%2=0 then 2 else 1) (fun s hs e=>by
    have:=hK.inj b _ _ lv (P.lt s (by omega)) hlt e
    have:=P.inj _ _ (by omega) ht this
    omega) rfl
  replace h2:PsM H0 H2 Y X n ne fr to tw (σ.opn (upf lab (σ.kd b (ix t)) (if t%2=0 then 2 else 1)) (upf ve (σ.kd b (ix t)) (vaE σ b pe t)) (upf vi (σ.kd b (ix t)) (vaN (σ.vi b) pi t)) (upf vo (σ.kd b (ix t)) (vaN (σ.vo b) po t)) up surf):=h2
  refine bc (fun heq=>?_) fun hne=>?_
  · have:t=len:=P.inj _ _ ht (Nat.le_refl _) (by omega)
    subst this
    exact k H2 _ _ _ _ h2 Q2
  · have htl:t<len:=by
      rcases Nat.lt_or_ge t len with h1 | h1
      · exact h1
      · exact (hne (by rw [show t=len by omega])).elim
    have kd2:=h2.kd b hb hbm
    have hlt2:=P.lt (t+1) (by omega)
    have eodd:IntKind.wrap .i64 (3-(if t%2=0 then (2:Int) else 1))=(if (t+1)%2=0 then (2:Int) else 1):=by
      rcases Nat.mod_two_eq_zero_or_one t with e | e
      · rw [if_pos e,if_neg (by omega)]; rfl
      · rw [if_neg (by omega),if_pos (by omega)]; rfl
    have go:∀(H3:Hp) (x y z:Nat),H2 vb'=some ⟨[.int .i64 (vaE σ b pe t),.int .i64 (vaN (σ.vi b) pi t:Int),.int .i64 (vaN (σ.vo b) po t:Int)],115⟩→Step (fun _=>False) H2 H3→x=pe t→y=pi t→z=po t→
        stC H3 vb' 0 [.int .i64 (x:Int),.int .i64 (y:Int),.int .i64 (z:Int)] fun H4=>Q54.j2 (some ⟨Y.sb,0,none⟩) k' (ix len:Int) (σ.kn b:Int) on' vb' (if t%2=0 then 2 else 1) (ix (t+1):Int) X1 E H4 K:=by
      intro H3 x y z ev2 s3 ex ey ez
      subst ex ey ez
      have h3:=h2.keep0 s3
      refine stk (s3.keep _ _ ev2 fun h=>h) rfl rfl fun H4 e4' s4=>?_
      have h4:=h3.keep s4 fun y hy=>hy▸fv
      have e44:=s4.keep _ _ (s3.keep _ _ e42 fun h=>h) h4v
      refine Q54.j2_eq ?_
      unfold Q54.j2_t
      rw [eodd]
      refine hX _ _ _ _ _ _ _ _ _ ⟨rfl,rfl,rfl,rfl,rfl,rfl,t+1,_,_,_,_,rfl,by omega,rfl,h4,Q2,e44,e4'⟩ ?_
      rw [mu t ht,mu (t+1) (by omega)]
      omega
    have hkz:(σ.kn b:Int)≠0:=by omega
    refine bcb (fun hb1=>?_) fun hb0=>?_
    · obtain ⟨q1,q2,q3,q4⟩:=hon hb1 t htl
      simp only [get_at e42,gZ,gS,ldI_mk,ldS_mk,Nat.zero_add]
      rw [ln1]
      refine Rdr.ix3 kd2.2.2.2 (by omega) (by show ((ix t:Nat):Int)<(σ.kn b:Int); omega) fun c3 p3 y1 y2 y3=>?_
      simp only [tN,lkF] at y1 y2 y3
      simp only [y1,y2,y3,ldI_mk]
      refine nwst rfl rfl fun b3 H3 hb3 e3 s3=>?_
      simp only [get_at e3,gZ,gS,ldI_mk,ldS_mk,Nat.zero_add]
      have ew:Int.tmod (IntKind.wrap .i64 ((ix t:Int)+1)) (σ.kn b:Int)=(ix (t+1):Int):=by
        rw [i64w (by omega) (by omega),show ((ix t:Nat):Int)+1=((ix t+1:Nat):Int) by omega,tmodn,q1]
      have:=go H3 (σ.le b (ix t)) (σ.lo b (ix t)) (σ.li b (ix t)) ev2 s3 q2.symm q3.symm q4.symm
      rw [←ew] at this
      obtain ⟨x4,a1,a2,a3⟩:=this
      exact ⟨x4,a1,a2,hkz,a3⟩
    · obtain ⟨q1,q2,q3,q4⟩:=hoff hb0 t htl
      refine ⟨hkz,?_⟩
      have ew:Int.tmod (IntKind.wrap .i64 (IntKind.wrap .i64 ((ix t:Int)+(σ.kn b:Int))-1)) (σ.kn b:Int)=(ix (t+1):Int):=by
        rw [i64w (n:=(ix t:Int)+(σ.kn b:Int)) (by omega) (by omega),i64w (by omega) (by omega),show ((ix t:Nat):Int)+(σ.kn b:Int)-1=((ix t+σ.kn b-1:Nat):Int) by omega,tmodn,q1]
      rw [ew]
      simp only [get_at e42,gZ,gS,ldI_mk,ldS_mk,Nat.zero_add]
      rw [ln1]
      refine Rdr.ix3 kd2.2.2.2 (by omega) (by show ((ix (t+1):Nat):Int)<(σ.kn b:Int); omega) fun c3 p3 y1 y2 y3=>?_
      simp only [tN,lkF] at y1 y2 y3
      simp only [y1,y2,y3,ldI_mk]
      exact go H2 (σ.le b (ix (t+1))) (σ.li b (ix (t+1))) (σ.lo b (ix (t+1))) ev2 .refl q2.symm q3.symm q4.symm
theorem popen {K:Hp→Prop} (h:PsM H0 H Y X n ne fr to tw σ) (G:Gp n ne fr to tw R0 W) (I:Inv n ne fr to tw R0 D σ) (T:Tr n ne fr to tw R σ d) (hb:n≤b) (sb:σ.Sf b) (hl:σ.lab b=2)
    (k:∀H' lab ve vi vo up surf ix len pe pi po,PsM H0 H' Y X n ne fr to tw (σ.opn lab ve vi vo up surf)→OpW n ne fr to tw σ b ix len pe pi po→Opd n σ b ix len pe pi po lab ve vi vo up surf→K H'):Q54.call (some ⟨Y.sb,0,none⟩) (b:Int) E H K:=by
  have hK:=I.kp
  have hbm:=sb.1
  have lv:σ.Lv n b:=⟨hb,hbm,by rw [sb.2]; omega⟩
  have hnN:=h.nN
  obtain ⟨hodd,h3⟩:=hK.odd b lv
  have hkm:=h.km b hb hbm
  obtain ⟨ei,i1,i2,i3,i4,_⟩:=T.inn b sb hl
  have hvi:=i2.nd G.nd
  obtain ⟨b1,b2,b3⟩:=I.bsf sb
  refine Q54.of (Q54.run_eq ?_)
  unfold Q54.run_t
  simp only [nn_mk,get_at h.cell,gZ,gS,ldI_mk,ldS_mk,Nat.zero_add]
  refine h.pt (by omega) (by omega) fun c2 o2 q2=>?_
  rw [tN] at q2
  have g2:=h.get q2 hbm
  simp only [g2.1,g2.2.1,g2.2.2.1,g2.2.2.2.1,g2.2.2.2.2.1,g2.2.2.2.2.2.1,g2.2.2.2.2.2.2.1,g2.2.2.2.2.2.2.2.1,g2.2.2.2.2.2.2.2.2,ldI_mk,ldS_mk]
  refine nwst rfl rfl fun k4 H2 hk4 e4 s2=>?_
  have f4:=h.frs hk4
  have h2:=h.keep0 s2
  simp only [get_at e4,gZ,gS,ldI_mk,ldS_mk]
  refine pkid (b:=b) h2 hK lv i4 (by omega) fun j hj kj=>?_
  simp only [get_at e4,gZ,gS,ldI_mk,ldS_mk]
  refine ⟨trivial,trivial,?_⟩
  refine pkid (b:=b) h2 hK lv b1 (by omega) fun o ho ko=>?_
  simp only [get_at e4,gZ,gS,ldI_mk,ldS_mk]
  refine ⟨trivial,?_⟩
  have kn1:(X.ks b).n=σ.kn b:=(h.kd b hb hbm).1
  rw [kn1]
  refine Q54.l1_rule (fun s0 b' k' in' ou' n' tp tn tc t38 t39 H3=>s0=some ⟨Y.sb,0,none⟩∧b'=(b:Int)∧k'=k4∧in'=(j:Int)∧ou'=(o:Int)∧n'=(σ.kn b:Int)∧tp=(X.ks b).p∧tn=σ.kn b∧t38=(σ.kn b:Int)∧∃(t:Nat) (lab ve:Nat→Int) (vi vo:Nat→Nat) (up:Nat→Int) (surf:Nat→Nat),t39=t∧t≤σ.kn b∧
      PsM H0 H3 Y X n ne fr to tw (σ.opn lab ve vi vo up surf)∧OJ n σ b t lab ve vi vo up surf∧
      H3 k4=some ⟨[.slice (X.ks b).p (X.ks b).n (X.ks b).c,.slice (X.ls b).p (X.ls b).n (X.ls b).c,.int .i64 (σ.base b:Int),.int .i64 (σ.z b),.int .i64 (σ.lab b),.int .i64 (σ.ve b),.int .i64 (σ.vi b:Int),.int .i64 (σ.vo b:Int),.int .i64 (σ.up b)],117⟩)
    (fun _ _ _ _ _ _ _ _ _ _ t39 _=>σ.kn b-t39.toNat) ?_ ⟨rfl,rfl,rfl,rfl,rfl,rfl,rfl,rfl,rfl,0,σ.lab,σ.ve,σ.vi,σ.vo,σ.up,σ.surf,rfl,Nat.zero_le _,h2,⟨fun t ht=>by omega,fun x _=>rfl,fun t v ht=>by omega,fun v _ _=>rfl,fun t ht=>by omega,fun x _=>⟨rfl,rfl,rfl,rfl⟩⟩,by rw [kn1]; rw [kn1] at e4; exact e4⟩
  clear h2 e4 g2 q2 s2
  rintro s0 b' k' in' ou' n' tp tn tc t38 t39 H3 ⟨rfl,rfl,rfl,rfl,rfl,rfl,rfl,rfl,rfl,t,lab,ve,vi,vo,up,surf,rfl,ht,hc,J,e4⟩ X1 hX
  have kd:=hc.kd b hb hbm
  refine Q54.b1_eq ?_
  unfold Q54.b1_t
  refine bc (fun hl'=>?_) fun hge=>?_
  · have hl':t<σ.kn b:=by omega
    refine Rdr.ixI kd.2.1 (by omega) (by show ((t:Nat):Int)<(σ.kn b:Int); omega) ?_
    rw [tN]
    obtain ⟨k1,k2⟩:=hK.kid b t lv hl'
    have hkm2:σ.kd b t<σ.m:=(hK.up_lt k2).1
    have hklv:σ.up (σ.kd b t)≠-2:=by omega
    have hmem:=nd_mem hK h.kl _ hkm2 hklv
    have hlen:=nd_len hK h.kl hkm2 hklv
    refine psurface (b:=σ.kd b t) hc hkm2 (Nat.le_trans hlen hnN) (fun w hw=>((hmem w).1 hw).1) fun H4 h4 s4=>?_
    replace h4:PsM H0 H4 Y X n ne fr to tw (σ.opn lab ve vi vo (upf up (σ.kd b t) (-1)) (fun v=>if v∈nd n σ (σ.kd b t) then σ.kd b t else surf v)):=h4
    refine pmark (b:=σ.kd b t) (i:=0) (o:=0) h4 hkm2 fun H5 h5 s5=>?_
    rw [i64w (by omega) (by omega)]
    exact hX _ _ _ _ _ _ _ _ _ _ _ _ ⟨rfl,rfl,rfl,rfl,rfl,rfl,rfl,rfl,rfl,t+1,_,_,_,_,_,_,by omega,by omega,h5,J.step hK lv hl' hmem,s5.at' (s4.at' e4 f4.2.1) f4.2.1⟩ (by omega)
  · have:t=σ.kn b:=by omega
    subst this
    refine Q54.j1_eq ?_
    unfold Q54.j1_t
    simp only [nn_mk,get_at hc.cell,gZ,gS,ldI_mk,ldS_mk,Nat.zero_add]
    refine hc.pt (by omega) (by show (b:Int)<(σ.m:Int); omega) fun c2 o2 q2=>?_
    rw [tN] at q2
    refine hc.stF (base:=σ.base) (z:=σ.z) (lab:=lab) (ve:=ve) (vi:=vi) (vo:=vo) (up:=upf up b (-2)) q2 hbm (show 8+1≤9 by decide) ?_ (fun x hx=>?_) fun H4 h4 s4=>?_
    · simp only [knF,KS.nums,upf_same]; rfl
    · simp only [knF,KS.nums,upf_ne hx]; rfl
    replace h4:PsM H0 H4 Y X n ne fr to tw (σ.opn lab ve vi vo (upf up b (-2)) surf):=h4
    have e44:=s4.keep _ _ e4 f4.2.1.k
    simp only [get_at e44,gZ,gS,ldI_mk,ldS_mk,Nat.zero_add]
    refine ⟨by omega,by omega,?_⟩
    refine nwst rfl rfl fun vb H5 hvb ev s5=>?_
    have fv:Frs H0 Y X n σ vb:=h4.frs hvb
    have h5:=h4.keep0 s5
    have e45:=s5.keep _ _ e44 fun h=>h
    have h4v:k'≠vb:=fun e=>by rw [←e,e44] at hvb; cases hvb
    have ew:IntKind.wrap .i64 (IntKind.wrap .i64 ((o:Int)-(j:Int))+(σ.kn b:Int))=((o+σ.kn b-j:Nat):Int):=by
      rw [i64w (n:=(o:Int)-(j:Int)) (by omega) (by omega),i64w (by omega) (by omega)]; omega
    rw [ew,tmodn,show (2:Int)=((2:Nat):Int) from rfl,tmodn]
    have hmod:(o+σ.kn b-j)%σ.kn b%2=0∨(o+σ.kn b-j)%σ.kn b%2=1:=Nat.mod_two_eq_zero_or_one _
    rcases hmod with hev | hod
    · have P:=I.pathOn G hb sb hj ho kj ko hev
      have e0:(j+0)%σ.kn b=j:=by rw [Nat.add_zero,Nat.mod_eq_of_lt hj]
      have el:(j+(o+σ.kn b-j)%σ.kn b)%σ.kn b=o:=by
        have h1:=mod_two (x:=o+σ.kn b-j) (show 0<σ.kn b by omega) (by omega)
        have h2:=mod_two (x:=j+(o+σ.kn b-j)%σ.kn b) (show 0<σ.kn b by omega) (by omega)
        omega
      rw [hev,decide_eq_true (p:=(((0:Nat):Int)=0)) rfl]
      have:=popen2 (E:=E) (on:=true) (K:=K) hK lv P (fun _ t ht=>⟨by show (j+(t+1))%σ.kn b=((j+t)%σ.kn b+1)%σ.kn b; rw [Nat.mod_add_mod,Nat.add_assoc],rfl,rfl,rfl⟩) (fun hh=>by cases hh) h5 e45 ev f4.2.1 fv h4v fun H' lab' ve' vi' vo' h' Q=>k H' _ _ _ _ _ _ _ _ _ _ _ h' P (J.opd hK lv sb.2 P Q)
      rw [e0,el] at this
      exact this
    · have P:=I.pathOff G hb sb hj ho kj ko hod
      have e0:(j+σ.kn b-0)%σ.kn b=j:=by rw [Nat.sub_zero,Nat.add_mod_right,Nat.mod_eq_of_lt hj]
      have el:(j+σ.kn b-(j+σ.kn b-o)%σ.kn b)%σ.kn b=o:=by
        have h1:=mod_two (x:=j+σ.kn b-o) (show 0<σ.kn b by omega) (by omega)
        have h2:=mod_two (x:=j+σ.kn b-(j+σ.kn b-o)%σ.kn b) (show 0<σ.kn b by omega) (by omega)
        omega
      rw [hod,decide_eq_false (p:=(((1:Nat):Int)=0)) (by decide)]
      have:=popen2 (E:=E) (on:=false) (K:=K) hK lv P (fun hh=>by cases hh) (fun _ t ht=>⟨by
        show (j+σ.kn b-(t+1))%σ.kn b=((j+σ.kn b-t)%σ.kn b+σ.kn b-1)%σ.kn b
        have hlt:t<σ.kn b:=by
          have:=Nat.mod_lt (j+σ.kn b-o) (show 0<σ.kn b by omega)
          omega
        rw [show (j+σ.kn b-t)%σ.kn b+σ.kn b-1=(j+σ.kn b-t)%σ.kn b+(σ.kn b-1) by omega,Nat.mod_add_mod,show j+σ.kn b-t+(σ.kn b-1)=(j+σ.kn b-(t+1))+σ.kn b by omega,Nat.add_mod_right],rfl,rfl,rfl⟩) h5 e45 ev f4.2.1 fv h4v fun H' lab' ve' vi' vo' h' Q=>k H' _ _ _ _ _ _ _ _ _ _ _ h' P (J.opd hK lv sb.2 P Q)
      rw [e0,el] at this
      exact this
end
end Go.Mz
/-
  Walks of layer 18: a step.
-/
namespace Go.Mz
structure Bds (R0 D W:Int):Prop where
  r0:-2 ^ 40≤R0∧R0≤2 ^ 40
  d0:D≤2 ^ 50
  w0:W≤2 ^ 42
section
variable {E:VP}
variable {H0 H Hc:Hp} {Y:PY} {X:KX} {n ne:Nat} {fr to:Nat→Nat} {tw:Nat→Int} {σ σ':KS} {b i e u:Nat} {R0 R D W:Int} {d:Nat→Nat}
theorem Inv.fits (G:Gp n ne fr to tw R0 W) (I:Inv n ne fr to tw R0 D σ) (B:Bds R0 D W) (he:e<ne):(-2 ^ 61≤tw e-σ.y (fr e)∧tw e-σ.y (fr e)≤2 ^ 61)∧(-2 ^ 61≤tw e-σ.y (fr e)-σ.y (to e)∧tw e-σ.y (fr e)-σ.y (to e)≤2 ^ 61):=by
  obtain ⟨hf,ht⟩:=G.nd e he
  have:=I.du.yb _ hf
  have:=I.du.yb _ ht
  have:=G.lo e he
  have:=G.hi e he
  have:=I.du.d0
  have:=B.r0; have:=B.d0; have:=B.w0
  omega
theorem Inv.tgt0 (G:Gp n ne fr to tw R0 W) (I:Inv n ne fr to tw R0 D σ) (he:e<ne) (hs:σ.surf (fr e)≠σ.surf (to e)) (h0:tw e-σ.y (fr e)-σ.y (to e)=0):Tgt fr to tw σ e:=by
  obtain ⟨hf,ht⟩:=G.nd e he
  unfold Tgt
  rw [cov_apart I.kp hf ht hs]; omega
structure StK (H0:Hp) (Y:PY) (X:KX) (n ne:Nat) (fr to:Nat→Nat) (tw:Nat→Int) (R0 D:Int) (σ:KS) (K:Bool→Bool→Hp→Prop):Prop where
  kn:∀H',PsM H0 H' Y X n ne fr to tw σ→¬Act n ne fr to tw σ→K false false H'
  kt:∀H' X' σ' d',PsM H0 H' Y X' n ne fr to tw σ'→Inv n ne fr to tw R0 D σ'→Tr n ne fr to tw (R0+D) σ' d'→σ'.mb=σ.mb→(outs σ n+1≤outs σ' n∧σ'.m≤σ.m+1∨outs σ n≤outs σ' n∧lives σ'+1=lives σ∧σ'.m=σ.m)→K true false H'
  kg:∀H' σ',PsM H0 H' Y X n ne fr to tw σ'→Inv n ne fr to tw R0 D σ'→cnt (fun v=>decide (σ.mb v=-1)) n=cnt (fun v=>decide (σ'.mb v=-1)) n+2→σ'.m=σ.m→K true true H'
theorem pstep2 {K:Bool→Bool→Hp→Prop} (h:PsM H0 H Y X n ne fr to tw σ) (G:Gp n ne fr to tw R0 W) (I:Inv n ne fr to tw R0 D σ) (T:Tr n ne fr to tw (R0+D) σ d) (hm:σ.m≤1048576) (k:StK H0 Y X n ne fr to tw R0 D σ K) (hno:∀e,e<ne→¬ActE fr to tw σ e):Q45.j3 (some ⟨Y.sb,0,none⟩) E H K:=by
  have hnm:=I.kp.nm
  refine Q45.j3_eq ?_
  unfold Q45.j3_t
  simp only [nn_mk,get_at h.cell,gZ,gS,ldI_mk,ldS_mk,Nat.zero_add]
  refine Q45.l2_rule (fun s0 b' H1=>s0=some ⟨Y.sb,0,none⟩∧∃b:Nat,b'=b∧n≤b∧b≤σ.m∧PsM H0 H1 Y X n ne fr to tw σ∧∀c,c<b→¬ActB n σ c) (fun _ b' _=>σ.m-b'.toNat) ?_ ⟨rfl,n,rfl,Nat.le_refl _,hnm,h,fun c hc hh=>by have:=hh.1; omega⟩
  clear h
  rintro s0 b' H1 ⟨rfl,b,rfl,hb,hbm,h,hc⟩ X1 hX
  refine Q45.b2_eq ?_
  unfold Q45.b2_t
  simp only [nn_mk,get_at h.cell,gZ,gS,ldI_mk,ldS_mk,Nat.zero_add]
  refine bc (fun hl=>?_) fun hge=>?_
  · have hl:b<σ.m:=by omega
    refine h.pt (by omega) (by omega) fun c3 o3 q3=>?_
    rw [tN] at q3
    have g3:=h.get q3 hl
    simp only [g3.1,g3.2.1,g3.2.2.1,g3.2.2.2.1,g3.2.2.2.2.1,g3.2.2.2.2.2.1,g3.2.2.2.2.2.2.1,g3.2.2.2.2.2.2.2.1,g3.2.2.2.2.2.2.2.2,ldI_mk,ldS_mk]
    refine nwst rfl rfl fun b4 H2 hb4 e4 s2=>?_
    have h2:=h.keep0 s2
    simp only [get_at e4,gZ,gS,ldI_mk,ldS_mk]
    have nx:¬ActB n σ b→Q45.j4 (some ⟨Y.sb,0,none⟩) (b:Int) X1 E H2 K:=fun hno=>by
      refine Q45.j4_eq ?_
      unfold Q45.j4_t
      rw [i64w (by omega) (by omega)]
      refine hX _ _ _ ⟨rfl,b+1,by omega,by omega,by omega,h2,fun c hc'=>?_⟩ (by omega)
      by_cases e:c=b
      · rw [e]; exact hno
      · exact hc c (by omega)
    refine bc (fun h1=>?_) fun h1=>nx fun hh=>h1 hh.2.2.1
    refine bc (fun h3=>?_) fun h3=>nx fun hh=>h3 hh.2.2.2.1
    refine bc (fun h4=>?_) fun h4=>nx fun hh=>h4 hh.2.2.2.2
    refine popen h2 G I T hb ⟨hl,h1⟩ h3 fun H' lab ve vi vo up surf ix len pe pi po h' P O=>?_
    obtain ⟨d',T'⟩:=T.opn G I hb ⟨hl,h1⟩ h4 h3 P O
    obtain ⟨o1,o2⟩:=outs_opn I hb ⟨hl,h1⟩ h3 O
    exact k.kt H' X _ d' h' (I.opn G hb ⟨hl,h1⟩ h4 O) T' rfl (.inr ⟨o1,o2,rfl⟩)
  · refine k.kn H1 h ?_
    rintro (⟨e,he,ha⟩ | ⟨c,ha⟩)
    · exact hno e he ha
    · exact hc c (by have:=ha.2.1; omega) ha
theorem pstep {K:Bool→Bool→Hp→Prop} (h:PsM H0 H Y X n ne fr to tw σ) (G:Gp n ne fr to tw R0 W) (I:Inv n ne fr to tw R0 D σ) (T:Tr n ne fr to tw (R0+D) σ d) (B:Bds R0 D W) (hm:σ.m≤1048576) (k:StK H0 Y X n ne fr to tw R0 D σ K):Q45.call (some ⟨Y.sb,0,none⟩) E H K:=by
  have hnE:=h.nE
  have hnN:=h.nN
  refine Q45.of (Q45.run_eq ?_)
  unfold Q45.run_t
  simp only [nn_mk,get_at h.cell,gZ,gS,ldI_mk,ldS_mk,Nat.zero_add]
  refine Q45.l1_rule (fun s0 tp tn tc t18 t19 H1=>s0=some ⟨Y.sb,0,none⟩∧tp=Y.ep∧tn=ne∧t18=(ne:Int)∧∃i:Nat,t19=i∧i≤ne∧PsM H0 H1 Y X n ne fr to tw σ∧∀e,e<i→¬ActE fr to tw σ e)
    (fun _ _ _ _ _ t19 _=>ne-t19.toNat) ?_ ⟨rfl,rfl,rfl,rfl,0,rfl,Nat.zero_le _,h,fun e he=>by omega⟩
  clear h
  rintro s0 tp tn tc t18 t19 H1 ⟨rfl,rfl,rfl,rfl,i,rfl,hi,h,hno⟩ X1 hX
  refine Q45.b1_eq ?_
  unfold Q45.b1_t
  refine bc (fun hl=>?_) fun hge=>?_
  · have hl:i<tn:=by omega
    obtain ⟨hf,hto⟩:=G.nd i hl
    have hnl:=G.nl i hl
    have enf:En tn fr to i (fr i):=⟨hl,hnl,.inl rfl⟩
    have ent:En tn fr to i (to i):=⟨hl,hnl,.inr rfl⟩
    have otf:ot fr to i (fr i)=to i:=by unfold ot; omega
    have ott:ot fr to i (to i)=fr i:=by unfold ot; omega
    refine h.ed.ix3 (by omega) (by omega) fun c1 o1 y1 y2 y3=>?_
    simp only [tN,edF] at y1 y2 y3
    simp only [y1,y2,y3,ldI_mk]
    refine nwst rfl rfl fun b2 H2 hb2 e2 s2=>?_
    have h2:=h.keep0 s2
    have aw2:=h.fresh hb2
    simp only [nn_mk,get_at e2,get_at h2.cell,gZ,gS,ldI_mk,ldS_mk,Nat.zero_add]
    refine h2.rf.ixI (by omega) (by omega) ?_
    rw [tN]
    refine h2.rf.ixI (by omega) (by omega) ?_
    rw [tN]
    have sa:=(I.kp.srf _ hf).1
    have sb:=(I.kp.srf _ hto).1
    refine h2.pt (by omega) (Int.ofNat_lt.2 sa.1) fun c8 o7 q8=>?_
    rw [tN] at q8
    simp only [(h2.get q8 sa.1).2.2.2.2.1,ldI_mk]
    refine h2.pt (by omega) (Int.ofNat_lt.2 sb.1) fun c10 o9 q10=>?_
    rw [tN] at q10
    simp only [(h2.get q10 sb.1).2.2.2.2.1,ldI_mk]
    have nx:∀H3,PsM H0 H3 Y X n tn fr to tw σ→¬ActE fr to tw σ i→Q45.j2 (some ⟨Y.sb,0,none⟩) Y.ep tn tc (tn:Int) (i:Int) X1 E H3 K:=fun H3 h3 hn=>by
      refine Q45.j2_eq ?_
      unfold Q45.j2_t
      rw [i64w (by omega) (by omega)]
      refine hX _ _ _ _ _ _ _ ⟨rfl,rfl,rfl,rfl,i+1,by omega,by omega,h3,fun e he=>?_⟩ (by omega)
      by_cases e':e=i
      · rw [e']; exact hn
      · exact hno e (by omega)
    refine bc (fun hs=>nx _ h2 fun ha=>ha.1 (by omega)) fun hs=>?_
    have hs:σ.surf (fr i)≠σ.surf (to i):=fun e=>hs (by rw [e])
    obtain ⟨f1,f2⟩:=I.fits G B hl
    refine pslack h2 hf hto f1 f2 fun H3 s3=>?_
    have h3:=h2.keep0 s3
    refine bcn (fun hz=>nx _ h3 fun ha=>hz ha.2.1) fun hz=>?_
    have ht:=I.tgt0 G hl hs hz
    have e23:=s3.keep _ _ e2 fun h=>h
    have go:(σ.lab (σ.surf (fr i))=1∨σ.lab (σ.surf (to i))=1)→Q45.j1 (some ⟨Y.sb,0,none⟩) (i:Int) b2 (σ.surf (fr i):Int) (σ.surf (to i):Int) (σ.lab (σ.surf (fr i))) (σ.lab (σ.surf (to i))) Y.ep tn tc (tn:Int) (i:Int) X1 E H3 K:=fun hor=>by
      refine Q45.j1_eq ?_
      unfold Q45.j1_t
      simp only [get_at e23,gZ,gS,ldI_mk]
      refine bc (fun hx0=>?_) fun hx0=>?_
      · have:=pgrow (E:=E) (K:=fun H'=>K true false H') h3 G I T enf ht hx0 (by rw [otf]; omega) fun H' σ' d' h' I' T' g1 g2 g3 g4 _=>k.kt H' X σ' d' h' I' T' g4 (.inl ⟨g1,by omega⟩)
        rw [otf] at this
        exact this
      · refine bc (fun hy0=>?_) fun hy0=>?_
        · have:=pgrow (E:=E) (K:=fun H'=>K true false H') h3 G I T ent ht hy0 (by rw [ott]; omega) fun H' σ' d' h' I' T' g1 g2 g3 g4 _=>k.kt H' X σ' d' h' I' T' g4 (.inl ⟨g1,by omega⟩)
          rw [ott] at this
          exact this
        · refine bc (fun hx1=>?_) fun hx1=>nx _ h3 fun ha=>by rcases ha.2.2 with ⟨a,b⟩ | ⟨a,b⟩ | ⟨a,b⟩<;>omega
          refine bc (fun hy1=>?_) fun hy1=>nx _ h3 fun ha=>by rcases ha.2.2 with ⟨a,b⟩ | ⟨a,b⟩ | ⟨a,b⟩<;>omega
          refine pway h3 G I T sa hx1 fun H4 p4 c4 la s4 wp vp rp fp=>?_
          have h4:=h3.keep0 s4
          refine pway h4 G I T sb hy1 fun H5 p5 c5 lb s5 wq vq rq fq=>?_
          have h5:=h4.keep0 s5
          have rp5:=rp.keep s5 fun _ _ h=>h
          have hla:=wp.len G I T sa hx1
          have hlb:=wq.len G I T sb hy1
          have ew1:IntKind.wrap .i64 (((la+1:Nat):Int)-1)=(la:Int):=by rw [i64w (by omega) (by omega)]; omega
          have ew2:IntKind.wrap .i64 (((lb+1:Nat):Int)-1)=(lb:Int):=by rw [i64w (by omega) (by omega)]; omega
          rw [ew1,ew2]
          refine rp5.ixI (by omega) (by omega) ?_
          rw [tN]
          refine rq.ixI (by omega) (by omega) ?_
          rw [tN]
          have e25:=s5.keep _ _ (s4.keep _ _ e23 fun h=>h) fun h=>h
          simp only [get_at e25,gZ,gS,ldI_mk]
          refine bc (fun heq=>?_) fun hne=>?_
          · have wq':Wl σ (itr σ (σ.surf (to i))) lb (σ.surf (ot fr to i (fr i))):=by rw [otf]; exact wq
            have:=pshrink (E:=E) (K:=fun H'=>K true false H') h5 G I T hm enf ht (by rw [otf]; exact hs) hx1 (by rw [otf]; exact hy1) wp wq' (by omega) rp5 rq fun H' X' la' lb' F h'=>
              k.kt H' X' _ _ h' (I.shr G T F) (T.shr G I F) rfl (.inl ⟨outs_shr G I T F,Nat.le_refl _⟩)
            rw [otf] at this
            exact this
          · have way:∀{b:Nat} {l:Nat},Wl σ (itr σ b) l b→Wy σ b (itr σ b l):=fun {b l} w=>by
              have key:∀t,t≤l→Wy σ (itr σ b t) (itr σ b l)→Wy σ b (itr σ b l):=by
                intro t
                induction t with
                | zero=>intro _ hw; exact hw
                | succ t ih=>
                  intro ht hw
                  refine ih (by omega) (.step (w.nx t (by omega)).1 ?_)
                  rw [←(w.nx t (by omega)).2]; exact hw
              exact key l (Nat.le_refl _) (.here _)
            have wa:=way wp
            have wb:=way wq
            have hne:itr σ (σ.surf (fr i)) la≠itr σ (σ.surf (to i)) lb:=fun e=>hne (by rw [e])
            refine pturn (f:=σ.base) (g:=σ.mb) h5 G I T (fun w hw=>hw) (Tun.first G I T enf ht hx1 wa vp) fun H6 f6 g6 h6 Z6 t6=>?_
            have e26:=t6.at' e25 aw2
            simp only [get_at e26,gZ,gS,ldI_mk]
            have Z2:=Tun.second (R:=R0+D) (ρ':=itr σ (σ.surf (to i)) lb) G I T enf ht hx1 (by rw [otf]; exact hy1) wa vp (by rw [otf]; exact wb) vq hne Z6
            have hturn:=fun f7 g7 Z7=>Inv.turned (f2:=f7) (g2:=g7) (ρ:=itr σ (σ.surf (fr i)) la) (ρ':=itr σ (σ.surf (to i)) lb) G I T enf hx1 (by rw [otf]; exact hy1) wa vp (by rw [otf]; exact wb) vq hne Z6 Z7
            rw [otf] at Z2 hturn
            refine pturn h6 G I T (fun w hw=>hw.elim) Z2 fun H7 f7 g7 h7 Z7 t7=>?_
            obtain ⟨I7,c7⟩:=hturn f7 g7 Z7
            exact k.kg H7 _ h7 I7 c7 rfl
    refine bcn (fun hx1=>?_) fun hx1=>?_
    · refine bcn (fun hy1=>?_) fun hy1=>?_
      · exact nx _ h3 fun ha=>by rcases ha.2.2 with ⟨a,b⟩ | ⟨a,b⟩ | ⟨a,b⟩<;>omega
      · exact go (.inr hy1)
    · exact go (.inl hx1)
  · have:i=tn:=by omega
    subst this
    exact pstep2 h G I T hm k hno
end
end Go.Mz
/-
  Walks of layer 18: all weights a step on.
-/
namespace Go.Mz
structure FitP (n:Nat) (fr to:Nat→Nat) (tw:Nat→Int) (σ:KS) (i kk:Nat) (t:Int):Prop where
  t0:0≤t
  oo:∀e,e<i→σ.surf (fr e)≠σ.surf (to e)→σ.lab (σ.surf (fr e))=1→σ.lab (σ.surf (to e))=1→2*t≤tw e-σ.y (fr e)-σ.y (to e)
  of:∀e,e<i→σ.surf (fr e)≠σ.surf (to e)→σ.lab (σ.surf (fr e))=1→σ.lab (σ.surf (to e))=0→t≤tw e-σ.y (fr e)-σ.y (to e)
  fo:∀e,e<i→σ.surf (fr e)≠σ.surf (to e)→σ.lab (σ.surf (fr e))=0→σ.lab (σ.surf (to e))=1→t≤tw e-σ.y (fr e)-σ.y (to e)
  zz:∀b,n≤b→b<kk→σ.up b=-1→σ.lab b=2→2*t≤σ.z b
theorem min_le {x m:Int}:(if x<m then x else m)≤m∧(if x<m then x else m)≤x∧((if x<m then x else m)=x∨(if x<m then x else m)=m):=by
  by_cases h:x<m
  · rw [if_pos h]; exact ⟨by omega,Int.le_refl _,.inl rfl⟩
  · rw [if_neg h]; exact ⟨Int.le_refl _,by omega,.inr rfl⟩
section
variable {E:VP}
variable {H0 H Hc:Hp} {Y:PY} {X:KX} {n ne:Nat} {fr to:Nat→Nat} {tw:Nat→Int} {σ σ':KS} {b i e u kk:Nat} {R0 R D W t t':Int} {d:Nat→Nat}
theorem FitP.ed' (F:FitP n fr to tw σ i kk t) (h:t'≤t) (h0:0≤t')
    (c:σ.surf (fr i)≠σ.surf (to i)→(σ.lab (σ.surf (fr i))=1→σ.lab (σ.surf (to i))=1→2*t'≤tw i-σ.y (fr i)-σ.y (to i))∧(σ.lab (σ.surf (fr i))=1→σ.lab (σ.surf (to i))=0→t'≤tw i-σ.y (fr i)-σ.y (to i))∧(σ.lab (σ.surf (fr i))=0→σ.lab (σ.surf (to i))=1→t'≤tw i-σ.y (fr i)-σ.y (to i))):FitP n fr to tw σ (i+1) kk t':=by
  refine ⟨h0,fun e he h1 h2 h3=>?_,fun e he h1 h2 h3=>?_,fun e he h1 h2 h3=>?_,fun b h1 h2 h3 h4=>by have:=F.zz b h1 h2 h3 h4; omega⟩
  · by_cases ei:e=i
    · subst ei; exact (c h1).1 h2 h3
    · have:=F.oo e (by omega) h1 h2 h3; omega
  · by_cases ei:e=i
    · subst ei; exact (c h1).2.1 h2 h3
    · have:=F.of e (by omega) h1 h2 h3; omega
  · by_cases ei:e=i
    · subst ei; exact (c h1).2.2 h2 h3
    · have:=F.fo e (by omega) h1 h2 h3; omega
theorem FitP.kt' (F:FitP n fr to tw σ i kk t) (h:t'≤t) (h0:0≤t') (c:σ.up kk=-1→σ.lab kk=2→2*t'≤σ.z kk):FitP n fr to tw σ i (kk+1) t':=by
  refine ⟨h0,fun e he h1 h2 h3=>by have:=F.oo e he h1 h2 h3; omega,fun e he h1 h2 h3=>by have:=F.of e he h1 h2 h3; omega,fun e he h1 h2 h3=>by have:=F.fo e he h1 h2 h3; omega,fun b h1 h2 h3 h4=>?_⟩
  by_cases eb:b=kk
  · subst eb; exact c h3 h4
  · have:=F.zz b h1 (by omega) h3 h4; omega
theorem pchange4 {K:Hp→Prop} (h:PsM H0 H Y X n ne fr to tw { σ with y:=(σ.chg n t).y }) (hnm:n≤σ.m) (hm:σ.m≤1048576) (ht:0≤t∧t≤2 ^ 52) (hz:∀b,b<σ.m→0≤σ.z b∧σ.z b≤2 ^ 52)
    (k:∀H',PsM H0 H' Y X n ne fr to tw (σ.chg n t)→K H'):Q46.j9 (some ⟨Y.sb,0,none⟩) t E H K:=by
  refine Q46.j9_eq ?_
  unfold Q46.j9_t
  simp only [nn_mk,get_at h.cell,gZ,gS,ldI_mk,ldS_mk,Nat.zero_add]
  have zo:∀c,(c<n∨σ.m≤c)→(σ.chg n t).z c=σ.z c:=fun c hc=>if_neg fun hh=>by omega
  refine Q46.l4_rule (fun s0 mo b' H1=>s0=some ⟨Y.sb,0,none⟩∧mo=t∧∃b:Nat,b'=b∧n≤b∧b≤σ.m∧PsM H0 H1 Y X n ne fr to tw { σ with y:=(σ.chg n t).y,z:=fun c=>if c<b then (σ.chg n t).z c else σ.z c }) (fun _ _ b' _=>σ.m-b'.toNat) ?_ ⟨rfl,rfl,n,rfl,Nat.le_refl _,hnm,h.eq ?_⟩
  · clear h
    rintro s0 mo b' H1 ⟨rfl,rfl,b,rfl,hb,hbm,h⟩ X1 hX
    refine Q46.b4_eq ?_
    unfold Q46.b4_t
    simp only [nn_mk,get_at h.cell,gZ,gS,ldI_mk,ldS_mk,Nat.zero_add]
    refine bc (fun hl=>?_) fun hge=>?_
    · have hl:b<σ.m:=by omega
      have hzb:=hz b hl
      refine h.pt (by omega) (by show (b:Int)<(σ.m:Int); omega) fun c3 o3 q3=>?_
      rw [tN] at q3
      have g3:=h.get q3 hl
      have hzc:(if b<b then (σ.chg n mo).z b else σ.z b)=σ.z b:=if_neg (Nat.lt_irrefl b)
      have g34:H1.get c3 (o3+3)=some (.int .i64 (σ.z b)):=by rw [←hzc]; exact g3.2.2.2.1
      simp only [g34,g3.2.2.2.2.1,g3.2.2.2.2.2.2.2.2,ldI_mk]
      have hnx:∀H2 x,(σ.chg n mo).z b=x→PsM H0 H2 Y X n ne fr to tw { σ with y:=(σ.chg n mo).y,z:=upf (fun c=>if c<b then (σ.chg n mo).z c else σ.z c) b x }→Q46.j10 (some ⟨Y.sb,0,none⟩) mo (b:Int) X1 E H2 K:=fun H2 x hx h2=>by
        refine Q46.j10_eq ?_
        unfold Q46.j10_t
        rw [i64w (by omega) (by omega)]
        refine hX _ _ _ _ ⟨rfl,rfl,b+1,by omega,by omega,by omega,h2.eq ?_⟩ (by omega)
        simp only [KS.mk.injEq,true_and,and_true]
        funext c
        by_cases e:c=b
        · rw [e,upf_same,if_pos (by omega),hx]
        · rw [upf_ne e]
          by_cases e2:c<b
          · rw [if_pos e2,if_pos (by omega)]
          · rw [if_neg e2,if_neg (by omega)]
      have same:(fun c=>if c<b then (σ.chg n mo).z c else σ.z c)=upf (fun c=>if c<b then (σ.chg n mo).z c else σ.z c) b (σ.z b):=by
        funext c
        by_cases e:c=b
        · rw [e,upf_same]; exact hzc
        · rw [upf_ne e]
      have hkeep:(σ.chg n mo).z b=σ.z b→Q46.j10 (some ⟨Y.sb,0,none⟩) mo (b:Int) X1 E H1 K:=fun hx=>hnx H1 _ hx (by rw [←same]; exact h)
      have hval:(σ.chg n mo).z b=if σ.up b=-1 then σ.z b+2*mo*sg (σ.lab b) else σ.z b:=by
        show (if n≤b∧b<σ.m∧σ.up b=-1 then σ.z b+2*mo*sg (σ.lab b) else σ.z b)=_
        by_cases hu:σ.up b=-1
        · rw [if_pos ⟨hb,hl,hu⟩,if_pos hu]
        · rw [if_neg fun hh=>hu hh.2.2,if_neg hu]
      have hwr:∀x,(σ.chg n mo).z b=x→stC H1 c3 (o3+3) [.int .i64 x] fun H2=>Q46.j10 (some ⟨Y.sb,0,none⟩) mo (b:Int) X1 E H2 K:=fun x hx=>by
        refine h.stF (base:=σ.base) (z:=upf (fun c=>if c<b then (σ.chg n mo).z c else σ.z c) b x) (lab:=σ.lab) (ve:=σ.ve) (vi:=σ.vi) (vo:=σ.vo) (up:=σ.up) q3 hl (show 3+1≤9 by decide) ?_ (fun y hy=>?_) fun H2 h2 s2=>hnx H2 x hx h2
        · simp only [knF,KS.nums,upf_same]; rfl
        · simp only [knF,KS.nums,upf_ne hy]
      refine bcn (fun hu=>hkeep ?_) fun hu=>?_
      · rw [hval,if_neg hu]
      · have hu:σ.up b=-1:=hu
        rw [if_pos hu] at hval
        refine bc (fun h1=>?_) fun h1=>?_
        · have h1:σ.lab b=1:=h1
          rw [h1,sg_one] at hval
          rw [i64w (n:=2*mo) (by omega) (by omega),i64w (by omega) (by omega)]
          exact hwr _ (by omega)
        · have h1:¬σ.lab b=1:=h1
          refine bc (fun h2=>?_) fun h2=>hkeep ?_
          · have h2:σ.lab b=2:=h2
            rw [h2,sg_two] at hval
            rw [i64w (n:=2*mo) (by omega) (by omega),i64w (by omega) (by omega)]
            exact hwr _ (by omega)
          · have h2:¬σ.lab b=2:=h2
            rw [hval]; unfold sg; rw [if_neg h1,if_neg h2]; omega
    · have:b=σ.m:=by omega
      subst this
      refine k H1 (h.eq ?_)
      unfold KS.chg
      simp only [KS.mk.injEq,true_and,and_true]
      funext c
      by_cases e:c<σ.m
      · rw [if_pos e]
      · rw [if_neg e,if_neg (by omega)]
  · simp only [KS.mk.injEq,true_and,and_true]
    funext c
    by_cases e:c<n
    · rw [if_pos e,zo c (.inl e)]
    · rw [if_neg e]
theorem pchange3 {K:Hp→Prop} (h:PsM H0 H Y X n ne fr to tw σ) (I:Inv n ne fr to tw R0 D σ) (B:Bds R0 D W) (hm:σ.m≤1048576) (ht:0≤t∧t≤2 ^ 52)
    (k:∀H',PsM H0 H' Y X n ne fr to tw (σ.chg n t)→K H'):Q46.j7 (some ⟨Y.sb,0,none⟩) t E H K:=by
  have hnN:=h.nN
  have hK:=I.kp
  refine Q46.j7_eq ?_
  unfold Q46.j7_t
  simp only [nn_mk,get_at h.cell,gZ,gS,ldI_mk,ldS_mk,Nat.zero_add]
  refine Q46.l3_rule (fun s0 mo t128 t129 H1=>s0=some ⟨Y.sb,0,none⟩∧mo=t∧t128=(n:Int)∧∃i:Nat,t129=i∧i≤n∧PsM H0 H1 Y X n ne fr to tw { σ with y:=fun v=>if v<i then (σ.chg n t).y v else σ.y v }) (fun _ _ _ t129 _=>n-t129.toNat) ?_ ⟨rfl,rfl,rfl,0,rfl,Nat.zero_le _,h.eq (by simp)⟩
  clear h
  rintro s0 mo t128 t129 H1 ⟨rfl,rfl,rfl,i,rfl,hi,h⟩ X1 hX
  refine Q46.b3_eq ?_
  unfold Q46.b3_t
  refine bc (fun hl=>?_) fun hge=>?_
  · have hl:i<n:=by omega
    have hs:=(hK.srf i hl).1.1
    have hyb:=I.du.yb i hl
    have hd0:=I.du.d0
    have hr0:=B.r0
    have hdd:=B.d0
    simp only [nn_mk,get_at h.cell,gZ,gS,ldI_mk,ldS_mk,Nat.zero_add]
    refine h.rf.ixI (by omega) (by omega) ?_
    rw [tN]
    refine h.pt (by omega) (Int.ofNat_lt.2 hs) fun c4 o4 q4=>?_
    rw [tN] at q4
    have g4:=(h.get q4 hs).2.2.2.2.1
    simp only [g4,ldI_mk]
    have hyc:(if i<i then (σ.chg n mo).y i else σ.y i)=σ.y i:=if_neg (Nat.lt_irrefl i)
    have hnx:∀H2 x,(σ.chg n mo).y i=x→PsM H0 H2 Y X n ne fr to tw { σ with y:=upf (fun c=>if c<i then (σ.chg n mo).y c else σ.y c) i x }→Q46.j8 (some ⟨Y.sb,0,none⟩) mo (n:Int) (i:Int) X1 E H2 K:=fun H2 x hx h2=>by
      refine Q46.j8_eq ?_
      unfold Q46.j8_t
      rw [i64w (by omega) (by omega)]
      refine hX _ _ _ _ _ ⟨rfl,rfl,rfl,i+1,by omega,by omega,h2.eq ?_⟩ (by omega)
      simp only [KS.mk.injEq,true_and,and_true]
      funext c
      by_cases e:c=i
      · rw [e,upf_same,if_pos (by omega),hx]
      · rw [upf_ne e]
        by_cases e2:c<i
        · rw [if_pos e2,if_pos (by omega)]
        · rw [if_neg e2,if_neg (by omega)]
    have same:(fun c=>if c<i then (σ.chg n mo).y c else σ.y c)=upf (fun c=>if c<i then (σ.chg n mo).y c else σ.y c) i (σ.y i):=by
      funext c
      by_cases e:c=i
      · rw [e,upf_same]; exact hyc
      · rw [upf_ne e]
    have hval:=chg_y (σ:=σ) (n:=n) (t:=mo) hl
    have hwr:∀x,(σ.chg n mo).y i=x→ix (some ⟨Y.yb,0,none⟩) n (i:Int) 1 fun b o=>stC H1 b o [.int .i64 x] fun H2=>Q46.j8 (some ⟨Y.sb,0,none⟩) mo (n:Int) (i:Int) X1 E H2 K:=fun x hx=>by
      refine h.ry.stI (by omega) (by omega) _ fun H2 r2 s2=>?_
      rw [tN] at r2
      exact hnx H2 x hx (h.setY s2 r2)
    refine bc (fun h1=>?_) fun h1=>?_
    · have h1:σ.lab (σ.surf i)=1:=h1
      rw [h1,sg_one] at hval
      refine h.ry.ixI (by omega) (by omega) ?_
      rw [tN]
      show ix (some ⟨Y.yb,0,none⟩) n (i:Int) 1 fun b o=>stC H1 b o [.int .i64 (IntKind.wrap .i64 ((if i<i then (σ.chg n mo).y i else σ.y i)+mo))] _
      rw [hyc,i64w (by omega) (by omega)]
      exact hwr _ (by omega)
    · have h1:¬σ.lab (σ.surf i)=1:=h1
      refine bc (fun h2=>?_) fun h2=>hnx H1 _ ?_ (by rw [←same]; exact h)
      · have h2:σ.lab (σ.surf i)=2:=h2
        rw [h2,sg_two] at hval
        refine h.ry.ixI (by omega) (by omega) ?_
        rw [tN]
        show ix (some ⟨Y.yb,0,none⟩) n (i:Int) 1 fun b o=>stC H1 b o [.int .i64 (IntKind.wrap .i64 ((if i<i then (σ.chg n mo).y i else σ.y i)-mo))] _
        rw [hyc,i64w (by omega) (by omega)]
        exact hwr _ (by omega)
      · have h2:¬σ.lab (σ.surf i)=2:=h2
        rw [hval]; unfold sg; rw [if_neg h1,if_neg h2]; omega
  · have:i=n:=by omega
    subst this
    refine pchange4 (t:=mo) (h.eq ?_) hK.nm hm ht (fun b hb=>by have:=I.du.z0 b hb; have:=B.d0; omega) k
    simp only [KS.mk.injEq,true_and,and_true]
    funext v
    by_cases e:v<i
    · rw [if_pos e]
    · rw [if_neg e]; exact (if_neg e).symm
theorem pchange2 {K:Hp→Prop} {mo:Int} (h:PsM H0 H Y X n ne fr to tw σ) (I:Inv n ne fr to tw R0 D σ) (B:Bds R0 D W) (hm:σ.m≤1048576) (F:FitP n fr to tw σ ne n mo) (hA:mo=2 ^ 62∨Atn n ne fr to tw σ mo)
    (hbd:∀t,Fit n ne fr to tw σ t→t≤2 ^ 52) (k:∀H' t,PsM H0 H' Y X n ne fr to tw (σ.chg n t)→Fit n ne fr to tw σ t→Atn n ne fr to tw σ t→K H'):Q46.j5 (some ⟨Y.sb,0,none⟩) mo E H K:=by
  have hK:=I.kp
  refine Q46.j5_eq ?_
  unfold Q46.j5_t
  simp only [nn_mk,get_at h.cell,gZ,gS,ldI_mk,ldS_mk,Nat.zero_add]
  refine Q46.l2_rule (fun s0 mo b' H1=>s0=some ⟨Y.sb,0,none⟩∧∃b:Nat,b'=b∧n≤b∧b≤σ.m∧PsM H0 H1 Y X n ne fr to tw σ∧FitP n fr to tw σ ne b mo∧(mo=2 ^ 62∨Atn n ne fr to tw σ mo)) (fun _ _ b' _=>σ.m-b'.toNat) ?_ ⟨rfl,n,rfl,Nat.le_refl _,hK.nm,h,F,hA⟩
  clear h F hA mo
  rintro s0 mo b' H1 ⟨rfl,b,rfl,hb,hbm,h,F,hA⟩ X1 hX
  refine Q46.b2_eq ?_
  unfold Q46.b2_t
  simp only [nn_mk,get_at h.cell,gZ,gS,ldI_mk,ldS_mk,Nat.zero_add]
  refine bc (fun hl=>?_) fun hge=>?_
  · have hl:b<σ.m:=by omega
    have hz:=I.du.z0 b hl
    have hdd:=B.d0
    refine h.pt (by omega) (by omega) fun c3 o3 q3=>?_
    rw [tN] at q3
    have g3:=h.get q3 hl
    simp only [g3.1,g3.2.1,g3.2.2.1,g3.2.2.2.1,g3.2.2.2.2.1,g3.2.2.2.2.2.1,g3.2.2.2.2.2.2.1,g3.2.2.2.2.2.2.2.1,g3.2.2.2.2.2.2.2.2,ldI_mk,ldS_mk]
    refine nwst rfl rfl fun b4 H2 hb4 e4 s2=>?_
    have h2:=h.keep0 s2
    simp only [get_at e4,gZ,gS,ldI_mk,ldS_mk]
    have nx:∀mo',mo'≤mo→0≤mo'→(σ.up b=-1→σ.lab b=2→2*mo'≤σ.z b)→(mo'=2 ^ 62∨Atn n ne fr to tw σ mo')→Q46.j6 (some ⟨Y.sb,0,none⟩) mo' (b:Int) X1 E H2 K:=fun mo' m1 m2 m3 m4=>by
      refine Q46.j6_eq ?_
      unfold Q46.j6_t
      rw [i64w (by omega) (by omega)]
      exact hX _ _ _ _ ⟨rfl,b+1,by omega,by omega,by omega,h2,F.kt' m1 m2 m3,m4⟩ (by omega)
    refine bc (fun h1=>?_) fun h1=>nx mo (Int.le_refl _) F.t0 (fun hu=>(h1 hu).elim) hA
    refine bc (fun h3=>?_) fun h3=>nx mo (Int.le_refl _) F.t0 (fun _ hu=>(h3 hu).elim) hA
    refine ⟨by omega,?_⟩
    have ed:Int.tdiv (σ.z b) 2=σ.z b / 2:=Int.tdiv_eq_ediv_of_nonneg hz.1
    rw [ed,i64w (by omega) (by omega)]
    obtain ⟨m1,m2,m3⟩:=min_le (x:=σ.z b / 2) (m:=mo)
    have ht0:=F.t0
    refine nx _ m1 (by omega) (fun _ _=>by omega) ?_
    rcases m3 with e | e
    · rw [e]
      exact .inr (.inr (.inr ⟨b,hb,hl,h1,h3,by omega⟩))
    · rw [e]; exact hA
  · have:b=σ.m:=by omega
    subst this
    have Fi:Fit n ne fr to tw σ mo:=⟨F.t0,F.oo,F.of,F.fo,F.zz⟩
    have hle:=hbd mo Fi
    have hAt:Atn n ne fr to tw σ mo:=by
      rcases hA with e | e
      · rw [e] at hle
        exact absurd hle (by decide)
      · exact e
    exact pchange3 h I B hm ⟨F.t0,hle⟩ fun H' h'=>k H' mo h' Fi hAt
theorem pchange {K:Hp→Prop} (h:PsM H0 H Y X n ne fr to tw σ) (G:Gp n ne fr to tw R0 W) (I:Inv n ne fr to tw R0 D σ) (T:Tr n ne fr to tw (R0+D) σ d) (B:Bds R0 D W) (hm:σ.m≤1048576)
    (hbd:∀t,Fit n ne fr to tw σ t→t≤2 ^ 52) (k:∀H' t,PsM H0 H' Y X n ne fr to tw (σ.chg n t)→Fit n ne fr to tw σ t→Atn n ne fr to tw σ t→K H'):Q46.call (some ⟨Y.sb,0,none⟩) E H K:=by
  have hnE:=h.nE
  refine Q46.of (Q46.run_eq ?_)
  unfold Q46.run_t
  simp only [nn_mk,get_at h.cell,gZ,gS,ldI_mk,ldS_mk,Nat.zero_add]
  refine Q46.l1_rule (fun s0 mo tp tn tc t18 t19 H1=>s0=some ⟨Y.sb,0,none⟩∧tp=Y.ep∧tn=ne∧t18=(ne:Int)∧∃i:Nat,t19=i∧i≤ne∧PsM H0 H1 Y X n ne fr to tw σ∧FitP n fr to tw σ i n mo∧(mo=2 ^ 62∨Atn n ne fr to tw σ mo))
    (fun _ _ _ _ _ _ t19 _=>ne-t19.toNat) ?_ ⟨rfl,rfl,rfl,rfl,0,rfl,Nat.zero_le _,h,⟨by decide,fun e he=>by omega,fun e he=>by omega,fun e he=>by omega,fun b h1 h2=>by omega⟩,.inl (by decide)⟩
  clear h
  rintro s0 mo tp tn tc t18 t19 H1 ⟨rfl,rfl,rfl,rfl,i,rfl,hi,h,F,hA⟩ X1 hX
  refine Q46.b1_eq ?_
  unfold Q46.b1_t
  refine bc (fun hl=>?_) fun hge=>?_
  · have hl:i<tn:=by omega
    obtain ⟨hf,hto⟩:=G.nd i hl
    refine h.ed.ix3 (by omega) (by omega) fun c1 o1 y1 y2 y3=>?_
    simp only [tN,edF] at y1 y2 y3
    simp only [y1,y2,y3,ldI_mk]
    refine nwst rfl rfl fun b2 H2 hb2 e2 s2=>?_
    have h2:=h.keep0 s2
    simp only [nn_mk,get_at e2,get_at h2.cell,gZ,gS,ldI_mk,ldS_mk,Nat.zero_add]
    refine h2.rf.ixI (by omega) (by omega) ?_
    rw [tN]
    refine h2.rf.ixI (by omega) (by omega) ?_
    rw [tN]
    have sa:=(I.kp.srf _ hf).1
    have sb:=(I.kp.srf _ hto).1
    refine h2.pt (by omega) (Int.ofNat_lt.2 sa.1) fun c8 o7 q8=>?_
    rw [tN] at q8
    simp only [(h2.get q8 sa.1).2.2.2.2.1,ldI_mk]
    refine h2.pt (by omega) (Int.ofNat_lt.2 sb.1) fun c10 o9 q10=>?_
    rw [tN] at q10
    simp only [(h2.get q10 sb.1).2.2.2.2.1,ldI_mk]
    have ht0:=F.t0
    have nx:∀H3 mo',PsM H0 H3 Y X n tn fr to tw σ→mo'≤mo→0≤mo'→(σ.surf (fr i)≠σ.surf (to i)→(σ.lab (σ.surf (fr i))=1→σ.lab (σ.surf (to i))=1→2*mo'≤tw i-σ.y (fr i)-σ.y (to i))∧(σ.lab (σ.surf (fr i))=1→σ.lab (σ.surf (to i))=0→mo'≤tw i-σ.y (fr i)-σ.y (to i))∧(σ.lab (σ.surf (fr i))=0→σ.lab (σ.surf (to i))=1→mo'≤tw i-σ.y (fr i)-σ.y (to i)))→(mo'=2 ^ 62∨Atn n tn fr to tw σ mo')→
        Q46.j4 (some ⟨Y.sb,0,none⟩) mo' Y.ep tn tc (tn:Int) (i:Int) X1 E H3 K:=fun H3 mo' h3 m1 m2 m3 m4=>by
      refine Q46.j4_eq ?_
      unfold Q46.j4_t
      rw [i64w (by omega) (by omega)]
      exact hX _ _ _ _ _ _ _ _ ⟨rfl,rfl,rfl,rfl,i+1,by omega,by omega,h3,F.ed' m1 m2 m3,m4⟩ (by omega)
    refine bc (fun hs=>nx _ mo h2 (Int.le_refl _) ht0 (fun hne=>(hne (by omega)).elim) hA) fun hs=>?_
    have hs:σ.surf (fr i)≠σ.surf (to i):=fun e=>hs (by rw [e])
    obtain ⟨f1,f2⟩:=I.fits G B hl
    obtain ⟨v1,v2⟩:=T.even G I hl hs
    have sl:(σ.lab (σ.surf (fr i))=1∧σ.lab (σ.surf (to i))=0∨σ.lab (σ.surf (fr i))=0∧σ.lab (σ.surf (to i))=1)→Q46.j3 (some ⟨Y.sb,0,none⟩) mo b2 Y.ep tn tc (tn:Int) (i:Int) X1 E H2 K:=fun hor=>by
      refine Q46.j3_eq ?_
      unfold Q46.j3_t
      simp only [get_at e2,gZ,gS,ldI_mk]
      refine pslack h2 hf hto f1 f2 fun H3 s3=>?_
      obtain ⟨m1,m2,m3⟩:=min_le (x:=tw i-σ.y (fr i)-σ.y (to i)) (m:=mo)
      refine nx _ _ (h2.keep0 s3) m1 (by omega) (fun _=>⟨fun a b=>by omega,fun _ _=>m2,fun _ _=>m2⟩) ?_
      rcases m3 with e | e
      · rw [e]; exact .inr (.inr (.inl ⟨i,hl,hs,hor,rfl⟩))
      · rw [e]; exact hA
    have none':¬(σ.lab (σ.surf (fr i))=1∧σ.lab (σ.surf (to i))=1)→¬(σ.lab (σ.surf (fr i))=1∧σ.lab (σ.surf (to i))=0∨σ.lab (σ.surf (fr i))=0∧σ.lab (σ.surf (to i))=1)→Q46.j4 (some ⟨Y.sb,0,none⟩) mo Y.ep tn tc (tn:Int) (i:Int) X1 E H2 K:=fun n1 n2=>
      nx _ mo h2 (Int.le_refl _) ht0 (fun _=>⟨fun a b=>(n1 ⟨a,b⟩).elim,fun a b=>(n2 (.inl ⟨a,b⟩)).elim,fun a b=>(n2 (.inr ⟨a,b⟩)).elim⟩) hA
    have j2:¬(σ.lab (σ.surf (fr i))=1∧σ.lab (σ.surf (to i))=1)→¬(σ.lab (σ.surf (fr i))=1∧σ.lab (σ.surf (to i))=0)→Q46.j2 (some ⟨Y.sb,0,none⟩) mo b2 (σ.lab (σ.surf (fr i))) (σ.lab (σ.surf (to i))) Y.ep tn tc (tn:Int) (i:Int) X1 E H2 K:=fun n1 n2=>by
      refine Q46.j2_eq ?_
      unfold Q46.j2_t
      refine bc (fun hx=>?_) fun hx=>none' n1 fun hh=>by rcases hh with ⟨a,b⟩ | ⟨a,b⟩<;>omega
      refine bc (fun hy=>sl (.inr ⟨hx,hy⟩)) fun hy=>none' n1 fun hh=>by rcases hh with ⟨a,b⟩ | ⟨a,b⟩<;>omega
    have j1:¬(σ.lab (σ.surf (fr i))=1∧σ.lab (σ.surf (to i))=1)→Q46.j1 (some ⟨Y.sb,0,none⟩) mo b2 (σ.lab (σ.surf (fr i))) (σ.lab (σ.surf (to i))) Y.ep tn tc (tn:Int) (i:Int) X1 E H2 K:=fun n1=>by
      refine Q46.j1_eq ?_
      unfold Q46.j1_t
      refine bc (fun hx=>?_) fun hx=>j2 n1 fun hh=>hx hh.1
      refine bc (fun hy=>?_) fun hy=>j2 n1 fun hh=>hy hh.2
      exact bc (fun _=>sl (.inl ⟨hx,hy⟩)) fun hy'=>(hy' hy).elim
    refine bc (fun hx=>?_) fun hx=>j1 fun hh=>hx hh.1
    refine bc (fun hy=>?_) fun hy=>j1 fun hh=>hy hh.2
    refine pslack h2 hf hto f1 f2 fun H3 s3=>?_
    refine ⟨by omega,?_⟩
    have hev:=v2 (by omega) (by omega)
    have ed:Int.tdiv (tw i-σ.y (fr i)-σ.y (to i)) 2=(tw i-σ.y (fr i)-σ.y (to i)) / 2:=Int.tdiv_eq_ediv_of_nonneg v1
    rw [ed,i64w (by omega) (by omega)]
    obtain ⟨m1,m2,m3⟩:=min_le (x:=(tw i-σ.y (fr i)-σ.y (to i)) / 2) (m:=mo)
    refine nx _ _ (h2.keep0 s3) m1 (by omega) (fun _=>⟨fun _ _=>by omega,fun a b=>by omega,fun a b=>by omega⟩) ?_
    rcases m3 with e | e
    · rw [e]; exact .inr (.inl ⟨i,hl,hs,hx,hy,by omega⟩)
    · rw [e]; exact hA
  · have:i=tn:=by omega
    subst this
    exact pchange2 h I B hm F hA hbd k
end
end Go.Mz

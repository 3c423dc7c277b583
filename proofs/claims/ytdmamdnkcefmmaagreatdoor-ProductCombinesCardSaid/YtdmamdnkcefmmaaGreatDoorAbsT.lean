import Derived.Test.YtdmamdnkcefmmaaGreatDoorKGQF
import Derived.Deep.Slices
import Derived.DataReads
set_option linter.unusedSimpArgs false
set_option linter.unusedVariables false
set_option linter.unusedSectionVars false
set_option linter.defProp false
set_option maxRecDepth 100000
namespace Go.Proofs.YtdmamdnkcefmmaaGreatDoor
section
set_option exponentiation.threshold 500
def zN7{l:List (IT×Nat)}{q:Rat}(j:Nat):vG l q=vG (l.take j) q++vG (l.drop j) q:=by
 conv=>lhs;rw[←aJ j l]
 simp only[vG,a6]
def zNI{eq:List Dat}(hk:vj eq)(t:VT)(ht:t.ZO≤250)(l m:List (IT × Raw))(hl:l.length≤8)(hm:m.length≤8)(jq:∀ p∈l,p.1.ZO≤40∧p.2.ok 8)(kz:∀ p∈m,p.1.ZO≤40∧p.2.ok 8)(H:or)(K:Kt)(hK:K (yj eq t l m) H):
  ge tP 35 [.sl (eq.map Dat.cs) .none,.agg t.cs,.sl (twS l) .none,.sl (twS m) .none] H K:=by
 refine ge.out (yao λhs=>?_);obtain⟨x,y,z,fD,hx,hy,hz⟩:=ve t;have hO:∀(e:Int) J,yj eq t l m=.tup [.sl [] .none,I6 e]→Out H.length K (.tup [.ZG,I6 e]) (H++J):=λe J he=>Out.tup (bs:=[.sl [] .none,I6 e]) hs (by rw[←he];exact hK) ⟨xd,uJ rfl rfl,trivial⟩;simp[zHV,fD,aa];rw[←fD];refine Ug hk t (by omega) l (by omega) (λp hp=>by have:=jq p hp;omega) _ _ ?_;cases iW:wP eq t l with
 |false=>simp[fD,aa];exact⟨⟨rfl,rfl⟩,hO 1 _ (by simp[yj,iW])⟩
 |true=>
 simp[fD,aa];rw[←fD];refine Ug hk t (by omega) m (by omega) (λp hp=>by have:=kz p hp;omega) _ _ ?_;cases jS:wP eq t m with
 |false=>simp[fD,aa];exact⟨⟨rfl,rfl⟩,hO 1 _ (by simp[yj,jS])⟩
 |true=>
 obtain⟨hf,i9⟩:=Ah iW;obtain⟨_,ij⟩:=Ah jS;have h8:=BQ hf;obtain⟨tG,jn⟩:vM eq=true∧uW eq 0 t=true:=by unfold wC at hf;simpa using hf
 have gM:yB eq t l=.tup [.sl (twS (wQ eq t l)) .none,I0]:=by simp[yB,iW]
 have iU:yB eq t m=.tup [.sl (twS (wQ eq t m)) .none,I0]:=by simp[yB,jS]
 simp[fD,aa];rw[←fD];refine Uh hk t ht l hl (λp hp=>⟨by have:=jq p hp;omega,(jq p hp).2⟩) _ _ ?_;rw[gM];simp[fD,aa];rw[←fD];refine Uh hk t ht m hm (λp hp=>⟨by have:=kz p hp;omega,(kz p hp).2⟩) _ _ ?_;rw[iU];obtain⟨D1,wp⟩:=Cd (eq:=eq) (t:=t) (B:=40) hl λp hp=>⟨(jq p hp).1,(jq p hp).2,i9 p hp⟩;obtain⟨D2,wq⟩:=Cd (eq:=eq) (t:=t) (B:=40) hm λp hp=>⟨(kz p hp).1,(kz p hp).2,ij p hp⟩;have kH:yj eq t l m=yi eq t (wQ eq t l) (wQ eq t m):=by simp[yj,iW,jS]
 rw[kH]at hO hK;clear kH gM iU;generalize wQ eq t l=p at *;generalize wQ eq t m=q at *;by_cases ib:p=[]
 ·subst ib;simp[twS];exact⟨⟨rfl,rfl⟩,hO 0 _ (by simp[yi])⟩
 by_cases oH:q=[]
 ·subst oH;have qg:((p.length:Int) == 0)=false:=by simpa using ib
  simp[twS,qg];exact⟨⟨rfl,rfl⟩,hO 0 _ (by simp[yi])⟩
 obtain⟨n1,gx⟩:∃n,p.length=n+1:=⟨p.length-1,by have:=bV.2 ib;omega⟩;obtain⟨n2,ig⟩:∃n,q.length=n+1:=⟨q.length-1,by have:=bV.2 oH;omega⟩;have gQ:=wp.len;have jw:=wq.len;have k1:n1<p.length:=by omega
 have k2:n2<q.length:=by omega
 have w1:IntKind.i64.wrap (n1:Int)=(n1:Int):=um (by omega) (by omega);have w2:IntKind.i64.wrap (n2:Int)=(n2:Int):=um (by omega) (by omega);obtain⟨e1,e2,_,_⟩:=wp.mem _ (ae k1);obtain⟨g1,g2,_,_⟩:=wq.mem _ (ae k2);have r1:=Dr (h8:=h8) p[n1].1 t;have r2:=Dr (h8:=h8) q[n2].1 t;have qG:=DI (eq:=eq) (t:=t) gx;have o7:=DI (eq:=eq) (t:=t) ig;have w3:IntKind.i64.wrap (rdV eq p[n1].1 t+rdV eq q[n2].1 t)=rdV eq p[n1].1 t+rdV eq q[n2].1 t:=um (by omega) (by omega);have z1:((n1:Int)+1 == 0)=false:=by simp;omega
 have z2:((n2:Int)+1 == 0)=false:=by simp;omega
 simp[fD,gx,ig,z1,z2,w1,w2,k1,k2,wY,wX,aa];rw[←fD];refine⟨by omega,?_⟩;refine ur (I6 (rdV eq p[n1].1 t)) (λJ=>SP eq hk t (by omega) p[n1].1 (by omega) _ _ ⟨by rw[DH hf],rfl⟩) ?_;refine⟨by omega,?_⟩;refine ur (I6 (rdV eq q[n2].1 t)) (λJ=>SP eq hk t (by omega) q[n2].1 (by omega) _ _ ⟨by rw[DH hf],rfl⟩) ?_;by_cases jN:6<rdV eq p[n1].1 t+rdV eq q[n2].1 t
 ·simp[w3,jN];exact⟨⟨rfl,rfl⟩,hO 13 _ (by simp[yi,ib,oH,qG,o7,jN])⟩
 have qh:∀v∈p,∀w∈q,rdV eq v.1 t+rdV eq w.1 t≤6:=λv hv w hw=>by have:=wp.last gx v hv;have:=wq.last ig w hw;omega
 have iR:yi eq t p q=if 1000<(uA [] (uH (mF eq t) p q)).length then .tup [.sl [] .none,I6 9] else .tup [.sl (twS (zbcq eq t (up (uA [] (uH (mF eq t) p q))) 7)) .none,I0]:=by simp[yi,ib,oH,qG,o7,jN]
 obtain⟨mt,nG,oI⟩:=Ul wp wq (f:=mF eq t) λv hv w hw=>by obtain⟨v1,v2,_,_⟩:=wp.mem v hv;obtain⟨u1,u2,_,_⟩:=wq.mem w hw;obtain⟨a,b⟩:=Um h8 (t:=t) v2 u2 (qh v hv w hw);exact⟨λy hy=>by obtain⟨y1,y2,y3⟩:=a y hy;exact⟨y1,y2,by omega⟩,b⟩
 simp[fD,w3,jN,aa];rw[←fD];obtain⟨A,hA⟩:∃A,A=H++[AB.cells t.cs]:=⟨_,rfl⟩;have kv:A.length=H.length+1:=by rw[hA];simp
 have a0:A[H.length]?=some (.cells t.cs):=by rw[hA];simp
 have hAs:HSc A:=by rw[hA];refine hs.append ?_;obtain⟨t1,t2,t3⟩:=t;simp[AB.sc,AV.ZH,AV.ZI,VT.cs]
 rw[←hA];have kN:List.take 3 t.cs=t.cs:=am (by obtain⟨a,b,c⟩:=t;simp[VT.cs]);have kp:t.cs.length=3:=by obtain⟨a,b,c⟩:=t;rfl
 obtain⟨C,hC⟩:∃C,C=uA [] (uH (mF eq t) p q):=⟨_,rfl⟩;obtain⟨cq,hcq⟩:∃cq:List (IT×Rat)→List (IT×Rat),cq=uA []:=⟨_,rfl⟩;unfold No;refine tM.vec 13 55 5 rfl ?_;show No (.sl (eq.map Dat.cs) .none) (.ptr H.length 0) (.sl (twS q) .none) (.ov A.length 0) (.sl (twS p) .none) (I6 ((n1:Int)+1)) I0 (A++[.vec 55 5 0 []]) (Out H.length K);rw[show ((n1:Int)+1)=(p.length:Int) by omega]
 -- what holds of the heap while X has been added
 obtain⟨Iv,qj⟩:∃Iv:List (IT×Rat)→Nat→or→Prop,Iv=λX id H'=>H'[id]?=some (.vec 55 5 (uA [] X).length (tw (up (uA [] X))))∧A.length≤id∧(∀x,x<A.length→H'[x]?=A[x]?)∧A.length≤H'.length:=⟨_,rfl⟩;refine yak (Inv:=λr t13 t84 H'=>∃j1 id:Nat,j1≤p.length∧p.length-j1=r∧t84=I6 j1∧t13=.ov id (uA [] (uH (mF eq t) (p.take j1) q)).length∧Iv (uH (mF eq t) (p.take j1) q) id H') p.length ?_ ?_
 ·intro _;refine⟨0,A.length,by omega,rfl,rfl,by simp[uH,uA],?_⟩;rw[qj];exact⟨by simp[uH,uA,up,tw],af _,λx hx=>ah hx,by simp⟩
 ·rintro r t13 t84 H' ⟨j1,id,nM,rfl,rfl,rfl,hI⟩ hsc15 hlen15 hsF15 Kb15 nq;have o8:=hI;rw[qj]at o8;obtain⟨i1,i2,i3,i4⟩:=o8;have idl:=uR i1;by_cases fy:j1<p.length
  ·have fN:=Uj (f:=mF eq t) (q:=q) fy;obtain⟨v1,v2,v3,v4⟩:=wp.mem _ (ae fy);have vok:=wp.ok _ (ae fy);simp[Nr,fy,wX,xN];refine⟨xN _,?_⟩;refine yal (Inv:=λr t13 t90 H3=>∃j2 id2:Nat,j2≤q.length∧q.length-j2=r∧t90=I6 j2∧t13=.ov id2 (uA [] (uH (mF eq t) (p.take j1) q++rwG (mF eq t) p[j1] (q.take j2))).length∧Iv (uH (mF eq t) (p.take j1) q++rwG (mF eq t) p[j1] (q.take j2)) id2 H3∧H3[H'.length]?=some (.cells (twC p[j1]))∧id2≠H'.length) q.length ?_ ?_
   ·intro _;refine⟨0,id,by omega,rfl,rfl,by simp[rwG],?_,by simp,by omega⟩;rw[qj];refine⟨by simp[rwG];rw[ah idl,i1],i2,λx hx=>by rw[ah (by omega),i3 x hx],by simp;omega⟩
   ·rintro r t13 t90 H3 ⟨j2,id2,lP,rfl,rfl,rfl,qt,mq,hne2⟩ hsc18 hlen18 hsF18 Kb18 kK;have o8:=qt;rw[qj]at o8;obtain⟨m1,m2,m3,m4⟩:=o8;have idl2:=uR m1;have hpbl:=uR mq;by_cases fT:j2<q.length
    ·obtain⟨u1,u2,u3,u4⟩:=wq.mem _ (ae fT);have uok:=wq.ok _ (ae fT);have tH:=qh _ (ae fy) _ (ae fT);have iq:=zCS (mF eq t) p q fy fT;have ko:=Ui (f:=mF eq t) (v:=p[j1]) fT;obtain⟨W,rF⟩:∃ W,W=mF eq t p[j1].1 q[j2].1:=⟨_,rfl⟩;obtain⟨P1,P2⟩:=Um h8 (t:=t) v2 u2 tH;rw[←rF]at P1 P2 ko iq;obtain⟨c,hc⟩:∃ c,c=p[j1].2.val*q[j2].2.val:=⟨_,rfl⟩;rw[←hc]at ko iq;obtain⟨R,hR⟩:∃ R,R=uH (mF eq t) (p.take j1) q++rwG (mF eq t) p[j1] (q.take j2):=⟨_,rfl⟩;have oh:uH (mF eq t) (p.take j1) q++rwG (mF eq t) p[j1] (q.take (j2+1))=R++vG W c:=by rw[ko,hR,aB]
     rw[←hR]at iq m1 qt ⊢;obtain⟨rr,tI⟩:∃rr,rr=rwG (mF eq t) p[j1] (q.drop (j2+1))++uH (mF eq t) (p.drop (j1+1)) q:=⟨_,rfl⟩;rw[←tI]at iq;have qi:(ofR c).ok 400:=by rw[hc];exact x7 ((v4.mul u4).lim (aI (aZ wp.dle wq.dle) (by decide)) (by decide))
     have gk:H3[H.length]?=some (.cells t.cs):=by rw[m3 _ (by omega)];exact a0
     simp[Uq,fT,wX,xN,wY,vq gk,vq mq,kN,kp];refine⟨xN _,?_⟩;try simp[wY,vq gk,vq mq,kN,kp]
     refine(zBV hk h8 tG (p[j1].1.ZO+q[j2].1.ZO)).1 t p[j1].1 q[j2].1 (af _) (by omega) jn v2 u2 (by omega) (by omega) _ _ ?_;have hWd':W=we eq (p[j1].1.ZO+q[j2].1.ZO) t p[j1].1 q[j2].1:=rF;rw[←hWd'];simp;refine yam (Inv:=λr t13 t102 H4=>∃k id3:Nat,k≤W.length∧W.length-k=r∧t102=I6 k∧t13=.ov id3 (uA [] (R++vG (W.take k) c)).length∧Iv (R++vG (W.take k) c) id3 H4∧H4[H'.length]?=some (.cells (twC p[j1]))∧H4[H3.length]?=some (.cells (twC q[j2]))∧id3≠H'.length∧id3≠H3.length) W.length ?_ ?_
     ·intro _;refine⟨0,id2,by omega,rfl,rfl,by simp[vG],?_,vq mq,by simp,hne2,by omega⟩;rw[qj];refine⟨by simp[vG];rw[ah idl2,m1],m2,λx hx=>by rw[ah (by omega),m3 x hx],by simp;omega⟩
     ·rintro r t13 t102 H4 ⟨k,id3,oP,rfl,rfl,rfl,tJ,qe,ss,hne3,hne4⟩ hsc21 hlen21 hsF21 Kb21 nz;have o8:=tJ;rw[qj]at o8;obtain⟨s1,s2,s3,s4⟩:=o8;have idl3:=uR s1;have hpcl:=uR qe;have hqcl:=uR ss;by_cases qk:k<W.length
      ·obtain⟨y1,y2,y3⟩:=P1 _ (ae qk);have jM:=zN6 (q:=c) qk;have sq:uH (mF eq t) p q=(R++vG (W.take k) c)++[(W[k].1,(ofR ((W[k].2:Rat)*c)).val)]++(vG (W.drop (k+1)) c++rr):=by rw[iq,zN7 (k+1),jM,wt];simp only[aB]
       have hyok:(ofR ((W[k].2:Rat)*c)).ok 400:=by
        have oQ:(W[k].1,(ofR ((W[k].2:Rat)*c)).val)∈uH (mF eq t) p q:=by rw[sq];simp
        have:=(oI _ oQ).2.2;rw[wt]at this;exact x7 this
       simp[Up,qk,B6,AT,vq qe,vq ss,Af,y5,xD];refine⟨AT _,?_⟩;try simp[y5,xD,vq qe,vq ss]
       refine ur (.agg (uS c)) (λJ=>Ru _ _ vok uok _ _ ⟨by rw[hc],rfl⟩) ?_;rw[zCQ];refine ur (.agg (uS ((W[k].2:Rat)*c))) (λJ=>Ru _ (ofR c) (zB4 (aI y1 (by decide)) (by decide)) qi _ _ ⟨by rw[wt,wt],rfl⟩) ?_;refine zz1 (c:=ofR ((W[k].2:Rat)*c)) mt sq (λx hx=>by have:=(oI x hx).1;omega) hyok (by omega) id3 _ _ (vq s1) (λid' H5 k0 k1 k2 k3 k4 k5=>?_);rw[wt,aB,←jM]at k2 ⊢;simp at k5;simp[wi k (by omega)];have hid5:=uR k2;have oP:id'=id3∨H4.length<id':=by
        rcases k3 with rfl|k3
        ·exact .inl rfl
        ·simp at k3;exact .inr (by omega)
       refine nz _ _ ⟨W.length-(k+1),by omega,Back.here (by omega) k1 (by simp[Nq,ux,AV.sc,AV.ZH,AV.ZI,AV.ZJ];omega) ⟨_,_,rfl,k+1,id',by omega,rfl,rfl,rfl,?_,?_,?_,by omega,by omega⟩⟩
       ·rw[qj];refine⟨k2,by omega,λx hx=>?_,by omega⟩;rw[k4 x (by omega) (by simp;omega),ah (by omega),s3 x hx]
       ·rw[k4 _ (by omega) (by simp;omega),ah hpcl,qe]
       ·rw[k4 _ (by omega) (by simp;omega),ah hqcl,ss]
      ·obtain rfl:k=W.length:=by omega
       rw[az]at *;simp[Up,wi j2 (by omega)];rw[←oh]at tJ ⊢;exact kK _ _ ⟨q.length-(j2+1),by omega,Back.here (by omega) hsc21 (by simp[Np,ux,AV.sc,AV.ZH,AV.ZI,AV.ZJ];omega) ⟨_,_,rfl,j2+1,id3,by omega,rfl,rfl,rfl,tJ,qe,hne3⟩⟩
    ·obtain rfl:j2=q.length:=by omega
     rw[az]at *;simp[Uq,wi j1 (by omega)];rw[←fN]at qt ⊢;exact nq _ _ ⟨p.length-(j1+1),by omega,Back.here (by omega) hsc18 (by simp[Nn,ux,AV.sc,AV.ZH,AV.ZI,AV.ZJ];omega) ⟨_,_,rfl,j1+1,id2,by omega,rfl,rfl,rfl,qt⟩⟩
  ·obtain rfl:j1=p.length:=by omega
   rw[az]at *;rw[iR]at hK;have gN:=DG (uH (mF eq t) p q) [];simp at gN;have qE:=Nl (B:=80) (L:=uH (mF eq t) p q) λx hx=>(oI x hx).1;generalize uH (mF eq t) p q=R at *;have hHJ:∀H2:or,(∀x,x<A.length→H2[x]?=A[x]?)→A.length≤H2.length→∃J,H2=H++J:=λH2 h1 h2=>by obtain⟨J,hJ⟩:=zCK h1 h2;exact⟨_,by rw[hJ,hA,aB]⟩
   have gk:H'[H.length]?=some (.cells t.cs):=by rw[i3 _ (by omega)];exact a0
   by_cases iV:1000<(uA [] R).length
   ·have gO:(1000:Int)<((uA [] R).length:Int):=by omega
    rw[aN iV]at hK;simp[Nr,gO];obtain⟨J,hJ⟩:=hHJ H' i3 i4;rw[hJ];exact⟨⟨rfl,rfl⟩,Out.tup (bs:=[.sl [] .none,I6 9]) hs hK ⟨xd,uJ rfl rfl,trivial⟩⟩
   ·have gO:¬ (1000:Int)<((uA [] R).length:Int):=by omega
    rw[aG iV]at hK;simp[Nr,gO,gk,kN,kp];refine ge.frzV3 id 55 5 (uA [] R).length (tw (up (uA [] R))) (twS (up (uA [] R))) i1 (by rw[KT];exact FX _) (by simp) (λc hc=>by
     obtain⟨p,_,rfl⟩:=aF.1 hc;simp) ?_
    refine zCV hk h8 t (by omega) (up (uA [] R)) (λp hp=>by
     obtain⟨r,hr,rfl⟩:=aF.1 hp;exact aC (qE r hr) (by decide)) (by simp;omega) _ _ ?_
    obtain⟨J,hJ⟩:=hHJ (H'.set id .dead) (λx hx=>by rw[aj (by omega),i3 x hx]) (by simp;omega);rw[hJ];exact⟨⟨rfl,rfl⟩,Out.tup (bs:=[.sl (twS (zbcq eq t (up (uA [] R)) 7)) .none,I0]) hs hK ⟨uJ rfl rfl,uJ rfl rfl,trivial⟩⟩
end
section
variable (t0 t1 t2 t3 t5:AV) (H:or) (K:Kt) (Kb2:Lt)
def Ns:Nat→List Bool|2=>rl false [0,2,3,1,31]|_=>[]
noncomputable def zxw:=bd Tryz.f31
def Nt:=t0::t1::ux 3 (t5::ux 31 [])
def zZ2:=Ns 2
noncomputable def zZ0:=uc [1,0,1,0,0] zxw
def zZZ:=ud tP Ns [1,0,1,0] zxw (uq tP Tryz.f31.results.toList K)
def zHN:=tM tP zZ0 (zZZ K) (Nt t0 t1 t5) H
def F5:=tV 1 t0 λt8=>gt .lss false t5 t8 λt9=>agm t9 true H t5 λt11 H=>agm t9 true H t1 λt12 H=>agu t9 true H (gt .leq false t11 t12) λt13 H=>tZ t9 t13 (.bool false) λt14=>tO t14 (tW 5 t0 t5 λt19=>tN 0 t19 λt20=>tL true 2 t20 H λt21=>ge tP 11 [t21] H λt22 H=>aUn .not t22 λt23=>agm t23 false H t0 λt25 H=>agm t23 false H t5 λt26 H=>agu t23 false H (tW 5 t25 t26) λt27 H=>agu t23 false H (tN 2 t27) λt28 H=>agu t23 false H (tL true 3 t28 H) λt29 H=>agc tP t23 false H 65 [t29] λt30 H=>agu t23 false H (aUn .not t30) λt31 H=>tZ t23 (.bool true) t31 λt32=>tO t32 (K (.bool false) H) (gt .add false t5 I1 λt16=>Kb2 (Nt t0 t1 t16) H)) (tV 1 t0 λt34=>gt .leq false t34 t1 λt36=>K t36 H)
def zHM:=zHN t0 t1 I0 H K
def ycU(_:Nat):List Bool:=[]
def zIU:=ul t0 H λt1 H=>tN 1 t1 λt3=>tL false 1 t3 H λt4=>tV 1 t4 λt5=>gt .leq false t5 (I6 8) λt6=>agu t6 true H (tN 2 t1) λt8 H=>agu t6 true H (tL false 1 t8 H) λt9 H=>agu t6 true H (tV 1 t9) λt10 H=>agu t6 true H (gt .leq false t10 (I6 8)) λt11 H=>tZ t6 t11 (.bool false) λt12=>K t12 H
def ydp(_:Nat):List Bool:=[]
def zq6:=ul t1 H λt5 H=>tL true 3 t5 H λt18=>ge tP 10 [t0,t18] H λt19 H=>aUn .not t19 λt20=>agm t20 false H t2 λt22 H=>agc tP t20 false H 31 [t22,(I6 8)] λt23 H=>agu t20 false H (aUn .not t23) λt24 H=>tZ t20 (.bool true) t24 λt25=>agm t25 false H t3 λt27 H=>agc tP t25 false H 31 [t27,(I6 8)] λt28 H=>agu t25 false H (aUn .not t28) λt29 H=>tZ t25 (.bool true) t29 λt30=>tO t30 (K (.bool true) H) (tL true 3 t5 H λt33=>ge tP 32 [t0,t33,t2] H λt35 H=>uo t35 0 λt36=>uo t35 1 λt37=>tL true 3 t5 H λt40=>ge tP 33 [t0,t40,t2] H λt42 H=>uo t42 0 λt43=>uo t42 1 λt44=>tL true 3 t5 H λt47=>ge tP 34 [t0,t47,t2,t3] H λt50 H=>uo t50 0 λt51=>uo t50 1 λt52=>tL true 3 t5 H λt55=>ge tP 35 [t0,t55,t2,t3] H λt58 H=>uo t58 0 λt59=>uo t58 1 λt60=>gt .eql false t37 t44 λt63=>agm t63 true H t36 λt65 H=>agm t63 true H t43 λt66 H=>agc tP t63 true H 14 [t65,t66] λt67 H=>tZ t63 t67 (.bool false) λt68=>agm t68 true H t52 λt70 H=>agm t68 true H t60 λt71 H=>agu t68 true H (gt .eql false t70 t71) λt72 H=>tZ t68 t72 (.bool false) λt73=>agm t73 true H t51 λt75 H=>agm t73 true H t59 λt76 H=>agc tP t73 true H 14 [t75,t76] λt77 H=>tZ t73 t77 (.bool false) λt78=>agc tP t78 true H 15 [] λt80 H=>tZ t78 t80 (.bool false) λt81=>K t81 H)
variable {t0 t1 t2 t3 t5} {H} {K} {Kb2}
def zZ1:Lo1 (λt5=>Nt t0 t1 t5) (λt5 H Kb2=>F5 t0 t1 t5 H K Kb2) t5 H (zHN t0 t1 t5 H K):=lq1 Ns zZ2
def zZ3(h:HSc H→zHM t0 t1 H K):ge tP 31 [t0,t1] H K:=
 acb Ns Tryz.func31 h
def ycW(h:HSc H→zIU t0 H K):ge tP 65 [t0] H K:=
 acb ycU Tryz.func65 h
def ydr(h:HSc H→zq6 t0 t1 t2 t3 H K):ge tP 8 [t0,t1,t2,t3] H K:=
 acb ydp Tryz.func8 h
end
section
set_option exponentiation.threshold 500
def ycX(r:Raw)(H:or)(K:Kt)(hK:∀b,(b=true→r.ns.length≤8∧r.ds.length≤8)→K (.bool b) H):ge tP 65 [.agg r.cs] H K:=by
 refine ge.out (ycW λhs=>?_);have hO:∀b,(b=true→r.ns.length≤8∧r.ds.length≤8)→∀J,Out H.length K (.bool b) (H++J):=λb h J=>Out.bool rfl (af _) hs (hK b h);simp[zIU,Raw.cs,aa];by_cases h1:r.ns.length≤8
 ·have iz:(r.ns.length:Int)≤8:=by omega
  simp[iz,aa];by_cases h2:r.ds.length≤8
  ·have n8:(r.ds.length:Int)≤8:=by omega
   simp[n8];exact hO _ (λ_=>⟨h1,h2⟩) _
  ·have n8:¬ (r.ds.length:Int)≤8:=by omega
   simp[n8];exact hO _ (λh=>by cases h) _
 ·have iz:¬ (r.ns.length:Int)≤8:=by omega
  simp[iz];exact hO _ (λh=>by cases h) _
def zHO(l:List (IT×Raw))(H:or)(K:Kt)(hK:∀b,(b=true→l.length≤8∧∀p∈l,p.1.ZO≤40∧p.2.ns.length≤8∧p.2.ds.length≤8)→K (.bool b) H):ge tP 31 [.sl (twS l) .none,I6 8] H K:=by
 refine ge.out (zZ3 λhs=>?_);have hO:∀b,(b=true→l.length≤8∧∀p∈l,p.1.ZO≤40∧p.2.ns.length≤8∧p.2.ds.length≤8)→Out H.length K (.bool b) H:=λb h=>Out.bool (J:=[]) (by simp) (af _) hs (hK b h);simp[zHM];refine zZ1 (Inv:=λq t5 H'=>∃i:Nat,i≤l.length∧9-i=q∧i≤9∧t5=I6 i∧H'=H∧∀p∈l.take i,p.1.ZO≤40∧p.2.ns.length≤8∧p.2.ds.length≤8) 9 ?_ ?_
 ·intro _;exact⟨0,by omega,rfl,by omega,rfl,rfl,by simp⟩
 ·rintro q t5 H' ⟨i,hi,rfl,hi9,rfl,rfl,fX⟩ fG fz fM Kb fB;by_cases fy:i<l.length
  ·have fK:(i:Int)<(l.length:Int):=by omega
   by_cases hi8:i≤8
   ·have ql:(i:Int)≤8:=by omega
    simp[F5,fy,ql,wX,wY,aa];refine yfU l[i].1 _ _ λb1 gJ=>?_;cases b1 with
    |false=>simp;exact hO _ (λh=>by cases h)
    |true=>
    simp[fy,wX,wY,xD];refine ycX l[i].2 _ _ λb2 gF=>?_;cases b2 with
    |false=>simp;exact hO _ (λh=>by cases h)
    |true=>
    simp[wi i (by omega)];refine fB _ _ ⟨9-(i+1),by omega,Back.here (by simp) hs (by simp[Nt,ux,AV.sc,AV.ZH,AV.ZI,AV.ZJ]) ⟨_,rfl,i+1,by omega,rfl,by omega,rfl,rfl,λp hp=>?_⟩⟩;rw[ag fy]at hp;rcases bg.1 hp with hp|hp
    ·exact fX p hp
    ·simp at hp;subst hp;exact⟨gJ rfl,gF rfl⟩
   ·have ql:¬ (i:Int)≤8:=by omega
    have h9:¬(l.length:Int)≤8:=by omega
    simp[F5,fy,ql,h9];exact hO _ (λh=>by cases h)
  ·obtain rfl:i=l.length:=by omega
   rw[az]at fX;by_cases h8:l.length≤8
   ·have tK:(l.length:Int)≤8:=by omega
    simp[F5,tK];exact hO _ (λ_=>⟨h8,fX⟩)
   ·have tK:¬ (l.length:Int)≤8:=by omega
    simp[F5,tK];exact hO _ (λh=>by cases h)
def zBw(r:Raw)(h1:r.ns.length≤1000)(h2:r.ds.length≤1000)(H:or)(K:Kt)(hK:K (.bool true) H):ge tP 21 [.agg r.cs,.agg r.cs] H K:=by refine ge.out (zXK λhs=>?_);simp[zGR,Raw.cs,aa];refine zIC _ h1 _ _ ?_;simp[aa];refine zIC _ h2 _ _ ?_;exact Out.bool rfl (af _) hs hK
def r17(z:Int):Raw:=ofR (z:Rat)
def l17:List (IT×Raw):=[(.mk 1 [],r17 1),(.mk 2 [],r17 2)]
def zPv:vi [(IT.mk 1 [],1),(IT.mk 2 [],2)]=twS l17:=by simp only[vi,twS,l17,aL,bI,tmC,twC,r17,←ofZ];rfl
def m17:wg [] (i17.ZO+i17.ZO) t17 i17 i17=[(.mk 1 [],1),(.mk 2 [],2)]:=by kernel_rfl
def c17:wQ [] t17 l17=l17:=by kernel_rfl
def d17:xU [] t17 i17=1:=by kernel_rfl
def f17:wC [] t17=true:=by kernel_rfl
def zJ1(H:or)(K:Kt)(hK:K (.tup [.sl (twS l17) .none,I0]) H):
  ge tP 12 [.sl [] .none,.agg t17.cs,.agg i17.cs,.agg i17.cs] H K:=by
 refine ge.out (zRd λhs=>?_);have hk:vj []:=⟨by simp,by simp⟩;have h8:∀D∈([]:List Dat),D.cons.length≤8:=by simp
 have kN:List.take 3 t17.cs=t17.cs:=rfl;have qT:List.take 2 i17.cs=i17.cs:=rfl;obtain⟨A,hA⟩:∃A,A=H++[AB.cells t17.cs,.cells i17.cs,.cells i17.cs]:=⟨_,rfl⟩;have kv:A.length=H.length+3:=by rw[hA];simp
 have a0:A[H.length]?=some (.cells t17.cs):=by rw[hA];simp
 have a1:A[H.length+1]?=some (.cells i17.cs):=by rw[hA];simp
 have a2:A[H.length+2]?=some (.cells i17.cs):=by rw[hA];simp
 have l3:t17.cs.length=3:=rfl;have l2:i17.cs.length=2:=rfl;simp[zEG,aa];rw[←hA];try simp[a0,a1,a2,kN,qT,l3,l2]
 refine ur I1 (λJ=>Dt [] hk t17 (by decide) i17 (by decide) _ _ ⟨by rw[d17],rfl⟩) ?_;refine ur I1 (λJ=>Dt [] hk t17 (by decide) i17 (by decide) _ _ ⟨by rw[d17],rfl⟩) ?_;try simp[a0,a1,a2,kN,qT,l3,l2]
 refine T3 [] t17 _ _ ?_;have q0:∀J,(A++J)[H.length]?=some (.cells t17.cs):=λJ=>vq a0;have q1:∀J,(A++J)[H.length+1]?=some (.cells i17.cs):=λJ=>vq a1;have q2:∀J,(A++J)[H.length+2]?=some (.cells i17.cs):=λJ=>vq a2;try simp[q0,q1,q2,kN,qT,l3,l2]
 refine(T1 hk h8 (by kernel_rfl) (i17.ZO+i17.ZO)).1 t17 i17 i17 (af _) (by decide) (by kernel_rfl) (by decide) (by decide) (by decide) (by decide) _ _ ?_;rw[m17,zPv];refine zDT hk t17 (by decide) f17 l17 (by decide) (λp hp=>?_) H A _ hA hs _ rfl K (by rw[c17];exact hK);have hb:∀z:Int,z.natAbs<1000→(r17 z).ok 8:=λz hz=>x7 ⟨by rw[Rat.num_intCast];exact aC (wx (k:=1) (by omega)) (by omega),by rw[Rat.den_intCast,xA];decide⟩;rcases aT.1 hp with rfl|hp
 ·exact⟨by decide,hb 1 (by decide),by decide⟩
 ·rcases aT.1 hp with rfl | hp
  ·exact⟨by decide,hb 2 (by decide),by decide⟩
  ·cases hp
def zKP(H:or)(K:Kt)(hK:K (.bool true) H):ge tP 15 [] H K:=by
 refine ge.out (zTi λhs=>?_);simp[zFl,ug,uv,uk,uI,plain,AV.pd,AV.ZP,aa];refine ge.wk (args':=[.sl [] .none,.agg t17.cs,.agg i17.cs,.agg i17.cs]) (zJ1 _ _ ?_) ⟨.atom .ZG,.agg ⟨.refl _,.refl _,.sl _ _,trivial⟩,.agg ⟨.refl _,.ZG,trivial⟩,.agg ⟨.refl _,.ZG,trivial⟩,trivial⟩;have h0:(twC (IT.mk 2 [],r17 2))[0]?=some (I6 2):=rfl;have hr:ue 2=(r17 2).cs:=ofZ 2;have ho:(r17 2).ok 400:=okZ (z:=2) (xf (n:=2) (by decide));have h1:=ho.2.2.1;have h2:=ho.2.2.2;simp[l17,wY,xD,wX,aa,x6 _ h0];refine ur (.agg (ue 2)) (λJ=>AS 2 (by omega) _ _ ⟨rfl,rfl⟩) ?_;try simp[wY,xD,wX]
 refine ur (.bool true) (λJ=>by rw[hr];exact zBw _ (by omega) (by omega) _ _ ⟨rfl,rfl⟩) ?_;exact Out.bool rfl (af _) hs hK
def zBx(s:List (IT×Raw))(mX:∀p∈s,p.1.ZO≤1000000∧p.2.ok 400)(hl:s.length≤1000000)(H:or)(K:Kt)(hK:K (.bool true) H):ge tP 14 [.sl (twS s) .none,.sl (twS s) .none] H K:=by
 refine ge.out (zSA λhs=>?_);simp[zE9];refine zSy (Inv:=λq t13 H'=>∃i:Nat,i≤s.length∧s.length-i=q∧t13=I6 i∧H'=H) s.length ?_ ?_
 ·intro _;exact⟨0,by omega,rfl,rfl,rfl⟩
 ·rintro q t13 H' ⟨i,hi,rfl,rfl,rfl⟩ fG fz fM Kb fB;by_cases fy:i<s.length
  ·obtain⟨h1,_,_,h3,h4⟩:=mX _ (ae fy);simp[T2,fy,wY,xD,wX,aa];refine ur (.bool true) (λJ=>zZY _ _ (af _) h1 _ _ ⟨rfl,rfl⟩) ?_;simp[fy,wY,xD,wX];refine ur (.bool true) (λJ=>zBw _ (by omega) (by omega) _ _ ⟨rfl,rfl⟩) ?_;simp[wi i (by omega)];exact fB _ _ ⟨s.length-(i+1),by omega,Back.here (by simp) hs (by simp[M7,ux,AV.sc,AV.ZH,AV.ZI,AV.ZJ]) ⟨_,rfl,i+1,by omega,rfl,rfl,rfl⟩⟩
  ·simp[T2,fy];exact Out.bool (J:=[]) (by simp) (af _) hs hK
def Good(X:List (IT×Raw)):Prop:=(∀p∈X,p.1.ZO≤1000000∧p.2.ok 400)∧X.length≤1000000
def Good.nil:Good []:=⟨by simp,by simp⟩
def zK3{eq:List Dat}{t:VT}{l:List (IT×Raw)}(hl:l.length≤8)(hw:∀p∈l,p.1.ZO≤40∧p.2.ok 8):∃X e,yB eq t l=.tup [.sl (twS X) .none,I6 e]∧Good X:=by
 cases hv:wP eq t l with
 |false=>exact⟨[],1,by simp[yB,hv,twS],Good.nil⟩
 |true=>obtain⟨hf,hr⟩:=Ah hv;obtain⟨D,wp⟩:=Cd (eq:=eq) (t:=t) (B:=40) hl λp hp=>⟨(hw p hp).1,(hw p hp).2,hr p hp⟩;exact⟨_,0,by simp[yB,hv],λp hp=>⟨aC (wp.mem p hp).1 (by decide),wp.ok p hp⟩,aC wp.len (by decide)⟩
def zLg{eq:List Dat}{t:VT}{l m:List (IT×Raw)}(hl:l.length≤8)(hm:m.length≤8)(jq:∀p∈l,p.1.ZO≤40∧p.2.ok 8)(kz:∀p∈m,p.1.ZO≤40∧p.2.ok 8):∃X e,yj eq t l m=.tup [.sl (twS X) .none,I6 e]∧Good X:=by
 unfold yj;split
 ·rename_i hv;simp at hv;obtain⟨hf,i9⟩:=Ah hv.1;obtain⟨_,ij⟩:=Ah hv.2;have h8:=BQ hf;obtain⟨D1,wp⟩:=Cd (eq:=eq) (t:=t) (B:=40) hl λp hp=>⟨(jq p hp).1,(jq p hp).2,i9 p hp⟩;obtain⟨D2,wq⟩:=Cd (eq:=eq) (t:=t) (B:=40) hm λp hp=>⟨(kz p hp).1,(kz p hp).2,ij p hp⟩;generalize wQ eq t l=p at *;generalize wQ eq t m=q at *;unfold yi;split
  ·exact⟨[],0,by simp[twS],Good.nil⟩
  ·rename_i fI;split
   ·exact⟨[],13,by simp[twS],Good.nil⟩
   ·rename_i h6;split
    ·exact⟨[],9,by simp[twS],Good.nil⟩
    ·rename_i iV;refine⟨_,0,rfl,λx hx=>?_,aC zCo (by simp;omega)⟩;obtain⟨n1,gx⟩:∃ n,p.length=n+1:=⟨p.length-1,by have:=bV.2 (λh=>fI (.inl h));omega⟩;obtain⟨n2,ig⟩:∃ n,q.length=n+1:=⟨q.length-1,by have:=bV.2 (λh=>fI (.inr h));omega⟩;have qG:=DI (eq:=eq) (t:=t) gx;have o7:=DI (eq:=eq) (t:=t) ig;have qh:∀ v∈p,∀ w∈q,rdV eq v.1 t+rdV eq w.1 t≤6:=λv hv w hw=>by have:=wp.last gx v hv;have:=wq.last ig w hw;omega
     obtain⟨mt,nG,oI⟩:=Ul wp wq (f:=mF eq t) λv hv w hw=>by obtain⟨v1,v2,_,_⟩:=wp.mem v hv;obtain⟨u1,u2,_,_⟩:=wq.mem w hw;obtain⟨a,b⟩:=Um h8 (t:=t) v2 u2 (qh v hv w hw);exact⟨λy hy=>by obtain⟨y1,y2,y3⟩:=a y hy;exact⟨y1,y2,by omega⟩,b⟩
     obtain⟨y,hy,rfl⟩:=aF.1 (zCp x hx);have hn:=Nl (B:=80) (L:=uH (mF eq t) p q) (λx hx=>(oI x hx).1) y hy;exact⟨aC hn (by decide),x7 (mt.can y hy)⟩
 ·exact⟨[],1,by simp[twS],Good.nil⟩
def zJ4(eq:List Dat)(fz:eq.length≤9223372036854775807)(t:VT)(l:List (IT × Raw))(hl32:∀ p∈l,(∀ x∈p.2.ns,x<4294967296)∧∀ x∈p.2.ds,x<4294967296)(m:List (IT × Raw))(hm32:∀ p∈m,(∀ x∈p.2.ns,x<4294967296)∧∀ x∈p.2.ds,x<4294967296)(H:or)(K:Kt)(hK:K (.bool true) H):
  ge tP 8 [.sl (eq.map Dat.cs) .none,.agg t.cs,.sl (twS l) .none,.sl (twS m) .none] H K:=by
 refine ge.out (ydr λhs=>?_);have hO:∀J,Out H.length K (.bool true) (H++J):=λJ=>Out.bool rfl (af _) hs hK;obtain⟨x,y,z,fD,hx,hy,hz⟩:=ve t;simp[zq6,fD,aa];rw[←fD];refine yfa eq fz t _ _ λb0 gk=>?_;cases b0 with
 |false=>simp;exact hO _
 |true=>
 obtain⟨hk,ht⟩:=gk rfl;simp;refine zHO l _ _ λb1 gJ=>?_;cases b1 with
 |false=>simp;exact hO _
 |true=>
 obtain⟨hl,kx⟩:=gJ rfl;simp;refine zHO m _ _ λb2 gF=>?_;cases b2 with
 |false=>simp;exact hO _
 |true=>
 obtain⟨hm,nV⟩:=gF rfl;have jq:∀p∈l,p.1.ZO≤40∧p.2.ok 8:=λp hp=>⟨(kx p hp).1,(hl32 p hp).1,(hl32 p hp).2,(kx p hp).2⟩;have kz:∀p∈m,p.1.ZO≤40∧p.2.ok 8:=λp hp=>⟨(nV p hp).1,(hm32 p hp).1,(hm32 p hp).2,(nV p hp).2⟩;obtain⟨X,e,h1,gX⟩:=zK3 (eq:=eq) (t:=t) hl jq;obtain⟨Y,f,h2,gY⟩:=zLg (eq:=eq) (t:=t) hl hm jq kz;simp[fD,aa];rw[←fD];refine zNn hk t ht l hl (λp hp=>⟨by have:=jq p hp;omega,(jq p hp).2⟩) _ _ ?_;rw[h1];simp[fD,aa];rw[←fD];refine Uh hk t ht l hl (λp hp=>⟨by have:=jq p hp;omega,(jq p hp).2⟩) _ _ ?_;rw[h1];simp[fD,aa];rw[←fD];refine zNo hk t ht l m hl hm jq kz _ _ ?_;rw[h2];simp[fD,aa];rw[←fD];refine zNI hk t ht l m hl hm jq kz _ _ ?_;rw[h2];simp[aa];refine zBx X gX.1 gX.2 _ _ ?_;try simp
 refine zBx Y gY.1 gY.2 _ _ ?_;try simp
 refine zKP _ _ ?_;try simp
 exact hO _
end
section
open Go.RowKit

def vQ(P:Program):Nat→TypeId→List AV→Prop
 |0,_,_=>False
 | n+1,t,asx=>match P.underlying t with
  |some .bool=>∃b,asx=[.bool b]
  |some (.int k)=>∃m,asx=[.int k m]∧(Lit.int k m).wf=true
  |some .string=>∃s,asx=[.str s]∧s.length≤maxLen
  |some (.slice e)=>∃es,asx=[.sl es .none]∧es.length≤maxLen∧∀c∈es,vQ P n e c
  |some (.struct fs)=>asx.length=P.cellsOf t∧∀f∈fs.toList,vQ P n f.type ((asx.drop f.offset).take (P.cellsOf f.type))
  |_=>False

def AX(P:Program):List Field→Nat→Nat→Bool
 |[],at_,n=>at_ == n
 |f::fs,at_,n=>f.offset == at_ && AX P fs (at_+P.cellsOf f.type) n
def F6(P:Program)(S:List TypeId):Bool:=
 S.all λt=>match P.underlying t with
  |some .bool|some (.int _)|some .string=>P.cellsOf t == 1
  |some (.slice e)=>S.contains e && decide (0<P.cellsOf e) && P.cellsOf t == 1
  |some (.struct fs)=>fs.toList.all (λf=>S.contains f.type) && AX P fs.toList 0 (P.cellsOf t)
  |_=>false

section
variable {Hh:Type} {enc:TypeId×Value→Hh} {P:Program} {w:World} {base:Nat} {spare:Nat→Bool} {nH:Bool}

theorem zDV{R:Value→AV→Prop}{cs:List Value}:∀ (fs:List Field) (at_ n:Nat) (T:Field→List AV→Prop),AX P fs at_ n=true→cs.length=n →
  (∀f∈fs,∃asx,All2 R ((cs.drop f.offset).take (P.cellsOf f.type)) asx∧T f asx)→at_≤n →
  ∃asx,All2 R (cs.drop at_) asx∧∀f∈fs,T f ((asx.drop (f.offset-at_)).take (P.cellsOf f.type))∧at_≤f.offset
 |[],at_,n,T,ht,hl,hf,fS=>by simp[AX]at ht;subst ht;refine⟨[],?_,by simp⟩;rw[ch (by omega)];trivial
 |f::fs,at_,n,T,ht,hl,hf,fS=>by
  simp only[AX,ap,bt]at ht;obtain⟨h1,h2⟩:=ht;have hbound:∀(fs:List Field) (k n:Nat),AX P fs k n=true→k≤n:=by
   intro fs;induction fs with
   |nil=>intro k n h;simp[AX]at h;omega
   |cons g gs ih=>intro k n h;simp only[AX,ap]at h;have:=ih _ _ h.2;omega
  have hb:=hbound fs _ _ h2;obtain⟨as0,qB,hT0⟩:=hf f (by simp);obtain⟨as1,ha1,hT1⟩:=zDV fs (at_+P.cellsOf f.type) n T h2 hl (λg hg=>hf g (by simp[hg])) hb;have jC:as0.length=P.cellsOf f.type:=by have:=qB.length;rw[a7,dy]at this;omega
  refine⟨as0++as1,?_,?_⟩
  ·have:cs.drop at_=(cs.drop f.offset).take (P.cellsOf f.type)++cs.drop (at_+P.cellsOf f.type):=by rw[h1,←ck,aJ]
   rw[this];exact qB.append ha1
  ·intro g hg;rcases aT.1 hg with rfl | hg
   ·rw[h1,dG,bA,←jC,dw];exact⟨hT0,af _⟩
   ·obtain⟨k1,k2⟩:=hT1 g hg;refine⟨?_,by omega⟩;have:(as0++as1).drop (g.offset-at_)=as1.drop (g.offset-(at_+P.cellsOf f.type)):=by rw[d8,ch (by omega),List.nil_append];congr 1;omega
    rw[this];exact k1

theorem Nu{a:Addr}{n:Nat}{cs:List Value}(h:w.cells? base a n=some cs):cs.length=n∧∀j v,cs[j]?=some v→w.cell? (a.add j)=some v:=by
 unfold World.cells? at h;split at h
 ·have h1:=mapM_some_length h;refine⟨by simpa using h1,λj v hj=>?_⟩;have hjn:j<n:=by have:=(ac.1 hj).1;simp at h1;omega
  have:=mapM_some_get h j j (by simp[hjn]);rw[this];exact hj
 ·cases h

theorem zMn{b o:Nat}{v:Value}(h:w.cell? ⟨b,o,none⟩=some v):o<yV w b:=by
 unfold World.cell? at h;unfold yV;split at h
 ·rename_i c t fr hb;simp only[hb];simp at h;exact(aQ.1 h).1
 ·cases h

theorem zD4{S:List TypeId}(hS:F6 P S=true):∀ (n:Nat) (t:TypeId) (cs:List Value) (x:DataW Hh × List MemPlace),t∈S→DataW.trod enc P w base spare nH n t cs=some x →
  ∃asx,All2 (DRel w (yV w)) cs asx∧vQ P n t asx:=by
 intro n;induction n with
 |zero=>intro t cs x _ h;simp[DataW.trod]at h
 |succ n ih=>
  intro t cs x ht h;have hp:=aA.1 hS t ht;unfold vQ;cases hu:P.underlying t with
  |none=>simp[hu]at hp
  |some d=>
   rw[hu]at hp;cases d <;> simp only[]at hp <;> try (cases hp;done)
   case bool=>obtain⟨b,rfl,_⟩:=DataW.trod_bool hu h;exact⟨[.bool b],⟨.bool b,trivial⟩,b,rfl⟩
   case int k=>obtain⟨m,rfl,_,hw⟩:=DataW.trod_int hu h;exact⟨[.int k m],⟨.int k m,trivial⟩,m,rfl,hw⟩
   case string=>
    obtain⟨s,rfl,_,hw⟩:=DataW.trod_string hu h;have hs:(⟨s.data.toList.toArray⟩:ByteArray)=s:=by simp
    refine⟨[.str s.data.toList],⟨?_,trivial⟩,s.data.toList,rfl,by rw[Array.length_toList];exact hw⟩;have:=DRel.str (w:=w) (L:=yV w) s.data.toList;rwa [hs]at this
   case slice e=>
    simp only[ap,bc]at hp;obtain⟨⟨he,jb⟩,_⟩:=hp;have he:e∈S:=by simpa using he
    rcases DataW.trod_slice hu h with ⟨rfl,_⟩|⟨a,len,cap,elems,rest,n',hn,rfl,_,hb,hl,hm,fz,ja,_⟩
    ·exact⟨[.sl [] .none],⟨.slE _ _,trivial⟩,[],rfl,by simp,by simp⟩
    ·obtain rfl:n=n':=by omega
     have ga:∀i,i<len→∃cs asx,w.cells? base (a.add (i*P.cellsOf e)) (P.cellsOf e)=some cs∧All2 (DRel w (yV w)) cs asx∧vQ P n e asx:=by
      intro i hi;have h1:=ja i hi;rw[aw (by omega)]at h1;cases hc:w.cells? base (a.add (i*P.cellsOf e)) (P.cellsOf e) with
      |none=>rw[hc]at h1;cases h1
      |some cs=>rw[hc]at h1;obtain⟨asx,h2,h3⟩:=ih e cs _ he h1;exact⟨cs,asx,rfl,h2,h3⟩
     by_cases h0:len=0
     ·subst h0;exact⟨[.sl [] .none],⟨.slE _ _,trivial⟩,[],rfl,by simp,by simp⟩
     ·-- the address is a plain one
      have hspot:a.spot=none:=by obtain⟨cs,asx,h1,h2,_⟩:=ga 0 (by omega);obtain⟨h3,h4⟩:=Nu h1;have h5:=h4 0 cs[0] (by simp);have:=World.cell?_spot h5;simpa[Addr.add]using this
      obtain⟨b,off,sp⟩:=a;simp only at hspot;subst hspot;obtain⟨f,hf⟩:∃f:Nat→List Value×List AV,∀i,i<len→w.cells? base ((⟨b,off,none⟩:Addr).add (i*P.cellsOf e)) (P.cellsOf e)=some (f i).1∧All2 (DRel w (yV w)) (f i).1 (f i).2∧vQ P n e (f i).2:=
       Deep.choose_lt (p:=λi (y:List Value × List AV)=>w.cells? base ((⟨b,off,none⟩:Addr).add (i*P.cellsOf e)) (P.cellsOf e)=some y.1∧All2 (DRel w (yV w)) y.1 y.2∧vQ P n e y.2)
        (λi hi=>by obtain⟨cs,asx,h1,h2,h3⟩:=ga i hi;exact⟨(cs,asx),h1,h2,h3⟩)
      have fR:∀i,i<len→∀j v,(f i).1[j]?=some v→w.cell? ⟨b,off+i*P.cellsOf e+j,none⟩=some v:=by intro i hi j v hj;have:=(Nu (hf i hi).1).2 j v hj;rw[add_lit,add_lit]at this;exact this
      have jj:∀i,i<len→(f i).2.length=P.cellsOf e:=λi hi=>by rw[←(hf i hi).2.1.length];exact(Nu (hf i hi).1).1
      refine⟨[.sl ((List.range len).map λi=>(f i).2) .none],⟨?_,trivial⟩,_,rfl,by simp;omega,?_⟩
      ·have:=DRel.sl (w:=w) (L:=yV w) b off cap (P.cellsOf e) ((List.range len).map λi=>(f i).2) (λi j=>(f i).1.getD j undef) (by simp;exact h0) (by simpa using hl) ?_ ?_ ?_ ?_
       ·simpa using this
       ·-- the last cell is there
        have hi:len-1<len:=by omega
        have hj:P.cellsOf e-1<(f (len-1)).1.length:=by rw[(Nu (hf _ hi).1).1];omega
        have:=zMn (fR (len-1) hi (P.cellsOf e-1) _ (aw hj));have kC:(len-1)*P.cellsOf e+P.cellsOf e=len*P.cellsOf e:=by rw[←bD];congr 1;omega
        simp;omega
       ·intro i hi;simp at hi;simpa using jj i hi
       ·intro i j hi hj;simp at hi hj;have fU:j<(f i).1.length:=by rw[(hf i hi).2.1.length];exact hj
        simp only[aq,aw fU,Option.getD_some];exact fR i hi j _ (aw fU)
       ·intro i j hi hj;simp at hi hj;have fU:j<(f i).1.length:=by rw[(hf i hi).2.1.length];exact hj
        obtain⟨c,h1,h2⟩:=(hf i hi).2.1.get' (aw fU);simp only[aq,aw fU,Option.getD_some,cS,cU];have:(f i).2[j]=c:=by rw[aw hj]at h1;exact dQ h1
        rw[this];exact h2
      ·intro c hc;obtain⟨i,hi,rfl⟩:=aF.1 hc;exact(hf i (by simpa using hi)).2.2
   case struct fs=>
    simp only[ap]at hp;obtain⟨mG,htile⟩:=hp;obtain⟨xs,n',hn,_,gN,ix,ga⟩:=DataW.trod_struct hu h;obtain rfl:n=n':=by omega
    obtain⟨asx,h1,h2⟩:=zDV (P:=P) (R:=DRel w (yV w)) (cs:=cs) fs.toList 0 (P.cellsOf t) (λf asx=>vQ P n f.type asx) htile gN (λf hf=>by
     obtain⟨i,hi⟩:=a8.1 hf;have jB:fs[i]?=some f:=by simpa using hi
     have h3:=ga i f jB;have fy:i<xs.length:=by rw[ix];exact(aQ.1 jB).1
     rw[aw fy]at h3;exact ih f.type _ _ (by simpa using List.all_eq_true.1 mG f hf) h3) (bM _)
    rw[bA]at h1;refine⟨asx,h1,by rw[←h1.length];exact gN,λf hf=>?_⟩;simpa using(h2 f hf).1
end

def zM9{Hh:Type}{enc:TypeId×Value→Hh}{P:Program}{w:World}{base:Nat}{spare:Nat→Bool}{nH:Bool}{S:List TypeId}(hS:F6 P S=true){t:TypeId}(ht:t∈S){cs:Array Value}{d:DataW Hh}{p:List MemPlace}(h:DataW.Trod enc P w base spare nH t (.agg cs) d p):∃n asx,vQ P n t asx∧TRel w (G0 w) (.agg cs) (.agg asx):=by
 obtain⟨n,hn⟩:=h;obtain⟨asx,h1,h2⟩:=zD4 hS n t _ _ ht hn;exact⟨n,asx,h2,cs,rfl,h1.mono λ_ _ hd=>ARel.of_b (DRel.toB (G:=G0 w) hd)⟩
def Ur{Hh:Type}{enc:TypeId×Value→Hh}{P:Program}{w:World}{base:Nat}{spare:Nat→Bool}{nH:Bool}{S:List TypeId}(hS:F6 P S=true){t:TypeId}(ht:t∈S){v:Value}{d:DataW Hh}{p:List MemPlace}(hv:v.cells=#[v])(h:DataW.Trod enc P w base spare nH t v d p):∃n a,vQ P n t [a]∧TRel w (G0 w) v a:=by
 obtain⟨n,hn⟩:=h;obtain⟨asx,h1,h2⟩:=zD4 hS n t _ _ ht hn;rw[hv]at h1
 match asx,h1,h2 with
 |[a],h1,h2=>exact⟨n,a,h2,TRel.of_v (VRel.of_a (ARel.of_b (DRel.toB (G:=G0 w) h1.1)))⟩
section
variable {P:Program} {n:Nat} {t:TypeId} {l:List AV}
theorem zPM(hu:P.underlying t=some .bool)(h:vQ P n t l):∃b,l=[.bool b]:=by
 cases n with
 |zero=>exact h.elim
 |succ n=>unfold vQ at h;rw[hu]at h;exact h
theorem F7{k:IntKind}(hu:P.underlying t=some (.int k))(h:vQ P n t l):∃m,l=[.int k m]∧(Lit.int k m).wf=true:=by
 cases n with
 |zero=>exact h.elim
 |succ n=>unfold vQ at h;rw[hu]at h;exact h
theorem zEh(hu:P.underlying t=some .string)(h:vQ P n t l):∃s,l=[.str s]∧s.length≤maxLen:=by
 cases n with
 |zero=>exact h.elim
 |succ n=>unfold vQ at h;rw[hu]at h;exact h
theorem Ce{e:TypeId}(hu:P.underlying t=some (.slice e))(h:vQ P n t l):∃es n',n'<n∧l=[.sl es .none]∧es.length≤maxLen∧∀c∈es,vQ P n' e c:=by
 cases n with
 |zero=>exact h.elim
 |succ n=>unfold vQ at h;rw[hu]at h;obtain⟨es,h1,h2,h3⟩:=h;exact⟨es,n,by omega,h1,h2,h3⟩
theorem DJ{fs:Array Field}(hu:P.underlying t=some (.struct fs))(h:vQ P n t l):∃n',n'<n∧l.length=P.cellsOf t∧∀f∈fs.toList,vQ P n' f.type ((l.drop f.offset).take (P.cellsOf f.type)):=by
 cases n with
 |zero=>exact h.elim
 |succ n=>unfold vQ at h;rw[hu]at h;exact⟨n,by omega,h⟩
theorem AY{α:Type}{cs:α→List AV}:∀ {es:List (List AV)},(∀ c∈es,∃ x,c=cs x)→∃ xs:List α,es=xs.map cs
 |[],_=>⟨[],rfl⟩
 |e::es,h=>by obtain⟨x,hx⟩:=h e (by simp);obtain⟨xs,kV⟩:=AY (es:=es) (λc hc=>h c (by simp[hc]));exact⟨x::xs,by simp[hx,kV]⟩
end
end
end Go.Proofs.YtdmamdnkcefmmaaGreatDoor

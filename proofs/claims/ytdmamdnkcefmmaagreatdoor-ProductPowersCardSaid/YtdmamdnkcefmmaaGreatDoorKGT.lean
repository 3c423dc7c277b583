import Derived.Test.YtdmamdnkcefmmaaGreatDoorKY10
import Derived.Test.YtdmamdnkcefmmaaGreatDoorAbsU
import Derived.Test.YtdmamdnkcefmmaaGreatDoorKNum
import Derived.Test.YtdmamdnkcefmmaaGreatDoorProg
import Derived.KernelRfl
set_option linter.unusedSimpArgs false
set_option linter.unusedVariables false
set_option maxRecDepth 100000
namespace Go.Proofs.YtdmamdnkcefmmaaGreatDoor
def zdi(args:List VT)(i:Nat):List AV:=(args.take i).map (λx=>.int .i64 x.nodes)++List.replicate (args.length-i) (.int .i64 0)
theorem zKE(args:List VT){i:Nat}(h:i≤args.length):(zdi args i).length=args.length:=by simp[zdi];omega
theorem zKF(args:List VT){i:Nat}(h:i<args.length):(zdi args i).take i++[.int .i64 (args[i]).nodes]++(zdi args i).drop (i+1)=zdi args (i+1):=by
 have e1:((args.take i).map λx=>AV.int .i64 x.nodes).length=i:=by simp;omega
 unfold zdi;rw[ci (by omega),ai (by omega),da,aW (by omega),List.nil_append,e1,ae h,aK];congr 1;rw[show i+1-i=1 by omega,List.drop_replicate];congr 1
theorem zDO(d7:List Dat)(mo:d7.length≤1000000)(qx:∀ d∈d7,∀ c∈d.cons,c.args.length≤1000∧∀ x∈c.args,x.nodes≤1000)(hdc:∀ d∈d7,d.cons.length≤1000000)(t:VT)(ht:t.nodes≤1000)(c:Int)(H:zaa)(K:AV→zaa→Prop)(hK:K (zcO (zbt d7 t c)) H):
  ACalls tP zkg [.sl (d7.map Dat.cs) .none,.agg t.cs,.int .i64 c] H K:=by
 refine ACalls.out (zRC λhs=>?_);obtain⟨k,n,ks⟩:=t;have fI:VT.nodesL ks+1≤1000:=by simpa[VT.nodes]using ht
 have iX:=VT.len_le ks;have hF:zbt d7 (.mk k n ks) c=none→∀J,Out H.length K (.tup [.snil,.bool false]) (H++J):=λh J=>by rw[h]at hK;exact Out.tup hs hK ⟨zdj,zaV rfl rfl,trivial⟩
 simp only[VT.cs,zDL];by_cases h5:k=5;case neg=>
  have:(k != 5)=true:=by simpa using h5
  simp[this,AV.isV];exact hF (by rw[zdq,au (λh=>h5 h.1)]) _
 subst h5;by_cases h0:n<0
 ·simp[h0,AV.isV];exact hF (by rw[zdq,au (λh=>by have:=h.2.1;omega)]) _
 by_cases h1:(d7.length:Int)≤n
 ·simp[h0,h1,AV.isV];exact hF (by
   rw[zdq];split
   ·rw[List.getElem?_eq_none (by omega)]
   ·rfl) _
 have hn:n.toNat<d7.length:=by omega
 have gz:n<d7.length:=by omega
 have lv:0≤n:=by omega
 generalize ic:d7[n.toNat]=d at *;have hd:d∈d7:=by rw[←ic];exact af hn
 have eA:d7[n.toNat]?=some d:=by rw[List.getElem?_eq_getElem hn,ic]
 cases hv:((ks.length:Int) == d.vars) with
 |false=>
  have fR:((ks.length:Int) != d.vars)=true:=by simp[bne,hv]
  simp[h0,h1,lv,gz,hn,ic,Dat.cs,fR,AV.isV,eA];exact hF (by
   rw[zdq];split
   ·rw[eA];simp only;rw[au (by simpa using hv)]
   ·rfl) _
 |true=>
 have fR:((ks.length:Int) != d.vars)=false:=by simp[bne,hv]
 have qy:(ks.length:Int)=d.vars:=by simpa using hv
 by_cases gM:c<0
 ·simp[h0,h1,lv,gz,hn,ic,Dat.cs,fR,AV.isV,eA,gM];exact hF (by rw[zdq,au (λh=>by have:=h.2.2;omega)]) _
 have jt:∀o,(match d.cons[c.toNat]? with|some k=>if (k.args.map (subst ks)).all (λx=>decide (x.nodes≤200))=true then some (k.args.map (subst ks)) else none|none=>none)=o→zbt d7 (.mk 5 n ks) c=o:=λo h=>by rw[zdq,az ⟨rfl,lv,by omega⟩,eA];simp only;rw[az qy];exact h
 by_cases fP:(d.cons.length:Int)≤c
 ·simp[h0,h1,lv,gz,hn,ic,Dat.cs,fR,AV.isV,eA,gM,fP];exact hF (jt none (by rw[List.getElem?_eq_none (by omega)])) _
 have gu:c.toNat<d.cons.length:=by omega
 have fX:c<d.cons.length:=by omega
 have lw:0≤c:=by omega
 generalize gk:d.cons[c.toNat]=co at *;have ia:co∈d.cons:=by rw[←gk];exact af gu
 have oD:d.cons[c.toNat]?=some co:=by rw[List.getElem?_eq_getElem gu,gk]
 obtain⟨iq,o5⟩:=qx d hd co ia;have iQ:=λo=>jt o;rw[oD]at iQ;simp only at iQ;have nI:∀x∈ks,x.nodes≤1000:=λy hy=>ap (zhX (k:=5) (n:=n) y hy) ht;simp[h0,h1,lv,gz,hn,ic,Dat.cs,fR,AV.isV,eA,gM,fP,lw,fX,gu,gk,zbp];refine⟨by omega,?_⟩;have ez:List.replicate ks.length (AV.int .i64 0)=zdi ks 0:=by simp[zdi]
 rw[ez];have jE:∀(l:List AV),(l.all λa=>a.scA (H.length+3))=true→HSc (H++[.cells [.int .i64 5,.int .i64 n,.sl (VT.css ks) .none],.cells [.str d.name,.int .i64 d.vars,.sl (d.cons.map Con.cs) .none],.cells l]):=λl hl=>hs.append (by simp[AB.sc];simpa using hl);have hszsc:∀i,((zdi ks i).all λa=>a.scA (H.length+3))=true:=λi=>by
  rw[am];intro x hx;unfold zdi at hx;rcases aX.1 hx with h|h
  ·obtain⟨y,_,rfl⟩:=aA.1 h;rfl
  ·rw[bn h];rfl
 refine zRy (Inv:=λq t61 H'=>∃i:Nat,i≤ks.length∧q=ks.length-i∧t61=.int .i64 i∧H'=H++[.cells [.int .i64 5,.int .i64 n,.sl (VT.css ks) .none],.cells [.str d.name,.int .i64 d.vars,.sl (d.cons.map Con.cs) .none],.cells (zdi ks i)]) ks.length ?_ ?_
 ·intro _;exact⟨0,by omega,by omega,rfl,rfl⟩
 ·rintro q t61 H' ⟨i,hi,rfl,rfl,rfl⟩ hsc8 hlen8 hsF8 Kb8 hKb8;by_cases ei:i<ks.length
  ·have eP:=nI _ (af ei);obtain⟨x1,x2,x3,ew,fJ,fc,fx⟩:=zbk ks[i];simp[zuv,ei,ew,fJ,fc,fx];rw[←ew];refine zTz _ _ (ac _) (by omega) _ _ ?_;have fh:=zKE ks hi;simp[ei,fh];refine⟨by omega,?_⟩;rw[zay (by omega) (by omega)];have e:=zKF ks ei;rw[aq,List.singleton_append]at e;rw[e];refine hKb8 _ _ ⟨ks.length-(i+1),by omega,Back.at (J:=[_]) (H2:=H++[.cells [.int .i64 5,.int .i64 n,.sl (VT.css ks) .none],.cells [.str d.name,.int .i64 d.vars,.sl (d.cons.map Con.cs) .none],.cells (zdi ks (i+1))]) (by simp;rfl) (by simp) (jE _ (hszsc _)) ?_ ⟨_,rfl,i+1,by omega,rfl,by simp,rfl⟩⟩;simp[znd,AV.sc,AV.scV,AV.scA,AV.scB]
  ·obtain rfl:i=ks.length:=by omega
   have efull:zdi ks ks.length=ks.map λx=>.int .i64 x.nodes:=by simp[zdi]
   have ly:=hsc8;rw[efull]at ly ⊢;simp[zuv,lw,fX,gu,gk,Con.cs,oD];refine zRw (Inv:=λq t79 H'=>∃i:Nat,i≤co.args.length∧q=co.args.length-i∧t79=.int .i64 i∧(∀x∈co.args.take i,(subst ks x).nodes≤200)∧H'=H++[.cells [.int .i64 5,.int .i64 n,.sl (VT.css ks) .none],.cells [.str d.name,.int .i64 d.vars,.sl (d.cons.map Con.cs) .none],.cells (ks.map λx=>.int .i64 x.nodes)]) co.args.length ?_ ?_
   ·intro _;exact⟨0,by omega,by omega,rfl,by simp,rfl⟩
   ·rintro q t79 H' ⟨i,hi,rfl,rfl,eO,rfl⟩ hsc13 hlen13 hsF13 Kb13 iB;by_cases ei:i<co.args.length
    ·have fa:=af ei;obtain⟨x1,x2,x3,ew,fJ,fc,fx⟩:=zbk co.args[i];simp[zut,ei,ew,fJ,fc,fx];rw[←ew];refine zTJ ks (λy hy=>by have:=nI y hy;omega) (by omega) _ co.args[i] (ac _) (by have:=o5 _ fa;omega) _ (H.length+2) (by simp[zle]) _ λr jZ iA pD=>?_;by_cases fW:r≤200
     ·have fG:¬ (200:Int)<r:=by omega
      simp[fG];rw[zay (by omega) (by omega)];refine iB _ _ ⟨co.args.length-(i+1),by omega,Back.at (J:=[_]) (H2:=H++[.cells [.int .i64 5,.int .i64 n,.sl (VT.css ks) .none],.cells [.str d.name,.int .i64 d.vars,.sl (d.cons.map Con.cs) .none],.cells (ks.map λx=>.int .i64 x.nodes)]) (by simp;rfl) (by simp) ly ?_ ⟨_,rfl,i+1,by omega,rfl,by simp,zzi ei eO (jZ.1 fW),rfl⟩⟩;simp[znb,AV.sc,AV.scV,AV.scA,AV.scB]
     ·have fG:(200:Int)<r:=by omega
      simp[fG,AV.isV];refine hF (iQ none ?_) _;rw[au];intro nH;have:=am.1 nH (subst ks co.args[i]) (aA.2 ⟨_,fa,rfl⟩);exact fW (jZ.2 (ce this))
    ·obtain rfl:i=co.args.length:=by omega
     rw[ak]at eO;have kS:=iQ (some (co.args.map (subst ks))) (az (am.2 λy hy=>by
      obtain⟨x,hx,rfl⟩:=aA.1 hy;exact br (eO x hx)))
     rw[kS]at hK;simp[zut,lw,fX,gu,gk,Con.cs,oD];unfold zne;refine ALoop.own 14 za9 3 rfl ?_;have fS:(H++[AB.cells [.int .i64 5,.int .i64 n,.sl (VT.css ks) .none],.cells [.str d.name,.int .i64 d.vars,.sl (d.cons.map Con.cs) .none],.cells (ks.map λx=>.int .i64 x.nodes)]).length=H.length+3:=by simp
     rw[fS];have eH:∀m,HSc (H++[.cells [.int .i64 5,.int .i64 n,.sl (VT.css ks) .none],.cells [.str d.name,.int .i64 d.vars,.sl (d.cons.map Con.cs) .none],.cells (ks.map λx=>.int .i64 x.nodes),.perm za9 3 m]):=λm=>by have:=ly.append (J:=[.perm za9 3 m]) rfl;simpa using this
     rw[aq];show zne (.ptr H.length 0) (.sl [] (.own (H.length+3))) (.sl (VT.css co.args) .none) (.int .i64 co.args.length) (.int .i64 0) (H++[.cells [.int .i64 5,.int .i64 n,.sl (VT.css ks) .none],.cells [.str d.name,.int .i64 d.vars,.sl (d.cons.map Con.cs) .none],.cells (ks.map λx=>.int .i64 x.nodes),.perm za9 3 0]) (Out H.length K);refine zRx (Inv:=λq t14 t95 H'=>∃i:Nat,i≤co.args.length∧q=co.args.length-i∧t95=.int .i64 i∧t14=.sl (VT.css ((co.args.map (subst ks)).take i)) (.own (H.length+3))∧H'=H++[.cells [.int .i64 5,.int .i64 n,.sl (VT.css ks) .none],.cells [.str d.name,.int .i64 d.vars,.sl (d.cons.map Con.cs) .none],.cells (ks.map λx=>.int .i64 x.nodes),.perm za9 3 i]) co.args.length ?_ ?_
     ·intro _;exact⟨0,by omega,by omega,rfl,by simp[VT.css],rfl⟩
     ·rintro q t14 t95 H' ⟨i,hi,rfl,rfl,rfl,rfl⟩ hsc20 hlen20 hsF20 Kb20 hKb20;by_cases ei:i<co.args.length
      ·have fa:=af ei;obtain⟨x1,x2,x3,ew,fJ,fc,fx⟩:=zbk co.args[i];simp[zuu,ei,ew,fJ,fc,fx];rw[←ew];refine zTQ _ ks (λy hy=>by have:=nI y hy;omega) (by omega) co.args[i] (ac _) (by have:=o5 _ fa;omega) _ _ ?_;rw[zfG];simp[zax,zaM,zaK];refine⟨by omega,⟨by omega,by omega⟩,?_⟩;rw[zay (by omega) (by omega),show min i co.args.length=i by omega];refine hKb20 _ _ ⟨co.args.length-(i+1),by omega,Back.at (H2:=H++[.cells [.int .i64 5,.int .i64 n,.sl (VT.css ks) .none],.cells [.str d.name,.int .i64 d.vars,.sl (d.cons.map Con.cs) .none],.cells (ks.map λx=>.int .i64 x.nodes),.perm za9 3 (i+1)]) (J:=[_]) (by simp;rfl) (by simp) (eH _) ?_ ⟨_,_,rfl,i+1,by omega,rfl,by simp,?_,rfl⟩⟩
       ·simp[znc,AV.sc,AV.scV,AV.scA,AV.scB]
       ·rw[zhK (by simpa using ei)];simp
      ·obtain rfl:i=co.args.length:=by omega
       rw[ai (by simp)];simp[zuu,AV.isV];exact Out.tup hs hK ⟨slV,zaV rfl rfl,trivial⟩
def zhW(i:Nat):VT→Bool
 |.mk k n ks=>k == 4 && n == i && ks.length == 0
def zc1:List VT→Nat→Bool
 |[],_=>true
 |x::l,i=>zhW i x && zc1 l (i+1)
def zcd(d vars:Int):VT→Bool
 |.mk k n ks=>k == 5 && n == d && (ks.length:Int) == vars && zc1 ks 0
mutual
def zcG(d:Int):VT→Bool
 |.mk k n ks=>(k == 5 && n == d) || zfe d ks
def zfe(d:Int):List VT→Bool
 |[]=>false
 |t::ts=>zcG d t || zfe d ts
end
theorem zxm(v:VT)(d vars:Int)(hb:v.nodes≤1000000)(H:zaa)(K:AV→zaa→Prop)(hK:K (.bool (zcd d vars v)) H):ACalls tP zkQ [.agg v.cs,.int .i64 d,.int .i64 vars] H K:=by
 refine ACalls.out (yag λhs=>?_);obtain⟨k,n,ks⟩:=v;have gd:VT.nodesL ks+1≤1000000:=by simpa[VT.nodes]using hb
 have fh:=VT.len_le ks;have hO:∀J,Out H.length K (.bool (k == 5 && n == d && (ks.length:Int) == vars && zc1 ks 0)) (H++J):=λJ=>Out.bool rfl (ac _) hs (by simpa[zcd]using hK);simp only[VT.cs,zGJ];cases h5:(k == 5) with
 |false=>
  have:(k != 5)=true:=by simp[bne,h5]
  rw[h5]at hO;simp[this];exact hO _
 |true=>
 have lz:(k != 5)=false:=by simp[bne,h5]
 cases hn:(n == d) with
 |false=>
  have:(n != d)=true:=by simp[bne,hn]
  rw[h5,hn]at hO;simp[lz,this];exact hO _
 |true=>
 have fN:(n != d)=false:=by simp[bne,hn]
 cases hv:((ks.length:Int) == vars) with
 |false=>
  have:((ks.length:Int) != vars)=true:=by simp[bne,hv]
  rw[h5,hn,hv]at hO;simp[lz,fN,this];exact hO _
 |true=>
 have fR:((ks.length:Int) != vars)=false:=by simp[bne,hv]
 rw[h5,hn,hv]at hO;simp only[bk]at hO;simp[lz,fN,fR];refine yae (Inv:=λq t7 H'=>∃i:Nat,i≤ks.length∧q=ks.length-i∧t7=.int .i64 i∧zc1 (ks.drop i) i=zc1 ks 0∧H'=H++[.cells [.int .i64 k,.int .i64 n,.sl (VT.css ks) .none]]) ks.length ?_ ?_
 ·intro _;exact⟨0,by omega,by omega,rfl,by simp,rfl⟩
 ·rintro q t7 H' ⟨i,hi,rfl,rfl,ho,rfl⟩ hsc ek eK Kb eq;by_cases ei:i<ks.length
  ·rw[ag ei,zc1]at ho;obtain⟨k',n',ks',hx⟩:∃ k' n' ks',ks[i]=.mk k' n' ks':=by cases h:ks[i] with | mk a b c=>exact⟨a,b,c,rfl⟩
   rw[hx,zhW]at ho;cases g1:(k' == 4) with
   |false=>
    have:(k' != 4)=true:=by simp[bne,g1]
    rw[g1]at ho;simp only[aY]at ho;rw[←ho]at hO;simp[zht,ei,hx,VT.cs,this];exact hO _
   |true=>
   have g1':(k' != 4)=false:=by simp[bne,g1]
   cases g2:(n' == (i:Int)) with
   |false=>
    have:(n' != (i:Int))=true:=by simp[bne,g2]
    rw[g1,g2]at ho;simp only[aY,bA]at ho;rw[←ho]at hO;simp[zht,ei,hx,VT.cs,g1',this];exact hO _
   |true=>
   have g2':(n' != (i:Int))=false:=by simp[bne,g2]
   by_cases g3:ks'.length=0
   ·have g3':¬ (0:Int)<ks'.length:=by omega
    have g3'':¬ 0<ks'.length:=by omega
    rw[g1,g2,g3]at ho;simp only[bk,BEq.rfl]at ho;simp[zht,ei,hx,VT.cs,g1',g2',g3',g3''];rw[zay (by omega) (by omega)];refine eq _ _ ⟨ks.length-(i+1),by omega,Back.here (by simp) hsc ?_ ⟨_,rfl,i+1,by omega,rfl,by simp,ho,rfl⟩⟩;simp[zpF,AV.sc,AV.scV,AV.scA,AV.scB]
   ·have g3':(0:Int)<ks'.length:=by omega
    have g3'':0<ks'.length:=by omega
    have g4:(ks'.length == 0)=false:=by simpa using g3
    rw[g4]at ho;simp only[bA,aY]at ho;rw[←ho]at hO;simp[zht,ei,hx,VT.cs,g1',g2',g3',g3''];exact hO _
  ·obtain rfl:i=ks.length:=by omega
   rw[aI,zc1]at ho;rw[←ho]at hO;simp[zht];exact hO _
theorem zHW:zeD tP zkw=true:=by kernel_rfl
theorem zzl(d:Int):∀ l:List VT,zfe d l=l.any (zcG d)
 |[]=>rfl
 |t::ts=>by simp[zfe,zzl d ts]
theorem zUk(d:Int):∀(m:Nat) (v:VT),v.nodes≤m→v.nodes≤1000000→∀(H:zaa) (K:AV→zaa→Prop),K (.bool (zcG d v)) H→ACalls tP zku [.agg v.cs,.int .i64 d] H K:=by
 intro m;induction m with
 |zero=>intro v h;have:=v.nodes_pos;omega
 |succ m ih=>
  intro v hv hb H K hK;obtain⟨k,n,ks⟩:=v;have gd:VT.nodesL ks+1≤1000000:=by simpa[VT.nodes]using hb
  have fh:=VT.len_le ks;refine ACalls.out (zUj λhs=>?_);have hO:∀ J,Out H.length K (.bool ((k == 5 && n == d) || ks.any (zcG d))) (H++J):=λJ=>Out.bool rfl (ac _) hs (by simpa[zcG,zzl]using hK);have go:(k == 5 && n == d)=false→∀ KK:AV→zaa→Prop,(∀ b,Out H.length K (.bool b) (H++[.cells [.int .i64 k,.int .i64 n,.sl (VT.css ks) .none],.cells [.int .i64 d]])→KK (.bool b) (H++[.cells [.int .i64 k,.int .i64 n,.sl (VT.css ks) .none],.cells [.int .i64 d]])) →
    ACalls tP zfR [.sl (VT.css ks) .none,.fn zkw [.ptr (H.length+1) 0]] (H++[.cells [.int .i64 k,.int .i64 n,.sl (VT.css ks) .none],.cells [.int .i64 d]]) KK:=by
   intro iy KK hKK;rw[iy,bt]at hO;refine zqp ks (by omega) _ _ _ (by simp[AV.sc,AV.scV,AV.scA,AV.scB]) (λi H'=>(ks.drop i).any (zcG d)=ks.any (zcG d)∧H'=H++[.cells [.int .i64 k,.int .i64 n,.sl (VT.css ks) .none],.cells [.int .i64 d]]) ⟨by simp,rfl⟩ ?_ ?_
   ·rintro i hi H' eP ⟨ho,rfl⟩;have fm:=VT.kid_lt (k:=k) (n:=n) hi;rw[ag hi,List.any_cons]at ho;simp only[aCallV,zHW,List.singleton_append];refine ACalls.out (zUF λe5=>?_);obtain⟨x1,x2,x3,ew,fJ,fc,fx⟩:=zbk ks[i];simp[zEK,ew];rw[←ew];refine ih ks[i] (by omega) (by omega) _ _ ?_;refine Out.bool (J:=[_]) (H2:=H++[.cells [.int .i64 k,.int .i64 n,.sl (VT.css ks) .none],.cells [.int .i64 d]]) (by simp;rfl) (by simp) e5 ?_;cases hb:zcG d ks[i] with
    |false=>rw[hb,bt]at ho;exact .inl ⟨rfl,ho,rfl⟩
    |true=>rw[hb,dW]at ho;rw[←ho]at hO;exact .inr ⟨rfl,hKK _ (hO _)⟩
   ·rintro H' ⟨ho,rfl⟩;rw[aI,List.any_nil]at ho;rw[←ho]at hO;exact hKK _ (hO _)
  simp only[VT.cs,zEE];cases h5:(k == 5) with
  |false=>simp[h5,AV.isB];refine go (by rw[h5];rfl) _ λb hb=>?_;simpa using hb
  |true=>
   cases hn:(n == d) with
   |false=>simp[h5,hn,AV.isB];refine go (by rw[hn];simp) _ λb hb=>?_;simpa using hb
   |true=>rw[h5,hn]at hO;simp[h5,hn];exact hO _
def zbR(l:List Bool):List AV:=l.map AV.bool
@[simp] theorem ydE(l:List Bool):(zbR l).length=l.length:=by simp[zbR]
theorem zHT(n:Nat):(List.replicate n [AV.bool false]).flatten=zbR (List.replicate n false):=by
 induction n with
 |zero=>rfl
 |succ n ih=>simp[List.replicate_succ,ih,zbR]
theorem zyc{l:List Bool}{i:Nat}(h:i<l.length)(b:Bool):(zbR l).take i++.bool b::(zbR l).drop (i+1)=zbR (l.set i b):=by simp[zbR,bh,h]
theorem zyb(m:Nat)(l:List Bool):(zbR l).all (AV.scA m)=true:=by simp[zbR]
theorem zAc:∀ l:List Bool,plain (zbR l)=some (l.map λb=>[AV.bool b]).flatten
 |[]=>rfl
 |b::l=>by have:=zAc l;simp[zbR]at this ⊢;simp[plain,this,AV.pd]
theorem zuB(d7:List Dat)(d:Nat)(c:Nat)(hd:d<d7.length)(hc:c<(d7[d]).cons.length)(hl:d7.length≤1000000)(fV:(d7[d]).cons.length≤1000000)(iq:((d7[d]).cons[c]).args.length≤1000000)(hb:∀ x∈((d7[d]).cons[c]).args,x.nodes≤1000000)(H:zaa)(K:AV→zaa→Prop)(hK:K (.sl (((d7[d]).cons[c]).args.map λt=>[.bool (zcd d (d7[d]).vars t)]) .none) H):
  ACalls tP zfQ [.sl (d7.map Dat.cs) .none,.int .i64 d,.int .i64 c] H K:=by
 refine ACalls.out (zRI λhs=>?_);have e1:(d7.map Dat.cs)[d]?=some (d7[d]).cs:=by simp[hd]
 have e2:((d7[d]).cons.map Con.cs)[c]?=some ((d7[d]).cons[c]).cs:=by simp[hc]
 generalize hD:d7[d]=D at *;generalize hA:D.cons[c]=C at *;have h1:¬(d:Int)<0:=by omega
 have h2:¬(d7.length:Int)≤d:=by omega
 have h3:¬(c:Int)<0:=by omega
 have h4:¬(D.cons.length:Int)≤c:=by omega
 simp[zDP,h1,h2,h3,h4,e1,e2,Dat.cs,Con.cs,hd,hD,hc,hA];simp only[zbp,Int.toNat_natCast,zHT];refine⟨⟨by omega,by omega,by omega,by omega⟩,?_⟩;refine zRG (Inv:=λq t49 H'=>∃(i:Nat) (bs:List Bool),i≤C.args.length∧q=C.args.length-i∧t49=.int .i64 i∧bs.length=C.args.length∧(∀j (hj:j<i) (h':j<C.args.length),bs[j]?=some (zcd d D.vars C.args[j]))∧H'=H++[.cells (zbR bs)]) C.args.length ?_ ?_
 ·intro _;exact⟨0,_,by omega,by omega,rfl,by simp,by omega,rfl⟩
 ·rintro q t49 H' ⟨i,bs,hi,rfl,rfl,gV,o7,rfl⟩ hsc ek eK Kb eq;by_cases ei:i<C.args.length
  ·obtain⟨k,n,ks,hx⟩:∃ k n ks,C.args[i]=.mk k n ks:=by cases h:C.args[i] with | mk a b c=>exact⟨a,b,c,rfl⟩
   have lk:=hb _ (af ei);rw[hx,VT.nodes]at lk;have fh:=VT.len_le ks;have inner:∀ b0:Bool,b0=(k == 5 && n == (d:Int) && (ks.length:Int) == D.vars) →
     zuA (.sl (d7.map Dat.cs) .none) (.int .i64 d) (.ms H.length 0 C.args.length C.args.length) (.int .i64 i) (.sl (VT.css C.args) .none) (.int .i64 C.args.length) (.int .i64 i) (.sl (VT.css ks) .none) (.int .i64 ks.length) (.int .i64 0)
      (H++[.cells (zbR (bs.set i b0)),.cells [.int .i64 k,.int .i64 n,.sl (VT.css ks) .none]]) (Out H.length K) Kb:=by
    intro b0 fL;refine zRF (Inv:=λq t80 H'=>∃(j:Nat) (b:Bool),j≤ks.length∧q=ks.length-j∧t80=.int .i64 j∧(b && zc1 (ks.drop j) j)=zcd d D.vars C.args[i]∧H'=H++[.cells (zbR (bs.set i b)),.cells [.int .i64 k,.int .i64 n,.sl (VT.css ks) .none]]) ks.length ?_ ?_
    ·intro _;exact⟨0,b0,by omega,by omega,rfl,by simp[hx,zcd,fL],rfl⟩
    ·rintro q t80 H' ⟨j,b,hj,rfl,rfl,ju,rfl⟩ nJ fS nK Kb1 jF;have hsc0:∀ b:Bool,HSc (H++[.cells (zbR (bs.set i b))]):=λb=>hs.snoc (by simp[AB.sc,zyb]);have gm:∀ b:Bool,HSc (H++[.cells (zbR (bs.set i b)),.cells [.int .i64 k,.int .i64 n,.sl (VT.css ks) .none]]):=λb=>hs.append (by simp[AB.sc,zyb]);by_cases eI:j<ks.length
     ·obtain⟨k',n',ks',kK⟩:∃ k' n' ks',ks[j]=.mk k' n' ks':=by cases h:ks[j] with | mk a b c=>exact⟨a,b,c,rfl⟩
      have qs:i<bs.length:=by omega
      rw[ag eI,zc1,kK,zhW]at ju;have kb:∀ (b':Bool) J,(b' && zc1 (ks.drop (j+1)) (j+1))=zcd d D.vars C.args[i]→zuz (.sl (d7.map Dat.cs) .none) (.int .i64 d) (.ms H.length 0 C.args.length C.args.length) (.int .i64 i) (.sl (VT.css C.args) .none) (.int .i64 C.args.length) (.int .i64 i) (.sl (VT.css ks) .none) (.int .i64 ks.length) (.int .i64 j)
        (H++.cells (zbR (bs.set i b'))::.cells [.int .i64 k,.int .i64 n,.sl (VT.css ks) .none]::J) (Out H.length K) Kb Kb1:=by
       intro b' J mf;simp[zuz];rw[zay (by omega) (by omega)];refine jF _ _ ⟨ks.length-(j+1),by omega,Back.at (J:=J) (H2:=H++[.cells (zbR (bs.set i b')),.cells [.int .i64 k,.int .i64 n,.sl (VT.css ks) .none]]) (by simp) (by simp) (gm _) ?_ ⟨_,rfl,j+1,b',by omega,rfl,by simp,mf,rfl⟩⟩;simp[znf,AV.sc,AV.scV,AV.scA,AV.scB]
      have fY:∀l,List.take i (zbR (bs.set i b))++.bool false::List.drop (i+1) (zbR (bs.set i b))=l→l=zbR (bs.set i false):=by rintro _ rfl;rw[zyc (by simpa using qs)];simp
      cases g1:(k' == 4) with
      |false=>
       have:(k' != 4)=true:=by simp[bne,g1]
       rw[g1]at ju;simp[zhk,zhl,eI,kK,VT.cs,this,ei,gV,fY _ rfl];refine⟨by omega,kb _ _ ?_⟩;simpa using ju.symm
      |true=>
      have g1':(k' != 4)=false:=by simp[bne,g1]
      cases g2:(n' == (j:Int)) with
      |false=>
       have:(n' != (j:Int))=true:=by simp[bne,g2]
       rw[g1,g2]at ju;simp[zhk,zhl,eI,kK,VT.cs,g1',this,ei,gV,fY _ rfl];refine⟨by omega,kb _ _ ?_⟩;simpa using ju.symm
      |true=>
      have g2':(n' != (j:Int))=false:=by simp[bne,g2]
      by_cases g3:ks'.length=0
      ·have g3':¬ (0:Int)<ks'.length:=by omega
       have g3'':¬ 0<ks'.length:=by omega
       simp[zhk,zhl,eI,kK,VT.cs,g1',g2',g3',g3''];refine kb _ _ ?_;simpa[g1,g2,g3]using ju
      ·have g3':(0:Int)<ks'.length:=by omega
       have g3'':0<ks'.length:=by omega
       have g4:(ks'.length == 0)=false:=by simpa using g3
       rw[g4]at ju;simp[zhk,zhl,eI,kK,VT.cs,g1',g2',g3',g3'',ei,gV,fY _ rfl];refine⟨by omega,kb _ _ ?_⟩;simpa using ju.symm
     ·obtain rfl:j=ks.length:=by omega
      rw[aI,zc1,ch]at ju;simp[zhk];rw[zay (by omega) (by omega)];refine eq _ _ ⟨C.args.length-(i+1),by omega,Back.at (J:=[.cells [.int .i64 k,.int .i64 n,.sl (VT.css ks) .none]]) (H2:=H++[.cells (zbR (bs.set i b))]) (by simp) (by simp) (hsc0 _) ?_ ⟨_,rfl,i+1,bs.set i b,by omega,rfl,by simp,by simpa using gV,?_,rfl⟩⟩
      ·simp[zng,AV.sc,AV.scV,AV.scA,AV.scB]
      ·intro j hj h';by_cases g8:j=i
       ·subst g8;rw[←ju];simp[gV,ei]
       ·rw[List.getElem?_set_ne (by omega)];exact o7 j (by omega) h'
   have fY:∀b l,List.take i (zbR bs)++.bool b::List.drop (i+1) (zbR bs)=l→l=zbR (bs.set i b):=by rintro b _ rfl;rw[zyc (by omega)]
   cases h5:(k == 5) with
   |false=>simp[zi5,ei,hx,VT.cs,e1,hd,hD,Dat.cs,h5,gV,fY _ _ rfl];refine⟨by omega,inner _ ?_⟩;simp[h5]
   |true=>
   cases hn:(n == (d:Int)) with
   |false=>simp[zi5,ei,hx,VT.cs,e1,hd,hD,Dat.cs,h5,hn,gV,fY _ _ rfl];refine⟨by omega,inner _ ?_⟩;simp[h5,hn]
   |true=>simp[zi5,ei,hx,VT.cs,e1,hd,hD,Dat.cs,h5,hn,gV,fY _ _ rfl];refine⟨by omega,inner _ ?_⟩;simp[h5,hn]
  ·obtain rfl:i=C.args.length:=by omega
   simp[zi5];have l7:bs=C.args.map (zcd d D.vars):=by refine bB (by simpa using gV) λj h1 h2=>?_;have:=o7 j (by omega) (by omega);rw[List.getElem?_eq_getElem h1]at this;simpa using this
   subst l7;refine⟨_,H,_,rfl,ac _,hs,.one (.frz H.length 0 _ _ 1 (zbR (C.args.map (zcd d D.vars))) (C.args.map λt=>[.bool (zcd d D.vars t)]) (ac _) (by simp) (by simp) ?_ (by simp) (by simp) (ac _)),hK⟩;rw[bq,ai (by simp),zAc,dv];rfl
def zcc(b:UInt8):Bool:=decide (97≤(b.toNat:Int)) && decide ((b.toNat:Int)≤122)
def bUp(b:UInt8):Bool:=decide (65≤(b.toNat:Int)) && decide ((b.toNat:Int)≤90)
def zba(b:UInt8):Bool:=decide (48≤(b.toNat:Int)) && decide ((b.toNat:Int)≤57)
def bIn(b:UInt8):Bool:=zcc b || bUp b || zba b || b == 95
def zdG(b:UInt8):Bool:=b == 9 || b == 10 || b == 13 || b == 32
def zcv:List UInt8→Int→Bool
 |[],_=>true
 | b::l,n=>let m:=n*10+((b.toNat:Int)-48)
  if m>1000000 then false else zcv l m
def zdP(r:List UInt8):Bool:=r.take 2 == [45,62] || r.take 2 == [60,61] || r.take 2 == [61,61]
def sgns:List UInt8:=[40,41,44,61,124,43,45,42,47,37,60,59,95]
def sgn(r:List UInt8):Nat:=
 if zdP r=true then 2 else match r with
 |[]=>0
 |b::_=>if sgns.contains b=true then 1 else 0
structure Tk where
 kind:Int
 text:List UInt8
 pos:Nat
def tok(kw:List UInt8→Bool)(b:UInt8)(r:List UInt8):Except Int (Int×Nat):=
 if (zcc b || bUp b)=true then
  let n:=(r.takeWhile bIn).length+1
  if n>24 then .error 9 else .ok (if bUp b=true then 2 else if kw ((b::r).take n)=true then 4 else 1,n)
 else if zba b=true then
  let n:=(r.takeWhile zba).length+1
  if b == 48 && decide (n>1) then .error 2 else if zcv ((b::r).take n) 0=true then .ok (3,n) else .error 9
 else
  let n:=sgn (b::r)
  if n=0 then .error 2 else .ok (5,n)
theorem zsM{kw:List UInt8→Bool}{b:UInt8}{r:List UInt8}{k:Int}{n:Nat}(h:tok kw b r=.ok (k,n)):0<n:=by
 unfold tok at h;split at h
 ·simp only at h;split at h <;> simp at h;omega
 ·split at h
  ·simp only at h;split at h
   ·simp at h
   ·split at h <;> simp at h;omega
  ·simp only at h;split at h <;> simp at h;omega
def zbQ(kw:List UInt8→Bool)(r:List UInt8)(pos:Nat):Except (Nat×Int) (List Tk):=
 match r with
 |[]=>.ok [⟨6,[],pos⟩]
 |b::r'=>
  if zdG b=true then zbQ kw r' (pos+1)
  else if b == 35 then zbQ kw (r'.dropWhile (· != 10)) (pos+1+(r'.takeWhile (· != 10)).length)
  else match tok kw b r' with
   |.error e=>.error (pos,e)
   | .ok (k,n)=>match zbQ kw (r'.drop (n-1)) (pos+n) with
    |.error e=>.error e
    |.ok l=>.ok (⟨k,(b::r').take n,pos⟩::l)
termination_by r.length
decreasing_by
 ·simp
 ·have:=(List.dropWhile_sublist (p:=(· != 10)) (l:=r')).length_le;simp;omega
 ·simp;omega
section
variable (t0 t5 t6 t7 t8 t9:AV) (H:zaa) (K:Kt) (Kb5 Kb9 Kb10 Kb18 Kb29:Lt)
def zgi:Nat→List Bool|5=>rl false [0,1,4,2,54]|9=>rl false [0,1,4,2,54]|_=>[]
noncomputable def zvh:=Tryz.f227.body.getD .skip
noncomputable def zUg:=Tryz.f227.results.toList
def zho:=t0::ux 4 (t5::t6::ux 54 [])
def zED:=zgi 5
noncomputable def zvi:=zar [1,0,1,1,1,1,0,0,0] zvh
def zEA:=zas tP zgi [1,0,1,1,1,1,0,0] zvh (zaB tP zUg K)
def znX:=ALoop tP zvi (zEA K) (zho t0 t5 t6) H
def zhp(t0 t5 t6:AV)(H:zaa)(K:Kt)(Kb5:Lt):Prop:=Kb5 (zho t0 t5 t6) H
def znV:=t0::ux 4 (t5::t6::ux 54 [])
def zUe:=zgi 9
noncomputable def zUb:=zar [1,0,1,0,1,0,0,0,0] zvi
def zUa:=zas tP zgi [1,0,1,0,1,0,0,0] zvi (zbC zED Kb5 (zEA K))
def zEC:=ALoop tP zUb (zUa K Kb5) (znV t0 t5 t6) H
def zEB:=zah 0 t0 λt57=>zaq [(.int .i64 0),(.str []),(.int .i64 0)] [(0,1),(1,1),(2,1)] [(0,(.int .i64 6)),(2,t57)] λt58=>zaw 3 [(.int .i64 0),(.str []),(.int .i64 0)] 1 [(0,t58)] λt59=>zax zfb 3 32 t5 t59 H λt60 H=>zaF [t60,(.int .i64 0),(.int .i64 0)] (K · H)
def znW:=zEB t0 t5 H K
def zvg:=zah 0 t0 λt28=>zac .lss false t6 t28 λt29=>zag t29 (zbS t0 t6 λt34=>zac .eql false t34 (.int .u8 10) λt35=>zag t35 (zhp t0 t5 t6 H K Kb5) (zac .add false t6 (.int .i64 1) λt31=>Kb9 (znV t0 t5 t31) H)) (znW t0 t5 H K)
def zvf:=zah 0 t0 λt14=>zac .lss false t6 t14 λt15=>zag t15 (zbS t0 t6 λt18=>ACalls tP zrK [t18] H λt19 H=>zag t19 (zac .add false t6 (.int .i64 1) λt21=>zhp t0 t5 t21 H K Kb5) (zbS t0 t6 λt24=>zac .eql false t24 (.int .u8 35) λt25=>zag t25 (zEC t0 t5 t6 H K Kb5) (ACalls tP zrL [t0,t6] H λt39 H=>zaE t39 0 λt40=>zaE t39 1 λt41=>zaz [(.int .i64 0),(.str []),(.int .i64 0)] H λt7 H=>zan 3 t7 t40 H λH=>zac .neq false t41 (.int .i64 0) λt43=>zag t43 (zaF [.snil,t6,t41] (K · H)) (zae true 3 t7 H λt47=>zaw 3 [(.int .i64 0),(.str []),(.int .i64 0)] 1 [(0,t47)] λt48=>zax zfb 3 32 t5 t48 H λt49 H=>zaf 1 t7 λt51=>zae false 1 t51 H λt52=>zah 0 t52 λt53=>zac .add false t6 t53 λt54=>zhp t0 t49 t54 H K Kb5)))) (znW t0 t5 H K)
def zve:=zah 0 t0 λt10=>zac .gtr false t10 (.int .i64 16384) λt11=>zag t11 (zaF [.snil,(.int .i64 0),(.int .i64 9)] (K · H)) (znX t0 .snil (.int .i64 0) H K)
def zdx:Nat→List Bool|5=>rl false [0,1,4,2,193]|10=>rl false [0,1,4,2,193]|18=>rl false [0,1,4,4,191]|29=>rl false [0,1,4,4,191]|_=>[]
noncomputable def ztT:=Tryz.f145.body.getD .skip
noncomputable def zPA:=Tryz.f145.results.toList
def zgc:=t0::ux 4 (t5::t6::ux 193 [])
def zmH:=zdx 5
noncomputable def zgb:=zar [1,1,1,0,1,0,0] ztT
def zmB:=zas tP zdx [1,1,1,0,1,0] ztT (zaB tP zPA K)
def zmG:=ALoop tP zgb (zmB K) (zgc t0 t5 t6) H
def zfs(t0 t5 t6:AV)(H:zaa)(K:Kt)(Kb5:Lt):Prop:=Kb5 (zgc t0 t5 t6) H
def zmE:=t0::ux 4 (t5::t6::ux 193 [])
def zPw:=zdx 10
noncomputable def zPp:=zar [1,0,1,1,0,1,0,0,0,0] zgb
def zPm:=zas tP zdx [1,0,1,1,0,1,0,0,0] zgb (zbC zmH Kb5 (zmB K))
def zCU:=ALoop tP zPp (zPm K Kb5) (zmE t0 t5 t6) H
def ztQ:=zah 0 t0 λt42=>zac .lss false t6 t42 λt43=>zad t43 true H (λK'=>K' t0 H) λt45 H=>zad t43 true H (λK'=>K' t6 H) λt46 H=>zad t43 true H (λK'=>zbS t45 t46 (K' · H)) λt47 H=>zad t43 true H (λK'=>zac .neq false t47 (.int .u8 10) (K' · H)) λt48 H=>zam t43 t48 (.bool false) λt49=>zag t49 (zac .add false t6 (.int .i64 1) λt51=>Kb10 (zmE t0 t5 t51) H) (zfs t0 t5 t6 H K Kb5)
def zi0:=t0::ux 4 (t5::t6::t7::t8::ux 191 [])
def zPx:=zdx 18
noncomputable def zPq:=zar [1,0,1,1,1,1,0,0,1,0,0,0,0] zgb
def zPn:=zas tP zdx [1,0,1,1,1,1,0,0,1,0,0,0] zgb (zbC zmH Kb5 (zmB K))
def ztU:=ALoop tP zPq (zPn K Kb5) (zi0 t0 t5 t6 t7 t8) H
def zi1:=zac .add false t6 t8 λt193=>zfs t0 t5 t193 H K Kb5
def zfu:=zi1 t0 t5 t6 t8 H K Kb5
def zft:=zac .add false t6 t8 λt135=>zaN 0 0 t0 (some t6) (some t135) λt136=>zaq [(.int .i64 0),(.str []),(.int .i64 0)] [(0,1),(1,1),(2,1)] [(0,t9),(1,t136),(2,t6)] λt138=>zaw 3 [(.int .i64 0),(.str []),(.int .i64 0)] 1 [(0,t138)] λt139=>zax zbH 3 32 t5 t139 H λt140 H=>zfu t0 t140 t6 t8 H K Kb5
def ztR:=zac .add false t6 t8 λt79=>zah 0 t0 λt81=>zac .lss false t79 t81 λt82=>zad t82 true H (λK'=>K' t0 H) λt84 H=>zad t82 true H (λK'=>K' t6 H) λt85 H=>zad t82 true H (λK'=>K' t8 H) λt86 H=>zad t82 true H (λK'=>zac .add false t85 t86 (K' · H)) λt87 H=>zad t82 true H (λK'=>zbS t84 t87 (K' · H)) λt88 H=>zad t82 true H (λK'=>ACalls tP zkk [t88] H K') λt89 H=>zad t82 true H (λK'=>K' t89 H) λt90 H=>zad t90 false H (λK'=>K' t0 H) λt91 H=>zad t90 false H (λK'=>K' t6 H) λt92 H=>zad t90 false H (λK'=>K' t8 H) λt93 H=>zad t90 false H (λK'=>zac .add false t92 t93 (K' · H)) λt94 H=>zad t90 false H (λK'=>zbS t91 t94 (K' · H)) λt95 H=>zad t90 false H (λK'=>ACalls tP zgP [t95] H K') λt96 H=>zad t82 true H (λK'=>zam t90 (.bool true) t96 (K' · H)) λt97 H=>zad t82 true H (λK'=>K' t97 H) λt98 H=>zad t98 false H (λK'=>K' t0 H) λt99 H=>zad t98 false H (λK'=>K' t6 H) λt100 H=>zad t98 false H (λK'=>K' t8 H) λt101 H=>zad t98 false H (λK'=>zac .add false t100 t101 (K' · H)) λt102 H=>zad t98 false H (λK'=>zbS t99 t102 (K' · H)) λt103 H=>zad t98 false H (λK'=>ACalls tP zie [t103] H K') λt104 H=>zad t82 true H (λK'=>zam t98 (.bool true) t104 (K' · H)) λt105 H=>zad t82 true H (λK'=>K' t105 H) λt106 H=>zad t106 false H (λK'=>K' t0 H) λt107 H=>zad t106 false H (λK'=>K' t6 H) λt108 H=>zad t106 false H (λK'=>K' t8 H) λt109 H=>zad t106 false H (λK'=>zac .add false t108 t109 (K' · H)) λt110 H=>zad t106 false H (λK'=>zbS t107 t110 (K' · H)) λt111 H=>zad t106 false H (λK'=>zac .eql false t111 (.int .u8 95) (K' · H)) λt112 H=>zad t82 true H (λK'=>zam t106 (.bool true) t112 (K' · H)) λt113 H=>zam t82 t113 (.bool false) λt114=>zag t114 (zac .add false t8 (.int .i64 1) λt116=>Kb18 (zi0 t0 t5 t6 t7 t116) H) (zac .gtr false t8 (.int .i64 24) λt118=>zag t118 (zaF [.snil,t6,(.int .i64 9)] (K · H)) (ACalls tP zgP [t7] H λt121 H=>zag t121 (zft t0 t5 t6 t8 (.int .i64 2) H K Kb5) (zac .add false t6 t8 λt126=>zaN 0 0 t0 (some t6) (some t126) λt127=>ACalls tP zkl [t127] H λt128 H=>zag t128 (zft t0 t5 t6 t8 (.int .i64 4) H K Kb5) (zft t0 t5 t6 t8 (.int .i64 1) H K Kb5))))
def zmF:=t0::ux 4 (t5::t6::t7::t8::ux 191 [])
def zPy:=zdx 29
noncomputable def zPr:=zar [1,0,1,1,1,1,0,0,1,1,1,0,0,0,0] zgb
def zPo:=zas tP zdx [1,0,1,1,1,1,0,0,1,1,1,0,0,0] zgb (zbC zmH Kb5 (zmB K))
def ztV:=ALoop tP zPr (zPo K Kb5) (zmF t0 t5 t6 t7 t8) H
def ztS:=zac .add false t6 t8 λt146=>zah 0 t0 λt148=>zac .lss false t146 t148 λt149=>zad t149 true H (λK'=>K' t0 H) λt151 H=>zad t149 true H (λK'=>K' t6 H) λt152 H=>zad t149 true H (λK'=>K' t8 H) λt153 H=>zad t149 true H (λK'=>zac .add false t152 t153 (K' · H)) λt154 H=>zad t149 true H (λK'=>zbS t151 t154 (K' · H)) λt155 H=>zad t149 true H (λK'=>ACalls tP zie [t155] H K') λt156 H=>zam t149 t156 (.bool false) λt157=>zag t157 (zac .add false t8 (.int .i64 1) λt159=>Kb29 (zmF t0 t5 t6 t7 t159) H) (zac .gtr false t8 (.int .i64 1) λt161=>zad t161 true H (λK'=>K' t7 H) λt163 H=>zad t161 true H (λK'=>zac .eql false t163 (.int .u8 48) (K' · H)) λt164 H=>zam t161 t164 (.bool false) λt165=>zag t165 (zaF [.snil,t6,(.int .i64 2)] (K · H)) (zac .add false t6 t8 λt172=>zaN 0 0 t0 (some t6) (some t172) λt173=>ACalls tP zgQ [t173] H λt174 H=>zaE t174 0 λt175=>zaE t174 1 λt176=>aUn .not t176 λt178=>zag t178 (zaF [.snil,t6,(.int .i64 9)] (K · H)) (zac .add false t6 t8 λt185=>zaN 0 0 t0 (some t6) (some t185) λt186=>zaq [(.int .i64 0),(.str []),(.int .i64 0)] [(0,1),(1,1),(2,1)] [(0,(.int .i64 3)),(1,t186),(2,t6)] λt188=>zaw 3 [(.int .i64 0),(.str []),(.int .i64 0)] 1 [(0,t188)] λt189=>zax zbH 3 32 t5 t189 H λt190 H=>zfu t0 t190 t6 t8 H K Kb5)))
def zmC:=zah 0 t0 λt17=>zac .lss false t6 t17 λt18=>zag t18 (zbS t0 t6 λt21=>zac .eql false t21 (.int .u8 9) λt23=>zad t23 false H (λK'=>K' t21 H) λt25 H=>zad t23 false H (λK'=>zac .eql false t25 (.int .u8 10) (K' · H)) λt26 H=>zam t23 (.bool true) t26 λt27=>zad t27 false H (λK'=>K' t21 H) λt29 H=>zad t27 false H (λK'=>zac .eql false t29 (.int .u8 13) (K' · H)) λt30 H=>zam t27 (.bool true) t30 λt31=>zad t31 false H (λK'=>K' t21 H) λt33 H=>zad t31 false H (λK'=>zac .eql false t33 (.int .u8 32) (K' · H)) λt34 H=>zam t31 (.bool true) t34 λt35=>zag t35 (zac .add false t6 (.int .i64 1) λt37=>zfs t0 t5 t37 H K Kb5) (zac .eql false t21 (.int .u8 35) λt39=>zag t39 (zCU t0 t5 t6 H K Kb5) (ACalls tP zkk [t21] H λt72 H=>zad t72 false H (λK'=>K' t21 H) λt74 H=>zad t72 false H (λK'=>ACalls tP zgP [t74] H K') λt75 H=>zam t72 (.bool true) t75 λt76=>zag t76 (ztU t0 t5 t6 t21 (.int .i64 1) H K Kb5) (ACalls tP zie [t21] H λt143 H=>zag t143 (ztV t0 t5 t6 t21 (.int .i64 1) H K Kb5) (zaN 0 0 t0 (some t6) none λt54=>ACalls tP zrz [t54] H λt55 H=>zac .eql false t55 (.int .i64 0) λt57=>zag t57 (zaF [.snil,t6,(.int .i64 2)] (K · H)) (zac .add false t6 t55 λt64=>zaN 0 0 t0 (some t6) (some t64) λt65=>zaq [(.int .i64 0),(.str []),(.int .i64 0)] [(0,1),(1,1),(2,1)] [(0,(.int .i64 5)),(1,t65),(2,t6)] λt67=>zaw 3 [(.int .i64 0),(.str []),(.int .i64 0)] 1 [(0,t67)] λt68=>zax zbH 3 32 t5 t68 H λt69 H=>zfu t0 t69 t6 t55 H K Kb5)))))) (zah 0 t0 λt196=>zaq [(.int .i64 0),(.str []),(.int .i64 0)] [(0,1),(1,1),(2,1)] [(0,(.int .i64 6)),(1,(.str [])),(2,t196)] λt197=>zaw 3 [(.int .i64 0),(.str []),(.int .i64 0)] 1 [(0,t197)] λt198=>zax zbH 3 32 t5 t198 H λt199 H=>zaF [t199,(.int .i64 0),(.int .i64 0)] (K · H))
def ztP:=zah 0 t0 λt13=>zac .gtr false t13 (.int .i64 16384) λt14=>zag t14 (zaF [.snil,(.int .i64 0),(.int .i64 9)] (K · H)) (zmG t0 .snil (.int .i64 0) H K)
def zUx(_:Nat):List Bool:=[]
noncomputable def zUy:=Tryz.f245.body.getD .skip
def zEI:=zac .eql false t0 (.int .u8 9) λt4=>zad t4 false H (λK'=>K' t0 H) λt6 H=>zad t4 false H (λK'=>zac .eql false t6 (.int .u8 10) (K' · H)) λt7 H=>zam t4 (.bool true) t7 λt8=>zad t8 false H (λK'=>K' t0 H) λt10 H=>zad t8 false H (λK'=>zac .eql false t10 (.int .u8 13) (K' · H)) λt11 H=>zam t8 (.bool true) t11 λt12=>zad t12 false H (λK'=>K' t0 H) λt14 H=>zad t12 false H (λK'=>zac .eql false t14 (.int .u8 32) (K' · H)) λt15 H=>zam t12 (.bool true) t15 λt16=>K t16 H
variable {t0 t5 t6 t7 t8 t9} {H} {K} {Kb5 Kb9 Kb10 Kb18 Kb29}
theorem zUd:Lo1 (λt6=>znV t0 t5 t6) (λt6 H Kb9=>zvg t0 t5 t6 H K Kb5 Kb9) t6 H (zEC t0 t5 t6 H K Kb5):=lq1 zgi zUe
theorem zUc:Lo2 (λt5 t6=>zho t0 t5 t6) (λt5 t6 H Kb5=>zvf t0 t5 t6 H K Kb5) t5 t6 H (znX t0 t5 t6 H K):=lq2 zgi zED
theorem zUf(h:HSc H→zve t0 H K):ACalls tP zrH [t0] H K:=
 acb zgi Tryz.func227 zvh h
theorem zPs:Lo1 (λt6=>zmE t0 t5 t6) (λt6 H Kb10=>ztQ t0 t5 t6 H K Kb5 Kb10) t6 H (zCU t0 t5 t6 H K Kb5):=lq1 zdx zPw
theorem zPt:Lo1 (λt8=>zi0 t0 t5 t6 t7 t8) (λt8 H Kb18=>ztR t0 t5 t6 t7 t8 H K Kb5 Kb18) t8 H (ztU t0 t5 t6 t7 t8 H K Kb5):=lq1 zdx zPx
theorem zPu:Lo1 (λt8=>zmF t0 t5 t6 t7 t8) (λt8 H Kb29=>ztS t0 t5 t6 t7 t8 H K Kb5 Kb29) t8 H (ztV t0 t5 t6 t7 t8 H K Kb5):=lq1 zdx zPy
theorem zPv:Lo2 (λt5 t6=>zgc t0 t5 t6) (λt5 t6 H Kb5=>zmC t0 t5 t6 H K Kb5) t5 t6 H (zmG t0 t5 t6 H K):=lq2 zdx zmH
theorem zPz(h:HSc H→ztP t0 H K):ACalls tP zrm [t0] H K:=
 acb zdx Tryz.func145 ztT h
theorem zUz(h:HSc H→zEI t0 H K):ACalls tP zrK [t0] H K:=
 acb zUx Tryz.func245 zUy h
end
section
variable (t0 t1 t3 t4 t5 t6 t7:AV) (H:zaa) (K:Kt) (Kb2 Kb3 Kb5:Lt)
def zUA(_:Nat):List Bool:=[]
noncomputable def zUB:=Tryz.f246.body.getD .skip
def zEJ:=zae true 3 t6 H λt74=>zan 3 t4 t74 H λH=>zae true 3 t4 H λr0=>zaF [r0,(.int .i64 0)] (K · H)
def zhr:=zEJ t4 t6 H K
def zhq:=zhr t4 t6 H K
def zvn:=zaz [(.int .i64 0),(.str []),(.int .i64 0)] H λt4 H=>zaq [(.int .i64 0),(.str []),(.int .i64 0)] [(0,1),(1,1),(2,1)] [(2,t1)] λt9=>zaz [(.int .i64 0),(.str []),(.int .i64 0)] H λt6 H=>zan 3 t6 t9 H λH=>zbS t0 t1 λt12=>ACalls tP zky [t12] H λt25 H=>zad t25 false H (λK'=>K' t12 H) λt27 H=>zad t25 false H (λK'=>ACalls tP zii [t27] H K') λt28 H=>zam t25 (.bool true) t28 λt29=>zag t29 (zaN 0 0 t0 (some t1) none λt32=>ACalls tP zkz [t32,(.fn zij [])] H λt33 H=>zaf 1 t6 λt34=>zan 1 t34 t33 H λH=>zaf 1 t6 λt37=>zae false 1 t37 H λt38=>zah 0 t38 λt39=>zac .gtr false t39 (.int .i64 24) λt40=>zag t40 (zaq [(.int .i64 0),(.str []),(.int .i64 0)] [(0,1),(1,1),(2,1)] [] λt41=>zan 3 t4 t41 H λH=>zae true 3 t4 H λr0=>zaF [r0,(.int .i64 9)] (K · H)) (ACalls tP zii [t12] H λt44 H=>zag t44 (zaf 0 t6 λt45=>zan 1 t45 (.int .i64 2) H λH=>zhq t4 t6 H K) (zaf 1 t6 λt47=>zae false 1 t47 H λt48=>ACalls tP zrM [t48] H λt49 H=>zag t49 (zaf 0 t6 λt50=>zan 1 t50 (.int .i64 4) H λH=>zhq t4 t6 H K) (zaf 0 t6 λt35=>zan 1 t35 (.int .i64 1) H λH=>zhq t4 t6 H K)))) (ACalls tP zfS [t12] H λt53 H=>zag t53 (zaf 0 t6 λt54=>zan 1 t54 (.int .i64 3) H λH=>zaN 0 0 t0 (some t1) none λt57=>ACalls tP zkz [t57,(.fn zfS [])] H λt58 H=>zaf 1 t6 λt59=>zan 1 t59 t58 H λH=>zac .eql false t12 (.int .u8 48) λt61=>zad t61 true H (λK'=>zaf 1 t6 (K' · H)) λt63 H=>zad t61 true H (λK'=>zae false 1 t63 H (K' · H)) λt64 H=>zad t61 true H (λK'=>zah 0 t64 (K' · H)) λt65 H=>zad t61 true H (λK'=>zac .gtr false t65 (.int .i64 1) (K' · H)) λt66 H=>zam t61 t66 (.bool false) λt67=>zag t67 (zaq [(.int .i64 0),(.str []),(.int .i64 0)] [(0,1),(1,1),(2,1)] [] λt68=>zan 3 t4 t68 H λH=>zae true 3 t4 H λr0=>zaF [r0,(.int .i64 2)] (K · H)) (zaf 1 t6 λt69=>zae false 1 t69 H λt70=>ACalls tP zik [t70] H λt71 H=>aUn .not t71 λt72=>zag t72 (zaq [(.int .i64 0),(.str []),(.int .i64 0)] [(0,1),(1,1),(2,1)] [] λt73=>zan 3 t4 t73 H λH=>zae true 3 t4 H λr0=>zaF [r0,(.int .i64 9)] (K · H)) (zhr t4 t6 H K))) (zaf 0 t6 λt13=>zan 1 t13 (.int .i64 5) H λH=>zaN 0 0 t0 (some t1) none λt16=>ACalls tP zrN [t16] H λt17 H=>zaf 1 t6 λt18=>zan 1 t18 t17 H λH=>zaf 1 t6 λt19=>zae false 1 t19 H λt20=>zac .eql false t20 (.str []) λt21=>zag t21 (zaq [(.int .i64 0),(.str []),(.int .i64 0)] [(0,1),(1,1),(2,1)] [] λt22=>zan 3 t4 t22 H λH=>zae true 3 t4 H λr0=>zaF [r0,(.int .i64 2)] (K · H)) (zhr t4 t6 H K)))
def zSg(_:Nat):List Bool:=[]
noncomputable def zSh:=Tryz.f188.body.getD .skip
def zD0:=zac .geq false t0 (.int .u8 97) λt4=>zad t4 true H (λK'=>K' t0 H) λt6 H=>zad t4 true H (λK'=>zac .leq false t6 (.int .u8 122) (K' · H)) λt7 H=>zam t4 t7 (.bool false) λt8=>K t8 H
def zSj(_:Nat):List Bool:=[]
noncomputable def zSk:=Tryz.f189.body.getD .skip
def zD1:=zac .geq false t0 (.int .u8 65) λt4=>zad t4 true H (λK'=>K' t0 H) λt6 H=>zad t4 true H (λK'=>zac .leq false t6 (.int .u8 90) (K' · H)) λt7 H=>zam t4 t7 (.bool false) λt8=>K t8 H
def zSm(_:Nat):List Bool:=[]
noncomputable def zSn:=Tryz.f190.body.getD .skip
def zD2:=zac .geq false t0 (.int .u8 48) λt4=>zad t4 true H (λK'=>K' t0 H) λt6 H=>zad t4 true H (λK'=>zac .leq false t6 (.int .u8 57) (K' · H)) λt7 H=>zam t4 t7 (.bool false) λt8=>K t8 H
def znu:Nat→List Bool|3=>rl false [0,1,2,2,13]|_=>[]
noncomputable def zuI:=Tryz.f191.body.getD .skip
noncomputable def zSu:=Tryz.f191.results.toList
def znw:=t0::ux 2 (t3::t4::ux 13 [])
def zSs:=znu 3
noncomputable def zSq:=zar [1,1,0,1,0,0] zuI
def zSp:=zas tP znu [1,1,0,1,0] zuI (zaB tP zSu K)
def zuJ:=ALoop tP zSq (zSp K) (znw t0 t3 t4) H
def znv:=zah 1 t3 λt8=>zac .lss false t4 t8 λt9=>zag t9 (zak 1 t3 t4 λt14=>zae false 1 t14 H λt15=>zac .eql false t15 t0 λt17=>zag t17 (K (.bool true) H) (zac .add false t4 (.int .i64 1) λt11=>Kb3 (znw t0 t3 t11) H)) (K (.bool false) H)
def zD3:=zaw 1 [(.str [])] 28 [(0,(.str [97,114,114,97,121])),(1,(.str [98,111,111,108])),(2,(.str [99,97,116,99,104])),(3,(.str [100,97,116,97])),(4,(.str [101,108,115,101])),(5,(.str [101,110,100])),(6,(.str [102,97,108,115,101])),(7,(.str [102,110])),(8,(.str [102,117,110])),(9,(.str [103,101,116])),(10,(.str [105,102])),(11,(.str [105,110])),(12,(.str [105,110,116])),(13,(.str [108,101,110])),(14,(.str [108,101,116])),(15,(.str [109,97,116,99,104])),(16,(.str [110,101,119])),(17,(.str [114,97,105,115,101])),(18,(.str [114,101,97,100])),(19,(.str [114,101,102])),(20,(.str [115,101,116])),(21,(.str [116,104,101,110])),(22,(.str [116,105,99,107])),(23,(.str [116,114,117,101])),(24,(.str [116,114,121])),(25,(.str [117,110,105,116])),(26,(.str [119,105,116,104])),(27,(.str [119,114,105,116,101]))] λt5=>zuJ t0 t5 (.int .i64 0) H K
def znx:Nat→List Bool|3=>rl false [0,1,3,2,17]|_=>[]
noncomputable def zuL:=Tryz.f192.body.getD .skip
noncomputable def zSA:=Tryz.f192.results.toList
def zny:=t0::ux 3 (t4::t5::ux 17 [])
def zSy:=znx 3
noncomputable def zSw:=zar [1,1,0,1,0,0] zuL
def zSv:=zas tP znx [1,1,0,1,0] zuL (zaB tP zSA K)
def zD6:=ALoop tP zSw (zSv K) (zny t0 t4 t5) H
def zuK:=zah 0 t0 λt8=>zac .lss false t5 t8 λt9=>zag t9 (zac .mul false t4 (.int .i64 10) λt13=>zbS t0 t5 λt16=>zac .sub false t16 (.int .u8 48) λt17=>za8 .i64 t17 λt18=>zac .add false t13 t18 λt19=>zac .gtr false t19 (.int .i64 1000000) λt21=>zag t21 (zaF [(.int .i64 0),(.bool false)] (K · H)) (zac .add false t5 (.int .i64 1) λt11=>Kb3 (zny t0 t19 t11) H)) (zaF [t4,(.bool true)] (K · H))
def zD5:=zD6 t0 (.int .i64 0) (.int .i64 0) H K
def znz:Nat→List Bool|5=>rl false [0,1,2,2,30]|_=>[]
noncomputable def zuM:=Tryz.f193.body.getD .skip
noncomputable def zSG:=Tryz.f193.results.toList
def znB:=t0::ux 2 (t3::t4::ux 30 [])
def zSE:=znz 5
noncomputable def zSC:=zar [1,1,1,0,1,0,0] zuM
def zSB:=zas tP znz [1,1,1,0,1,0] zuM (zaB tP zSG K)
def zuN:=ALoop tP zSC (zSB K) (znB t0 t3 t4) H
def znA:=zah 0 t3 λt25=>zac .lss false t4 t25 λt26=>zag t26 (apm H t0 λt29=>apu H (zbS t29 (.int .i64 0)) λt30=>apm H t3 λt31=>apm H t4 λt32=>apu H (zbS t31 t32) λt33=>apu H (zac .eql false t30 t33) λt34=>zag t34 (K (.int .i64 1) H) (zac .add false t4 (.int .i64 1) λt28=>Kb5 (znB t0 t3 t28) H)) (K (.int .i64 0) H)
def zhm:=zah 0 t0 λt6=>zac .geq false t6 (.int .i64 2) λt7=>zad t7 true H (λK'=>K' t0 H) λt9 H=>zad t7 true H (λK'=>zaN 0 0 t9 none (some (.int .i64 2)) (K' · H)) λt10 H=>zad t7 true H (λK'=>zac .eql false t10 (.str [45,62]) (K' · H)) λt11 H=>zad t7 true H (λK'=>K' t11 H) λt12 H=>zad t12 false H (λK'=>K' t0 H) λt13 H=>zad t12 false H (λK'=>zaN 0 0 t13 none (some (.int .i64 2)) (K' · H)) λt14 H=>zad t12 false H (λK'=>zac .eql false t14 (.str [60,61]) (K' · H)) λt15 H=>zad t7 true H (λK'=>zam t12 (.bool true) t15 (K' · H)) λt16 H=>zad t7 true H (λK'=>K' t16 H) λt17 H=>zad t17 false H (λK'=>K' t0 H) λt18 H=>zad t17 false H (λK'=>zaN 0 0 t18 none (some (.int .i64 2)) (K' · H)) λt19 H=>zad t17 false H (λK'=>zac .eql false t19 (.str [61,61]) (K' · H)) λt20 H=>zad t7 true H (λK'=>zam t17 (.bool true) t20 (K' · H)) λt21 H=>zam t7 t21 (.bool false) λt22=>zag t22 (K (.int .i64 2) H) (zuN t0 (.str [40,41,44,61,124,43,45,42,47,37,60,59,95]) (.int .i64 0) H K)
def zUO(_:Nat):List Bool:=[]
noncomputable def zUP:=Tryz.f255.body.getD .skip
def zEP:=zac .geq false t0 (.int .u8 97) λt4=>zad t4 true H (λK'=>K' t0 H) λt6 H=>zad t4 true H (λK'=>zac .leq false t6 (.int .u8 122) (K' · H)) λt7 H=>zam t4 t7 (.bool false) λt8=>K t8 H
def zUR(_:Nat):List Bool:=[]
noncomputable def zUS:=Tryz.f256.body.getD .skip
def zEQ:=zac .geq false t0 (.int .u8 65) λt4=>zad t4 true H (λK'=>K' t0 H) λt6 H=>zad t4 true H (λK'=>zac .leq false t6 (.int .u8 90) (K' · H)) λt7 H=>zam t4 t7 (.bool false) λt8=>K t8 H
def zn4:Nat→List Bool|2=>rl false [0,2,3,1,16]|_=>[]
noncomputable def zvu:=Tryz.f257.body.getD .skip
noncomputable def zUZ:=Tryz.f257.results.toList
def zn5:=t0::t1::ux 3 (t5::ux 16 [])
def zUX:=zn4 2
noncomputable def zUV:=zar [1,1,0,0,0] zvu
def zUU:=zas tP zn4 [1,1,0,0] zvu (zaB tP zUZ K)
def zES:=ALoop tP zUV (zUU K) (zn5 t0 t1 t5) H
def zvt:=zah 0 t0 λt8=>zac .lss false t5 t8 λt9=>zad t9 true H (λK'=>K' t1 H) λt11 H=>zad t9 true H (λK'=>K' t0 H) λt12 H=>zad t9 true H (λK'=>K' t5 H) λt13 H=>zad t9 true H (λK'=>zbS t12 t13 (K' · H)) λt14 H=>zad t9 true H (λK'=>aCallV tP t11 [t14] H K') λt15 H=>zam t9 t15 (.bool false) λt16=>zag t16 (zac .add false t5 (.int .i64 1) λt18=>Kb2 (zn5 t0 t1 t18) H) (zaN 0 0 t0 none (some t5) λt21=>K t21 H)
def zER:=zES t0 t1 (.int .i64 0) H K
def zU0(_:Nat):List Bool:=[]
noncomputable def zU1:=Tryz.f258.body.getD .skip
def zET:=ACalls tP zky [t0] H λt4 H=>zad t4 false H (λK'=>K' t0 H) λt6 H=>zad t4 false H (λK'=>ACalls tP zii [t6] H K') λt7 H=>zam t4 (.bool true) t7 λt8=>zad t8 false H (λK'=>K' t0 H) λt10 H=>zad t8 false H (λK'=>ACalls tP zfS [t10] H K') λt11 H=>zam t8 (.bool true) t11 λt12=>zad t12 false H (λK'=>K' t0 H) λt14 H=>zad t12 false H (λK'=>zac .eql false t14 (.int .u8 95) (K' · H)) λt15 H=>zam t12 (.bool true) t15 λt16=>K t16 H
def zU3(_:Nat):List Bool:=[]
noncomputable def zU4:=Tryz.f259.body.getD .skip
def zbD:=zag t4 (K (.bool true) H) (K (.bool false) H)
def zEU:=zac .eql false t0 (.str [97,114,114,97,121]) λt5=>zag t5 (zbD t5 H K) (zac .eql false t0 (.str [98,111,111,108]) λt6=>zag t6 (zbD t6 H K) (zac .eql false t0 (.str [99,97,116,99,104]) λt7=>zag t7 (zbD t7 H K) (zac .eql false t0 (.str [100,97,116,97]) λt8=>zag t8 (zbD t8 H K) (zac .eql false t0 (.str [101,108,115,101]) λt9=>zag t9 (zbD t9 H K) (zac .eql false t0 (.str [101,110,100]) λt10=>zag t10 (zbD t10 H K) (zac .eql false t0 (.str [102,97,108,115,101]) λt11=>zag t11 (zbD t11 H K) (zac .eql false t0 (.str [102,110]) λt12=>zag t12 (zbD t12 H K) (zac .eql false t0 (.str [102,117,110]) λt13=>zag t13 (zbD t13 H K) (zac .eql false t0 (.str [103,101,116]) λt14=>zag t14 (zbD t14 H K) (zac .eql false t0 (.str [105,102]) λt15=>zag t15 (zbD t15 H K) (zac .eql false t0 (.str [105,110]) λt16=>zag t16 (zbD t16 H K) (zac .eql false t0 (.str [105,110,116]) λt17=>zag t17 (zbD t17 H K) (zac .eql false t0 (.str [108,101,110]) λt18=>zag t18 (zbD t18 H K) (zac .eql false t0 (.str [108,101,116]) λt19=>zag t19 (zbD t19 H K) (zac .eql false t0 (.str [109,97,116,99,104]) λt20=>zag t20 (zbD t20 H K) (zac .eql false t0 (.str [110,101,119]) λt21=>zag t21 (zbD t21 H K) (zac .eql false t0 (.str [114,97,105,115,101]) λt22=>zag t22 (zbD t22 H K) (zac .eql false t0 (.str [114,101,97,100]) λt23=>zag t23 (zbD t23 H K) (zac .eql false t0 (.str [114,101,102]) λt24=>zag t24 (zbD t24 H K) (zac .eql false t0 (.str [115,101,116]) λt25=>zag t25 (zbD t25 H K) (zac .eql false t0 (.str [116,104,101,110]) λt26=>zag t26 (zbD t26 H K) (zac .eql false t0 (.str [116,105,99,107]) λt27=>zag t27 (zbD t27 H K) (zac .eql false t0 (.str [116,114,117,101]) λt28=>zag t28 (zbD t28 H K) (zac .eql false t0 (.str [116,114,121]) λt29=>zag t29 (zbD t29 H K) (zac .eql false t0 (.str [117,110,105,116]) λt30=>zag t30 (zbD t30 H K) (zac .eql false t0 (.str [119,105,116,104]) λt31=>zag t31 (zbD t31 H K) (zac .eql false t0 (.str [119,114,105,116,101]) λt32=>zbD t32 H K)))))))))))))))))))))))))))
def zU6(_:Nat):List Bool:=[]
noncomputable def zU7:=Tryz.f260.body.getD .skip
def zEV:=zac .geq false t0 (.int .u8 48) λt4=>zad t4 true H (λK'=>K' t0 H) λt6 H=>zad t4 true H (λK'=>zac .leq false t6 (.int .u8 57) (K' · H)) λt7 H=>zam t4 t7 (.bool false) λt8=>K t8 H
def zn6:Nat→List Bool|3=>rl false [0,1,2,1,2,2,13]|_=>[]
noncomputable def zvw:=Tryz.f261.body.getD .skip
noncomputable def zVe:=Tryz.f261.results.toList
def zn7:=t0::ux 2 (t3::ux 2 (t6::t7::ux 13 []))
def zVc:=zn6 3
noncomputable def zVa:=zar [1,1,0,1,0,0] zvw
def zU9:=zas tP zn6 [1,1,0,1,0] zvw (zaB tP zVe K)
def zEX:=ALoop tP zVa (zU9 K) (zn7 t0 t3 t6 t7) H
def zvv:=zac .lss false t7 t6 λt8=>zag t8 (zac .mul false t3 (.int .i64 10) λt11=>zbS t0 t7 λt14=>zac .sub false t14 (.int .u8 48) λt15=>za8 .i64 t15 λt16=>zac .add false t11 t16 λt17=>zac .gtr false t17 (.int .i64 1000000) λt19=>zag t19 (K (.bool false) H) (zac .add false t7 (.int .i64 1) λt20=>Kb3 (zn7 t0 t17 t6 t20) H)) (K (.bool true) H)
def zEW:=zah 0 t0 λt6=>zEX t0 (.int .i64 0) t6 (.int .i64 0) H K
variable {t0 t1 t3 t4 t5 t6 t7} {H} {K} {Kb2 Kb3 Kb5}
theorem zUC(h:HSc H→zvn t0 t1 H K):ACalls tP zrL [t0,t1] H K:=
 acb zUA Tryz.func246 zUB h
theorem zSi(h:HSc H→zD0 t0 H K):ACalls tP zkk [t0] H K:=
 acb zSg Tryz.func188 zSh h
theorem zSl(h:HSc H→zD1 t0 H K):ACalls tP zgP [t0] H K:=
 acb zSj Tryz.func189 zSk h
theorem zSo(h:HSc H→zD2 t0 H K):ACalls tP zie [t0] H K:=
 acb zSm Tryz.func190 zSn h
theorem zSr:Lo1 (λt4=>znw t0 t3 t4) (λt4 H Kb3=>znv t0 t3 t4 H K Kb3) t4 H (zuJ t0 t3 t4 H K):=lq1 znu zSs
theorem zSt(h:HSc H→zD3 t0 H K):ACalls tP zkl [t0] H K:=
 acb znu Tryz.func191 zuI h
theorem zSx:Lo2 (λt4 t5=>zny t0 t4 t5) (λt4 t5 H Kb3=>zuK t0 t4 t5 H K Kb3) t4 t5 H (zD6 t0 t4 t5 H K):=lq2 znx zSy
theorem zSz(h:HSc H→zD5 t0 H K):ACalls tP zgQ [t0] H K:=
 acb znx Tryz.func192 zuL h
theorem zSD:Lo1 (λt4=>znB t0 t3 t4) (λt4 H Kb5=>znA t0 t3 t4 H K Kb5) t4 H (zuN t0 t3 t4 H K):=lq1 znz zSE
theorem zSF(h:HSc H→zhm t0 H K):ACalls tP zrz [t0] H K:=
 acb znz Tryz.func193 zuM h
theorem zUQ(h:HSc H→zEP t0 H K):ACalls tP zky [t0] H K:=
 acb zUO Tryz.func255 zUP h
theorem zUT(h:HSc H→zEQ t0 H K):ACalls tP zii [t0] H K:=
 acb zUR Tryz.func256 zUS h
theorem zUW:Lo1 (λt5=>zn5 t0 t1 t5) (λt5 H Kb2=>zvt t0 t1 t5 H K Kb2) t5 H (zES t0 t1 t5 H K):=lq1 zn4 zUX
theorem zUY(h:HSc H→zER t0 t1 H K):ACalls tP zkz [t0,t1] H K:=
 acb zn4 Tryz.func257 zvu h
theorem zU2(h:HSc H→zET t0 H K):ACalls tP zij [t0] H K:=
 acb zU0 Tryz.func258 zU1 h
theorem zU5(h:HSc H→zEU t0 H K):ACalls tP zrM [t0] H K:=
 acb zU3 Tryz.func259 zU4 h
theorem zU8(h:HSc H→zEV t0 H K):ACalls tP zfS [t0] H K:=
 acb zU6 Tryz.func260 zU7 h
theorem zVb:Lo2 (λt3 t7=>zn7 t0 t3 t6 t7) (λt3 t7 H Kb3=>zvv t0 t3 t6 t7 H K Kb3) t3 t7 H (zEX t0 t3 t6 t7 H K):=lq2 zn6 zVc
theorem zVd(h:HSc H→zEW t0 H K):ACalls tP zik [t0] H K:=
 acb zn6 Tryz.func261 zvw h
end
section
variable (t0 t8 t16:AV) (H:zaa) (K:Kt)
def zVf(_:Nat):List Bool:=[]
noncomputable def zVg:=Tryz.f262.body.getD .skip
def zcM:=zag t16 (zaN 0 0 t0 none (some (.int .i64 1)) λt31=>K t31 H) (K (.str []) H)
def zn8:=zaN 0 0 t0 none (some (.int .i64 1)) λt15=>zac .eql false t15 (.str [40]) λt17=>zag t17 (zcM t0 t17 H K) (zac .eql false t15 (.str [41]) λt18=>zag t18 (zcM t0 t18 H K) (zac .eql false t15 (.str [44]) λt19=>zag t19 (zcM t0 t19 H K) (zac .eql false t15 (.str [61]) λt20=>zag t20 (zcM t0 t20 H K) (zac .eql false t15 (.str [124]) λt21=>zag t21 (zcM t0 t21 H K) (zac .eql false t15 (.str [43]) λt22=>zag t22 (zcM t0 t22 H K) (zac .eql false t15 (.str [45]) λt23=>zag t23 (zcM t0 t23 H K) (zac .eql false t15 (.str [42]) λt24=>zag t24 (zcM t0 t24 H K) (zac .eql false t15 (.str [47]) λt25=>zag t25 (zcM t0 t25 H K) (zac .eql false t15 (.str [37]) λt26=>zag t26 (zcM t0 t26 H K) (zac .eql false t15 (.str [60]) λt27=>zag t27 (zcM t0 t27 H K) (zac .eql false t15 (.str [59]) λt28=>zag t28 (zcM t0 t28 H K) (zac .eql false t15 (.str [95]) λt29=>zcM t0 t29 H K))))))))))))
def zgk:=zag t8 (zaN 0 0 t0 none (some (.int .i64 2)) λt13=>K t13 H) (zn8 t0 H K)
def zhs:=zah 0 t0 λt4=>zac .geq false t4 (.int .i64 2) λt5=>zag t5 (zaN 0 0 t0 none (some (.int .i64 2)) λt7=>zac .eql false t7 (.str [45,62]) λt9=>zag t9 (zgk t0 t9 H K) (zac .eql false t7 (.str [60,61]) λt10=>zag t10 (zgk t0 t10 H K) (zac .eql false t7 (.str [61,61]) λt11=>zgk t0 t11 H K))) (zn8 t0 H K)
def zS9(_:Nat):List Bool:=[]
noncomputable def zTa:=Tryz.f200.body.getD .skip
def zEi:=ACalls tP zrH [t0] H λt8 H=>zaE t8 0 λt9=>zaE t8 1 λt10=>zaE t8 2 λt11=>zac .eql false t11 (.int .i64 0) λt13=>zad t13 true H (λK'=>K' t9 H) λt15 H=>zad t13 true H (λK'=>zah 1 t15 (K' · H)) λt16 H=>zad t13 true H (λK'=>zac .eql false t16 (.int .i64 2) (K' · H)) λt17 H=>zam t13 t17 (.bool false) λt18=>zad t18 true H (λK'=>K' t9 H) λt20 H=>zad t18 true H (λK'=>zak 3 t20 (.int .i64 0) (K' · H)) λt21 H=>zad t18 true H (λK'=>zaf 0 t21 (K' · H)) λt22 H=>zad t18 true H (λK'=>zae false 1 t22 H (K' · H)) λt23 H=>zad t18 true H (λK'=>zac .eql false t23 (.int .i64 2) (K' · H)) λt24 H=>zam t18 t24 (.bool false) λt25=>zad t25 true H (λK'=>K' t9 H) λt27 H=>zad t25 true H (λK'=>zak 3 t27 (.int .i64 0) (K' · H)) λt28 H=>zad t25 true H (λK'=>zaf 1 t28 (K' · H)) λt29 H=>zad t25 true H (λK'=>zae false 1 t29 H (K' · H)) λt30 H=>zad t25 true H (λK'=>K' t0 H) λt31 H=>zad t25 true H (λK'=>zac .eql false t30 t31 (K' · H)) λt32 H=>zam t25 t32 (.bool false) λt33=>K t33 H
def zZ9(_:Nat):List Bool:=[]
noncomputable def yaa:=Tryz.f92.body.getD .skip
def zGH:=ACalls tP zrm [t0] H λt8 H=>zaE t8 0 λt9=>zaE t8 1 λt10=>zaE t8 2 λt11=>zac .eql false t11 (.int .i64 0) λt13=>zad t13 true H (λK'=>K' t9 H) λt15 H=>zad t13 true H (λK'=>zah 1 t15 (K' · H)) λt16 H=>zad t13 true H (λK'=>zac .eql false t16 (.int .i64 2) (K' · H)) λt17 H=>zam t13 t17 (.bool false) λt18=>zad t18 true H (λK'=>K' t9 H) λt20 H=>zad t18 true H (λK'=>zak 3 t20 (.int .i64 0) (K' · H)) λt21 H=>zad t18 true H (λK'=>zaf 0 t21 (K' · H)) λt22 H=>zad t18 true H (λK'=>zae false 1 t22 H (K' · H)) λt23 H=>zad t18 true H (λK'=>zac .eql false t23 (.int .i64 2) (K' · H)) λt24 H=>zam t18 t24 (.bool false) λt25=>zad t25 true H (λK'=>K' t9 H) λt27 H=>zad t25 true H (λK'=>zak 3 t27 (.int .i64 0) (K' · H)) λt28 H=>zad t25 true H (λK'=>zaf 1 t28 (K' · H)) λt29 H=>zad t25 true H (λK'=>zae false 1 t29 H (K' · H)) λt30 H=>zad t25 true H (λK'=>K' t0 H) λt31 H=>zad t25 true H (λK'=>zac .eql false t30 t31 (K' · H)) λt32 H=>zam t25 t32 (.bool false) λt33=>K t33 H
variable {t0 t8 t16} {H} {K}
theorem zVh(h:HSc H→zhs t0 H K):ACalls tP zrN [t0] H K:=
 acb zVf Tryz.func262 zVg h
theorem zTb(h:HSc H→zEi t0 H K):ACalls tP zkp [t0] H K:=
 acb zS9 Tryz.func200 zTa h
theorem yab(h:HSc H→zGH t0 H K):ACalls tP zkP [t0] H K:=
 acb zZ9 Tryz.func92 yaa h
end
end Go.Proofs.YtdmamdnkcefmmaaGreatDoor

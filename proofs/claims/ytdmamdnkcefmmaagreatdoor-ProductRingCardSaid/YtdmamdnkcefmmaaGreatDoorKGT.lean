import Derived.Test.YtdmamdnkcefmmaaGreatDoorKY10
import Derived.Test.YtdmamdnkcefmmaaGreatDoorVO
import Derived.Test.YtdmamdnkcefmmaaGreatDoorKNum
import Derived.Test.YtdmamdnkcefmmaaGreatDoorProg
import Derived.KernelRfl
set_option linter.unusedSimpArgs false
set_option linter.unusedVariables false
set_option maxRecDepth 100000
namespace Go.Proofs.YtdmamdnkcefmmaaGreatDoor
def zc2(args:List VT)(i:Nat):List AV:=(args.take i).map (λx=>.int .i64 x.nodes)++List.replicate (args.length-i) (.int .i64 0)
theorem zH8(args:List VT){i:Nat}(h:i≤args.length):(zc2 args i).length=args.length:=by simp[zc2];omega
theorem zH9(args:List VT){i:Nat}(h:i<args.length):(zc2 args i).take i++[.int .i64 (args[i]).nodes]++(zc2 args i).drop (i+1)=zc2 args (i+1):=by
 have e1:((args.take i).map λx=>AV.int .i64 x.nodes).length=i:=by simp;omega
 unfold zc2;rw[c5 (by omega),am (by omega),cZ,a7 (by omega),List.nil_append,e1,af h,aP];congr 1;rw[show i+1-i=1 by omega,List.drop_replicate];congr 1
theorem zBq(dU:List Dat)(lZ:dU.length≤1000000)(pg:∀ d∈dU,∀ c∈d.cons,c.args.length≤1000∧∀ x∈c.args,x.nodes≤1000)(hdc:∀ d∈dU,d.cons.length≤1000000)(t:VT)(ht:t.nodes≤1000)(c:Int)(H:zaa)(K:AV→zaa→Prop)(hK:K (zcC (zbr dU t c)) H):
  ACalls tP zjx [.sl (dU.map Dat.cs) .none,.agg t.cs,.int .i64 c] H K:=by
 refine ACalls.out (zOJ λhs=>?_);obtain⟨k,n,ks⟩:=t;have gC:VT.nodesL ks+1≤1000:=by simpa[VT.nodes]using ht
 have iM:=VT.len_le ks;have hF:zbr dU (.mk k n ks) c=none→∀J,Out H.length K (.tup [.snil,.bool false]) (H++J):=λh J=>by rw[h]at hK;exact Out.tup hs hK ⟨zdS,zaY rfl rfl,trivial⟩
 simp only[VT.cs,zBn];by_cases h5:k=5;case neg=>
  have:(k != 5)=true:=by simpa using h5
  simp[this,AV.isV];exact hF (by rw[zdc,ap (λh=>h5 h.1)]) _
 subst h5;by_cases h0:n<0
 ·simp[h0,AV.isV];exact hF (by rw[zdc,ap (λh=>by have:=h.2.1;omega)]) _
 by_cases h1:(dU.length:Int)≤n
 ·simp[h0,h1,AV.isV];exact hF (by
   rw[zdc];split
   ·rw[List.getElem?_eq_none (by omega)]
   ·rfl) _
 have hn:n.toNat<dU.length:=by omega
 have f5:n<dU.length:=by omega
 have ku:0≤n:=by omega
 generalize gF:dU[n.toNat]=d at *;have hd:d∈dU:=by rw[←gF];exact ah hn
 have ek:dU[n.toNat]?=some d:=by rw[List.getElem?_eq_getElem hn,gF]
 cases hv:((ks.length:Int) == d.vars) with
 |false=>
  have fG:((ks.length:Int) != d.vars)=true:=by simp[bne,hv]
  simp[h0,h1,ku,f5,hn,gF,Dat.cs,fG,AV.isV,ek];exact hF (by
   rw[zdc];split
   ·rw[ek];simp only;rw[ap (by simpa using hv)]
   ·rfl) _
 |true=>
 have fG:((ks.length:Int) != d.vars)=false:=by simp[bne,hv]
 have ph:(ks.length:Int)=d.vars:=by simpa using hv
 by_cases iV:c<0
 ·simp[h0,h1,ku,f5,hn,gF,Dat.cs,fG,AV.isV,ek,iV];exact hF (by rw[zdc,ap (λh=>by have:=h.2.2;omega)]) _
 have iX:∀o,(match d.cons[c.toNat]? with|some k=>if (k.args.map (subst ks)).all (λx=>decide (x.nodes≤200))=true then some (k.args.map (subst ks)) else none|none=>none)=o→zbr dU (.mk 5 n ks) c=o:=λo h=>by rw[zdc,aA ⟨rfl,ku,by omega⟩,ek];simp only;rw[aA ph];exact h
 by_cases fE:(d.cons.length:Int)≤c
 ·simp[h0,h1,ku,f5,hn,gF,Dat.cs,fG,AV.isV,ek,iV,fE];exact hF (iX none (by rw[List.getElem?_eq_none (by omega)])) _
 have fY:c.toNat<d.cons.length:=by omega
 have fB:c<d.cons.length:=by omega
 have kv:0≤c:=by omega
 generalize fS:d.cons[c.toNat]=co at *;have g9:co∈d.cons:=by rw[←fS];exact ah fY
 have nw:d.cons[c.toNat]?=some co:=by rw[List.getElem?_eq_getElem fY,fS]
 obtain⟨i8,nO⟩:=pg d hd co g9;have gW:=λo=>iX o;rw[nw]at gW;simp only at gW;have mG:∀x∈ks,x.nodes≤1000:=λy hy=>ar (zhw (k:=5) (n:=n) y hy) ht;simp[h0,h1,ku,f5,hn,gF,Dat.cs,fG,AV.isV,ek,iV,fE,kv,fB,fY,fS,zbu];refine⟨by omega,?_⟩;have ez:List.replicate ks.length (AV.int .i64 0)=zc2 ks 0:=by simp[zc2]
 rw[ez];have jJ:∀(l:List AV),(l.all λa=>a.scA (H.length+3))=true→HSc (H++[.cells [.int .i64 5,.int .i64 n,.sl (VT.css ks) .none],.cells [.str d.name,.int .i64 d.vars,.sl (d.cons.map Con.cs) .none],.cells l]):=λl hl=>hs.append (by simp[AB.sc];simpa using hl);have hszsc:∀i,((zc2 ks i).all λa=>a.scA (H.length+3))=true:=λi=>by
  rw[ak];intro x hx;unfold zc2 at hx;rcases aX.1 hx with h|h
  ·obtain⟨y,_,rfl⟩:=aC.1 h;rfl
  ·rw[bm h];rfl
 refine zOF (Inv:=λq t61 H'=>∃i:Nat,i≤ks.length∧q=ks.length-i∧t61=.int .i64 i∧H'=H++[.cells [.int .i64 5,.int .i64 n,.sl (VT.css ks) .none],.cells [.str d.name,.int .i64 d.vars,.sl (d.cons.map Con.cs) .none],.cells (zc2 ks i)]) ks.length ?_ ?_
 ·intro _;exact⟨0,by omega,by omega,rfl,rfl⟩
 ·rintro q t61 H' ⟨i,hi,rfl,rfl,rfl⟩ hsc8 hlen8 hsF8 Kb8 hKb8;by_cases d7:i<ks.length
  ·have eH:=mG _ (ah d7);obtain⟨x1,x2,x3,ei,fF,e8,fC⟩:=zbh ks[i];simp[zsJ,d7,ei,fF,e8,fC];rw[←ei];refine zQF _ _ (aa _) (by omega) _ _ ?_;have fc:=zH8 ks hi;simp[d7,fc];refine⟨by omega,?_⟩;rw[zav (by omega) (by omega)];have e:=zH9 ks d7;rw[aw,List.singleton_append]at e;rw[e];refine hKb8 _ _ ⟨ks.length-(i+1),by omega,Back.at (J:=[_]) (H2:=H++[.cells [.int .i64 5,.int .i64 n,.sl (VT.css ks) .none],.cells [.str d.name,.int .i64 d.vars,.sl (d.cons.map Con.cs) .none],.cells (zc2 ks (i+1))]) (by simp;rfl) (by simp) (jJ _ (hszsc _)) ?_ ⟨_,rfl,i+1,by omega,rfl,by simp,rfl⟩⟩;simp[zmc,AV.sc,AV.scV,AV.scA,AV.scB]
  ·obtain rfl:i=ks.length:=by omega
   have efull:zc2 ks ks.length=ks.map λx=>.int .i64 x.nodes:=by simp[zc2]
   have kA:=hsc8;rw[efull]at kA ⊢;simp[zsJ,kv,fB,fY,fS,Con.cs,nw];refine zOD (Inv:=λq t79 H'=>∃i:Nat,i≤co.args.length∧q=co.args.length-i∧t79=.int .i64 i∧(∀x∈co.args.take i,(subst ks x).nodes≤200)∧H'=H++[.cells [.int .i64 5,.int .i64 n,.sl (VT.css ks) .none],.cells [.str d.name,.int .i64 d.vars,.sl (d.cons.map Con.cs) .none],.cells (ks.map λx=>.int .i64 x.nodes)]) co.args.length ?_ ?_
   ·intro _;exact⟨0,by omega,by omega,rfl,by simp,rfl⟩
   ·rintro q t79 H' ⟨i,hi,rfl,rfl,eB,rfl⟩ hsc13 hlen13 hsF13 Kb13 jo;by_cases d7:i<co.args.length
    ·have e7:=ah d7;obtain⟨x1,x2,x3,ei,fF,e8,fC⟩:=zbh co.args[i];simp[zsH,d7,ei,fF,e8,fC];rw[←ei];refine zQM ks (λy hy=>by have:=mG y hy;omega) (by omega) _ co.args[i] (aa _) (by have:=nO _ e7;omega) _ (H.length+2) (by simp[zkq]) _ λr kz jn ot=>?_;by_cases gS:r≤200
     ·have gu:¬ (200:Int)<r:=by omega
      simp[gu];rw[zav (by omega) (by omega)];refine jo _ _ ⟨co.args.length-(i+1),by omega,Back.at (J:=[_]) (H2:=H++[.cells [.int .i64 5,.int .i64 n,.sl (VT.css ks) .none],.cells [.str d.name,.int .i64 d.vars,.sl (d.cons.map Con.cs) .none],.cells (ks.map λx=>.int .i64 x.nodes)]) (by simp;rfl) (by simp) kA ?_ ⟨_,rfl,i+1,by omega,rfl,by simp,zw1 d7 eB (kz.1 gS),rfl⟩⟩;simp[zma,AV.sc,AV.scV,AV.scA,AV.scB]
     ·have gu:(200:Int)<r:=by omega
      simp[gu,AV.isV];refine hF (gW none ?_) _;rw[ap];intro mF;have:=ak.1 mF (subst ks co.args[i]) (aC.2 ⟨_,e7,rfl⟩);exact gS (kz.2 (bY this))
    ·obtain rfl:i=co.args.length:=by omega
     rw[aq]at eB;have ke:=gW (some (co.args.map (subst ks))) (aA (ak.2 λy hy=>by
      obtain⟨x,hx,rfl⟩:=aC.1 hy;exact bq (eB x hx)))
     rw[ke]at hK;simp[zsH,kv,fB,fY,fS,Con.cs,nw];unfold zmd;refine ALoop.own 14 za2 3 rfl ?_;have f7:(H++[AB.cells [.int .i64 5,.int .i64 n,.sl (VT.css ks) .none],.cells [.str d.name,.int .i64 d.vars,.sl (d.cons.map Con.cs) .none],.cells (ks.map λx=>.int .i64 x.nodes)]).length=H.length+3:=by simp
     rw[f7];have et:∀m,HSc (H++[.cells [.int .i64 5,.int .i64 n,.sl (VT.css ks) .none],.cells [.str d.name,.int .i64 d.vars,.sl (d.cons.map Con.cs) .none],.cells (ks.map λx=>.int .i64 x.nodes),.perm za2 3 m]):=λm=>by have:=kA.append (J:=[.perm za2 3 m]) rfl;simpa using this
     rw[aw];show zmd (.ptr H.length 0) (.sl [] (.own (H.length+3))) (.sl (VT.css co.args) .none) (.int .i64 co.args.length) (.int .i64 0) (H++[.cells [.int .i64 5,.int .i64 n,.sl (VT.css ks) .none],.cells [.str d.name,.int .i64 d.vars,.sl (d.cons.map Con.cs) .none],.cells (ks.map λx=>.int .i64 x.nodes),.perm za2 3 0]) (Out H.length K);refine zOE (Inv:=λq t14 t95 H'=>∃i:Nat,i≤co.args.length∧q=co.args.length-i∧t95=.int .i64 i∧t14=.sl (VT.css ((co.args.map (subst ks)).take i)) (.own (H.length+3))∧H'=H++[.cells [.int .i64 5,.int .i64 n,.sl (VT.css ks) .none],.cells [.str d.name,.int .i64 d.vars,.sl (d.cons.map Con.cs) .none],.cells (ks.map λx=>.int .i64 x.nodes),.perm za2 3 i]) co.args.length ?_ ?_
     ·intro _;exact⟨0,by omega,by omega,rfl,by simp[VT.css],rfl⟩
     ·rintro q t14 t95 H' ⟨i,hi,rfl,rfl,rfl,rfl⟩ hsc20 hlen20 hsF20 Kb20 kB;by_cases d7:i<co.args.length
      ·have e7:=ah d7;obtain⟨x1,x2,x3,ei,fF,e8,fC⟩:=zbh co.args[i];simp[zsI,d7,ei,fF,e8,fC];rw[←ei];refine zQT _ ks (λy hy=>by have:=mG y hy;omega) (by omega) co.args[i] (aa _) (by have:=nO _ e7;omega) _ _ ?_;rw[zfk];simp[zax,zaO,zaK];refine⟨by omega,⟨by omega,by omega⟩,?_⟩;rw[zav (by omega) (by omega),show min i co.args.length=i by omega];refine kB _ _ ⟨co.args.length-(i+1),by omega,Back.at (H2:=H++[.cells [.int .i64 5,.int .i64 n,.sl (VT.css ks) .none],.cells [.str d.name,.int .i64 d.vars,.sl (d.cons.map Con.cs) .none],.cells (ks.map λx=>.int .i64 x.nodes),.perm za2 3 (i+1)]) (J:=[_]) (by simp;rfl) (by simp) (et _) ?_ ⟨_,_,rfl,i+1,by omega,rfl,by simp,?_,rfl⟩⟩
       ·simp[zmb,AV.sc,AV.scV,AV.scA,AV.scB]
       ·rw[zhj (by simpa using d7)];simp
      ·obtain rfl:i=co.args.length:=by omega
       rw[am (by simp)];simp[zsI,AV.isV];exact Out.tup hs hK ⟨slV,zaY rfl rfl,trivial⟩
def zhv(i:Nat):VT→Bool
 |.mk k n ks=>k == 4 && n == i && ks.length == 0
def zcN:List VT→Nat→Bool
 |[],_=>true
 |x::l,i=>zhv i x && zcN l (i+1)
def zb4(d vars:Int):VT→Bool
 |.mk k n ks=>k == 5 && n == d && (ks.length:Int) == vars && zcN ks 0
mutual
def zcs(d:Int):VT→Bool
 |.mk k n ks=>(k == 5 && n == d) || zeX d ks
def zeX(d:Int):List VT→Bool
 |[]=>false
 |t::ts=>zcs d t || zeX d ts
end
theorem zu6(v:VT)(d vars:Int)(hb:v.nodes≤1000000)(H:zaa)(K:AV→zaa→Prop)(hK:K (.bool (zb4 d vars v)) H):ACalls tP zj3 [.agg v.cs,.int .i64 d,.int .i64 vars] H K:=by
 refine ACalls.out (zV2 λhs=>?_);obtain⟨k,n,ks⟩:=v;have fT:VT.nodesL ks+1≤1000000:=by simpa[VT.nodes]using hb
 have fc:=VT.len_le ks;have hO:∀J,Out H.length K (.bool (k == 5 && n == d && (ks.length:Int) == vars && zcN ks 0)) (H++J):=λJ=>Out.bool rfl (aa _) hs (by simpa[zb4]using hK);simp only[VT.cs,zDO];cases h5:(k == 5) with
 |false=>
  have:(k != 5)=true:=by simp[bne,h5]
  rw[h5]at hO;simp[this];exact hO _
 |true=>
 have kC:(k != 5)=false:=by simp[bne,h5]
 cases hn:(n == d) with
 |false=>
  have:(n != d)=true:=by simp[bne,hn]
  rw[h5,hn]at hO;simp[kC,this];exact hO _
 |true=>
 have ff:(n != d)=false:=by simp[bne,hn]
 cases hv:((ks.length:Int) == vars) with
 |false=>
  have:((ks.length:Int) != vars)=true:=by simp[bne,hv]
  rw[h5,hn,hv]at hO;simp[kC,ff,this];exact hO _
 |true=>
 have fG:((ks.length:Int) != vars)=false:=by simp[bne,hv]
 rw[h5,hn,hv]at hO;simp only[bi]at hO;simp[kC,ff,fG];refine zV0 (Inv:=λq t7 H'=>∃i:Nat,i≤ks.length∧q=ks.length-i∧t7=.int .i64 i∧zcN (ks.drop i) i=zcN ks 0∧H'=H++[.cells [.int .i64 k,.int .i64 n,.sl (VT.css ks) .none]]) ks.length ?_ ?_
 ·intro _;exact⟨0,by omega,by omega,rfl,by simp,rfl⟩
 ·rintro q t7 H' ⟨i,hi,rfl,rfl,ho,rfl⟩ hsc d8 eC Kb ee;by_cases d7:i<ks.length
  ·rw[ag d7,zcN]at ho;obtain⟨k',n',ks',hx⟩:∃ k' n' ks',ks[i]=.mk k' n' ks':=by cases h:ks[i] with | mk a b c=>exact⟨a,b,c,rfl⟩
   rw[hx,zhv]at ho;cases g1:(k' == 4) with
   |false=>
    have:(k' != 4)=true:=by simp[bne,g1]
    rw[g1]at ho;simp only[aY]at ho;rw[←ho]at hO;simp[zgW,d7,hx,VT.cs,this];exact hO _
   |true=>
   have g1':(k' != 4)=false:=by simp[bne,g1]
   cases g2:(n' == (i:Int)) with
   |false=>
    have:(n' != (i:Int))=true:=by simp[bne,g2]
    rw[g1,g2]at ho;simp only[aY,bz]at ho;rw[←ho]at hO;simp[zgW,d7,hx,VT.cs,g1',this];exact hO _
   |true=>
   have g2':(n' != (i:Int))=false:=by simp[bne,g2]
   by_cases g3:ks'.length=0
   ·have g3':¬ (0:Int)<ks'.length:=by omega
    have g3'':¬ 0<ks'.length:=by omega
    rw[g1,g2,g3]at ho;simp only[bi,BEq.rfl]at ho;simp[zgW,d7,hx,VT.cs,g1',g2',g3',g3''];rw[zav (by omega) (by omega)];refine ee _ _ ⟨ks.length-(i+1),by omega,Back.here (by simp) hsc ?_ ⟨_,rfl,i+1,by omega,rfl,by simp,ho,rfl⟩⟩;simp[zn5,AV.sc,AV.scV,AV.scA,AV.scB]
   ·have g3':(0:Int)<ks'.length:=by omega
    have g3'':0<ks'.length:=by omega
    have g4:(ks'.length == 0)=false:=by simpa using g3
    rw[g4]at ho;simp only[bz,aY]at ho;rw[←ho]at hO;simp[zgW,d7,hx,VT.cs,g1',g2',g3',g3''];exact hO _
  ·obtain rfl:i=ks.length:=by omega
   rw[aI,zcN]at ho;rw[←ho]at hO;simp[zgW];exact hO _
theorem zE7:zd1 tP zjL=true:=by kernel_rfl
theorem zw4(d:Int):∀ l:List VT,zeX d l=l.any (zcs d)
 |[]=>rfl
 |t::ts=>by simp[zeX,zw4 d ts]
theorem zRn(d:Int):∀(m:Nat) (v:VT),v.nodes≤m→v.nodes≤1000000→∀(H:zaa) (K:AV→zaa→Prop),K (.bool (zcs d v)) H→ACalls tP zjK [.agg v.cs,.int .i64 d] H K:=by
 intro m;induction m with
 |zero=>intro v h;have:=v.nodes_pos;omega
 |succ m ih=>
  intro v hv hb H K hK;obtain⟨k,n,ks⟩:=v;have fT:VT.nodesL ks+1≤1000000:=by simpa[VT.nodes]using hb
  have fc:=VT.len_le ks;refine ACalls.out (zRm λhs=>?_);have hO:∀ J,Out H.length K (.bool ((k == 5 && n == d) || ks.any (zcs d))) (H++J):=λJ=>Out.bool rfl (aa _) hs (by simpa[zcs,zw4]using hK);have go:(k == 5 && n == d)=false→∀ KK:AV→zaa→Prop,(∀ b,Out H.length K (.bool b) (H++[.cells [.int .i64 k,.int .i64 n,.sl (VT.css ks) .none],.cells [.int .i64 d]])→KK (.bool b) (H++[.cells [.int .i64 k,.int .i64 n,.sl (VT.css ks) .none],.cells [.int .i64 d]])) →
    ACalls tP zfy [.sl (VT.css ks) .none,.fn zjL [.ptr (H.length+1) 0]] (H++[.cells [.int .i64 k,.int .i64 n,.sl (VT.css ks) .none],.cells [.int .i64 d]]) KK:=by
   intro gN KK hKK;rw[gN,bt]at hO;refine zoM ks (by omega) _ _ _ (by simp[AV.sc,AV.scV,AV.scA,AV.scB]) (λi H'=>(ks.drop i).any (zcs d)=ks.any (zcs d)∧H'=H++[.cells [.int .i64 k,.int .i64 n,.sl (VT.css ks) .none],.cells [.int .i64 d]]) ⟨by simp,rfl⟩ ?_ ?_
   ·rintro i hi H' eH ⟨ho,rfl⟩;have eY:=VT.kid_lt (k:=k) (n:=n) hi;rw[ag hi,List.any_cons]at ho;simp only[aCallV,zE7,List.singleton_append];refine ACalls.out (zRF λfx=>?_);obtain⟨x1,x2,x3,ei,fF,e8,fC⟩:=zbh ks[i];simp[zCh,ei];rw[←ei];refine ih ks[i] (by omega) (by omega) _ _ ?_;refine Out.bool (J:=[_]) (H2:=H++[.cells [.int .i64 k,.int .i64 n,.sl (VT.css ks) .none],.cells [.int .i64 d]]) (by simp;rfl) (by simp) fx ?_;cases hb:zcs d ks[i] with
    |false=>rw[hb,bt]at ho;exact .inl ⟨rfl,ho,rfl⟩
    |true=>rw[hb,dR]at ho;rw[←ho]at hO;exact .inr ⟨rfl,hKK _ (hO _)⟩
   ·rintro H' ⟨ho,rfl⟩;rw[aI,List.any_nil]at ho;rw[←ho]at hO;exact hKK _ (hO _)
  simp only[VT.cs,zCc];cases h5:(k == 5) with
  |false=>simp[h5,AV.isB];refine go (by rw[h5];rfl) _ λb hb=>?_;simpa using hb
  |true=>
   cases hn:(n == d) with
   |false=>simp[h5,hn,AV.isB];refine go (by rw[hn];simp) _ λb hb=>?_;simpa using hb
   |true=>rw[h5,hn]at hO;simp[h5,hn];exact hO _
def zbH(l:List Bool):List AV:=l.map AV.bool
@[simp] theorem zZq(l:List Bool):(zbH l).length=l.length:=by simp[zbH]
theorem zE2(n:Nat):(List.replicate n [AV.bool false]).flatten=zbH (List.replicate n false):=by
 induction n with
 |zero=>rfl
 |succ n ih=>simp[List.replicate_succ,ih,zbH]
theorem zvT{l:List Bool}{i:Nat}(h:i<l.length)(b:Bool):(zbH l).take i++.bool b::(zbH l).drop (i+1)=zbH (l.set i b):=by simp[zbH,bl,h]
theorem zvS(m:Nat)(l:List Bool):(zbH l).all (AV.scA m)=true:=by simp[zbH]
theorem zxP:∀ l:List Bool,plain (zbH l)=some (l.map λb=>[AV.bool b]).flatten
 |[]=>rfl
 |b::l=>by have:=zxP l;simp[zbH]at this ⊢;simp[plain,this,AV.pd]
theorem zsQ(dU:List Dat)(d:Nat)(c:Nat)(hd:d<dU.length)(hc:c<(dU[d]).cons.length)(hl:dU.length≤1000000)(fd:(dU[d]).cons.length≤1000000)(i8:((dU[d]).cons[c]).args.length≤1000000)(hb:∀ x∈((dU[d]).cons[c]).args,x.nodes≤1000000)(H:zaa)(K:AV→zaa→Prop)(hK:K (.sl (((dU[d]).cons[c]).args.map λt=>[.bool (zb4 d (dU[d]).vars t)]) .none) H):
  ACalls tP zfx [.sl (dU.map Dat.cs) .none,.int .i64 d,.int .i64 c] H K:=by
 refine ACalls.out (zOP λhs=>?_);have e1:(dU.map Dat.cs)[d]?=some (dU[d]).cs:=by simp[hd]
 have e2:((dU[d]).cons.map Con.cs)[c]?=some ((dU[d]).cons[c]).cs:=by simp[hc]
 generalize hD:dU[d]=D at *;generalize hA:D.cons[c]=C at *;have h1:¬(d:Int)<0:=by omega
 have h2:¬(dU.length:Int)≤d:=by omega
 have h3:¬(c:Int)<0:=by omega
 have h4:¬(D.cons.length:Int)≤c:=by omega
 simp[zBr,h1,h2,h3,h4,e1,e2,Dat.cs,Con.cs,hd,hD,hc,hA];simp only[zbu,Int.toNat_natCast,zE2];refine⟨⟨by omega,by omega,by omega,by omega⟩,?_⟩;refine zON (Inv:=λq t49 H'=>∃(i:Nat) (bs:List Bool),i≤C.args.length∧q=C.args.length-i∧t49=.int .i64 i∧bs.length=C.args.length∧(∀j (hj:j<i) (h':j<C.args.length),bs[j]?=some (zb4 d D.vars C.args[j]))∧H'=H++[.cells (zbH bs)]) C.args.length ?_ ?_
 ·intro _;exact⟨0,_,by omega,by omega,rfl,by simp,by omega,rfl⟩
 ·rintro q t49 H' ⟨i,bs,hi,rfl,rfl,gv,ou,rfl⟩ hsc d8 eC Kb ee;by_cases d7:i<C.args.length
  ·obtain⟨k,n,ks,hx⟩:∃ k n ks,C.args[i]=.mk k n ks:=by cases h:C.args[i] with | mk a b c=>exact⟨a,b,c,rfl⟩
   have kD:=hb _ (ah d7);rw[hx,VT.nodes]at kD;have fc:=VT.len_le ks;have inner:∀ b0:Bool,b0=(k == 5 && n == (d:Int) && (ks.length:Int) == D.vars) →
     zsP (.sl (dU.map Dat.cs) .none) (.int .i64 d) (.ms H.length 0 C.args.length C.args.length) (.int .i64 i) (.sl (VT.css C.args) .none) (.int .i64 C.args.length) (.int .i64 i) (.sl (VT.css ks) .none) (.int .i64 ks.length) (.int .i64 0)
      (H++[.cells (zbH (bs.set i b0)),.cells [.int .i64 k,.int .i64 n,.sl (VT.css ks) .none]]) (Out H.length K) Kb:=by
    intro b0 fA;refine zOM (Inv:=λq t80 H'=>∃(j:Nat) (b:Bool),j≤ks.length∧q=ks.length-j∧t80=.int .i64 j∧(b && zcN (ks.drop j) j)=zb4 d D.vars C.args[i]∧H'=H++[.cells (zbH (bs.set i b)),.cells [.int .i64 k,.int .i64 n,.sl (VT.css ks) .none]]) ks.length ?_ ?_
    ·intro _;exact⟨0,b0,by omega,by omega,rfl,by simp[hx,zb4,fA],rfl⟩
    ·rintro q t80 H' ⟨j,b,hj,rfl,rfl,iZ,rfl⟩ mH f7 mI Kb1 i9;have hsc0:∀ b:Bool,HSc (H++[.cells (zbH (bs.set i b))]):=λb=>hs.snoc (by simp[AB.sc,zvS]);have fU:∀ b:Bool,HSc (H++[.cells (zbH (bs.set i b)),.cells [.int .i64 k,.int .i64 n,.sl (VT.css ks) .none]]):=λb=>hs.append (by simp[AB.sc,zvS]);by_cases eN:j<ks.length
     ·obtain⟨k',n',ks',jQ⟩:∃ k' n' ks',ks[j]=.mk k' n' ks':=by cases h:ks[j] with | mk a b c=>exact⟨a,b,c,rfl⟩
      have pk:i<bs.length:=by omega
      rw[ag eN,zcN,jQ,zhv]at iZ;have jp:∀ (b':Bool) J,(b' && zcN (ks.drop (j+1)) (j+1))=zb4 d D.vars C.args[i]→zsO (.sl (dU.map Dat.cs) .none) (.int .i64 d) (.ms H.length 0 C.args.length C.args.length) (.int .i64 i) (.sl (VT.css C.args) .none) (.int .i64 C.args.length) (.int .i64 i) (.sl (VT.css ks) .none) (.int .i64 ks.length) (.int .i64 j)
        (H++.cells (zbH (bs.set i b'))::.cells [.int .i64 k,.int .i64 n,.sl (VT.css ks) .none]::J) (Out H.length K) Kb Kb1:=by
       intro b' J kY;simp[zsO];rw[zav (by omega) (by omega)];refine i9 _ _ ⟨ks.length-(j+1),by omega,Back.at (J:=J) (H2:=H++[.cells (zbH (bs.set i b')),.cells [.int .i64 k,.int .i64 n,.sl (VT.css ks) .none]]) (by simp) (by simp) (fU _) ?_ ⟨_,rfl,j+1,b',by omega,rfl,by simp,kY,rfl⟩⟩;simp[zme,AV.sc,AV.scV,AV.scA,AV.scB]
      have fD:∀l,List.take i (zbH (bs.set i b))++.bool false::List.drop (i+1) (zbH (bs.set i b))=l→l=zbH (bs.set i false):=by rintro _ rfl;rw[zvT (by simpa using pk)];simp
      cases g1:(k' == 4) with
      |false=>
       have:(k' != 4)=true:=by simp[bne,g1]
       rw[g1]at iZ;simp[zgM,zgN,eN,jQ,VT.cs,this,d7,gv,fD _ rfl];refine⟨by omega,jp _ _ ?_⟩;simpa using iZ.symm
      |true=>
      have g1':(k' != 4)=false:=by simp[bne,g1]
      cases g2:(n' == (j:Int)) with
      |false=>
       have:(n' != (j:Int))=true:=by simp[bne,g2]
       rw[g1,g2]at iZ;simp[zgM,zgN,eN,jQ,VT.cs,g1',this,d7,gv,fD _ rfl];refine⟨by omega,jp _ _ ?_⟩;simpa using iZ.symm
      |true=>
      have g2':(n' != (j:Int))=false:=by simp[bne,g2]
      by_cases g3:ks'.length=0
      ·have g3':¬ (0:Int)<ks'.length:=by omega
       have g3'':¬ 0<ks'.length:=by omega
       simp[zgM,zgN,eN,jQ,VT.cs,g1',g2',g3',g3''];refine jp _ _ ?_;simpa[g1,g2,g3]using iZ
      ·have g3':(0:Int)<ks'.length:=by omega
       have g3'':0<ks'.length:=by omega
       have g4:(ks'.length == 0)=false:=by simpa using g3
       rw[g4]at iZ;simp[zgM,zgN,eN,jQ,VT.cs,g1',g2',g3',g3'',d7,gv,fD _ rfl];refine⟨by omega,jp _ _ ?_⟩;simpa using iZ.symm
     ·obtain rfl:j=ks.length:=by omega
      rw[aI,zcN,ce]at iZ;simp[zgM];rw[zav (by omega) (by omega)];refine ee _ _ ⟨C.args.length-(i+1),by omega,Back.at (J:=[.cells [.int .i64 k,.int .i64 n,.sl (VT.css ks) .none]]) (H2:=H++[.cells (zbH (bs.set i b))]) (by simp) (by simp) (hsc0 _) ?_ ⟨_,rfl,i+1,bs.set i b,by omega,rfl,by simp,by simpa using gv,?_,rfl⟩⟩
      ·simp[zmf,AV.sc,AV.scV,AV.scA,AV.scB]
      ·intro j hj h';by_cases gD:j=i
       ·subst gD;rw[←iZ];simp[gv,d7]
       ·rw[List.getElem?_set_ne (by omega)];exact ou j (by omega) h'
   have fD:∀b l,List.take i (zbH bs)++.bool b::List.drop (i+1) (zbH bs)=l→l=zbH (bs.set i b):=by rintro b _ rfl;rw[zvT (by omega)]
   cases h5:(k == 5) with
   |false=>simp[ziA,d7,hx,VT.cs,e1,hd,hD,Dat.cs,h5,gv,fD _ _ rfl];refine⟨by omega,inner _ ?_⟩;simp[h5]
   |true=>
   cases hn:(n == (d:Int)) with
   |false=>simp[ziA,d7,hx,VT.cs,e1,hd,hD,Dat.cs,h5,hn,gv,fD _ _ rfl];refine⟨by omega,inner _ ?_⟩;simp[h5,hn]
   |true=>simp[ziA,d7,hx,VT.cs,e1,hd,hD,Dat.cs,h5,hn,gv,fD _ _ rfl];refine⟨by omega,inner _ ?_⟩;simp[h5,hn]
  ·obtain rfl:i=C.args.length:=by omega
   simp[ziA];have oh:bs=C.args.map (zb4 d D.vars):=by refine bA (by simpa using gv) λj h1 h2=>?_;have:=ou j (by omega) (by omega);rw[List.getElem?_eq_getElem h1]at this;simpa using this
   subst oh;refine⟨_,H,_,rfl,aa _,hs,.one (.frz H.length 0 _ _ 1 (zbH (C.args.map (zb4 d D.vars))) (C.args.map λt=>[.bool (zb4 d D.vars t)]) (aa _) (by simp) (by simp) ?_ (by simp) (by simp) (aa _)),hK⟩;rw[br,am (by simp),zxP,dt];rfl
def zb3(b:UInt8):Bool:=decide (97≤(b.toNat:Int)) && decide ((b.toNat:Int)≤122)
def bUp(b:UInt8):Bool:=decide (65≤(b.toNat:Int)) && decide ((b.toNat:Int)≤90)
def za5(b:UInt8):Bool:=decide (48≤(b.toNat:Int)) && decide ((b.toNat:Int)≤57)
def bIn(b:UInt8):Bool:=zb3 b || bUp b || za5 b || b == 95
def zds(b:UInt8):Bool:=b == 9 || b == 10 || b == 13 || b == 32
def zcc:List UInt8→Int→Bool
 |[],_=>true
 | b::l,n=>let m:=n*10+((b.toNat:Int)-48)
  if m>1000000 then false else zcc l m
def zdC(r:List UInt8):Bool:=r.take 2 == [45,62] || r.take 2 == [60,61] || r.take 2 == [61,61]
def sgns:List UInt8:=[40,41,44,61,124,43,45,42,47,37,60,59,95]
def sgn(r:List UInt8):Nat:=
 if zdC r=true then 2 else match r with
 |[]=>0
 |b::_=>if sgns.contains b=true then 1 else 0
structure Tk where
 kind:Int
 text:List UInt8
 pos:Nat
def tok(kw:List UInt8→Bool)(b:UInt8)(r:List UInt8):Except Int (Int×Nat):=
 if (zb3 b || bUp b)=true then
  let n:=(r.takeWhile bIn).length+1
  if n>24 then .error 9 else .ok (if bUp b=true then 2 else if kw ((b::r).take n)=true then 4 else 1,n)
 else if za5 b=true then
  let n:=(r.takeWhile za5).length+1
  if b == 48 && decide (n>1) then .error 2 else if zcc ((b::r).take n) 0=true then .ok (3,n) else .error 9
 else
  let n:=sgn (b::r)
  if n=0 then .error 2 else .ok (5,n)
theorem zrb{kw:List UInt8→Bool}{b:UInt8}{r:List UInt8}{k:Int}{n:Nat}(h:tok kw b r=.ok (k,n)):0<n:=by
 unfold tok at h;split at h
 ·simp only at h;split at h <;> simp at h;omega
 ·split at h
  ·simp only at h;split at h
   ·simp at h
   ·split at h <;> simp at h;omega
  ·simp only at h;split at h <;> simp at h;omega
def zbG(kw:List UInt8→Bool)(r:List UInt8)(pos:Nat):Except (Nat×Int) (List Tk):=
 match r with
 |[]=>.ok [⟨6,[],pos⟩]
 |b::r'=>
  if zds b=true then zbG kw r' (pos+1)
  else if b == 35 then zbG kw (r'.dropWhile (· != 10)) (pos+1+(r'.takeWhile (· != 10)).length)
  else match tok kw b r' with
   |.error e=>.error (pos,e)
   | .ok (k,n)=>match zbG kw (r'.drop (n-1)) (pos+n) with
    |.error e=>.error e
    |.ok l=>.ok (⟨k,(b::r').take n,pos⟩::l)
termination_by r.length
decreasing_by
 ·simp
 ·have:=(List.dropWhile_sublist (p:=(· != 10)) (l:=r')).length_le;simp;omega
 ·simp;omega
section
variable (t0 t5 t6 t7 t8 t9:AV) (H:zaa) (K:Kt) (Kb5 Kb9 Kb10 Kb18 Kb29:Lt)
def zfU:Nat→List Bool|5=>rl false [0,1,4,2,54]|9=>rl false [0,1,4,2,54]|_=>[]
noncomputable def zty:=Tryz.f227.body.getD .skip
noncomputable def zRj:=Tryz.f227.results.toList
def zgP:=t0::ux 4 (t5::t6::ux 54 [])
def zCb:=zfU 5
noncomputable def ztz:=zas [1,0,1,1,1,1,0,0,0] zty
def zB8:=zat tP zfU [1,0,1,1,1,1,0,0] zty (zaB tP zRj K)
def zmW:=ALoop tP ztz (zB8 K) (zgP t0 t5 t6) H
def zgQ(t0 t5 t6:AV)(H:zaa)(K:Kt)(Kb5:Lt):Prop:=Kb5 (zgP t0 t5 t6) H
def zmU:=t0::ux 4 (t5::t6::ux 54 [])
def zRh:=zfU 9
noncomputable def zRe:=zas [1,0,1,0,1,0,0,0,0] ztz
def zRd:=zat tP zfU [1,0,1,0,1,0,0,0] ztz (zbR zCb Kb5 (zB8 K))
def zCa:=ALoop tP zRe (zRd K Kb5) (zmU t0 t5 t6) H
def zB9:=zai 0 t0 λt57=>zar [(.int .i64 0),(.str []),(.int .i64 0)] [(0,1),(1,1),(2,1)] [(0,(.int .i64 6)),(2,t57)] λt58=>zau 3 [(.int .i64 0),(.str []),(.int .i64 0)] 1 [(0,t58)] λt59=>zax zeU 3 32 t5 t59 H λt60 H=>zaG [t60,(.int .i64 0),(.int .i64 0)] (K · H)
def zmV:=zB9 t0 t5 H K
def ztx:=zai 0 t0 λt28=>zad .lss false t6 t28 λt29=>zag t29 (zbI t0 t6 λt34=>zad .eql false t34 (.int .u8 10) λt35=>zag t35 (zgQ t0 t5 t6 H K Kb5) (zad .add false t6 (.int .i64 1) λt31=>Kb9 (zmU t0 t5 t31) H)) (zmV t0 t5 H K)
def ztw:=zai 0 t0 λt14=>zad .lss false t6 t14 λt15=>zag t15 (zbI t0 t6 λt18=>ACalls tP zp0 [t18] H λt19 H=>zag t19 (zad .add false t6 (.int .i64 1) λt21=>zgQ t0 t5 t21 H K Kb5) (zbI t0 t6 λt24=>zad .eql false t24 (.int .u8 35) λt25=>zag t25 (zCa t0 t5 t6 H K Kb5) (ACalls tP zp1 [t0,t6] H λt39 H=>zay t39 0 λt40=>zay t39 1 λt41=>zaz [(.int .i64 0),(.str []),(.int .i64 0)] H λt7 H=>zao 3 t7 t40 H λH=>zad .neq false t41 (.int .i64 0) λt43=>zag t43 (zaG [.snil,t6,t41] (K · H)) (zae true 3 t7 H λt47=>zau 3 [(.int .i64 0),(.str []),(.int .i64 0)] 1 [(0,t47)] λt48=>zax zeU 3 32 t5 t48 H λt49 H=>zaf 1 t7 λt51=>zae false 1 t51 H λt52=>zai 0 t52 λt53=>zad .add false t6 t53 λt54=>zgQ t0 t49 t54 H K Kb5)))) (zmV t0 t5 H K)
def ztv:=zai 0 t0 λt10=>zad .gtr false t10 (.int .i64 16384) λt11=>zag t11 (zaG [.snil,(.int .i64 0),(.int .i64 9)] (K · H)) (zmW t0 .snil (.int .i64 0) H K)
def zdk:Nat→List Bool|5=>rl false [0,1,4,2,193]|10=>rl false [0,1,4,2,193]|18=>rl false [0,1,4,4,191]|29=>rl false [0,1,4,4,191]|_=>[]
noncomputable def zr8:=Tryz.f145.body.getD .skip
noncomputable def zMJ:=Tryz.f145.results.toList
def zfO:=t0::ux 4 (t5::t6::ux 193 [])
def zlG:=zdk 5
noncomputable def zfN:=zas [1,1,1,0,1,0,0] zr8
def zlA:=zat tP zdk [1,1,1,0,1,0] zr8 (zaB tP zMJ K)
def zlF:=ALoop tP zfN (zlA K) (zfO t0 t5 t6) H
def ze9(t0 t5 t6:AV)(H:zaa)(K:Kt)(Kb5:Lt):Prop:=Kb5 (zfO t0 t5 t6) H
def zlD:=t0::ux 4 (t5::t6::ux 193 [])
def zMF:=zdk 10
noncomputable def zMy:=zas [1,0,1,1,0,1,0,0,0,0] zfN
def zMv:=zat tP zdk [1,0,1,1,0,1,0,0,0] zfN (zbR zlG Kb5 (zlA K))
def zAw:=ALoop tP zMy (zMv K Kb5) (zlD t0 t5 t6) H
def zr5:=zai 0 t0 λt42=>zad .lss false t6 t42 λt43=>zac t43 true H (λK'=>K' t0 H) λt45 H=>zac t43 true H (λK'=>K' t6 H) λt46 H=>zac t43 true H (λK'=>zbI t45 t46 (K' · H)) λt47 H=>zac t43 true H (λK'=>zad .neq false t47 (.int .u8 10) (K' · H)) λt48 H=>zak t43 t48 (.bool false) λt49=>zag t49 (zad .add false t6 (.int .i64 1) λt51=>Kb10 (zlD t0 t5 t51) H) (ze9 t0 t5 t6 H K Kb5)
def ziv:=t0::ux 4 (t5::t6::t7::t8::ux 191 [])
def zMG:=zdk 18
noncomputable def zMz:=zas [1,0,1,1,1,1,0,0,1,0,0,0,0] zfN
def zMw:=zat tP zdk [1,0,1,1,1,1,0,0,1,0,0,0] zfN (zbR zlG Kb5 (zlA K))
def zr9:=ALoop tP zMz (zMw K Kb5) (ziv t0 t5 t6 t7 t8) H
def ziw:=zad .add false t6 t8 λt193=>ze9 t0 t5 t193 H K Kb5
def zfb:=ziw t0 t5 t6 t8 H K Kb5
def zfa:=zad .add false t6 t8 λt135=>zaS 0 0 t0 (some t6) (some t135) λt136=>zar [(.int .i64 0),(.str []),(.int .i64 0)] [(0,1),(1,1),(2,1)] [(0,t9),(1,t136),(2,t6)] λt138=>zau 3 [(.int .i64 0),(.str []),(.int .i64 0)] 1 [(0,t138)] λt139=>zax zby 3 32 t5 t139 H λt140 H=>zfb t0 t140 t6 t8 H K Kb5
def zr6:=zad .add false t6 t8 λt79=>zai 0 t0 λt81=>zad .lss false t79 t81 λt82=>zac t82 true H (λK'=>K' t0 H) λt84 H=>zac t82 true H (λK'=>K' t6 H) λt85 H=>zac t82 true H (λK'=>K' t8 H) λt86 H=>zac t82 true H (λK'=>zad .add false t85 t86 (K' · H)) λt87 H=>zac t82 true H (λK'=>zbI t84 t87 (K' · H)) λt88 H=>zac t82 true H (λK'=>ACalls tP zjB [t88] H K') λt89 H=>zac t82 true H (λK'=>K' t89 H) λt90 H=>zac t90 false H (λK'=>K' t0 H) λt91 H=>zac t90 false H (λK'=>K' t6 H) λt92 H=>zac t90 false H (λK'=>K' t8 H) λt93 H=>zac t90 false H (λK'=>zad .add false t92 t93 (K' · H)) λt94 H=>zac t90 false H (λK'=>zbI t91 t94 (K' · H)) λt95 H=>zac t90 false H (λK'=>ACalls tP zgn [t95] H K') λt96 H=>zac t82 true H (λK'=>zak t90 (.bool true) t96 (K' · H)) λt97 H=>zac t82 true H (λK'=>K' t97 H) λt98 H=>zac t98 false H (λK'=>K' t0 H) λt99 H=>zac t98 false H (λK'=>K' t6 H) λt100 H=>zac t98 false H (λK'=>K' t8 H) λt101 H=>zac t98 false H (λK'=>zad .add false t100 t101 (K' · H)) λt102 H=>zac t98 false H (λK'=>zbI t99 t102 (K' · H)) λt103 H=>zac t98 false H (λK'=>ACalls tP zhK [t103] H K') λt104 H=>zac t82 true H (λK'=>zak t98 (.bool true) t104 (K' · H)) λt105 H=>zac t82 true H (λK'=>K' t105 H) λt106 H=>zac t106 false H (λK'=>K' t0 H) λt107 H=>zac t106 false H (λK'=>K' t6 H) λt108 H=>zac t106 false H (λK'=>K' t8 H) λt109 H=>zac t106 false H (λK'=>zad .add false t108 t109 (K' · H)) λt110 H=>zac t106 false H (λK'=>zbI t107 t110 (K' · H)) λt111 H=>zac t106 false H (λK'=>zad .eql false t111 (.int .u8 95) (K' · H)) λt112 H=>zac t82 true H (λK'=>zak t106 (.bool true) t112 (K' · H)) λt113 H=>zak t82 t113 (.bool false) λt114=>zag t114 (zad .add false t8 (.int .i64 1) λt116=>Kb18 (ziv t0 t5 t6 t7 t116) H) (zad .gtr false t8 (.int .i64 24) λt118=>zag t118 (zaG [.snil,t6,(.int .i64 9)] (K · H)) (ACalls tP zgn [t7] H λt121 H=>zag t121 (zfa t0 t5 t6 t8 (.int .i64 2) H K Kb5) (zad .add false t6 t8 λt126=>zaS 0 0 t0 (some t6) (some t126) λt127=>ACalls tP zjC [t127] H λt128 H=>zag t128 (zfa t0 t5 t6 t8 (.int .i64 4) H K Kb5) (zfa t0 t5 t6 t8 (.int .i64 1) H K Kb5))))
def zlE:=t0::ux 4 (t5::t6::t7::t8::ux 191 [])
def zMH:=zdk 29
noncomputable def zMA:=zas [1,0,1,1,1,1,0,0,1,1,1,0,0,0,0] zfN
def zMx:=zat tP zdk [1,0,1,1,1,1,0,0,1,1,1,0,0,0] zfN (zbR zlG Kb5 (zlA K))
def zsa:=ALoop tP zMA (zMx K Kb5) (zlE t0 t5 t6 t7 t8) H
def zr7:=zad .add false t6 t8 λt146=>zai 0 t0 λt148=>zad .lss false t146 t148 λt149=>zac t149 true H (λK'=>K' t0 H) λt151 H=>zac t149 true H (λK'=>K' t6 H) λt152 H=>zac t149 true H (λK'=>K' t8 H) λt153 H=>zac t149 true H (λK'=>zad .add false t152 t153 (K' · H)) λt154 H=>zac t149 true H (λK'=>zbI t151 t154 (K' · H)) λt155 H=>zac t149 true H (λK'=>ACalls tP zhK [t155] H K') λt156 H=>zak t149 t156 (.bool false) λt157=>zag t157 (zad .add false t8 (.int .i64 1) λt159=>Kb29 (zlE t0 t5 t6 t7 t159) H) (zad .gtr false t8 (.int .i64 1) λt161=>zac t161 true H (λK'=>K' t7 H) λt163 H=>zac t161 true H (λK'=>zad .eql false t163 (.int .u8 48) (K' · H)) λt164 H=>zak t161 t164 (.bool false) λt165=>zag t165 (zaG [.snil,t6,(.int .i64 2)] (K · H)) (zad .add false t6 t8 λt172=>zaS 0 0 t0 (some t6) (some t172) λt173=>ACalls tP zgo [t173] H λt174 H=>zay t174 0 λt175=>zay t174 1 λt176=>aUn .not t176 λt178=>zag t178 (zaG [.snil,t6,(.int .i64 9)] (K · H)) (zad .add false t6 t8 λt185=>zaS 0 0 t0 (some t6) (some t185) λt186=>zar [(.int .i64 0),(.str []),(.int .i64 0)] [(0,1),(1,1),(2,1)] [(0,(.int .i64 3)),(1,t186),(2,t6)] λt188=>zau 3 [(.int .i64 0),(.str []),(.int .i64 0)] 1 [(0,t188)] λt189=>zax zby 3 32 t5 t189 H λt190 H=>zfb t0 t190 t6 t8 H K Kb5)))
def zlB:=zai 0 t0 λt17=>zad .lss false t6 t17 λt18=>zag t18 (zbI t0 t6 λt21=>zad .eql false t21 (.int .u8 9) λt23=>zac t23 false H (λK'=>K' t21 H) λt25 H=>zac t23 false H (λK'=>zad .eql false t25 (.int .u8 10) (K' · H)) λt26 H=>zak t23 (.bool true) t26 λt27=>zac t27 false H (λK'=>K' t21 H) λt29 H=>zac t27 false H (λK'=>zad .eql false t29 (.int .u8 13) (K' · H)) λt30 H=>zak t27 (.bool true) t30 λt31=>zac t31 false H (λK'=>K' t21 H) λt33 H=>zac t31 false H (λK'=>zad .eql false t33 (.int .u8 32) (K' · H)) λt34 H=>zak t31 (.bool true) t34 λt35=>zag t35 (zad .add false t6 (.int .i64 1) λt37=>ze9 t0 t5 t37 H K Kb5) (zad .eql false t21 (.int .u8 35) λt39=>zag t39 (zAw t0 t5 t6 H K Kb5) (ACalls tP zjB [t21] H λt72 H=>zac t72 false H (λK'=>K' t21 H) λt74 H=>zac t72 false H (λK'=>ACalls tP zgn [t74] H K') λt75 H=>zak t72 (.bool true) t75 λt76=>zag t76 (zr9 t0 t5 t6 t21 (.int .i64 1) H K Kb5) (ACalls tP zhK [t21] H λt143 H=>zag t143 (zsa t0 t5 t6 t21 (.int .i64 1) H K Kb5) (zaS 0 0 t0 (some t6) none λt54=>ACalls tP zpR [t54] H λt55 H=>zad .eql false t55 (.int .i64 0) λt57=>zag t57 (zaG [.snil,t6,(.int .i64 2)] (K · H)) (zad .add false t6 t55 λt64=>zaS 0 0 t0 (some t6) (some t64) λt65=>zar [(.int .i64 0),(.str []),(.int .i64 0)] [(0,1),(1,1),(2,1)] [(0,(.int .i64 5)),(1,t65),(2,t6)] λt67=>zau 3 [(.int .i64 0),(.str []),(.int .i64 0)] 1 [(0,t67)] λt68=>zax zby 3 32 t5 t68 H λt69 H=>zfb t0 t69 t6 t55 H K Kb5)))))) (zai 0 t0 λt196=>zar [(.int .i64 0),(.str []),(.int .i64 0)] [(0,1),(1,1),(2,1)] [(0,(.int .i64 6)),(1,(.str [])),(2,t196)] λt197=>zau 3 [(.int .i64 0),(.str []),(.int .i64 0)] 1 [(0,t197)] λt198=>zax zby 3 32 t5 t198 H λt199 H=>zaG [t199,(.int .i64 0),(.int .i64 0)] (K · H))
def zr4:=zai 0 t0 λt13=>zad .gtr false t13 (.int .i64 16384) λt14=>zag t14 (zaG [.snil,(.int .i64 0),(.int .i64 9)] (K · H)) (zlF t0 .snil (.int .i64 0) H K)
def zRx(_:Nat):List Bool:=[]
noncomputable def zRy:=Tryz.f245.body.getD .skip
def zCf:=zad .eql false t0 (.int .u8 9) λt4=>zac t4 false H (λK'=>K' t0 H) λt6 H=>zac t4 false H (λK'=>zad .eql false t6 (.int .u8 10) (K' · H)) λt7 H=>zak t4 (.bool true) t7 λt8=>zac t8 false H (λK'=>K' t0 H) λt10 H=>zac t8 false H (λK'=>zad .eql false t10 (.int .u8 13) (K' · H)) λt11 H=>zak t8 (.bool true) t11 λt12=>zac t12 false H (λK'=>K' t0 H) λt14 H=>zac t12 false H (λK'=>zad .eql false t14 (.int .u8 32) (K' · H)) λt15 H=>zak t12 (.bool true) t15 λt16=>K t16 H
variable {t0 t5 t6 t7 t8 t9} {H} {K} {Kb5 Kb9 Kb10 Kb18 Kb29}
theorem zRg:Lo1 (λt6=>zmU t0 t5 t6) (λt6 H Kb9=>ztx t0 t5 t6 H K Kb5 Kb9) t6 H (zCa t0 t5 t6 H K Kb5):=lq1 zfU zRh
theorem zRf:Lo2 (λt5 t6=>zgP t0 t5 t6) (λt5 t6 H Kb5=>ztw t0 t5 t6 H K Kb5) t5 t6 H (zmW t0 t5 t6 H K):=lq2 zfU zCb
theorem zRi(h:HSc H→ztv t0 H K):ACalls tP zpX [t0] H K:=
 acb zfU Tryz.func227 zty h
theorem zMB:Lo1 (λt6=>zlD t0 t5 t6) (λt6 H Kb10=>zr5 t0 t5 t6 H K Kb5 Kb10) t6 H (zAw t0 t5 t6 H K Kb5):=lq1 zdk zMF
theorem zMC:Lo1 (λt8=>ziv t0 t5 t6 t7 t8) (λt8 H Kb18=>zr6 t0 t5 t6 t7 t8 H K Kb5 Kb18) t8 H (zr9 t0 t5 t6 t7 t8 H K Kb5):=lq1 zdk zMG
theorem zMD:Lo1 (λt8=>zlE t0 t5 t6 t7 t8) (λt8 H Kb29=>zr7 t0 t5 t6 t7 t8 H K Kb5 Kb29) t8 H (zsa t0 t5 t6 t7 t8 H K Kb5):=lq1 zdk zMH
theorem zME:Lo2 (λt5 t6=>zfO t0 t5 t6) (λt5 t6 H Kb5=>zlB t0 t5 t6 H K Kb5) t5 t6 H (zlF t0 t5 t6 H K):=lq2 zdk zlG
theorem zMI(h:HSc H→zr4 t0 H K):ACalls tP zpF [t0] H K:=
 acb zdk Tryz.func145 zr8 h
theorem zRz(h:HSc H→zCf t0 H K):ACalls tP zp0 [t0] H K:=
 acb zRx Tryz.func245 zRy h
end
section
variable (t0 t1 t3 t4 t5 t6 t7:AV) (H:zaa) (K:Kt) (Kb2 Kb3 Kb5:Lt)
def zRA(_:Nat):List Bool:=[]
noncomputable def zRB:=Tryz.f246.body.getD .skip
def zCg:=zae true 3 t6 H λt74=>zao 3 t4 t74 H λH=>zae true 3 t4 H λr0=>zaG [r0,(.int .i64 0)] (K · H)
def zgS:=zCg t4 t6 H K
def zgR:=zgS t4 t6 H K
def ztD:=zaz [(.int .i64 0),(.str []),(.int .i64 0)] H λt4 H=>zar [(.int .i64 0),(.str []),(.int .i64 0)] [(0,1),(1,1),(2,1)] [(2,t1)] λt9=>zaz [(.int .i64 0),(.str []),(.int .i64 0)] H λt6 H=>zao 3 t6 t9 H λH=>zbI t0 t1 λt12=>ACalls tP zjM [t12] H λt25 H=>zac t25 false H (λK'=>K' t12 H) λt27 H=>zac t25 false H (λK'=>ACalls tP zhP [t27] H K') λt28 H=>zak t25 (.bool true) t28 λt29=>zag t29 (zaS 0 0 t0 (some t1) none λt32=>ACalls tP zjN [t32,(.fn zhQ [])] H λt33 H=>zaf 1 t6 λt34=>zao 1 t34 t33 H λH=>zaf 1 t6 λt37=>zae false 1 t37 H λt38=>zai 0 t38 λt39=>zad .gtr false t39 (.int .i64 24) λt40=>zag t40 (zar [(.int .i64 0),(.str []),(.int .i64 0)] [(0,1),(1,1),(2,1)] [] λt41=>zao 3 t4 t41 H λH=>zae true 3 t4 H λr0=>zaG [r0,(.int .i64 9)] (K · H)) (ACalls tP zhP [t12] H λt44 H=>zag t44 (zaf 0 t6 λt45=>zao 1 t45 (.int .i64 2) H λH=>zgR t4 t6 H K) (zaf 1 t6 λt47=>zae false 1 t47 H λt48=>ACalls tP zp2 [t48] H λt49 H=>zag t49 (zaf 0 t6 λt50=>zao 1 t50 (.int .i64 4) H λH=>zgR t4 t6 H K) (zaf 0 t6 λt35=>zao 1 t35 (.int .i64 1) H λH=>zgR t4 t6 H K)))) (ACalls tP zfz [t12] H λt53 H=>zag t53 (zaf 0 t6 λt54=>zao 1 t54 (.int .i64 3) H λH=>zaS 0 0 t0 (some t1) none λt57=>ACalls tP zjN [t57,(.fn zfz [])] H λt58 H=>zaf 1 t6 λt59=>zao 1 t59 t58 H λH=>zad .eql false t12 (.int .u8 48) λt61=>zac t61 true H (λK'=>zaf 1 t6 (K' · H)) λt63 H=>zac t61 true H (λK'=>zae false 1 t63 H (K' · H)) λt64 H=>zac t61 true H (λK'=>zai 0 t64 (K' · H)) λt65 H=>zac t61 true H (λK'=>zad .gtr false t65 (.int .i64 1) (K' · H)) λt66 H=>zak t61 t66 (.bool false) λt67=>zag t67 (zar [(.int .i64 0),(.str []),(.int .i64 0)] [(0,1),(1,1),(2,1)] [] λt68=>zao 3 t4 t68 H λH=>zae true 3 t4 H λr0=>zaG [r0,(.int .i64 2)] (K · H)) (zaf 1 t6 λt69=>zae false 1 t69 H λt70=>ACalls tP zhR [t70] H λt71 H=>aUn .not t71 λt72=>zag t72 (zar [(.int .i64 0),(.str []),(.int .i64 0)] [(0,1),(1,1),(2,1)] [] λt73=>zao 3 t4 t73 H λH=>zae true 3 t4 H λr0=>zaG [r0,(.int .i64 9)] (K · H)) (zgS t4 t6 H K))) (zaf 0 t6 λt13=>zao 1 t13 (.int .i64 5) H λH=>zaS 0 0 t0 (some t1) none λt16=>ACalls tP zp3 [t16] H λt17 H=>zaf 1 t6 λt18=>zao 1 t18 t17 H λH=>zaf 1 t6 λt19=>zae false 1 t19 H λt20=>zad .eql false t20 (.str []) λt21=>zag t21 (zar [(.int .i64 0),(.str []),(.int .i64 0)] [(0,1),(1,1),(2,1)] [] λt22=>zao 3 t4 t22 H λH=>zae true 3 t4 H λr0=>zaG [r0,(.int .i64 2)] (K · H)) (zgS t4 t6 H K)))
def zPn(_:Nat):List Bool:=[]
noncomputable def zPo:=Tryz.f188.body.getD .skip
def zBC:=zad .geq false t0 (.int .u8 97) λt4=>zac t4 true H (λK'=>K' t0 H) λt6 H=>zac t4 true H (λK'=>zad .leq false t6 (.int .u8 122) (K' · H)) λt7 H=>zak t4 t7 (.bool false) λt8=>K t8 H
def zPq(_:Nat):List Bool:=[]
noncomputable def zPr:=Tryz.f189.body.getD .skip
def zBD:=zad .geq false t0 (.int .u8 65) λt4=>zac t4 true H (λK'=>K' t0 H) λt6 H=>zac t4 true H (λK'=>zad .leq false t6 (.int .u8 90) (K' · H)) λt7 H=>zak t4 t7 (.bool false) λt8=>K t8 H
def zPt(_:Nat):List Bool:=[]
noncomputable def zPu:=Tryz.f190.body.getD .skip
def zBE:=zad .geq false t0 (.int .u8 48) λt4=>zac t4 true H (λK'=>K' t0 H) λt6 H=>zac t4 true H (λK'=>zad .leq false t6 (.int .u8 57) (K' · H)) λt7 H=>zak t4 t7 (.bool false) λt8=>K t8 H
def zmt:Nat→List Bool|3=>rl false [0,1,2,2,13]|_=>[]
noncomputable def zsX:=Tryz.f191.body.getD .skip
noncomputable def zPB:=Tryz.f191.results.toList
def zmv:=t0::ux 2 (t3::t4::ux 13 [])
def zPz:=zmt 3
noncomputable def zPx:=zas [1,1,0,1,0,0] zsX
def zPw:=zat tP zmt [1,1,0,1,0] zsX (zaB tP zPB K)
def zsY:=ALoop tP zPx (zPw K) (zmv t0 t3 t4) H
def zmu:=zai 1 t3 λt8=>zad .lss false t4 t8 λt9=>zag t9 (zaj 1 t3 t4 λt14=>zae false 1 t14 H λt15=>zad .eql false t15 t0 λt17=>zag t17 (K (.bool true) H) (zad .add false t4 (.int .i64 1) λt11=>Kb3 (zmv t0 t3 t11) H)) (K (.bool false) H)
def zBF:=zau 1 [(.str [])] 28 [(0,(.str [97,114,114,97,121])),(1,(.str [98,111,111,108])),(2,(.str [99,97,116,99,104])),(3,(.str [100,97,116,97])),(4,(.str [101,108,115,101])),(5,(.str [101,110,100])),(6,(.str [102,97,108,115,101])),(7,(.str [102,110])),(8,(.str [102,117,110])),(9,(.str [103,101,116])),(10,(.str [105,102])),(11,(.str [105,110])),(12,(.str [105,110,116])),(13,(.str [108,101,110])),(14,(.str [108,101,116])),(15,(.str [109,97,116,99,104])),(16,(.str [110,101,119])),(17,(.str [114,97,105,115,101])),(18,(.str [114,101,97,100])),(19,(.str [114,101,102])),(20,(.str [115,101,116])),(21,(.str [116,104,101,110])),(22,(.str [116,105,99,107])),(23,(.str [116,114,117,101])),(24,(.str [116,114,121])),(25,(.str [117,110,105,116])),(26,(.str [119,105,116,104])),(27,(.str [119,114,105,116,101]))] λt5=>zsY t0 t5 (.int .i64 0) H K
def zmw:Nat→List Bool|3=>rl false [0,1,3,2,17]|_=>[]
noncomputable def zs0:=Tryz.f192.body.getD .skip
noncomputable def zPH:=Tryz.f192.results.toList
def zmx:=t0::ux 3 (t4::t5::ux 17 [])
def zPF:=zmw 3
noncomputable def zPD:=zas [1,1,0,1,0,0] zs0
def zPC:=zat tP zmw [1,1,0,1,0] zs0 (zaB tP zPH K)
def zBI:=ALoop tP zPD (zPC K) (zmx t0 t4 t5) H
def zsZ:=zai 0 t0 λt8=>zad .lss false t5 t8 λt9=>zag t9 (zad .mul false t4 (.int .i64 10) λt13=>zbI t0 t5 λt16=>zad .sub false t16 (.int .u8 48) λt17=>za9 .i64 t17 λt18=>zad .add false t13 t18 λt19=>zad .gtr false t19 (.int .i64 1000000) λt21=>zag t21 (zaG [(.int .i64 0),(.bool false)] (K · H)) (zad .add false t5 (.int .i64 1) λt11=>Kb3 (zmx t0 t19 t11) H)) (zaG [t4,(.bool true)] (K · H))
def zBH:=zBI t0 (.int .i64 0) (.int .i64 0) H K
def zmy:Nat→List Bool|5=>rl false [0,1,2,2,30]|_=>[]
noncomputable def zs1:=Tryz.f193.body.getD .skip
noncomputable def zPN:=Tryz.f193.results.toList
def zmA:=t0::ux 2 (t3::t4::ux 30 [])
def zPL:=zmy 5
noncomputable def zPJ:=zas [1,1,1,0,1,0,0] zs1
def zPI:=zat tP zmy [1,1,1,0,1,0] zs1 (zaB tP zPN K)
def zs2:=ALoop tP zPJ (zPI K) (zmA t0 t3 t4) H
def zmz:=zai 0 t3 λt25=>zad .lss false t4 t25 λt26=>zag t26 (apm H t0 λt29=>apu H (zbI t29 (.int .i64 0)) λt30=>apm H t3 λt31=>apm H t4 λt32=>apu H (zbI t31 t32) λt33=>apu H (zad .eql false t30 t33) λt34=>zag t34 (K (.int .i64 1) H) (zad .add false t4 (.int .i64 1) λt28=>Kb5 (zmA t0 t3 t28) H)) (K (.int .i64 0) H)
def zgO:=zai 0 t0 λt6=>zad .geq false t6 (.int .i64 2) λt7=>zac t7 true H (λK'=>K' t0 H) λt9 H=>zac t7 true H (λK'=>zaS 0 0 t9 none (some (.int .i64 2)) (K' · H)) λt10 H=>zac t7 true H (λK'=>zad .eql false t10 (.str [45,62]) (K' · H)) λt11 H=>zac t7 true H (λK'=>K' t11 H) λt12 H=>zac t12 false H (λK'=>K' t0 H) λt13 H=>zac t12 false H (λK'=>zaS 0 0 t13 none (some (.int .i64 2)) (K' · H)) λt14 H=>zac t12 false H (λK'=>zad .eql false t14 (.str [60,61]) (K' · H)) λt15 H=>zac t7 true H (λK'=>zak t12 (.bool true) t15 (K' · H)) λt16 H=>zac t7 true H (λK'=>K' t16 H) λt17 H=>zac t17 false H (λK'=>K' t0 H) λt18 H=>zac t17 false H (λK'=>zaS 0 0 t18 none (some (.int .i64 2)) (K' · H)) λt19 H=>zac t17 false H (λK'=>zad .eql false t19 (.str [61,61]) (K' · H)) λt20 H=>zac t7 true H (λK'=>zak t17 (.bool true) t20 (K' · H)) λt21 H=>zak t7 t21 (.bool false) λt22=>zag t22 (K (.int .i64 2) H) (zs2 t0 (.str [40,41,44,61,124,43,45,42,47,37,60,59,95]) (.int .i64 0) H K)
def zRG(_:Nat):List Bool:=[]
noncomputable def zRH:=Tryz.f255.body.getD .skip
def zCi:=zad .geq false t0 (.int .u8 97) λt4=>zac t4 true H (λK'=>K' t0 H) λt6 H=>zac t4 true H (λK'=>zad .leq false t6 (.int .u8 122) (K' · H)) λt7 H=>zak t4 t7 (.bool false) λt8=>K t8 H
def zRJ(_:Nat):List Bool:=[]
noncomputable def zRK:=Tryz.f256.body.getD .skip
def zCj:=zad .geq false t0 (.int .u8 65) λt4=>zac t4 true H (λK'=>K' t0 H) λt6 H=>zac t4 true H (λK'=>zad .leq false t6 (.int .u8 90) (K' · H)) λt7 H=>zak t4 t7 (.bool false) λt8=>K t8 H
def zm0:Nat→List Bool|2=>rl false [0,2,3,1,16]|_=>[]
noncomputable def ztF:=Tryz.f257.body.getD .skip
noncomputable def zRR:=Tryz.f257.results.toList
def zm1:=t0::t1::ux 3 (t5::ux 16 [])
def zRP:=zm0 2
noncomputable def zRN:=zas [1,1,0,0,0] ztF
def zRM:=zat tP zm0 [1,1,0,0] ztF (zaB tP zRR K)
def zCl:=ALoop tP zRN (zRM K) (zm1 t0 t1 t5) H
def ztE:=zai 0 t0 λt8=>zad .lss false t5 t8 λt9=>zac t9 true H (λK'=>K' t1 H) λt11 H=>zac t9 true H (λK'=>K' t0 H) λt12 H=>zac t9 true H (λK'=>K' t5 H) λt13 H=>zac t9 true H (λK'=>zbI t12 t13 (K' · H)) λt14 H=>zac t9 true H (λK'=>aCallV tP t11 [t14] H K') λt15 H=>zak t9 t15 (.bool false) λt16=>zag t16 (zad .add false t5 (.int .i64 1) λt18=>Kb2 (zm1 t0 t1 t18) H) (zaS 0 0 t0 none (some t5) λt21=>K t21 H)
def zCk:=zCl t0 t1 (.int .i64 0) H K
def zRS(_:Nat):List Bool:=[]
noncomputable def zRT:=Tryz.f258.body.getD .skip
def zCm:=ACalls tP zjM [t0] H λt4 H=>zac t4 false H (λK'=>K' t0 H) λt6 H=>zac t4 false H (λK'=>ACalls tP zhP [t6] H K') λt7 H=>zak t4 (.bool true) t7 λt8=>zac t8 false H (λK'=>K' t0 H) λt10 H=>zac t8 false H (λK'=>ACalls tP zfz [t10] H K') λt11 H=>zak t8 (.bool true) t11 λt12=>zac t12 false H (λK'=>K' t0 H) λt14 H=>zac t12 false H (λK'=>zad .eql false t14 (.int .u8 95) (K' · H)) λt15 H=>zak t12 (.bool true) t15 λt16=>K t16 H
def zRV(_:Nat):List Bool:=[]
noncomputable def zRW:=Tryz.f259.body.getD .skip
def zbs:=zag t4 (K (.bool true) H) (K (.bool false) H)
def zCn:=zad .eql false t0 (.str [97,114,114,97,121]) λt5=>zag t5 (zbs t5 H K) (zad .eql false t0 (.str [98,111,111,108]) λt6=>zag t6 (zbs t6 H K) (zad .eql false t0 (.str [99,97,116,99,104]) λt7=>zag t7 (zbs t7 H K) (zad .eql false t0 (.str [100,97,116,97]) λt8=>zag t8 (zbs t8 H K) (zad .eql false t0 (.str [101,108,115,101]) λt9=>zag t9 (zbs t9 H K) (zad .eql false t0 (.str [101,110,100]) λt10=>zag t10 (zbs t10 H K) (zad .eql false t0 (.str [102,97,108,115,101]) λt11=>zag t11 (zbs t11 H K) (zad .eql false t0 (.str [102,110]) λt12=>zag t12 (zbs t12 H K) (zad .eql false t0 (.str [102,117,110]) λt13=>zag t13 (zbs t13 H K) (zad .eql false t0 (.str [103,101,116]) λt14=>zag t14 (zbs t14 H K) (zad .eql false t0 (.str [105,102]) λt15=>zag t15 (zbs t15 H K) (zad .eql false t0 (.str [105,110]) λt16=>zag t16 (zbs t16 H K) (zad .eql false t0 (.str [105,110,116]) λt17=>zag t17 (zbs t17 H K) (zad .eql false t0 (.str [108,101,110]) λt18=>zag t18 (zbs t18 H K) (zad .eql false t0 (.str [108,101,116]) λt19=>zag t19 (zbs t19 H K) (zad .eql false t0 (.str [109,97,116,99,104]) λt20=>zag t20 (zbs t20 H K) (zad .eql false t0 (.str [110,101,119]) λt21=>zag t21 (zbs t21 H K) (zad .eql false t0 (.str [114,97,105,115,101]) λt22=>zag t22 (zbs t22 H K) (zad .eql false t0 (.str [114,101,97,100]) λt23=>zag t23 (zbs t23 H K) (zad .eql false t0 (.str [114,101,102]) λt24=>zag t24 (zbs t24 H K) (zad .eql false t0 (.str [115,101,116]) λt25=>zag t25 (zbs t25 H K) (zad .eql false t0 (.str [116,104,101,110]) λt26=>zag t26 (zbs t26 H K) (zad .eql false t0 (.str [116,105,99,107]) λt27=>zag t27 (zbs t27 H K) (zad .eql false t0 (.str [116,114,117,101]) λt28=>zag t28 (zbs t28 H K) (zad .eql false t0 (.str [116,114,121]) λt29=>zag t29 (zbs t29 H K) (zad .eql false t0 (.str [117,110,105,116]) λt30=>zag t30 (zbs t30 H K) (zad .eql false t0 (.str [119,105,116,104]) λt31=>zag t31 (zbs t31 H K) (zad .eql false t0 (.str [119,114,105,116,101]) λt32=>zbs t32 H K)))))))))))))))))))))))))))
def zRY(_:Nat):List Bool:=[]
noncomputable def zRZ:=Tryz.f260.body.getD .skip
def zCo:=zad .geq false t0 (.int .u8 48) λt4=>zac t4 true H (λK'=>K' t0 H) λt6 H=>zac t4 true H (λK'=>zad .leq false t6 (.int .u8 57) (K' · H)) λt7 H=>zak t4 t7 (.bool false) λt8=>K t8 H
def zm2:Nat→List Bool|3=>rl false [0,1,2,1,2,2,13]|_=>[]
noncomputable def ztH:=Tryz.f261.body.getD .skip
noncomputable def zR6:=Tryz.f261.results.toList
def zm3:=t0::ux 2 (t3::ux 2 (t6::t7::ux 13 []))
def zR4:=zm2 3
noncomputable def zR2:=zas [1,1,0,1,0,0] ztH
def zR1:=zat tP zm2 [1,1,0,1,0] ztH (zaB tP zR6 K)
def zCq:=ALoop tP zR2 (zR1 K) (zm3 t0 t3 t6 t7) H
def ztG:=zad .lss false t7 t6 λt8=>zag t8 (zad .mul false t3 (.int .i64 10) λt11=>zbI t0 t7 λt14=>zad .sub false t14 (.int .u8 48) λt15=>za9 .i64 t15 λt16=>zad .add false t11 t16 λt17=>zad .gtr false t17 (.int .i64 1000000) λt19=>zag t19 (K (.bool false) H) (zad .add false t7 (.int .i64 1) λt20=>Kb3 (zm3 t0 t17 t6 t20) H)) (K (.bool true) H)
def zCp:=zai 0 t0 λt6=>zCq t0 (.int .i64 0) t6 (.int .i64 0) H K
variable {t0 t1 t3 t4 t5 t6 t7} {H} {K} {Kb2 Kb3 Kb5}
theorem zRC(h:HSc H→ztD t0 t1 H K):ACalls tP zp1 [t0,t1] H K:=
 acb zRA Tryz.func246 zRB h
theorem zPp(h:HSc H→zBC t0 H K):ACalls tP zjB [t0] H K:=
 acb zPn Tryz.func188 zPo h
theorem zPs(h:HSc H→zBD t0 H K):ACalls tP zgn [t0] H K:=
 acb zPq Tryz.func189 zPr h
theorem zPv(h:HSc H→zBE t0 H K):ACalls tP zhK [t0] H K:=
 acb zPt Tryz.func190 zPu h
theorem zPy:Lo1 (λt4=>zmv t0 t3 t4) (λt4 H Kb3=>zmu t0 t3 t4 H K Kb3) t4 H (zsY t0 t3 t4 H K):=lq1 zmt zPz
theorem zPA(h:HSc H→zBF t0 H K):ACalls tP zjC [t0] H K:=
 acb zmt Tryz.func191 zsX h
theorem zPE:Lo2 (λt4 t5=>zmx t0 t4 t5) (λt4 t5 H Kb3=>zsZ t0 t4 t5 H K Kb3) t4 t5 H (zBI t0 t4 t5 H K):=lq2 zmw zPF
theorem zPG(h:HSc H→zBH t0 H K):ACalls tP zgo [t0] H K:=
 acb zmw Tryz.func192 zs0 h
theorem zPK:Lo1 (λt4=>zmA t0 t3 t4) (λt4 H Kb5=>zmz t0 t3 t4 H K Kb5) t4 H (zs2 t0 t3 t4 H K):=lq1 zmy zPL
theorem zPM(h:HSc H→zgO t0 H K):ACalls tP zpR [t0] H K:=
 acb zmy Tryz.func193 zs1 h
theorem zRI(h:HSc H→zCi t0 H K):ACalls tP zjM [t0] H K:=
 acb zRG Tryz.func255 zRH h
theorem zRL(h:HSc H→zCj t0 H K):ACalls tP zhP [t0] H K:=
 acb zRJ Tryz.func256 zRK h
theorem zRO:Lo1 (λt5=>zm1 t0 t1 t5) (λt5 H Kb2=>ztE t0 t1 t5 H K Kb2) t5 H (zCl t0 t1 t5 H K):=lq1 zm0 zRP
theorem zRQ(h:HSc H→zCk t0 t1 H K):ACalls tP zjN [t0,t1] H K:=
 acb zm0 Tryz.func257 ztF h
theorem zRU(h:HSc H→zCm t0 H K):ACalls tP zhQ [t0] H K:=
 acb zRS Tryz.func258 zRT h
theorem zRX(h:HSc H→zCn t0 H K):ACalls tP zp2 [t0] H K:=
 acb zRV Tryz.func259 zRW h
theorem zR0(h:HSc H→zCo t0 H K):ACalls tP zfz [t0] H K:=
 acb zRY Tryz.func260 zRZ h
theorem zR3:Lo2 (λt3 t7=>zm3 t0 t3 t6 t7) (λt3 t7 H Kb3=>ztG t0 t3 t6 t7 H K Kb3) t3 t7 H (zCq t0 t3 t6 t7 H K):=lq2 zm2 zR4
theorem zR5(h:HSc H→zCp t0 H K):ACalls tP zhR [t0] H K:=
 acb zm2 Tryz.func261 ztH h
end
section
variable (t0 t8 t16:AV) (H:zaa) (K:Kt)
def zR7(_:Nat):List Bool:=[]
noncomputable def zR8:=Tryz.f262.body.getD .skip
def zcB:=zag t16 (zaS 0 0 t0 none (some (.int .i64 1)) λt31=>K t31 H) (K (.str []) H)
def zm4:=zaS 0 0 t0 none (some (.int .i64 1)) λt15=>zad .eql false t15 (.str [40]) λt17=>zag t17 (zcB t0 t17 H K) (zad .eql false t15 (.str [41]) λt18=>zag t18 (zcB t0 t18 H K) (zad .eql false t15 (.str [44]) λt19=>zag t19 (zcB t0 t19 H K) (zad .eql false t15 (.str [61]) λt20=>zag t20 (zcB t0 t20 H K) (zad .eql false t15 (.str [124]) λt21=>zag t21 (zcB t0 t21 H K) (zad .eql false t15 (.str [43]) λt22=>zag t22 (zcB t0 t22 H K) (zad .eql false t15 (.str [45]) λt23=>zag t23 (zcB t0 t23 H K) (zad .eql false t15 (.str [42]) λt24=>zag t24 (zcB t0 t24 H K) (zad .eql false t15 (.str [47]) λt25=>zag t25 (zcB t0 t25 H K) (zad .eql false t15 (.str [37]) λt26=>zag t26 (zcB t0 t26 H K) (zad .eql false t15 (.str [60]) λt27=>zag t27 (zcB t0 t27 H K) (zad .eql false t15 (.str [59]) λt28=>zag t28 (zcB t0 t28 H K) (zad .eql false t15 (.str [95]) λt29=>zcB t0 t29 H K))))))))))))
def zfV:=zag t8 (zaS 0 0 t0 none (some (.int .i64 2)) λt13=>K t13 H) (zm4 t0 H K)
def zgT:=zai 0 t0 λt4=>zad .geq false t4 (.int .i64 2) λt5=>zag t5 (zaS 0 0 t0 none (some (.int .i64 2)) λt7=>zad .eql false t7 (.str [45,62]) λt9=>zag t9 (zfV t0 t9 H K) (zad .eql false t7 (.str [60,61]) λt10=>zag t10 (zfV t0 t10 H K) (zad .eql false t7 (.str [61,61]) λt11=>zfV t0 t11 H K))) (zm4 t0 H K)
def zQg(_:Nat):List Bool:=[]
noncomputable def zQh:=Tryz.f200.body.getD .skip
def zBU:=ACalls tP zpX [t0] H λt8 H=>zay t8 0 λt9=>zay t8 1 λt10=>zay t8 2 λt11=>zad .eql false t11 (.int .i64 0) λt13=>zac t13 true H (λK'=>K' t9 H) λt15 H=>zac t13 true H (λK'=>zai 1 t15 (K' · H)) λt16 H=>zac t13 true H (λK'=>zad .eql false t16 (.int .i64 2) (K' · H)) λt17 H=>zak t13 t17 (.bool false) λt18=>zac t18 true H (λK'=>K' t9 H) λt20 H=>zac t18 true H (λK'=>zaj 3 t20 (.int .i64 0) (K' · H)) λt21 H=>zac t18 true H (λK'=>zaf 0 t21 (K' · H)) λt22 H=>zac t18 true H (λK'=>zae false 1 t22 H (K' · H)) λt23 H=>zac t18 true H (λK'=>zad .eql false t23 (.int .i64 2) (K' · H)) λt24 H=>zak t18 t24 (.bool false) λt25=>zac t25 true H (λK'=>K' t9 H) λt27 H=>zac t25 true H (λK'=>zaj 3 t27 (.int .i64 0) (K' · H)) λt28 H=>zac t25 true H (λK'=>zaf 1 t28 (K' · H)) λt29 H=>zac t25 true H (λK'=>zae false 1 t29 H (K' · H)) λt30 H=>zac t25 true H (λK'=>K' t0 H) λt31 H=>zac t25 true H (λK'=>zad .eql false t30 t31 (K' · H)) λt32 H=>zak t25 t32 (.bool false) λt33=>K t33 H
def zVV(_:Nat):List Bool:=[]
noncomputable def zVW:=Tryz.f92.body.getD .skip
def zDM:=ACalls tP zpF [t0] H λt8 H=>zay t8 0 λt9=>zay t8 1 λt10=>zay t8 2 λt11=>zad .eql false t11 (.int .i64 0) λt13=>zac t13 true H (λK'=>K' t9 H) λt15 H=>zac t13 true H (λK'=>zai 1 t15 (K' · H)) λt16 H=>zac t13 true H (λK'=>zad .eql false t16 (.int .i64 2) (K' · H)) λt17 H=>zak t13 t17 (.bool false) λt18=>zac t18 true H (λK'=>K' t9 H) λt20 H=>zac t18 true H (λK'=>zaj 3 t20 (.int .i64 0) (K' · H)) λt21 H=>zac t18 true H (λK'=>zaf 0 t21 (K' · H)) λt22 H=>zac t18 true H (λK'=>zae false 1 t22 H (K' · H)) λt23 H=>zac t18 true H (λK'=>zad .eql false t23 (.int .i64 2) (K' · H)) λt24 H=>zak t18 t24 (.bool false) λt25=>zac t25 true H (λK'=>K' t9 H) λt27 H=>zac t25 true H (λK'=>zaj 3 t27 (.int .i64 0) (K' · H)) λt28 H=>zac t25 true H (λK'=>zaf 1 t28 (K' · H)) λt29 H=>zac t25 true H (λK'=>zae false 1 t29 H (K' · H)) λt30 H=>zac t25 true H (λK'=>K' t0 H) λt31 H=>zac t25 true H (λK'=>zad .eql false t30 t31 (K' · H)) λt32 H=>zak t25 t32 (.bool false) λt33=>K t33 H
variable {t0 t8 t16} {H} {K}
theorem zR9(h:HSc H→zgT t0 H K):ACalls tP zp3 [t0] H K:=
 acb zR7 Tryz.func262 zR8 h
theorem zQi(h:HSc H→zBU t0 H K):ACalls tP zjF [t0] H K:=
 acb zQg Tryz.func200 zQh h
theorem zVX(h:HSc H→zDM t0 H K):ACalls tP zj2 [t0] H K:=
 acb zVV Tryz.func92 zVW h
end
end Go.Proofs.YtdmamdnkcefmmaaGreatDoor

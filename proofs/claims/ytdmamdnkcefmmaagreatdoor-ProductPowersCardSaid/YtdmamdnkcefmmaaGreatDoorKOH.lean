import Derived.Test.YtdmamdnkcefmmaaGreatDoorKOB
import Derived.Test.YtdmamdnkcefmmaaGreatDoorKPW
import Derived.Test.YtdmamdnkcefmmaaGreatDoorKGR7
import Derived.Test.YtdmamdnkcefmmaaGreatDoorVO
import Derived.Test.YtdmamdnkcefmmaaGreatDoorKN4
import Derived.Test.YtdmamdnkcefmmaaGreatDoorKI2
set_option linter.unusedSimpArgs false
set_option linter.unusedVariables false
set_option maxRecDepth 8000
namespace Go.Proofs.YtdmamdnkcefmmaaGreatDoor
def hpL(H:zaa)(t:VT)(i j:IT)(s:List (IT×Nat)):zaa:=H++[.cells t.cs,.cells i.cs,.cells j.cs,.vec zau 5 s.length (tms s)]
theorem zqI{H:zaa}(hs:HSc H){t:VT}{i j:IT}{s:List (IT×Nat)}:HSc (hpL H t i j s):=
 hs.append (by
  obtain⟨kt,nt,tk⟩:=t;obtain⟨ni,li⟩:=i;obtain⟨nj,lj⟩:=j;simp only[AB.sc,List.all_cons,List.all_nil,zfr];simp[AV.scA,AV.scB,VT.cs,IT.cs])
theorem zqJ{H:zaa}{t:VT}{i j:IT}{s s':List (IT×Nat)}{J:zaa}:(hpL H t i j s++J).set (H.length+3) (.vec zau 5 s'.length (tms s'))=hpL H t i j s'++J:=by simp[hpL,List.set_append]
theorem zqH{H:zaa}{t:VT}{i j:IT}{s:List (IT×Nat)}{J:zaa}:(hpL H t i j s++J)[H.length+3]?=some (.vec zau 5 s.length (tms s)):=by simp[hpL,List.getElem?_append]
@[simp] theorem zIJ{H:zaa}{t:VT}{i j:IT}{s:List (IT×Nat)}:(hpL H t i j s).length=H.length+4:=by simp[hpL]
@[simp] theorem yd2{H:zaa}{t:VT}{i j:IT}{s:List (IT×Nat)}{c:AB}{J:zaa}:(hpL H t i j s++c::J)[H.length+4]?=some c:=by rw[←zIJ (H:=H) (t:=t) (i:=i) (j:=j) (s:=s)];simp
theorem zJf{d7:List Dat}(hk:zbx d7)(h8:∀D∈d7,D.cons.length≤8)(hD:zbz d7=true){f:Nat}(hQ:zjy d7 f)(hM:zjw d7 f):zpW d7 (f+1):=by
 intro t i j hf iY gE hi hj h6 hn H K hK;obtain⟨k,tn,tks⟩:=t;obtain⟨n,l⟩:=i;obtain⟨n',m⟩:=j;simp only[IT.nodes]at hf hn;refine ACalls.out (zWJ λhs=>?_);have emp:Gd ([]:List (IT×Nat)):=Gd.nil;have f5:(VT.mk k tn tks).cs=[.int .i64 k,.int .i64 tn,.sl (VT.css tks) .none]:=rfl;have jb:(IT.mk n l).cs=[.int .i64 n,.sl (IT.css l) .none]:=rfl;have jO:(IT.mk n' m).cs=[.int .i64 n',.sl (IT.css m) .none]:=rfl;have kH:(H++[AB.cells (VT.mk k tn tks).cs,.cells (IT.mk n l).cs,.cells (IT.mk n' m).cs]).length=H.length+3:=by simp
 have fb:∀(s:List (IT×Nat)) (J:zaa),s=zbd d7 (f+1) (.mk k tn tks) (.mk n l) (.mk n' m)→Out H.length K (.ov (H.length+3) s.length) (hpL H (.mk k tn tks) (.mk n l) (.mk n' m) s++J):=by intro s J jo;subst jo;have:=zkZ (H:=H) (J:=[.cells (VT.mk k tn tks).cs,.cells (IT.mk n l).cs,.cells (IT.mk n' m).cs,.vec zau 5 (zbd d7 (f+1) (.mk k tn tks) (.mk n l) (.mk n' m)).length (tms (zbd d7 (f+1) (.mk k tn tks) (.mk n l) (.mk n' m)))]++J) (K:=K) (zbd d7 (f+1) (.mk k tn tks) (.mk n l) (.mk n' m)) (H.length+3) (by omega) (by simp[List.getElem?_append]) hs hK;simpa[hpL]using this
 by_cases k6:k=6
 ·subst k6;have ev:∀(n:Int) (l:List IT),0≤rdV d7 (.mk n l) (.mk 6 tn tks)→n=0∧l.length=tks.length∧rdV d7 (.mk n l) (.mk 6 tn tks)=rdA d7 l tks 0:=λn l h=>by
   rw[rdV]at h ⊢;simp only[VT.kind,VT.kids,a6]at h ⊢;by_cases hn:n=0
   ·by_cases hl:tks.length=l.length
    ·simp[hn,hl]
    ·simp[hn,hl]at h
   ·simp[hn]at h
  obtain⟨i1,i2,i3⟩:=ev n l hi;obtain⟨j1,j2,j3⟩:=ev n' m hj;rw[i3]at hi h6;rw[j3]at hj h6;have iX:=VT.len_le tks;have fa:∀(ts:List VT) (x:VT),x∈ts→x.nodes≤VT.nodesL ts:=by
   intro ts;induction ts with
   |nil=>intro x hx;simp at hx
   |cons t ts ih=>
    intro x hx;simp only[VT.nodesL];rcases aP.1 hx with rfl|hx
    ·omega
    ·have:=ih x hx;omega
  have nY:∀x∈tks,x.nodes≤1000∧za0 d7 0 x=true:=λx hx=>by have:=fa tks x hx;simp only[VT.nodes]at iY;exact⟨by omega,zsO gE x hx⟩
  simp only[VT.nodes]at iY;obtain⟨R,hR⟩:∃R,R=zcj d7 f tks l m:=⟨_,rfl⟩;obtain⟨R1,R2⟩:=(zcC h8 f).2.1 tks l m (by omega) i2 j2 hi hj h6;rw[←hR]at R1 R2
  replace R2:=ap R2 (zcS h6)
  have Rl:=zqU λp hp=>(R1 p hp).1;have g9:zbd d7 (f+1) (.mk 6 tn tks) (.mk n l) (.mk n' m)=zaA [] (R.map λr=>(.mk 0 r.1,r.2)):=by rw[zbd,hR];simp[VT.kind,VT.kids,zaI]
  have nW:∀q≤R.length,Gd (zaA [] ((R.take q).map λr=>(IT.mk 0 r.1,r.2))):=by
   intro q;induction q with
   |zero=>intro _;exact Gd.nil
   |succ q ih=>intro hq;rw[zdD _ _ (show q<R.length by omega)];have:=(R1 R[q] (af (by omega))).2.2.2.2.2.2;exact(ih (by omega)).add (by simp only[IT.nodes];omega) _
  simp[zjg,f5,jb,jO,aa];refine hQ tks l m (by omega) i2 j2 (by omega) nY hi hj h6 (by omega) _ _ ?_;rw[←hR];simp;rw[←f5,←jb,←jO];unfold zoF;refine ALoop.vec 9 zau 5 rfl ?_;rw[kH,aq];show zoF (.ov (H.length+3) (zaA [] ((R.take 0).map λr=>(IT.mk 0 r.1,r.2))).length) _ _ _ (hpL H (.mk 6 tn tks) (.mk n l) (.mk n' m) (zaA [] ((R.take 0).map λr=>(IT.mk 0 r.1,r.2)))) _;refine zWF (Inv:=λq t9 t35 H'=>∃q':Nat,q'≤R.length∧R.length-q'=q∧t35=.int .i64 q'∧t9=.ov (H.length+3) (zaA [] ((R.take q').map λr=>(IT.mk 0 r.1,r.2))).length∧H'=hpL H (.mk 6 tn tks) (.mk n l) (.mk n' m) (zaA [] ((R.take q').map λr=>(IT.mk 0 r.1,r.2)))) R.length ?_ ?_
  ·intro _;exact⟨0,by omega,rfl,rfl,rfl,rfl⟩
  ·rintro q t9 t35 H' ⟨q',hq,rfl,rfl,rfl,rfl⟩ nZ lR n5 Kb6 jc;by_cases iD:q'<R.length
   ·have hr:=R1 R[q'] (af iD);have pm:=zqY (af iD);have ep:=zdD (s:=[]) (λr:List IT × Nat=>(IT.mk 0 r.1,r.2)) R iD;have pj:zaH (λ_=>1) (zaA [] ((R.take q').map λr=>(IT.mk 0 r.1,r.2)))≤729:=by rw[zey,zcw,aC,zg8];exact ap (zsy (λ_=>1) R q') R2
    have hG:=nW q' (by omega);generalize kG:zaA [] ((R.take q').map λr=>(IT.mk 0 r.1,r.2))=s at *;have qS:([.int .i64 0,.sl (IT.css R[q'].1) .none]:List AV)=(IT.mk 0 R[q'].1).cs:=rfl;simp[zv0,iD,zaq,zaJ,wi q' (by omega),AV.known];rw[qS];have jr:=hr.2.2.2.2.2.2;refine zez hG (by omega) (IT.mk 0 R[q'].1) (by simp only[IT.nodes];omega) R[q'].2 (by omega) (H.length+3) _ _ zqH ?_;rw[zqJ];exact jc _ _ ⟨R.length-(q'+1),by omega,Back.at (J:=[.cells (.sl (IT.css R[q'].1) .none::zai (R[q'].2:Int))]) (H2:=hpL H (.mk 6 tn tks) (.mk n l) (.mk n' m) (za5 s (IT.mk 0 R[q'].1) R[q'].2)) rfl (by simp) (zqI hs) (by simp[zoB,ux,AV.sc,AV.scA,AV.scB,AV.scV]) ⟨_,_,rfl,q'+1,by omega,rfl,rfl,by rw[ep],by rw[ep]⟩⟩
   ·obtain rfl:q'=R.length:=by omega
    rw[ak];have:=fb (zaA [] (R.map λr=>(IT.mk 0 r.1,r.2))) [] g9.symm;simp[zv0,zgp,zoC];simpa using this
 ·by_cases k7:k=7
  ·subst k7;have ev:∀(n:Int) (l:List IT),0≤rdV d7 (.mk n l) (.mk 7 tn tks)→0≤n∧n≤6∧rdV d7 (.mk n l) (.mk 7 tn tks)=n:=λn l h=>by
    rw[rdV]at h ⊢;simp only[VT.kind,k6,aN,a6]at h ⊢;by_cases hc:0≤n∧n≤6∧l.length=0
    ·rw[az hc];exact⟨hc.1,hc.2.1,rfl⟩
    ·rw[au hc]at h;omega
   obtain⟨i1,i2,i3⟩:=ev n l hi;obtain⟨j1,j2,j3⟩:=ev n' m hj;rw[i3]at hi h6;rw[j3]at hj h6;obtain⟨a,rfl⟩:∃a:Nat,n=a:=⟨n.toNat,by omega⟩;obtain⟨b,rfl⟩:∃b:Nat,n'=b:=⟨n'.toNat,by omega⟩;have g9:zbd d7 (f+1) (.mk 7 tn tks) (.mk a l) (.mk b m)=zaA [] (zaU a b):=by rw[zbd];simp[VT.kind,zaO]
   simp[zjg,f5,jb,jO,aa];refine zZM a b (by omega) (by omega) _ _ ?_;simp;rw[←f5,←jb,←jO];unfold zoD;refine ALoop.vec 9 zau 5 rfl ?_;rw[kH,aq];have fe:(zbI a b (a+b+1)).length=a+b+1:=by simp[zbI]
   have nW:∀q≤a+b+1,Gd (zaA [] ((zaU a b).take q)):=by
    intro q;induction q with
    |zero=>intro _;exact Gd.nil
    |succ q ih=>
     intro hq;have mQ:q<(zaU a b).length:=by simp[zaU];omega
     have:=zdD (s:=[]) (λr:IT×Nat=>r) (zaU a b) mQ;simp only[dQ]at this;rw[this];exact(ih (by omega)).add (by simp[zaU,IT.nodes,IT.nodesL]) _
   have qT:zaH (λ_=>1) (zaU a b)≤729:=by rw[zaU,zg8];have:=zqe a (by omega) b (by omega) (by omega);unfold zlm at this;refine ap (by simpa using this) (ap (a7 (by omega) (show a+b≤6 by omega)) (by decide))
   show zoD (.ov (H.length+3) (zaA [] ((zaU a b).take 0)).length) _ _ _ (hpL H (.mk 7 tn tks) (.mk a l) (.mk b m) (zaA [] ((zaU a b).take 0))) _;refine zWD (Inv:=λq t9 t59 H'=>∃q':Nat,q'≤a+b+1∧a+b+1-q'=q∧t59=.int .i64 q'∧t9=.ov (H.length+3) (zaA [] ((zaU a b).take q')).length∧H'=hpL H (.mk 7 tn tks) (.mk a l) (.mk b m) (zaA [] ((zaU a b).take q'))) (a+b+1) ?_ ?_
   ·intro _;exact⟨0,by omega,rfl,rfl,rfl,rfl⟩
   ·rintro q t9 t59 H' ⟨q',hq,rfl,rfl,rfl,rfl⟩ hsc13 hlen13 hsF13 Kb13 iB;have iq:(zaU a b).length=a+b+1:=by simp[zaU]
    by_cases iD:q'<a+b+1
    ·have mQ:q'<(zaU a b).length:=by omega
     have ep:=zdD (s:=[]) (λr:IT×Nat=>r) (zaU a b) mQ;simp only[dQ]at ep;have pj:zaH (λ_=>1) (zaA [] ((zaU a b).take q'))≤729:=by rw[zey,zcw,aC];exact ap (zg9 _ _ _) qT
     have hG:=nW q' (by omega);have he:(zaU a b)[q']=(.mk (q':Int) [],pcf a b q'):=by simp[zaU]
     have hc:=zeg (af mQ);rw[he]at ep hc;generalize kG:zaA [] ((zaU a b).take q')=s at *;have gK:(zbI a b (a+b+1))[q']'(by omega)=pcf a b q':=by simp[zbI]
     have n7:(q':Int)<(a:Int)+(b:Int)+1:=by omega
     have o6:(zbN (zbI a b (a+b+1)))[q']?=some (zai (pcf a b q':Int)):=by simp[zbN,zbI,iD]
     simp[zvY,fe,n7,gK,o6,zaq,zaJ,wi q' (by omega),AV.known];refine ACalls.wk (args':=[.ov (H.length+3) s.length,.agg (IT.mk (q':Int) []).cs,.agg (zai (pcf a b q':Int))]) ?_ ⟨.rfl',.agg ⟨.refl _,.snil,trivial⟩,.rfl',trivial⟩;refine zez hG (by omega) (IT.mk (q':Int) []) (by simp[IT.nodes,IT.nodesL]) (pcf a b q') (by omega) (H.length+3) _ _ zqH ?_;rw[zqJ];exact iB _ _ ⟨a+b+1-(q'+1),by omega,Back.at (J:=[.cells (zai (pcf a b q':Int))]) (H2:=hpL H (.mk 7 tn tks) (.mk a l) (.mk b m) (za5 s (.mk (q':Int) []) (pcf a b q'))) rfl (by simp) (zqI hs) (by simp[zoz,ux,AV.sc,AV.scA,AV.scB,AV.scV]) ⟨_,_,by simp only[fe];rfl,q'+1,by omega,rfl,rfl,by rw[ep],by rw[ep]⟩⟩
    ·obtain rfl:q'=a+b+1:=by omega
     rw[ai (by omega)];have:=fb (zaA [] (zaU a b)) [] g9.symm;simp[zvY,zgp,zoC,fe];simpa using this
  ·by_cases k5:k=5
   ·subst k5;have ev:∀(n:Int) (l:List IT),0≤rdV d7 (.mk n l) (.mk 5 tn tks)→n=0∧l.length≤6∧rdV d7 (.mk n l) (.mk 5 tn tks)=rdE d7 l (.mk 5 tn tks) 0:=λn l h=>by
     rw[ziF]at h ⊢;by_cases hc:n=0∧l.length≤6
     ·rw[az hc];exact⟨hc.1,hc.2,rfl⟩
     ·rw[au hc]at h;omega
    obtain⟨i1,i2,i3⟩:=ev n l hi;obtain⟨j1,j2,j3⟩:=ev n' m hj;rw[i3]at hi h6;rw[j3]at hj h6;obtain⟨R,hR⟩:∃R,R=zaS d7 f (.mk 5 tn tks) l m:=⟨_,rfl⟩;obtain⟨R1,R2⟩:=(zcC h8 f).2.2 (.mk 5 tn tks) l m (by omega) hi hj h6;rw[←hR]at R1 R2
    replace R2:=ap R2 (zcS h6)
    have Rl:=zeI λp hp=>(R1 p hp).1;have g9:zbd d7 (f+1) (.mk 5 tn tks) (.mk n l) (.mk n' m)=zaA [] R:=by rw[zbd,hR];simp[VT.kind,zaI]
    simp[zjg,f5,jb,jO,aa];rw[←f5];refine hM (.mk 5 tn tks) l m (by omega) iY gE rfl hi hj h6 (by omega) _ _ ?_;rw[←hR];simp;rw[←jb,←jO];have nW:∀q≤R.length,Gd (zaA [] (R.take q)):=by
     intro q;induction q with
     |zero=>intro _;exact Gd.nil
     |succ q ih=>intro hq;have:=zdD (s:=[]) (λr:IT×Nat=>r) R (show q<R.length by omega);simp only[dQ]at this;rw[this];have h1:=(R1 R[q] (af (by omega))).2.2.2.2.2.2;have h2:=zix R[q].1;exact(ih (by omega)).add (by omega) _
    unfold zoE;refine ALoop.vec 9 zau 5 rfl ?_;rw[kH,aq];show zoE (.ov (H.length+3) (zaA [] (R.take 0)).length) _ _ _ (hpL H (.mk 5 tn tks) (.mk n l) (.mk n' m) (zaA [] (R.take 0))) _;refine zWE (Inv:=λq t9 t80 H'=>∃q':Nat,q'≤R.length∧R.length-q'=q∧t80=.int .i64 q'∧t9=.ov (H.length+3) (zaA [] (R.take q')).length∧H'=hpL H (.mk 5 tn tks) (.mk n l) (.mk n' m) (zaA [] (R.take q'))) R.length ?_ ?_
    ·intro _;exact⟨0,by omega,rfl,rfl,rfl,rfl⟩
    ·rintro q t9 t80 H' ⟨q',hq,rfl,rfl,rfl,rfl⟩ hsc19 hlen19 hsF19 Kb19 hKb19;by_cases iD:q'<R.length
     ·have hr:=R1 R[q'] (af iD);have pm:=zeg (af iD);have ep:=zdD (s:=[]) (λr:IT × Nat=>r) R iD;simp only[dQ]at ep;have pj:zaH (λ_=>1) (zaA [] (R.take q'))≤729:=by rw[zey,zcw,aC];exact ap (zg9 _ _ _) R2
      have hG:=nW q' (by omega);generalize kG:zaA [] (R.take q')=s at *;simp[zvZ,iD,zcU,zcm,zcn,wi q' (by omega)];refine⟨zcK _,?_⟩;have jr:=hr.2.2.2.2.2.2;have fI:=zix R[q'].1;refine zez hG (by omega) R[q'].1 (by omega) R[q'].2 (by omega) (H.length+3) _ _ zqH ?_;rw[zqJ];exact hKb19 _ _ ⟨R.length-(q'+1),by omega,Back.at (J:=[.cells (tmC R[q'])]) (H2:=hpL H (.mk 5 tn tks) (.mk n l) (.mk n' m) (za5 s R[q'].1 R[q'].2)) rfl (by simp) (zqI hs) (by simp[zoA,ux,AV.sc,AV.scA,AV.scB,AV.scV]) ⟨_,_,rfl,q'+1,by omega,rfl,rfl,by rw[ep],by rw[ep]⟩⟩
     ·obtain rfl:q'=R.length:=by omega
      rw[ak];have:=fb (zaA [] R) [] g9.symm;simp[zvZ,zgp,zoC];simpa using this
   ·have g9:zbd d7 (f+1) (.mk k tn tks) (.mk n l) (.mk n' m)=[(.mk 0 [],1)]:=by rw[zbd];simp[VT.kind,k6,k7,k5]
    rw[g9]at hK;have b6:(k == 6)=false:=by simpa using k6
    have b7:(k == 7)=false:=by simpa using k7
    have b5:(k == 5)=false:=by simpa using k5
    simp[zjg,f5,jb,jO,b6,b7,b5,zaq,zaJ,AV.known,aa];refine zeY 1 (by omega) _ _ ?_;refine ACalls.wk (args':=[.snil,.agg (IT.mk 0 []).cs,.agg (zai 1)]) ?_ ⟨.rfl',.agg ⟨.refl _,.snil,trivial⟩,.rfl',trivial⟩;exact zp8 (.mk 0 []) (by simp[IT.nodes,IT.nodesL]) H [_,_,_] hs K hK
theorem zzu{d7:List Dat}(hk:zbx d7)(h8:∀ D∈d7,D.cons.length≤8)(hD:zbz d7=true):∀ f,zpW d7 f∧zjy d7 f∧zjw d7 f
 |0=>⟨λt i j h=>by have:=i.nodes_pos;omega,λts l m h=>by omega,λt l m h=>by omega⟩
 |f+1=>by obtain⟨h1,h2,h3⟩:=zzu hk h8 hD f;exact⟨zJf hk h8 hD h2 h3,zJg h8 h1,zI7 hk h8 hD h2 h3⟩
theorem zZ4{d7:List Dat}(hk:zbx d7)(h8:∀D∈d7,D.cons.length≤8)(t:VT)(ht:t.nodes≤1000)(v:IT)(hv:v.nodes≤900)(H:zaa)(K:Kt)(hK:K (.int .i64 (rdV d7 v t)) H):ACalls tP zr4 [.sl (d7.map Dat.cs) .none,.agg t.cs,.agg v.cs] H K:=by refine ACalls.out (zZ3 λhs=>?_);obtain⟨x,y,z,ew,hx,hy,hz⟩:=zbk t;obtain⟨x2,y2,eF,fc,jm⟩:=zci v;simp[zGG,ew,eF,aa];rw[←ew,←eF];refine zFQ hk h8 _ v (ac _) hv t ht _ _ ?_;exact Out.int rfl (ac _) hs hK
def ofD(d7:List Dat)(t:VT)(s:List (IT×Nat))(d:Nat):List (IT×Nat):=s.filter λp=>rdV d7 p.1 t == (d:Int)
def zbB(d7:List Dat)(t:VT)(s:List (IT×Nat))(d:Nat):List (IT×Nat):=(List.range d).flatMap (ofD d7 t s)
theorem zr6(d7:List Dat)(t:VT)(s:List (IT×Nat))(d:Nat):zbB d7 t s (d+1)=zbB d7 t s d++ofD d7 t s d:=by simp[zbB,bU]
theorem zzL(d7:List Dat)(t:VT)(f:IT→Nat):∀ (s:List (IT × Nat)),(∀ p∈s,0≤rdV d7 p.1 t∧rdV d7 p.1 t≤6)→∀ d:Nat,zaH f (zbB d7 t s d)=zaH f (s.filter λp=>decide (rdV d7 p.1 t<(d:Int)))
 |s,h,0=>by
  have:(s.filter λp=>decide (rdV d7 p.1 t<((0:Nat):Int)))=[]:=by rw[cX];intro p hp;have:=h p hp;simp;omega
  rw[this];rfl
 |s,h,d+1=>by
  rw[zr6,zf2,zzL d7 t f s h d];unfold ofD;clear h;induction s with
  |nil=>rfl
  |cons p s ih=>
   simp only[cG];by_cases h1:rdV d7 p.1 t<(d:Int)
   ·have h2:(rdV d7 p.1 t == (d:Int))=false:=by simp;omega
    have h3:rdV d7 p.1 t<((d+1:Nat):Int):=by omega
    simp only[h1,h2,h3,cZ,a6,aH,aN,zc5];omega
   ·by_cases h2:rdV d7 p.1 t=(d:Int)
    ·have h3:rdV d7 p.1 t<((d+1:Nat):Int):=by omega
     have h4:(rdV d7 p.1 t == (d:Int))=true:=by simpa using h2
     simp only[h1,h4,h3,cZ,decide_false,a6,aH,aN,zc5];omega
    ·have h3:¬ rdV d7 p.1 t<((d+1:Nat):Int):=by omega
     have h4:(rdV d7 p.1 t == (d:Int))=false:=by simpa using h2
     simp only[h1,h4,h3,decide_false,aN,aH];omega
theorem zJF{d7:List Dat}{t:VT}{s:List (IT×Nat)}(h:∀p∈s,0≤rdV d7 p.1 t∧rdV d7 p.1 t≤6)(f:IT→Nat):zaH f (zbB d7 t s 7)=zaH f s:=by rw[zzL d7 t f s h 7];congr 1;rw[List.filter_eq_self];intro p hp;have:=h p hp;simp;omega
theorem zJE{d7:List Dat}{t:VT}{s:List (IT×Nat)}{d:Nat}:∀p∈zbB d7 t s d,p∈s:=by intro p hp;obtain⟨k,_,h⟩:=bY.1 hp;exact(cM.1 h).1
theorem zzM{d7:List Dat}{t:VT}{s:List (IT×Nat)}{d j:Nat}(hj:j<s.length):ofD d7 t (s.take (j+1)) d=ofD d7 t (s.take j) d++if rdV d7 s[j].1 t=(d:Int) then [s[j]] else []:=by
 rw[ae hj];simp only[ofD,cN,cG,List.filter_nil];by_cases h:rdV d7 s[j].1 t=(d:Int)
 ·simp[h]
 ·have h4:(rdV d7 s[j].1 t == (d:Int))=false:=by simpa using h
  simp[h,h4]
theorem zkU{d7:List Dat}{t:VT}{s:List (IT×Nat)}{d:Nat}:(ofD d7 t s d).length≤s.length:=c6 _ _
theorem zkX{d7:List Dat}{t:VT}{s:List (IT × Nat)}:∀ d:Nat,(zbB d7 t s d).length≤d*s.length
 |0=>by simp[zbB]
 |d+1=>by rw[zr6,aw,bI];have:=zkX (d7:=d7) (t:=t) (s:=s) d;have:=zkU (d7:=d7) (t:=t) (s:=s) (d:=d);omega
theorem zLJ(a:List (IT×Nat))(p:IT×Nat):zaG a++[tmC p]=zaG (a++[p]):=by simp[zaG]
theorem zWR{d7:List Dat}(hk:zbx d7)(h8:∀D∈d7,D.cons.length≤8)(t:VT)(ht:t.nodes≤1000)(s:List (IT×Nat))(kO:∀p∈s,p.1.nodes≤900)(hl:s.length≤1000)(H:zaa)(K:Kt)(hK:K (.sl (zaG (zbB d7 t s 7)) .none) H):ACalls tP zrR [.sl (d7.map Dat.cs) .none,.agg t.cs,.sl (zaG s) .none] H K:=by
 refine ACalls.out (zWP λhs=>?_);obtain⟨x,y,z,ew,hx,hy,hz⟩:=zbk t;simp[zFq,ew,aa];rw[←ew];unfold zoI;refine ALoop.own 7 zau 5 rfl ?_;have gS:(H++[AB.cells t.cs]).length=H.length+1:=by simp
 rw[gS,aq];show zoI _ _ _ (.sl (zaG (zbB d7 t s 0)) (.own (H.length+1))) _ (H++[.cells t.cs,.perm zau 5 0]) _;have n8:∀n,HSc (H++[.cells t.cs,.perm zau 5 n]):=λn=>hs.append (by
  obtain⟨k,m,ks⟩:=t;simp[AB.sc,VT.cs,AV.scA,AV.scB])
 refine zWM (Inv:=λq t7 t8 H'=>∃d:Nat,d≤7∧7-d=q∧t8=.int .i64 d∧t7=.sl (zaG (zbB d7 t s d)) (.own (H.length+1))∧H'=H++[.cells t.cs,.perm zau 5 (zbB d7 t s d).length]) 7 ?_ ?_
 ·intro _;exact⟨0,by omega,rfl,rfl,rfl,rfl⟩
 ·rintro q t7 t8 H' ⟨d,hd,rfl,rfl,rfl,rfl⟩ jE hlen3 hsF3 Kb3 hKb3;have mo:=zkX (d7:=d7) (t:=t) (s:=s) d;have hdl2:d*s.length≤7000:=bf (show d≤7 by omega) hl;by_cases ei:d≤6
  ·have eC:(d:Int)≤6:=by omega
   simp[zv2,eC,aa];refine zWN (Inv:=λq t7 t17 H'=>∃j:Nat,j≤s.length∧s.length-j=q∧t17=.int .i64 j∧t7=.sl (zaG (zbB d7 t s d++ofD d7 t (s.take j) d)) (.own (H.length+1))∧H'=H++[.cells t.cs,.perm zau 5 (zbB d7 t s d++ofD d7 t (s.take j) d).length]) s.length ?_ ?_
   ·intro _;exact⟨0,by omega,rfl,rfl,by simp[ofD],by simp[ofD]⟩
   ·rintro q t7 t17 H' ⟨j,hj,rfl,rfl,rfl,rfl⟩ nZ lR n5 Kb6 jc;by_cases eI:j<s.length
    ·have ep:=zzM (d7:=d7) (t:=t) (d:=d) eI;have hol:(ofD d7 t (s.take j) d).length≤1000:=ap zkU (by simp;omega);generalize kG:ofD d7 t (s.take j) d=o at *;generalize qQ:zbB d7 t s d=A at *;have hn:=kO _ (af eI);simp[zv3,eI,zcU,zcm,ew,aa];refine⟨zcK _,?_⟩;rw[←ew];refine zZ4 hk h8 t ht s[j].1 (by omega) _ _ ?_;by_cases he:rdV d7 s[j].1 t=(d:Int)
     ·rw[az he]at ep;have gy:plain ([.int .i64 0,.snil,.bool false,.snil,.snil]:List AV)=some [.int .i64 0,.sl [] .none,.bool false,.sl [] .none,.sl [] .none]:=rfl;simp[he,zoH,zv6,zcU,zaw,zaR,zgZ,gy,wi j (by omega)];simp only[zax,zaM,zaK];simp[ah];refine⟨⟨by omega,by omega⟩,?_⟩;rw[zLJ,aq,←ep];have gw:A.length+o.length+1=(A++ofD d7 t (s.take (j+1)) d).length:=by rw[ep];simp;omega
      rw[gw];exact jc _ _ ⟨s.length-(j+1),by omega,Back.at (J:=[.cells (tmC s[j])]) (H2:=H++[.cells t.cs,.perm zau 5 (A++ofD d7 t (s.take (j+1)) d).length]) (by simp) (by simp) (n8 _) (by simp[zjh,ux,AV.sc,AV.scA,AV.scB,AV.scV]) ⟨_,_,rfl,j+1,by omega,rfl,rfl,rfl,rfl⟩⟩
     ·have oJ:(rdV d7 s[j].1 t == (d:Int))=false:=by simpa using he
      rw[au he,aG]at ep;simp[oJ,zoH,zv6,wi j (by omega)];exact jc _ _ ⟨s.length-(j+1),by omega,Back.at (J:=[.cells (tmC s[j])]) (H2:=H++[.cells t.cs,.perm zau 5 (A++o).length]) (by simp) (by simp) (n8 _) (by simp[zjh,ux,AV.sc,AV.scA,AV.scB,AV.scV]) ⟨_,_,rfl,j+1,by omega,rfl,rfl,by rw[ep],by rw[ep]⟩⟩
    ·obtain rfl:j=s.length:=by omega
     rw[ak,←zr6];simp[zv3,wi d (by omega)];exact hKb3 _ _ ⟨7-(d+1),by omega,Back.here (by simp) (n8 _) (by simp[zoG,ux,AV.sc,AV.scA,AV.scB,AV.scV]) ⟨_,_,rfl,d+1,by omega,rfl,rfl,rfl,rfl⟩⟩
  ·obtain rfl:d=7:=by omega
   simp[zv2];exact Out.at (b:=.sl (zaG (zbB d7 t s 7)) .none) rfl (ac _) hs (.atom (.sl _ _)) rfl rfl hK
def zbg:List (IT × Nat)→IT→Nat→List (IT × Nat)
 |[],i,c=>[(i,c)]
 |p::s,i,c=>if IT.same p.1 i then (p.1,p.2+c)::s else p::zbg s i c
theorem zAK(i:IT):IT.same i i=true:=(IT.cmp_zero i i).1 (zgD i)
theorem zp7(g:IT→Nat)(i:IT)(c:Nat):∀ s:List (IT × Nat),zat g (zbg s i c)=zat g s+c*g i
 |[]=>by simp[zbg]
 |p::s=>by
  unfold zbg;split
  ·rename_i h;rw[zbc,zbc,same_eq _ _ h,a8];omega
  ·rw[zbc,zbc,zp7 g i c s];omega
theorem zhz{i:IT}{c:Nat}:∀ {s:List (IT × Nat)} {p:IT × Nat},p∈zbg s i c→p.1=i∧c≤p.2∨p∈s
 |[],p,h=>by simp[zbg]at h;rw[h];exact .inl ⟨rfl,ac _⟩
 |x::s,p,h=>by
  unfold zbg at h;split at h
  ·rename_i he;rcases aP.1 h with rfl | h
   ·exact .inl ⟨same_eq _ _ he,by simp⟩
   ·exact .inr (aU _ h)
  ·rcases aP.1 h with rfl | h
   ·exact .inr aR
   ·rcases zhz h with h | h
    ·exact .inl h
    ·exact .inr (aU _ h)
theorem zxT{i:IT}{c:Nat}:∀ {s:List (IT × Nat)},(s.map Prod.fst).Nodup→((zbg s i c).map Prod.fst).Nodup
 |[],_=>by simp[zbg]
 |x::s,h=>by
  rw[aF,cv]at h;unfold zbg;split
  ·rw[aF,cv];exact h
  ·rename_i he;rw[aF,cv];refine⟨λhx=>?_,zxT h.2⟩;obtain⟨p,hp,hpe⟩:=aA.1 hx;rcases zhz hp with ⟨h1,_⟩ | h1
   ·exact he (by rw[←hpe,h1,zAK])
   ·exact h.1 (aA.2 ⟨p,h1,hpe⟩)
theorem zxR{i:IT}{c:Nat}:∀ {s:List (IT × Nat)} {k:Nat} (hk:k<s.length),s[k].1=i→(s.map Prod.fst).Nodup→zbg s i c=s.set k (s[k].1,s[k].2+c)
 |x::s,0,_,he,_=>by simp only[List.getElem_cons_zero]at he;unfold zbg;rw[az (by rw[he];exact zAK i)];rfl
 |x::s,k+1,hk,he,hn=>by
  rw[aF,cv]at hn;simp only[List.getElem_cons_succ]at he;have gh:k<s.length:=by simpa using hk
  unfold zbg;rw[au λh=>hn.1 (by rw[same_eq _ _ h,←he];exact aA.2 ⟨s[k],af gh,rfl⟩),zxR gh he hn.2];rfl
theorem zxU{i:IT}{c:Nat}:∀ {s:List (IT × Nat)},(∀ p∈s,p.1≠i)→zbg s i c=s++[(i,c)]
 |[],_=>rfl
 |x::s,h=>by unfold zbg;rw[au λhe=>h x aR (same_eq _ _ he),zxU λp hp=>h p (aU _ hp)];rfl
def zaZ(s l:List (IT×Nat)):List (IT×Nat):=l.foldl (λs p=>zbg s p.1 p.2) s
theorem zyq(s:List (IT×Nat)):zaZ s []=s:=rfl
theorem zH7(s l:List (IT×Nat))(p:IT×Nat):zaZ s (l++[p])=zbg (zaZ s l) p.1 p.2:=by simp[zaZ]
theorem zH6(s a b:List (IT×Nat)):zaZ s (a++b)=zaZ (zaZ s a) b:=by simp[zaZ]
theorem zgE(g:IT→Nat):∀ (l s:List (IT × Nat)),zat g (zaZ s l)=zat g s+zat g l
 |[],s=>by simp[zaZ]
 |p::l,s=>by have:=zgE g l (zbg s p.1 p.2);rw[zp7]at this;show zat g (zaZ (zbg s p.1 p.2) l)=_;rw[this,zbc];omega
theorem zhH:∀ (l s:List (IT × Nat)),(s.map Prod.fst).Nodup→((zaZ s l).map Prod.fst).Nodup
 |[],s,h=>h
 |p::l,s,h=>zhH l _ (zxT h)
theorem zqo:∀ (l s:List (IT × Nat)),(∀ q∈s,0<q.2)→(∀ q∈l,0<q.2)→∀ p∈zaZ s l,0<p.2∧((∃ q∈s,q.1=p.1)∨∃ q∈l,q.1=p.1)
 |[],s,hs,_,p,hp=>⟨hs p hp,.inl ⟨p,hp,rfl⟩⟩
 |x::l,s,hs,hl,p,hp=>by
  have hx:=hl x aR;obtain⟨h1,h2⟩:=zqo l (zbg s x.1 x.2) (λq hq=>(zhz hq).elim (λh=>aV hx h.2) (hs q)) (λq hq=>hl q (aU _ hq)) p hp;refine⟨h1,?_⟩;rcases h2 with ⟨q,hq,he⟩|⟨q,hq,he⟩
  ·rcases zhz hq with ⟨h,_⟩ | h
   ·exact .inr ⟨x,aR,by rw[←he,h]⟩
   ·exact .inl ⟨q,h,he⟩
  ·exact .inr ⟨q,aU _ hq,he⟩
theorem zHK{d7:List Dat}{t:VT}{d:Nat}{s r L:List (IT×Nat)}(hr:r.Perm (ofD d7 t s d))(hso:r.Pairwise λp q=>¬IT.cmp q.1 p.1<0)(hn:(s.map Prod.fst).Nodup)(hs:∀p∈s,0<p.2)(hL:Asc L)(iR:∀p∈L,0<p.2)(fH:∀g:IT→Nat,zat g s=zat g L):r=ofD d7 t L d:=by
 have qU:(r.map Prod.fst).Nodup:=((hr.map Prod.fst).nodup_iff).2 (hn.sublist ((List.filter_sublist).map _));have hasc:Asc r:=by
  unfold List.Nodup at qU;rw[List.pairwise_map]at qU;refine(hso.and qU).imp λ{p q} h=>?_;have h0:=IT.cmp_anti p.1 q.1;by_cases h1:IT.cmp p.1 q.1=0
  ·exact absurd (zjL h1) h.2
  ·omega
 refine zqf hasc (hL.sublist List.filter_sublist) (λp hp=>hs p (cM.1 (hr.subset hp)).1) (λp hp=>iR p (cM.1 hp).1) λg=>?_;rw[zLz g hr];have h1:=zli g (λx=>rdV d7 x t == (d:Int)) s;have h2:=zli g (λx=>rdV d7 x t == (d:Int)) L;unfold ofD;rw[h1,h2,fH]
theorem zI9(d7:List Dat)(f:Nat)(t:VT)(i j:IT):Asc (zbd d7 f t i j):=by
 have h0:Asc ([]:List (IT×Nat)):=List.Pairwise.nil;cases f with
 |zero=>rw[zbd];exact h0
 |succ f=>
  rw[zbd];split
  ·exact zgz _ _ h0
  ·split
   ·exact zgz _ _ h0
   ·split
    ·exact zgz _ _ h0
    ·exact dG _ _
mutual
def wrI:IT→List UInt8
 |.mk n ks=>UInt8.ofNat (48+n.toNat)::(if ks.length=0 then [] else 40::(zbv ks++[41]))
def zbv:List IT→List UInt8
 |[]=>[]
 |k::ks=>wrI k++44::zbv ks
end
mutual
def Dig:IT→Prop
 |.mk n ks=>0≤n∧n≤9∧zcW ks
def zcW:List IT→Prop
 |[]=>True
 |k::ks=>Dig k∧zcW ks
end
theorem zxj:∀ {ks:List IT},zcW ks→∀ k∈ks,Dig k
 |k::ks,h,x,hx=>by
  rw[zcW]at h;rcases aP.1 hx with rfl|hx
  ·exact h.1
  ·exact zxj h.2 x hx
theorem zpS:∀ {ks:List IT},(∀ k∈ks,Dig k)→zcW ks
 |[],_=>by rw[zcW];trivial
 |k::ks,h=>by rw[zcW];exact⟨h k aR,zpS λx hx=>h x (aU _ hx)⟩
theorem zIl{a b:Int}(ha:0≤a)(ha9:a≤9)(hb:0≤b)(hb9:b≤9)(h:UInt8.ofNat (48+a.toNat)=UInt8.ofNat (48+b.toNat)):a=b:=by have:=congrArg UInt8.toNat h;rw[cK (by show _<256;omega),cK (by show _<256;omega)]at this;omega
theorem zyy{a:Int}(ha:0≤a)(ha9:a≤9):UInt8.ofNat (48+a.toNat)≠41:=by intro h;have:=congrArg UInt8.toNat h;rw[cK (by show _<256;omega)]at this;simp at this;omega
theorem zsY(k:IT)(s:List UInt8):∃r,wrI k++s=UInt8.ofNat (48+(zaO k).toNat)::r:=by obtain⟨n,ks⟩:=k;rw[wrI];exact⟨_,rfl⟩
theorem zxk{k:IT}(h:Dig k):0≤zaO k∧zaO k≤9:=by obtain⟨n,ks⟩:=k;rw[Dig]at h;exact⟨h.1,h.2.1⟩
mutual
theorem zBT:∀ (i j:IT) (s s':List UInt8),Dig i→Dig j→s.head?≠some 40→s'.head?≠some 40→wrI i++s=wrI j++s'→i=j∧s=s'
 |.mk n ks,.mk m ls,s,s',hi,hj,h1,h2,h=>by
  rw[Dig]at hi hj;rw[wrI,wrI,List.cons_append,List.cons_append,cQ]at h;obtain rfl:=zIl hi.1 hi.2.1 hj.1 hj.2.1 h.1;have h':=h.2;by_cases hk:ks.length=0
  ·obtain rfl:=aB hk;by_cases hl:ls.length=0
   ·obtain rfl:=aB hl;simp at h';exact⟨rfl,h'⟩
   ·rw[az (show ([]:List IT).length=0 from rfl),au hl]at h';rw[List.nil_append]at h';rw[h']at h1;simp at h1
  ·by_cases hl:ls.length=0
   ·obtain rfl:=aB hl;rw[au hk,az (show ([]:List IT).length=0 from rfl),List.nil_append]at h';rw[←h']at h2;simp at h2
   ·rw[au hk,au hl,List.cons_append,List.cons_append,cQ]at h';have h3:=h'.2;simp only[aq,List.cons_append,List.nil_append]at h3;obtain⟨e1,e2⟩:=zBR ks ls s s' hi.2.2 hj.2.2 h3;exact⟨by rw[e1],e2⟩
theorem zBR:∀ (ks ls:List IT) (s s':List UInt8),zcW ks→zcW ls→zbv ks++41::s=zbv ls++41::s'→ks=ls∧s=s'
 |[],[],s,s',_,_,h=>by rw[zbv,List.nil_append,List.nil_append]at h;simp at h;exact⟨rfl,h⟩
 |[],l::ls,s,s',_,hl,h=>by rw[zcW]at hl;rw[zbv,zbv,aq,List.nil_append,List.cons_append]at h;obtain⟨r,hr⟩:=zsY l (44::(zbv ls++41::s'));rw[hr]at h;have h0:=(List.cons.inj h).1;have:=zxk hl.1;exact absurd h0.symm (zyy this.1 this.2)
 |k::ks,[],s,s',hk,_,h=>by rw[zcW]at hk;rw[zbv,zbv,aq,List.nil_append,List.cons_append]at h;obtain⟨r,hr⟩:=zsY k (44::(zbv ks++41::s));rw[hr]at h;have h0:=(List.cons.inj h).1;have:=zxk hk.1;exact absurd h0 (zyy this.1 this.2)
 |k::ks,l::ls,s,s',hk,hl,h=>by rw[zcW]at hk hl;rw[zbv,zbv,aq,aq,List.cons_append,List.cons_append]at h;obtain⟨e1,e2⟩:=zBT k l (44::(zbv ks++41::s)) (44::(zbv ls++41::s')) hk.1 hl.1 (by simp) (by simp) h;rw[cQ]at e2;obtain⟨e3,e4⟩:=zBR ks ls s s' hk.2 hl.2 e2.2;exact⟨by rw[e1,e3],e4⟩
end
theorem zBU{i j:IT}(hi:Dig i)(hj:Dig j)(h:wrI i=wrI j):i=j:=
 (zBT i j [] [] hi hj (by simp) (by simp) (by rw[h])).1
theorem zjP{d7:List Dat}(h8:∀D∈d7,D.cons.length≤8):∀(m:Nat) (i:IT),i.nodes≤m→∀t:VT,0≤rdV d7 i t→Dig i:=by
 intro m;induction m with
 |zero=>intro i h;have:=i.nodes_pos;omega
 |succ m ih=>
  have hA:∀(l:List IT) (ts:List VT),IT.nodesL l≤m→l.length=ts.length→0≤rdA d7 l ts 0→zcW l:=by intro l ts hm hl h;refine zpS λk hk=>?_;obtain⟨j,hj,rfl⟩:=be hk;have:=(zd3 (d7:=d7) l ts 0 (by omega) hl h).1 j hj (by omega);exact ih l[j] (by have:=zc3 hj;omega) ts[j] this
  intro i hm t h;obtain⟨n,ks⟩:=i;obtain⟨k,tn,tks⟩:=t;simp only[IT.nodes]at hm;rw[Dig];by_cases k6:k=6
  ·subst k6;rw[rdV]at h;simp only[VT.kind,VT.kids,a6]at h;by_cases hn:n=0
   ·by_cases hl:tks.length=ks.length
    ·simp[hn,hl]at h;exact⟨by omega,by omega,hA ks tks (by omega) hl.symm h⟩
    ·simp[hn,hl]at h
   ·simp[hn]at h
  ·by_cases k7:k=7
   ·subst k7;rw[rdV]at h;simp only[VT.kind,k6,aN,a6]at h;by_cases hc:0≤n∧n≤6∧ks.length=0
    ·obtain rfl:=aB hc.2.2;exact⟨hc.1,by omega,by rw[zcW];trivial⟩
    ·rw[au hc]at h;omega
   ·by_cases k5:k=5
    ·subst k5;rw[ziF]at h;by_cases hc:n=0∧ks.length≤6
     ·rw[az hc]at h;refine⟨by omega,by omega,zpS λx hx=>?_⟩;obtain⟨j,hj,rfl⟩:=be hx;have hn:=zc3 hj;obtain⟨c,eks,he⟩:∃ c eks,ks[j]=.mk c eks:=⟨zaO ks[j],zaI ks[j],by cases ks[j];rfl⟩;obtain⟨ps,e1,e2,e3⟩:=zJ5 h8 h hj he;have hrE:0≤rdE d7 [ks[j]] (.mk 5 tn tks) 0:=by have h0:=h;rw[zsu ks]at h0;exact (zk9 h8 (.mk 5 tn tks) (ks.map λx=>[x]) 0 (by omega) (by omega) h0).1 [ks[j]] (aA.2 ⟨ks[j],af hj,rfl⟩)
      rw[he]at hrE;obtain⟨c0,c8,_⟩:=zeP hrE;rw[he,Dig];rw[he]at hn;simp only[IT.nodes]at hn;exact⟨c0,by omega,hA eks ps (by omega) e2.symm e3.1⟩
     ·rw[au hc]at h;omega
    ·rw[rdV]at h;simp only[VT.kind,k6,k7,k5,aN]at h;by_cases hc:n=0∧ks.length=0
     ·obtain rfl:=aB hc.2;exact⟨by omega,by omega,by rw[zcW];trivial⟩
     ·rw[au hc]at h;omega
theorem zhT:∀ {L:List (List AV)},(∀ c∈L,c.length=3)→L.flatten.length=L.length*3
 |[],_=>rfl
 |c::L,h=>by rw[List.flatten_cons,aw,zhT λx hx=>h x (aU _ hx),h c aR,List.length_cons];omega
theorem zyO{L:List (List AV)}(h3:∀c∈L,c.length=3){i:Nat}(hi:i<L.length)(x:List AV):L.flatten.take (i*3)++(x++L.flatten.drop (i*3+3))=(L.set i x).flatten:=by
 have e:L.flatten=(L.take i).flatten++(L[i]++(L.drop (i+1)).flatten):=by
  have h0:L=L.take i++L[i]::L.drop (i+1):=by rw[←ag hi,aJ]
  have h1:=congrArg List.flatten h0;rwa [cg,List.flatten_cons]at h1
 have l1:(L.take i).flatten.length=i*3:=by rw[zhT λc hc=>h3 c (bu hc)];simp;omega
 have l2:((L.take i).flatten++L[i]).length=i*3+3:=by rw[aw,l1,h3 _ (af hi)]
 rw[e,bT l1,←aq (L.take i).flatten L[i],bN l2,bh,az hi];simp
def zR:List AV:=[.bool false,.snil,.snil]
def zsL(n i:Nat):List (List AV):=List.replicate i (zai 0)++List.replicate (n-i) zR
theorem zGW(n i:Nat):∀c∈zsL n i,c.length=3:=by intro c hc;rcases aX.1 hc with h|h <;> rw[bn h] <;> rfl
theorem yaT{n i:Nat}(h:i<n):(zsL n i).set i (zai 0)=zsL n (i+1):=by unfold zsL;rw[ah _ _ (by simp),List.length_replicate,c7,show n-i=n-(i+1)+1 by omega,List.replicate_succ,List.set_cons_zero,List.replicate_succ',aq];rfl
theorem zL8(n:Nat)(hn:n≤100)(H:zaa)(K:Kt)(hK:HSc H→K (.ms H.length 0 n n) (H++[.cells (List.replicate n (zai 0)).flatten])):ACalls tP zry [.int .i64 n] H K:=by
 refine zR5 λhs=>?_;simp[zDV,zbp];refine⟨⟨by omega,by omega⟩,?_⟩;have h0:(List.replicate n ([.bool false,.snil,.snil]:List AV))=zsL n 0:=by simp[zsL,zR]
 rw[h0];have hsc:∀i,HSc (H++[.cells (zsL n i).flatten]):=λi=>hs.append (by
  simp only[AB.sc,List.all_cons,List.all_nil,ch];rw[am];intro x hx;obtain⟨c,hc,hx⟩:=dL.1 hx;rcases aX.1 hc with h|h <;> rw[bn h]at hx
  ·exact am.1 (zfW _ _) x hx
  ·exact am.1 (show zR.all (AV.scA _)=true by simp[zR,AV.scA,AV.scB]) x hx)
 refine zR3 (Inv:=λq t9 H'=>∃i:Nat,i≤n∧n-i=q∧t9=.int .i64 i∧H'=H++[.cells (zsL n i).flatten]) n ?_ ?_
 ·intro _;exact⟨0,by omega,rfl,rfl,rfl⟩
 ·rintro q t9 H' ⟨i,hi,rfl,rfl,rfl⟩ eE ek eK Kb eq;by_cases ei:i<n
  ·have hL:(zsL n i).length=n:=by simp[zsL];omega
   simp[zuF,ei,wi i (by omega)];refine zeu 0 (by omega) _ _ ?_;have fp:=zhT (zGW n i);have eL:=zyO (zGW n i) (i:=i) (by omega) (zai 0);rw[yaT ei]at eL;rw[List.length_flatten]at fp;simp[zdg,fp,hL];rw[eL];refine⟨by omega,?_⟩;exact eq _ _ ⟨n-(i+1),by omega,Back.here (by simp) (hsc _) (by simp[znq,ux,AV.sc,AV.scA,AV.scB,AV.scV]) ⟨_,rfl,i+1,by omega,rfl,rfl,rfl⟩⟩
  ·obtain rfl:i=n:=by omega
   have:=hK hs;have e:zsL i i=List.replicate i (zai 0):=by simp[zsL]
   simp[zuF,e];exact this
theorem zJN:∀a,a<7→∀b,b<7→∀k,k<13→(k≤a+b∧max a b≤k→pcf a b k=chs k a*chs a (k-b)∧pcf a b k<1000000∧chs k a<1000000∧chs a (k-b)<1000000):=by
 have:=(by decide +kernel:((List.range 7).all λa=>(List.range 7).all λb=>(List.range 13).all λk=>decide (¬(k≤a+b∧max a b≤k)∨(pcf a b k=chs k a*chs a (k-b)∧pcf a b k<1000000∧chs k a<1000000∧chs a (k-b)<1000000)))=true);intro a ha b hb k hk h;have h1:=am.mp this a (bz.mpr ha);have h2:=am.mp h1 b (bz.mpr hb);have h3:=am.mp h2 k (bz.mpr hk);rcases ce h3 with h4|h4
 ·exact absurd h h4
 ·exact⟨h4.1,h4.2⟩
def rwL(a b k:Nat):List (List AV):=(List.range (a+b+1)).map λj=>zai (((if j<k then pcf a b j else 0:Nat)):Int)
theorem zAI(a b k:Nat):(rwL a b k).length=a+b+1:=by simp[rwL]
theorem zsp(a b k:Nat):∀c∈rwL a b k,c.length=3:=by intro c hc;obtain⟨j,_,rfl⟩:=aA.1 hc;rfl
theorem zKn(a b:Nat):List.replicate (a+b+1) (zai 0)=rwL a b (max a b):=by
 refine bB (by simp[rwL]) λj h1 h2=>?_;simp only[rwL,dM,bX,cc];by_cases h:j<max a b
 ·rw[az h];have:pcf a b j=0:=by simp[pcf];omega
  rw[this];rfl
 ·rw[au h];rfl
theorem zKo{a b k:Nat}(h:k≤a+b):(rwL a b k).set k (zai (pcf a b k:Int))=rwL a b (k+1):=by
 refine bB (by simp[rwL]) λj h1 h2=>?_;rw[c9];simp only[rwL,bX,cc];by_cases hj:k=j
 ·subst hj;simp
 ·rw[au hj];by_cases hk:j<k
  ·rw[az hk,az (by omega)]
  ·rw[au hk,au (by omega)]
theorem zAH(a b:Nat):rwL a b (a+b+1)=zbN (zbI a b (a+b+1)):=by
 refine bB (by simp[rwL,zbN,zbI]) λj h1 h2=>?_;have hj:j<a+b+1:=by simpa[rwL]using h1
 simp[rwL,zbN,zbI,hj]
theorem zAe:∀ l:List Nat,plain (zbN l).flatten=some (zbN l).flatten
 |[]=>rfl
 |z::l=>by show plain (zai (z:Int)++(zbN l).flatten)=_;exact ziD (zcR _) (zAe l)
theorem zOk(a b:Nat)(ha:a≤6)(hb:b≤6)(H:zaa)(K:Kt)(hK:K (.sl (zbN (zbI a b (a+b+1))) .none) H):ACalls tP zre [.int .i64 a,.int .i64 b] H K:=by
 refine ACalls.out (zOi λhs=>?_);have w1:IntKind.i64.wrap ((a:Int)+(b:Int))=((a+b:Nat):Int):=by rw[zay (by omega) (by omega)];omega
 have w2:IntKind.i64.wrap ((a:Int)+(b:Int)+1)=((a+b+1:Nat):Int):=by rw[zay (by omega) (by omega)];omega
 have mc:(if a<b then (b:Int) else (a:Int))=((max a b:Nat):Int):=by split <;> omega
 have mP:(if (b:Int)>(a:Int) then (b:Int) else (a:Int))=((max a b:Nat):Int):=by split <;> omega
 simp[zCy,w1,w2,mc,mP];refine zL8 (a+b+1) (by omega) _ _ λ_=>?_;rw[zKn];have hsc:∀i,HSc (H++[.cells (rwL a b i).flatten]):=λi=>hs.append (by
  simp only[AB.sc,List.all_cons,List.all_nil,ch];rw[am];intro x hx;obtain⟨c,hc,hx⟩:=dL.1 hx;obtain⟨j,_,rfl⟩:=aA.1 hc;exact am.1 (zfW _ _) x hx)
 try simp only[mc,mP]
 refine zOg (Inv:=λq t6 H'=>∃k:Nat,max a b≤k∧k≤a+b+1∧a+b+1-k=q∧t6=.int .i64 k∧H'=H++[.cells (rwL a b k).flatten]) (a+b+1-max a b) ?_ ?_
 ·intro _;exact⟨max a b,by omega,by omega,rfl,rfl,rfl⟩
 ·rintro q t6 H' ⟨k,gG,hk,rfl,rfl,rfl⟩ eE ek eK Kb eq;by_cases ei:k≤a+b
  ·have eC:(k:Int)≤(a:Int)+(b:Int):=by omega
   obtain⟨p1,p2,p3,p4⟩:=zJN a (by omega) b (by omega) k (by omega) ⟨ei,gG⟩;have w3:IntKind.i64.wrap ((k:Int)-(b:Int))=((k-b:Nat):Int):=by rw[zay (by omega) (by omega)];omega
   simp[ztz,w1,eC,w3,wi k (by omega)];refine zyI k a (by omega) (by omega) _ _ ?_;refine zyI a (k-b) (by omega) (by omega) _ _ ?_;refine zjk _ _ (zb0 (dR p3 (by decide))) (zb0 (dR p4 (by decide))) _ _ ?_;rw[←Int.natCast_mul,←p1];have fp:=zhT (zsp a b k);have eL:=zyO (zsp a b k) (i:=k) (by rw[zAI];omega) (zai (pcf a b k:Int));rw[zKo ei]at eL;rw[List.length_flatten,zAI]at fp;simp[zdg,fp];rw[eL];refine⟨by omega,by omega,?_⟩;exact eq _ _ ⟨a+b+1-(k+1),by omega,Back.here (by simp) (hsc _) (by simp[zmh,ux,AV.sc,AV.scA,AV.scB,AV.scV]) ⟨_,rfl,k+1,by omega,by omega,rfl,rfl,rfl⟩⟩
  ·obtain rfl:k=a+b+1:=by omega
   have eC:¬((a:Int)+(b:Int)+1≤(a:Int)+(b:Int)):=by omega
   simp[ztz,w1,eC];rw[zAH];have fp:=zhT (zsp a b (a+b+1));rw[zAH,zJY]at fp;have fe:(zbI a b (a+b+1)).length=a+b+1:=by simp[zbI]
   refine⟨_,H,[_],rfl,ac _,hs,.one (.frz H.length 0 (a+b+1) (a+b+1) 3 (zbN (zbI a b (a+b+1))).flatten (zbN (zbI a b (a+b+1))) (ac _) (by simp) (by omega) ?_ (by simp[fe]) (λc hc=>?_) (ac _)),hK⟩
   ·rw[bq,ai (by omega)];exact zAe _
   ·obtain⟨z,_,rfl⟩:=aA.1 hc;rfl
theorem zYY(a b:Nat)(ha:a≤6)(hb:b≤6)(H:zaa)(K:Kt)(hK:K (.tup [.sl (zbN (zbI a b (a+b+1))) .none,.bool true]) H):ACalls tP zrZ [.int .i64 a,.int .i64 b] H K:=by
 refine ACalls.out (zYX λhs=>?_);have c1:¬((a:Int)<0):=by omega
 have c2:¬((b:Int)<0):=by omega
 have c3:¬((16:Int)<(a:Int)):=by omega
 have c4:¬((16:Int)<(b:Int)):=by omega
 simp[zGh,c1,c2,c3,c4];refine zOk a b ha hb _ _ ?_;exact⟨⟨rfl,rfl⟩,Out.tup0 (bs:=[.sl (zbN (zbI a b (a+b+1))) .none,.bool true]) hs hK ⟨zaV rfl rfl,zaV rfl rfl,trivial⟩⟩
section
open Go.RowKit
variable {P:Program} {B:Nat} {w:World} {G:Gh} {H:zaa}
theorem HRel.newRow(h:HRel B w G H)(e size cap:Nat)(cur:Array Value)(hc:cap≤maxLen)(hs:cur.size=cap*size):
  Ext B w G (w.alloc (.cells cur e)) ⟨G.L,G.μ++[.own (.slice (some ⟨w.heap.size,0,none⟩) 0 cap) size 0]⟩∧HRel B (w.alloc (.cells cur e)) ⟨G.L,G.μ++[.own (.slice (some ⟨w.heap.size,0,none⟩) 0 cap) size 0]⟩ (H++[.perm e size 0]):=by
 have he:=Ext.alloc h (.cells cur e) G.L (λ_ _=>rfl) [.own (.slice (some ⟨w.heap.size,0,none⟩) 0 cap) size 0];have split:∀(id:Nat) gi,(G.μ++[GI.own (.slice (some ⟨w.heap.size,0,none⟩) 0 cap) size 0])[id]?=some gi→G.μ[id]?=some gi∨(id=G.μ.length∧gi=.own (.slice (some ⟨w.heap.size,0,none⟩) 0 cap) size 0):=by
  intro id gi hg;by_cases ei:id<G.μ.length
  ·rw[List.getElem?_append_left ei]at hg;exact .inl hg
  ·have eW:=(List.getElem?_eq_some_iff.1 hg).1;simp at eW;have:id=G.μ.length:=by omega
   subst this;simp at hg;exact .inr ⟨rfl,hg.symm⟩
 refine⟨he,by simp[h.len],?_,?_,λb hb=>?_,?_,?_⟩
 ·intro id ab gi h1 h2;rcases split id gi h2 with h2 | ⟨rfl,rfl⟩
  ·have ei:id<H.length:=by rw[←h.len];exact (List.getElem?_eq_some_iff.1 h2).1
   rw[List.getElem?_append_left ei]at h1;exact(h.ok id ab gi h1 h2).keep he (λb hb=>⟨zcX (h.lt id gi b h2 hb),rfl⟩)
  ·rw[h.len]at h1;simp at h1;subst h1;refine⟨rfl,rfl,⟨[],by simp,.inr ⟨w.heap.size,cap,cur,rfl,h.base,zdE _,bv _,hc,hs,by simp⟩⟩,λb hb=>?_⟩;simp[Value.ownBlock]at hb;subst hb;rw[dZ];exact h.fresh _ (ac _)
 ·intro id id' gi gi' b h1 h2 h3 h4;rcases split id gi h1 with k1 | ⟨e1,e2⟩ <;> rcases split id' gi' h2 with k2 | ⟨e3,e4⟩
  ·exact h.dist id id' gi gi' b k1 k2 h3 h4
  ·rw[e4]at h4;simp[GI.block,Value.ownBlock]at h4;have:=h.lt id gi b k1 h3;omega
  ·rw[e2]at h3;simp[GI.block,Value.ownBlock]at h3;have:=h.lt id' gi' b k2 h4;omega
  ·rw[e1,e3]
 ·rw[zcg]at hb;exact h.fresh b (by omega)
 ·intro id gi b h1 h2;rw[zcg];rcases split id gi h1 with k1 | ⟨e1,e2⟩
  ·have:=h.lt id gi b k1 h2;omega
  ·rw[e2]at h2;simp[GI.block,Value.ownBlock]at h2;omega
 ·rw[zcg];have:=h.base;omega
end
theorem zKJ(n:Nat)(hn:0<n)(l6:n≤1000000)(H:zaa)(K:Kt)(hK:K (.sl [] (.own H.length)) (H++[.perm zaY 2 0])):
  ACalls tP zzz [.snil,.int .i64 n] H K:=by
 rintro B w G ⟨vs⟩ hR hv
 match vs,hv with
 |[v1,v2],⟨h1,h2,_⟩=>
 have h1:v1=.slice none 0 0:=h1;have h2:v2=.int .i64 n:=h2;subst h1 h2;obtain⟨i0,jl,pM,kO,fL⟩:∃i0,tP.info? 28=some i0∧i0.zero=some (.agg #[.int .i64 0,.slice none 0 0])∧i0.size=2∧i0.bytes=32:=⟨_,rfl,rfl,rfl,rfl⟩;refine(Go.Proofs.Any8.slices_Grow_grow zL9 i0 _ jl pM (by omega) none 0 0 n [] w (ac _) (by omega) (by rw[fL];omega) (by omega) (by simp) (λ_=>rfl) (λ_ h=>by cases h)).mono ?_;rintro e w' ⟨rfl,rfl⟩;have gK:=grownCap_ge w (0+n) 0 28;have fO:=grownCap_le_maxLen w (0+n) 0 28 (by simp only[maxLen];omega);obtain⟨hE,hH⟩:=hR.drew (w.drawn+1) (bL _) |>.newRow 28 2 (grownCap w (0+n) 0 28) (([]:List Value).toArray++Builtin.zeroCells (Value.agg #[.int .i64 0,.slice none 0 0]).cells (0+n-0)++Builtin.zeroCells (Value.agg #[.int .i64 0,.slice none 0 0]).cells (grownCap w (0+n) 0 28-(0+n))) fO (by
  simp only[cy,size_zeroCells,bQ,List.length_nil];have:(Value.agg #[.int .i64 0,.slice none 0 0]).cells.size=2:=rfl;rw[this];omega)
 refine⟨_,_,_,_,rfl,(Ext.drew B w G (w.drawn+1) (bL _)).trans hE,hH,?_,hK⟩;refine⟨.slE _ _,_,2,0,?_,ac _,λ_=>⟨rfl,λc hc=>by simp at hc⟩⟩;rw[←hR.len];simp;rfl
theorem zKH(a b:List IT)(ha:0<a.length)(hb:a.length+b.length≤1000000)(H:zaa)(K:Kt)(hK:K (.sl (IT.css (a++b)) .none) H):
  ACalls tP zrh [.sl [[.sl (IT.css a) .none],[.sl (IT.css b) .none]] .full] H K:=by
 refine ACalls.out (zOJ λhs=>?_);have e:∀l:List IT,(IT.css l).length=l.length:=λl=>by simp[IT.css_map]
 have hS:∀c:List IT,∀k:AV→Prop,k (.int .i64 c.length)→zah 1 (.sl (IT.css c) .none) k:=λc k hk=>by simpa[e]using hk
 simp[zCE];let row:Nat→List IT:=λi=>if i=0 then a else b
 let sum:Nat→Nat:=λi=>if i=0 then 0 else if i=1 then a.length else a.length+b.length
 have eA:∀i (hi:i < [[AV.sl (IT.css a) .none],[.sl (IT.css b) .none]].length),[[AV.sl (IT.css a) .none],[.sl (IT.css b) .none]][i]=[.sl (IT.css (row i)) .none]:=λi hi=>by rcases (by simp at hi;omega:i=0∨i=1) with rfl|rfl <;> rfl
 refine zOG (Inv:=λq t3 t11 H'=>∃i:Nat,i≤2∧q=2-i∧t11=.int .i64 i∧t3=.int .i64 (sum i)∧H'=H) 2 ?_ ?_
 ·intro _;exact⟨0,by omega,rfl,rfl,rfl,rfl⟩
 ·rintro q t3 t11 H' ⟨i,hi,rfl,rfl,rfl,rfl⟩ hsc ek eK Kb eq;by_cases ei:i<2
  ·have eC:(i:Int)<2:=by omega
   have fH:(sum i:Int)+(row i).length=sum (i+1):=by rcases (by omega:i=0∨i=1) with rfl|rfl <;> simp[sum,row]
   have fz:sum (i+1)≤1000000:=by rcases (by omega:i=0∨i=1) with rfl|rfl <;> simp[sum] <;> omega
   have iK:¬((sum (i+1):Int)<0):=by omega
   simp[ztH,eC,ei,eA,e];rw[fH,zay (by omega) (by omega)];simp[iK,zCF,zCG];rw[zay (by omega) (by omega)];refine eq _ _ ⟨2-(i+1),by omega,Back.at (J:=[]) (H2:=H') (by simp) (by omega) hsc ?_ ⟨_,_,rfl,i+1,by omega,rfl,by simp,rfl,rfl⟩⟩;simp[zmn,AV.sc,AV.scV,AV.scA,AV.scB]
  ·obtain rfl:i=2:=by omega
   simp[ztH];refine zKJ _ (by simp[sum];omega) (by simp[sum];omega) _ _ ?_;let all:Nat→List IT:=λi=>if i=0 then [] else if i=1 then a else a++b
   refine zOF (Inv:=λq t6 t27 H2=>∃i:Nat,i≤2∧q=2-i∧t27=.int .i64 i∧t6=.sl (IT.css (all i)) (.own H'.length)∧H2=H'++[.perm zaY 2 (all i).length]) 2 ?_ ?_
   ·intro _;exact⟨0,by omega,rfl,rfl,rfl,rfl⟩
   ·rintro q t6 t27 H2 ⟨i,hi,rfl,rfl,rfl,rfl⟩ gm i8 mG Kb2 fF;by_cases ei:i<2
    ·have eC:(i:Int)<2:=by omega
     have eO:IT.css (all i)++IT.css (row i)=IT.css (all (i+1)):=by rcases (by omega:i=0∨i=1) with rfl|rfl <;> simp[all,row,IT.css_map]
     have hall2:(all i).length+(row i).length=(all (i+1)).length:=by rcases (by omega:i=0∨i=1) with rfl|rfl <;> simp[all,row]
     have fz:(all (i+1)).length≤1000000:=by rcases (by omega:i=0∨i=1) with rfl|rfl <;> simp[all] <;> omega
     have h2:∀c∈IT.css (row i),c.length=2:=λc hc=>by rw[IT.css_map]at hc;obtain⟨x,_,rfl⟩:=aA.1 hc;simp
     simp[ztG,eC,ei,eA,e,zax,zaM,zaK,ah];rw[eO,hall2,zay (by omega) (by omega)];refine⟨h2,⟨by omega,by omega⟩,?_⟩;refine fF _ _ ⟨2-(i+1),by omega,Back.at (J:=[]) (H2:=H'++[.perm zaY 2 (all (i+1)).length]) (by simp) (by simp) (hs.append (by simp[AB.sc])) ?_ ⟨_,_,rfl,i+1,by omega,rfl,by simp,rfl,rfl⟩⟩;simp[zmm,AV.sc,AV.scV,AV.scA,AV.scB]
    ·obtain rfl:i=2:=by omega
     simp[ztG];exact Out.at (H2:=H') (J:=[.perm zaY 2 (a++b).length]) (by simp[all]) (ac _) hs (.atom (.sl _ _)) rfl rfl (by simpa[all]using hK)
theorem zOQ{d7:List Dat}(hk:zbx d7)(n:Int)(ks:List VT)(ht:(VT.mk 5 n ks).nodes≤1000)(c:Int){ps:List VT}(hp:zbi d7 (.mk 5 n ks) c=some ps)(H:zaa)(K:Kt)(hK:K (.sl (VT.css ps) .none) H):ACalls tP zri [.sl (d7.map Dat.cs) .none,.agg (VT.mk 5 n ks).cs,.int .i64 c] H K:=by
 obtain⟨l,hf⟩:∃lf,zbt d7 (.mk 5 n ks) c=some lf:=by
  cases lP:zbt d7 (.mk 5 n ks) c with
  |none=>simp[zbi,lP]at hp
  |some lf=>exact⟨lf,rfl⟩
 obtain⟨bs,o7,gf,oF,gD,gn,_,jI,_⟩:=zsa hk hf;rw[hp]at gD;obtain rfl:=cT gD;refine ACalls.out (zOO λhs=>?_);obtain⟨f1,f2,f3⟩:=zfM hk;simp[zCK,VT.cs,aa];refine zDO d7 f1 f2 f3 (.mk 5 n ks) ht c _ _ ?_;rw[hf];simp[zcO];refine jI _ _ ?_;simp[ze7];unfold zms;refine ALoop.own 9 za9 3 rfl ?_;have i9:(H++[AB.cells [AV.int IntKind.i64 5,AV.int IntKind.i64 n,AV.sl (VT.css ks) Tok.none]]).length=H.length+1:=by simp
 rw[i9,aq];show zms _ (.sl (VT.css (pick (l.take 0) (bs.take 0))) (.own (H.length+1))) _ _ _ (H++[.cells [.int .i64 5,.int .i64 n,.sl (VT.css ks) .none],.perm za9 3 0]) _;have eH:∀ m,HSc (H++[.cells [.int .i64 5,.int .i64 n,.sl (VT.css ks) .none],.perm za9 3 m]):=λm=>hs.append (by simp[AB.sc,AV.scA,AV.scB]);refine zOM (Inv:=λq t9 t25 H'=>∃ i:Nat,i≤bs.length∧bs.length-i=q∧t25=.int .i64 i∧t9=.sl (VT.css (pick (l.take i) (bs.take i))) (.own (H.length+1)) ∧
  H'=H++[.cells [.int .i64 5,.int .i64 n,.sl (VT.css ks) .none],.perm za9 3 (pick (l.take i) (bs.take i)).length]) bs.length ?_ ?_
 ·intro _;exact⟨0,by omega,rfl,rfl,rfl,rfl⟩
 ·rintro q t9 t25 H' ⟨i,hi,rfl,rfl,rfl,rfl⟩ eE ek eK Kb eq;by_cases ei:i<bs.length
  ·have fh:i<l.length:=by omega
   have eL:=zsb gf fh;have fe:=ziB (l.take i) (bs.take i);rw[aT]at fe;generalize hA:pick (l.take i) (bs.take i)=A at *;have eV:∀ A',A'=pick (l.take (i+1)) (bs.take (i+1))→zmr (.sl (VT.css l) .none) (.sl (VT.css A') (.own (H.length+1))) (.sl (zb2 bs) .none) (.int .i64 bs.length) (.int .i64 i)
     (H++[.cells [.int .i64 5,.int .i64 n,.sl (VT.css ks) .none],.perm za9 3 A'.length]) (Out H.length K) Kb:=by
    rintro A' rfl;simp[zmr,zCL,wi i (by omega)];exact eq _ _ ⟨bs.length-(i+1),by omega,Back.here (by simp) (eH _) (by simp[zmq,ux,AV.sc,AV.scA,AV.scB,AV.scV]) ⟨_,_,rfl,i+1,by omega,rfl,rfl,rfl,rfl⟩⟩
   obtain⟨x1,x2,x3,ew,fJ,fc,fx⟩:=zbk l[i];cases kP:bs[i] with
   |true=>rw[kP,az rfl,aG]at eL;simp[zmp,ze7,ei,zhE,kP];exact eV A eL.symm
   |false=>
    rw[kP]at eL;simp only[aH,aN]at eL;simp[zmp,ze7,ei,fh,zhE,kP];have hpv:∀v:VT,plain v.cs=some v.cs:=λv=>by cases v;rfl
    have eN:VT.css A++[l[i].cs]=VT.css (A++[l[i]]):=by rw[VT.css_map,VT.css_map,aK];rfl
    simp[zaw,zaR,hpv,plain,AV.pd];simp only[zax,zaM,zaK];simp[ah];refine⟨⟨by omega,by omega⟩,?_⟩;rw[eN];have:=eV (A++[l[i]]) eL.symm;rw[aw]at this;exact this
  ·obtain rfl:i=bs.length:=by omega
   rw[←gf,ak,gf,ak];simp[zmp];exact Out.at (b:=.sl (VT.css (pick l bs)) .none) rfl (ac _) hs (.atom (.sl _ _)) rfl rfl hK
theorem zZe:∀(m:Nat) (v:IT),v.nodes≤m→v.nodes≤1000000→∀(H:zaa) (K:Kt),K (.agg v.cs) H→ACalls tP zkM [.agg v.cs] H K:=by
 intro m;induction m with
 |zero=>intro v h;have:=v.nodes_pos;omega
 |succ m ih=>
  intro v hm hb H K hK;obtain⟨n,ks⟩:=v;have fh:=IT.len_le ks;have iK:(IT.mk n ks).nodes=IT.nodesL ks+1:=by simp[IT.nodes]
  refine ACalls.out (zZc λhs=>?_);simp[zGl,IT.cs,zaq,zaJ,AV.known,aa];unfold zpn;refine ALoop.ownC (H.length+2) 1 zaY 2 (cs:=[.int .i64 n,.snil]) (by simp) rfl ?_;have eQ:(H++[AB.cells [.int .i64 n,.sl (IT.css ks) .none],.cells [.int .i64 0,.snil],.cells [.int .i64 n,.snil]]).set (H.length+2) (.cells ([AV.int .i64 n,.snil].set 1 (.sl [] (.own (H++[AB.cells [.int .i64 n,.sl (IT.css ks) .none],.cells [.int .i64 0,.snil],.cells [.int .i64 n,.snil]]).length))))++[.perm zaY 2 0] =
    H++[.cells [.int .i64 n,.sl (IT.css ks) .none],.cells [.int .i64 0,.snil],.cells [.int .i64 n,.sl [] (.own (H.length+3))],.perm zaY 2 0]:=by simp[ah]
  rw[eQ];show zpn (.ptr (H.length+1) 0) (.ptr (H.length+2) 0) (.sl (IT.css ks) .none) (.int .i64 ks.length) (.int .i64 0) _ (Out H.length K);have hsc:∀ i,HSc (H++[.cells [.int .i64 n,.sl (IT.css ks) .none],.cells [.int .i64 0,.snil],.cells [.int .i64 n,.sl (IT.css (ks.take i)) (.own (H.length+3))],.perm zaY 2 i]):=λi=>hs.append (by simp[AB.sc,AV.scA,AV.scB]);refine zZa (Inv:=λq t12 H'=>∃ i:Nat,i≤ks.length∧q=ks.length-i∧t12=.int .i64 i ∧
   H'=H++[.cells [.int .i64 n,.sl (IT.css ks) .none],.cells [.int .i64 0,.snil],.cells [.int .i64 n,.sl (IT.css (ks.take i)) (.own (H.length+3))],.perm zaY 2 i]) ks.length ?_ ?_
  ·intro _;exact⟨0,by omega,by omega,rfl,by simp[IT.css]⟩
  ·rintro q t12 H' ⟨i,hi,rfl,rfl,rfl⟩ eE ek eK Kb eq;by_cases ei:i<ks.length
   ·obtain⟨x,y,ew,hx,hy⟩:=zci ks[i];have fI:=IT.kid_lt (n:=n) ei;simp[zwK,ei,ew,hx,hy];rw[←ew];refine zaD (.agg (ks[i]).cs) (λJ=>ih ks[i] (by omega) (by omega) _ _ ⟨rfl,rfl⟩) ?_;rw[zjH];simp[zax,zaM,zaK,bc hi,AV.known,ah];refine⟨⟨by omega,by omega⟩,?_⟩;rw[zay (by omega) (by omega)];rw[←zy0 ei];refine eq _ _ ⟨ks.length-(i+1),by omega,Back.at (J:=[.cells (ks[i]).cs]) (H2:=H++[.cells [.int .i64 n,.sl (IT.css ks) .none],.cells [.int .i64 0,.snil],.cells [.int .i64 n,.sl (IT.css (ks.take (i+1))) (.own (H.length+3))],.perm zaY 2 (i+1)]) (by simp) (by simp) (hsc _) ?_ ⟨_,rfl,i+1,by omega,rfl,by simp,rfl⟩⟩;simp[zpm,AV.sc,AV.scV,AV.scA,AV.scB]
   ·obtain rfl:i=ks.length:=by omega
    rw[ak]at *;simp[zwK,AV.known,ah];exact Out.at rfl (ac _) hs (WkV.agg (ds:=[.int .i64 n,.sl (IT.css ks) .none]) ⟨.refl _,.sl _ _,trivial⟩) rfl (by simp[AV.scV,AV.scA,AV.scB]) (by simpa[IT.cs]using hK)
theorem zZi(z:Int)(hz:Sm z)(H:zaa)(K:Kt)(hK:K (.agg (zai z)) H):ACalls tP zr1 [.agg (zai z)] H K:=by
 refine ACalls.out (zZh λhs=>?_);have hl:=hz.len;simp[zGm,zdg,aa];refine zgK z (by omega) _ _ ?_;have e:zai z=[.bool (decide (z<0)),.sl (zal (lim z.natAbs)) .none,.sl (zal [1]) .none]:=rfl
 conv=>lhs
 rw[e];refine zlg (decide (z<0)) z.natAbs (by omega) (z:=z) (by by_cases h:z<0 <;> simp[h] <;> omega) _ _ ?_;simp[zdg,aa];exact zcH hs hK
theorem zGj(a:Nat)(ha:Sm (a:Int))(H:zaa)(K:Kt)(hK:K (.int .i64 (if a=0 then 0 else 1)) H):ACalls tP zkL [.agg (zai (a:Int))] H K:=by refine ACalls.out (zY1 λhs=>?_);have hl:=ha.len;simp[zGi,zdg,aa];refine zgK (a:Int) (by omega) _ _ ?_;refine zKD a _ _ ?_;exact Out.int rfl (ac _) hs hK
end Go.Proofs.YtdmamdnkcefmmaaGreatDoor

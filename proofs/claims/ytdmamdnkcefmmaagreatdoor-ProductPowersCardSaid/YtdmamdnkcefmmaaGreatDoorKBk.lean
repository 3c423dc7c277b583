import Derived.Test.YtdmamdnkcefmmaaGreatDoorKOL
import Derived.Test.YtdmamdnkcefmmaaGreatDoorKNum
import Derived.Test.YtdmamdnkcefmmaaGreatDoorProg
import Derived.KernelRfl
import Derived.Test.YtdmamdnkcefmmaaGreatDoorKOH
import Derived.Test.YtdmamdnkcefmmaaGreatDoorAbsU
import Derived.WalkKit
import Derived.BigCall
import Derived.Laws.Externs
import Derived.Laws.Entries
import Derived.Lib.Builder
import Derived.Lib.AppendStr
import Derived.Lib.UnsafeStr
import Derived.Test.YtdmamdnkcefmmaaGreatDoorKN4
import Derived.RegionTactic
import Derived.Test.YtdmamdnkcefmmaaGreatDoorKGR
set_option linter.unusedSimpArgs false
set_option linter.unusedVariables false
set_option maxRecDepth 100000
namespace Go.Proofs.YtdmamdnkcefmmaaGreatDoor
theorem zsH(a:List (IT×Nat))(i:IT)(c:Nat):zaG a++[i.cs++zai (c:Int)]=zaG (a++[(i,c)]):=by simp[zaG,tmC]
theorem zJe{d7:List Dat}(h8:∀D∈d7,D.cons.length≤8){f:Nat}(hQ:zjz d7 f)(hM:zjx d7 f):zpX d7 (f+1):=by
 intro t i j hf iY gE hi hj h6 hn H K hK;obtain⟨k,tn,tks⟩:=t;obtain⟨n,l⟩:=i;obtain⟨n',m⟩:=j;simp only[IT.nodes]at hf hn;refine ACalls.out (zWn λhs=>?_);have f5:(VT.mk k tn tks).cs=[.int .i64 k,.int .i64 tn,.sl (VT.css tks) .none]:=rfl;have jb:(IT.mk n l).cs=[.int .i64 n,.sl (IT.css l) .none]:=rfl;have jO:(IT.mk n' m).cs=[.int .i64 n',.sl (IT.css m) .none]:=rfl;have iC:plain ([.int .i64 0,.snil,.bool false,.snil,.snil]:List AV)=some [.int .i64 0,.sl [] .none,.bool false,.sl [] .none,.sl [] .none]:=rfl;have kH:(H++[AB.cells (VT.mk k tn tks).cs,.cells (IT.mk n l).cs,.cells (IT.mk n' m).cs]).length=H.length+3:=by simp
 have jE:∀c,HSc (H++[AB.cells (VT.mk k tn tks).cs,.cells (IT.mk n l).cs,.cells (IT.mk n' m).cs,.perm zau 5 c]):=λc=>hs.append (by simp[AB.sc,VT.cs,IT.cs,AV.scA,AV.scB]);by_cases k6:k=6
 ·subst k6;have ev:∀(n:Int) (l:List IT),0≤rdV d7 (.mk n l) (.mk 6 tn tks)→n=0∧l.length=tks.length∧rdV d7 (.mk n l) (.mk 6 tn tks)=rdA d7 l tks 0:=λn l h=>by
   rw[rdV]at h ⊢;simp only[VT.kind,VT.kids,a6]at h ⊢;by_cases hn:n=0
   ·by_cases hl:tks.length=l.length
    ·simp[hn,hl]
    ·simp[hn,hl]at h
   ·simp[hn]at h
  obtain⟨i1,i2,i3⟩:=ev n l hi;obtain⟨j1,j2,j3⟩:=ev n' m hj;rw[i3]at hi h6;rw[j3]at hj h6;have iX:=VT.len_le tks;have fa:∀(ts:List VT) (x:VT),x∈ts→x.nodes≤VT.nodesL ts:=by
   intro ts;induction ts with
   |nil=>intro x hx;simp at hx
   |cons t ts ih=>
    intro x hx;simp only[VT.nodesL];rcases aP.1 hx with rfl|hx
    ·omega
    ·have:=ih x hx;omega
  have nY:∀x∈tks,x.nodes≤1000∧za0 d7 0 x=true:=λx hx=>by have:=fa tks x hx;simp only[VT.nodes]at iY;exact⟨by omega,zsO gE x hx⟩
  simp only[VT.nodes]at iY;obtain⟨R,hR⟩:∃R,R=zcs d7 f tks l m:=⟨_,rfl⟩;obtain⟨R1,R2,R3,R4⟩:=zya h8 (f:=f) (ts:=tks) (l:=l) (m:=m) (by omega) i2 j2 hi hj h6;rw[←hR]at R1 R2 R3 R4;have g9:zaT d7 (f+1) (.mk 6 tn tks) (.mk n l) (.mk n' m)=R.map λr=>(.mk 0 r.1,r.2):=by rw[zaT,hR];simp[VT.kind,VT.kids,zaI]
  rw[g9]at hK;simp[zjd,f5,jb,jO,aa];refine hQ tks l m (by omega) i2 j2 (by omega) nY hi hj h6 (by omega) _ _ ?_;rw[←hR];simp;rw[←f5,←jb,←jO];unfold zou;refine ALoop.own 9 zau 5 rfl ?_;rw[kH,aq];show zou (.sl (zaG ((R.take 0).map λr=>(IT.mk 0 r.1,r.2))) (.own (H.length+3))) _ _ _ (H++[AB.cells (VT.mk 6 tn tks).cs,.cells (IT.mk n l).cs,.cells (IT.mk n' m).cs,.perm zau 5 0]) _;refine zWj (Inv:=λq t9 t36 H'=>∃q':Nat,q'≤R.length∧R.length-q'=q∧t36=.int .i64 q'∧t9=.sl (zaG ((R.take q').map λr=>(IT.mk 0 r.1,r.2))) (.own (H.length+3))∧H'=H++[AB.cells (VT.mk 6 tn tks).cs,.cells (IT.mk n l).cs,.cells (IT.mk n' m).cs,.perm zau 5 q']) R.length ?_ ?_
  ·intro _;exact⟨0,by omega,rfl,rfl,rfl,rfl⟩
  ·rintro q t9 t36 H' ⟨q',hq,rfl,rfl,rfl,rfl⟩ nZ lR n5 Kb6 jc;have gp:min q' R.length=q':=by omega
   by_cases iD:q'<R.length
   ·have eL:(R.take (q'+1)).map (λr=>(IT.mk 0 r.1,r.2))=(R.take q').map (λr=>(IT.mk 0 r.1,r.2))++[(IT.mk 0 R[q'].1,R[q'].2)]:=by rw[ae iD];simp only[aK,aF,bx]
    simp[zvT,iD,zaq,zaJ,wi q' (by omega),AV.known,zaw,zaR,plain,AV.pd,zcR,iC];simp only[zax,zaM,zaK];simp[gp,ah];refine⟨⟨by omega,by omega⟩,?_⟩;have n9:zaG (List.take q' (List.map (λr=>(IT.mk 0 r.1,r.2)) R))++[.int .i64 0::.sl (IT.css R[q'].1) .none::zai (R[q'].2:Int)]=zaG ((R.take (q'+1)).map λr=>(IT.mk 0 r.1,r.2)):=by rw[eL,←zsH,bC];rfl
    rw[n9];exact jc _ _ ⟨R.length-(q'+1),by omega,Back.at (J:=[.cells (.sl (IT.css R[q'].1) .none::zai (R[q'].2:Int))]) (H2:=H++[AB.cells (VT.mk 6 tn tks).cs,.cells (IT.mk n l).cs,.cells (IT.mk n' m).cs,.perm zau 5 (q'+1)]) (by simp) (by simp) (jE _) (by simp[zop,ux,AV.sc,AV.scA,AV.scB,AV.scV]) ⟨_,_,rfl,q'+1,by omega,rfl,rfl,rfl,rfl⟩⟩
   ·obtain rfl:q'=R.length:=by omega
    rw[ak];simp[zvT,zgm,zoq];exact Out.at (b:=.sl (zaG (R.map λr=>(IT.mk 0 r.1,r.2))) .none) rfl (ac _) hs (.atom (.sl _ _)) rfl rfl hK
 ·by_cases k7:k=7
  ·subst k7;have ev:∀(n:Int) (l:List IT),0≤rdV d7 (.mk n l) (.mk 7 tn tks)→0≤n∧n≤6∧rdV d7 (.mk n l) (.mk 7 tn tks)=n:=λn l h=>by
    rw[rdV]at h ⊢;simp only[VT.kind,k6,aN,a6]at h ⊢;by_cases hc:0≤n∧n≤6∧l.length=0
    ·rw[az hc];exact⟨hc.1,hc.2.1,rfl⟩
    ·rw[au hc]at h;omega
   obtain⟨i1,i2,i3⟩:=ev n l hi;obtain⟨j1,j2,j3⟩:=ev n' m hj;rw[i3]at hi h6;rw[j3]at hj h6;obtain⟨a,rfl⟩:∃a:Nat,n=a:=⟨n.toNat,by omega⟩;obtain⟨b,rfl⟩:∃b:Nat,n'=b:=⟨n'.toNat,by omega⟩;have g9:zaT d7 (f+1) (.mk 7 tn tks) (.mk a l) (.mk b m)=(zaU a b).filter λp=>p.2 != 0:=by rw[zaT];simp[VT.kind,zaO]
   rw[g9]at hK;simp[zjd,f5,jb,jO,aa];refine zYY a b (by omega) (by omega) _ _ ?_;simp;rw[←f5,←jb,←jO];unfold zos;refine ALoop.own 9 zau 5 rfl ?_;rw[kH,aq];have fe:(zbI a b (a+b+1)).length=a+b+1:=by simp[zbI]
   have iq:(zaU a b).length=a+b+1:=by simp[zaU]
   show zos (.sl (zaG (((zaU a b).take 0).filter λp=>p.2 != 0)) (.own (H.length+3))) _ _ _ (H++[AB.cells (VT.mk 7 tn tks).cs,.cells (IT.mk a l).cs,.cells (IT.mk b m).cs,.perm zau 5 0]) _;refine zWh (Inv:=λq t9 t62 H'=>∃q':Nat,q'≤a+b+1∧a+b+1-q'=q∧t62=.int .i64 q'∧t9=.sl (zaG (((zaU a b).take q').filter λp=>p.2 != 0)) (.own (H.length+3))∧H'=H++[AB.cells (VT.mk 7 tn tks).cs,.cells (IT.mk a l).cs,.cells (IT.mk b m).cs,.perm zau 5 (((zaU a b).take q').filter λp=>p.2 != 0).length]) (a+b+1) ?_ ?_
   ·intro _;exact⟨0,by omega,rfl,rfl,rfl,rfl⟩
   ·rintro q t9 t62 H' ⟨q',hq,rfl,rfl,rfl,rfl⟩ hsc13 hlen13 hsF13 Kb13 iB;by_cases iD:q'<a+b+1
    ·have mQ:q'<(zaU a b).length:=by omega
     have n7:(q':Int)<(a:Int)+(b:Int)+1:=by omega
     have he:(zaU a b)[q']=(.mk (q':Int) [],pcf a b q'):=by simp[zaU]
     have eL:((zaU a b).take (q'+1)).filter (λp=>p.2 != 0)=((zaU a b).take q').filter (λp=>p.2 != 0)++(if pcf a b q'=0 then [] else [(.mk (q':Int) [],pcf a b q')]):=by rw[ae mQ,he,cN];by_cases h0:pcf a b q'=0 <;> simp[h0]
     have fp:(((zaU a b).take q').filter λp=>p.2 != 0).length≤20:=ap (c6 _ _) (by simp;omega);have o6:(zbN (zbI a b (a+b+1)))[q']?=some (zai (pcf a b q':Int)):=by simp[zbN,zbI,iD]
     obtain⟨s,jo⟩:∃s,s=((zaU a b).take q').filter λp=>p.2 != 0:=⟨_,rfl⟩;rw[←jo]at eL fp ⊢;have qT:zaH (λ_=>1) (zaU a b)≤729:=by rw[zaU,zg8];have:=zqe a (by omega) b (by omega) (by omega);unfold zlm at this;refine ap (by simpa using this) (ap (a7 (by omega) (show a+b≤6 by omega)) (by decide))
     have hpc:pcf a b q'≤729:=by have hc:=zeg (af mQ);rw[he]at hc;exact ap hc qT
     have hsmp:pcf a b q'<1000000000 ^ 30:=aD hpc (by decide);simp[zvR,fe,n7,o6,zdg];refine zGj (pcf a b q') (zb0 hsmp) _ _ ?_;by_cases h0:pcf a b q'=0
     ·rw[az h0,aG]at eL;simp[h0,zor,zvU,wi q' (by omega)];have gR:s=List.filter (λp=>p.2 != 0) ((zaU a b).take (q'+1)):=eL.symm;exact iB _ _ ⟨a+b+1-(q'+1),by omega,Back.at (J:=[.cells (zai 0)]) (H2:=H++[AB.cells (VT.mk 7 tn tks).cs,.cells (IT.mk a l).cs,.cells (IT.mk b m).cs,.perm zau 5 s.length]) (by simp) (by simp) (jE _) (by simp[zje,ux,AV.sc,AV.scA,AV.scB,AV.scV]) ⟨_,_,by simp only[fe];rfl,q'+1,by omega,rfl,rfl,by rw[←gR],by rw[←gR]⟩⟩
     ·rw[au h0]at eL;simp[h0,zaq,zaJ,zaw,zaR,plain,AV.pd,AV.known,zcR,iC];simp only[zax,zaM,zaK];simp[ah,zor,zvU,wi q' (by omega)];refine⟨⟨by omega,by omega⟩,?_⟩;have n9:zaG s++[.int .i64 (q':Int)::.sl [] .none::zai (pcf a b q':Int)]=zaG (((zaU a b).take (q'+1)).filter λp=>p.2 != 0):=by rw[eL,←zsH];rfl
      have gw:s.length+1=(((zaU a b).take (q'+1)).filter λp=>p.2 != 0).length:=by rw[eL];simp
      rw[n9,gw];exact iB _ _ ⟨a+b+1-(q'+1),by omega,Back.at (J:=[.cells (zai (pcf a b q':Int))]) (H2:=H++[AB.cells (VT.mk 7 tn tks).cs,.cells (IT.mk a l).cs,.cells (IT.mk b m).cs,.perm zau 5 (((zaU a b).take (q'+1)).filter λp=>p.2 != 0).length]) (by simp) (by simp) (jE _) (by simp[zje,ux,AV.sc,AV.scA,AV.scB,AV.scV]) ⟨_,_,by simp only[fe];rfl,q'+1,by omega,rfl,rfl,rfl,rfl⟩⟩
    ·obtain rfl:q'=a+b+1:=by omega
     rw[ai (by omega)];simp[zvR,zgm,zoq,fe];exact Out.at (b:=.sl (zaG ((zaU a b).filter λp=>p.2 != 0)) .none) rfl (ac _) hs (.atom (.sl _ _)) rfl rfl hK
  ·by_cases k5:k=5
   ·subst k5;have ev:∀(n:Int) (l:List IT),0≤rdV d7 (.mk n l) (.mk 5 tn tks)→n=0∧l.length≤6∧rdV d7 (.mk n l) (.mk 5 tn tks)=rdE d7 l (.mk 5 tn tks) 0:=λn l h=>by
     rw[ziF]at h ⊢;by_cases hc:n=0∧l.length≤6
     ·rw[az hc];exact⟨hc.1,hc.2,rfl⟩
     ·rw[au hc]at h;omega
    obtain⟨i1,i2,i3⟩:=ev n l hi;obtain⟨j1,j2,j3⟩:=ev n' m hj;rw[i3]at hi h6;rw[j3]at hj h6;obtain⟨R,hR⟩:∃R,R=zaW d7 f (.mk 5 tn tks) l m:=⟨_,rfl⟩;obtain⟨R1,R2,R3,R4⟩:=zjF h8 (f:=f) (t:=.mk 5 tn tks) (l:=l) (m:=m) (by omega) hi hj h6;rw[←hR]at R1 R2 R3 R4;have g9:zaT d7 (f+1) (.mk 5 tn tks) (.mk n l) (.mk n' m)=R.map λr=>(.mk 0 r.1,r.2):=by rw[zaT,hR];simp[VT.kind,zaI]
    rw[g9]at hK;simp[zjd,f5,jb,jO,aa];rw[←f5];refine hM (.mk 5 tn tks) l m (by omega) iY gE rfl hi hj h6 (by omega) _ _ ?_;rw[←hR];simp;rw[←jb,←jO];unfold zot;refine ALoop.own 9 zau 5 rfl ?_;rw[kH,aq];show zot (.sl (zaG ((R.take 0).map λr=>(IT.mk 0 r.1,r.2))) (.own (H.length+3))) _ _ _ (H++[AB.cells (VT.mk 5 tn tks).cs,.cells (IT.mk n l).cs,.cells (IT.mk n' m).cs,.perm zau 5 0]) _;refine zWi (Inv:=λq t9 t36 H'=>∃q':Nat,q'≤R.length∧R.length-q'=q∧t36=.int .i64 q'∧t9=.sl (zaG ((R.take q').map λr=>(IT.mk 0 r.1,r.2))) (.own (H.length+3))∧H'=H++[AB.cells (VT.mk 5 tn tks).cs,.cells (IT.mk n l).cs,.cells (IT.mk n' m).cs,.perm zau 5 q']) R.length ?_ ?_
    ·intro _;exact⟨0,by omega,rfl,rfl,rfl,rfl⟩
    ·rintro q t9 t36 H' ⟨q',hq,rfl,rfl,rfl,rfl⟩ nZ lR n5 Kb6 jc;have gp:min q' R.length=q':=by omega
     by_cases iD:q'<R.length
     ·have eL:(R.take (q'+1)).map (λr=>(IT.mk 0 r.1,r.2))=(R.take q').map (λr=>(IT.mk 0 r.1,r.2))++[(IT.mk 0 R[q'].1,R[q'].2)]:=by rw[ae iD];simp only[aK,aF,bx]
      simp[zvS,iD,zaq,zaJ,wi q' (by omega),AV.known,zaw,zaR,plain,AV.pd,zcR,iC];simp only[zax,zaM,zaK];simp[gp,ah];refine⟨⟨by omega,by omega⟩,?_⟩;have n9:zaG (List.take q' (List.map (λr=>(IT.mk 0 r.1,r.2)) R))++[.int .i64 0::.sl (IT.css R[q'].1) .none::zai (R[q'].2:Int)]=zaG ((R.take (q'+1)).map λr=>(IT.mk 0 r.1,r.2)):=by rw[eL,←zsH,bC];rfl
      rw[n9];exact jc _ _ ⟨R.length-(q'+1),by omega,Back.at (J:=[.cells (.sl (IT.css R[q'].1) .none::zai (R[q'].2:Int))]) (H2:=H++[AB.cells (VT.mk 5 tn tks).cs,.cells (IT.mk n l).cs,.cells (IT.mk n' m).cs,.perm zau 5 (q'+1)]) (by simp) (by simp) (jE _) (by simp[zoo,ux,AV.sc,AV.scA,AV.scB,AV.scV]) ⟨_,_,rfl,q'+1,by omega,rfl,rfl,rfl,rfl⟩⟩
     ·obtain rfl:q'=R.length:=by omega
      rw[ak];simp[zvS,zgm,zoq];exact Out.at (b:=.sl (zaG (R.map λr=>(IT.mk 0 r.1,r.2))) .none) rfl (ac _) hs (.atom (.sl _ _)) rfl rfl hK
   ·have g9:zaT d7 (f+1) (.mk k tn tks) (.mk n l) (.mk n' m)=[(.mk 0 [],1)]:=by rw[zaT];simp[VT.kind,k6,k7,k5]
    rw[g9]at hK;have b6:(k == 6)=false:=by simpa using k6
    have b7:(k == 7)=false:=by simpa using k7
    have b5:(k == 5)=false:=by simpa using k5
    simp[zjd,f5,jb,jO,b6,b7,b5,zaq,zaJ,AV.known,aa];refine zeu 1 (by omega) _ _ ?_;simp[zaq,zaJ,zaw,zaR,plain,AV.pd,AV.known,zcR,zax,zaM,zaK];exact Out.at (b:=.sl (zaG [(IT.mk 0 [],1)]) .none) rfl (ac _) hs (.atom (.sl _ _)) rfl rfl hK
theorem zq1{d7:List Dat}(hk:zbx d7)(h8:∀ D∈d7,D.cons.length≤8)(hD:zbz d7=true):∀ f,zpX d7 f∧zjz d7 f∧zjx d7 f
 |0=>⟨λt i j h=>by have:=i.nodes_pos;omega,λts l m h=>by omega,λt l m h=>by omega⟩
 |f+1=>by obtain⟨h1,h2,h3⟩:=zq1 hk h8 hD f;exact⟨zJe h8 h2 h3,zKh h8 h1,zI6 hk h8 hD h2 h3⟩
section
variable (t0 t1 t2 t3 t5 t6 t8 t9 t10 t11 t12 t13 t14 t48 t49 t57 t58 t59:AV) (H:zaa) (K:Kt) (Kb3 Kb4 Kb12:Lt)
def zgj:Nat→List Bool|200010=>rl false [0,5]|12=>rl false [0,1,4,2,6,1,34,2,31]|15=>rl false [0,1,4,2,7,1,33,2,7,3,21]|200017=>rl false [0,5]|_=>[]
noncomputable def zvq:=Tryz.f26.body.getD .skip
noncomputable def zUM:=Tryz.f26.results.toList
def zn1:=t0::ux 4 (t5::t6::ux 6 (t13::ux 34 (t48::t49::ux 31 [])))
def zEN:=zgj 12
noncomputable def zvr:=zar [1,1,1,1,1,1,1,1,0,1,0,0] zvq
def zEL:=zas tP zgj [1,1,1,1,1,1,1,1,0,1,0] zvq (zaB tP zUM K)
def zEM:=ALoop tP zvr (zEL K) (zn1 t0 t5 t6 t13 t48 t49) H
def zn2:=t0::ux 4 (t5::t6::ux 7 (t14::ux 33 (t48::t49::ux 7 (t57::t58::t59::ux 21 []))))
def zUL:=zgj 15
noncomputable def zUI:=zar [1,1,0,0,1,0,1,0,0] zvr
def zUG:=zas tP zgj [1,1,0,0,1,0,1,0] zvr (zbC zEN Kb12 (zEL K))
def zn3:=ALoop tP zUI (zUG K Kb12) (zn2 t0 t5 t6 t14 t48 t49 t57 t58 t59) H
def zvp(t0 t5 t6 t14 t48 t49 t57 t58 t59:AV)(H:zaa)(K:Kt)(Kb12:Lt)(Kb15:Lt):Prop:=zac .lss false t59 t58 λt60=>zag t60 (zak 5 t57 t59 λt61=>zae true 5 t61 H λt62=>zaz [(.int .i64 0),.snil,(.bool false),.snil,.snil] H λt16 H=>zan 5 t16 t62 H λH=>apm H t14 λt63=>apm H t0 λt64=>apu H (zaj true 3 t5 H) λt65=>apu H (zaf 0 t16) λt66=>apu H (zaj true 2 t66 H) λt67=>apu H (zaj true 2 t6 H) λt68=>zaC H (λH K'=>ACalls tP zio [t64,t65,t67,t68] H K') λt69=>apu H (zaf 2 t16) λt70=>apu H (zaj true 3 t70 H) λt71=>zaC H (λH K'=>ACalls tP zrW [t69,t71] H K') λt72=>ACalls tP zin [t63,t72] H λt73 H=>zac .add false t59 (.int .i64 1) λt74=>Kb15 (zn2 t0 t5 t6 t14 t48 t49 t57 t58 t74) H) (zac .add false t49 (.int .i64 1) λt76=>Kb12 (zn1 t0 t5 t6 t14 t48 t76) H)
def zvo:=zac .lss false t49 t48 λt50=>zag t50 (zae true 3 t5 H λt52=>ACalls tP zim [t0,t52] H λt53 H=>zbf t13 λt55=>zaf 5 t55 λt56=>zae false 1 t56 H λt57=>zah 1 t57 λt58=>zn3 t0 t5 t6 t53 t48 t49 t57 t58 (.int .i64 0) H K Kb12) (ACalls tP zkC [t13] H λt78 H=>zaE t78 0 λt79=>zaE t78 1 λt80=>zaF [t79,t80] (K · H))
def zvm:=zav t1 H λt5 H=>zav t2 H λt6 H=>zae true 3 t5 H λt18=>zae true 2 t6 H λt19=>ACalls tP zgS [t0,t18,t19] H λt20 H=>zac .lss false t20 (.int .i64 0) λt22=>zag t22 (zaF [.snil,(.int .i64 1)] (K · H)) (zac .lss false t3 (.int .i64 0) λt24=>zad t24 false H (λK'=>K' t3 H) λt26 H=>zad t24 false H (λK'=>zac .gtr false t26 (.int .i64 6) (K' · H)) λt27 H=>zam t24 (.bool true) t27 λt28=>zag t28 (zaF [.snil,(.int .i64 8)] (K · H)) (zac .mul false t3 t20 λt31=>zac .gtr false t31 (.int .i64 6) λt32=>zag t32 (zaF [.snil,(.int .i64 13)] (K · H)) (zae true 3 t5 H λt35=>ACalls tP zrV [t0,t35] H λt36 H=>zaE t36 0 λt37=>zaE t36 1 λt38=>zaz [(.int .i64 0),.snil] H λt11 H=>zan 2 t11 t37 H λH=>zae true 3 t5 H λt40=>ACalls tP zim [t0,t40] H λt41 H=>apm H t41 λt42=>apu H (zaj true 2 t11 H) λt43=>zaC H (λH K'=>ACalls tP zdv [(.int .i64 1)] H K') λt44=>apu H (zaq [(.int .i64 0),.snil,(.bool false),.snil,.snil] [(0,2),(2,3)] [(0,t43),(1,t44)]) λt45=>apu H (zaw 5 [(.int .i64 0),.snil,(.bool false),.snil,.snil] 1 [(0,t45)]) λt46=>ACalls tP zin [t42,t46] H λt47 H=>zEM t0 t5 t6 t41 t3 (.int .i64 0) H K)))
def zoZ:Nat→List Bool|3=>rl false [3,1,1,1,2,3,15]|_=>[]
noncomputable def zwn:=Tryz.f62.body.getD .skip
noncomputable def zXY:=Tryz.f62.results.toList
def zo0:=ux 3 (t3::ux 1 (t5::ux 2 (t8::t9::t10::ux 15 [])))
def zXW:=zoZ 3
noncomputable def zXU:=zar [1,1,0,1,0,0] zwn
def zXT:=zas tP zoZ [1,1,0,1,0] zwn (zaB tP zXY K)
def zo1:=ALoop tP zXU (zXT K) (zo0 t3 t5 t8 t9 t10) H
def zwm:=zac .lss false t10 t9 λt11=>zag t11 (zak 5 t8 t10 λt12=>zae true 5 t12 H λt13=>zaz [(.int .i64 0),.snil,(.bool false),.snil,.snil] H λt7 H=>zan 5 t7 t13 H λH=>apm H t5 λt14=>apu H (zaf 0 t7) λt15=>apu H (zaj true 2 t15 H) λt16=>apu H (zaf 2 t7) λt17=>apu H (zaj true 3 t17 H) λt18=>apu H (zaj true 3 t3 H) λt19=>zaC H (λH K'=>ACalls tP zfj [t18,t19] H K') λt20=>apu H (zaq [(.int .i64 0),.snil,(.bool false),.snil,.snil] [(0,2),(2,3)] [(0,t16),(1,t20)]) λt21=>apu H (zaw 5 [(.int .i64 0),.snil,(.bool false),.snil,.snil] 1 [(0,t21)]) λt22=>zax zau 5 88 t14 t22 H λt23 H=>apm H t23 λt5=>zac .add false t10 (.int .i64 1) λt24=>Kb3 (zo0 t3 t5 t8 t9 t24) H) (K t5 H)
def zFT:=zav t1 H λt3 H=>zah 1 t0 λt9=>zo1 t3 .snil t0 t9 (.int .i64 0) H K
def zoe:Nat→List Bool|4=>rl false [2,2,7,3,12]|_=>[]
noncomputable def zvD:=Tryz.f30.body.getD .skip
noncomputable def zVA:=Tryz.f30.results.toList
def zof:=ux 2 (t2::t3::ux 7 (t11::t12::t13::ux 12 []))
def zVy:=zoe 4
noncomputable def zVw:=zar [1,1,0,1,0,1,0,0] zvD
def zVv:=zas tP zoe [1,1,0,1,0,1,0] zvD (zaB tP zVA K)
def zoh:=ALoop tP zVw (zVv K) (zof t2 t3 t11 t12 t13) H
def zog:=zae true 2 t3 H λt25=>zan 2 t2 t25 H λH=>zae true 2 t2 H λr0=>K r0 H
def zvC:=zac .lss false t13 t12 λt14=>zag t14 (zak 3 t11 t13 λt15=>zae true 3 t15 H λt16=>zaz [(.int .i64 0),(.int .i64 0),.snil] H λt5 H=>zan 3 t5 t16 H λH=>apu H (zaf 1 t3) λt17=>apu H (zaj false 1 t17 H) λt18=>apu H (zaj true 3 t5 H) λt19=>zaC H (λH K'=>ACalls tP zkA [t19] H K') λt20=>apu H (zaw 2 [(.int .i64 0),.snil] 1 [(0,t20)]) λt21=>zax zaY 2 32 t18 t21 H λt22 H=>apu H (zaf 1 t3) λt23=>zan 1 t23 t22 H λH=>zac .add false t13 (.int .i64 1) λt24=>Kb4 (zof t2 t3 t11 t12 t24) H) (zog t2 t3 H K)
def zE6:=zav t0 H λt1 H=>zaz [(.int .i64 0),.snil] H λt2 H=>zaq [(.int .i64 0),.snil] [(0,1),(1,1)] [] λt6=>zaz [(.int .i64 0),.snil] H λt3 H=>zan 2 t3 t6 H λH=>zaf 0 t1 λt7=>zae false 1 t7 H λt8=>zac .eql false t8 (.int .i64 6) λt9=>zag t9 (zaf 2 t1 λt10=>zae false 1 t10 H λt11=>zah 1 t11 λt12=>zoh t2 t3 t11 t12 (.int .i64 0) H K) (zog t2 t3 H K)
variable {t0 t1 t2 t3 t5 t6 t8 t9 t10 t11 t12 t13 t14 t48 t49 t57 t58 t59} {H} {K} {Kb3 Kb4 Kb12}
theorem zUK:Lo1 (λt59=>zn2 t0 t5 t6 t14 t48 t49 t57 t58 t59) (λt59 H Kb15=>zvp t0 t5 t6 t14 t48 t49 t57 t58 t59 H K Kb12 Kb15) t59 H (zn3 t0 t5 t6 t14 t48 t49 t57 t58 t59 H K Kb12):=lq1 zgj zUL
theorem zUJ:Lo2 (λt13 t49=>zn1 t0 t5 t6 t13 t48 t49) (λt13 t49 H Kb12=>zvo t0 t5 t6 t13 t48 t49 H K Kb12) t13 t49 H (zEM t0 t5 t6 t13 t48 t49 H K):=lq2 zgj zEN
theorem zEO(h:HSc H→zvm t0 t1 t2 t3 H K):ACalls tP zkv [t0,t1,t2,t3] H K:=
 acb zgj Tryz.func26 zvq h
theorem zXV:Lo2 (λt5 t10=>zo0 t3 t5 t8 t9 t10) (λt5 t10 H Kb3=>zwm t3 t5 t8 t9 t10 H K Kb3) t5 t10 H (zo1 t3 t5 t8 t9 t10 H K):=lq2 zoZ zXW
theorem zXX(h:HSc H→zFT t0 t1 H K):ACalls tP zrW [t0,t1] H K:=
 acb zoZ Tryz.func62 zwn h
theorem zVx:Lo1 (λt13=>zof t2 t3 t11 t12 t13) (λt13 H Kb4=>zvC t2 t3 t11 t12 t13 H K Kb4) t13 H (zoh t2 t3 t11 t12 t13 H K):=lq1 zoe zVy
theorem zVz(h:HSc H→zE6 t0 H K):ACalls tP zkA [t0] H K:=
 acb zoe Tryz.func30 zvD h
end
def scl(l:List (IT×Nat))(c:Nat):List (IT×Nat):=l.map λp=>(p.1,p.2*c)
@[simp] theorem yeF(l:List (IT×Nat))(c:Nat):(scl l c).length=l.length:=by simp[scl]
theorem zKt{l:List (IT×Nat)}{c j:Nat}(h:j<l.length):scl (l.take (j+1)) c=scl (l.take j) c++[(l[j].1,l[j].2*c)]:=by rw[ae h];simp only[scl,aK,aF,bx]
theorem zLI(a:List (IT×Nat))(p:IT×Nat):zaG (a++[p])=zaG a++[tmC p]:=by simp[zaG]
theorem zXZ(l:List (IT × Nat))(c:Nat)(hl:l.length≤100000)(hc:Sm (c:Int))(kO:∀ p∈l,Sm (p.2:Int))(H:zaa)(K:Kt)(hK:K (.sl (zaG (scl l c)) .none) H):
  ACalls tP zrW [.sl (zaG l) .none,.agg (zai (c:Int))] H K:=by
 refine ACalls.out (zXX λhs=>?_);simp[zFT,aa];unfold zo1;refine ALoop.own 5 zau 5 rfl ?_;have gS:(H++[AB.cells (zai (c:Int))]).length=H.length+1:=by simp
 rw[gS,aq];show zo1 _ (.sl (zaG (scl (l.take 0) c)) (.own (H.length+1))) _ _ _ (H++[.cells (zai (c:Int)),.perm zau 5 0]) _;have n8:∀n,HSc (H++[.cells (zai (c:Int)),.perm zau 5 n]):=λn=>hs.append (by simp[AB.sc,zfW]);refine zXV (Inv:=λq t5 t10 H'=>∃j:Nat,j≤l.length∧l.length-j=q∧t10=.int .i64 j∧t5=.sl (zaG (scl (l.take j) c)) (.own (H.length+1))∧H'=H++[.cells (zai (c:Int)),.perm zau 5 j]) l.length ?_ ?_
 ·intro _;exact⟨0,by omega,rfl,rfl,rfl,rfl⟩
 ·rintro q t5 t10 H' ⟨j,hj,rfl,rfl,rfl,rfl⟩ eE ek eK Kb eq;by_cases ei:j<l.length
  ·have eL:=zKt (c:=c) ei;have hm:=kO _ (af ei);have gN:(scl (l.take j) c).length=j:=by simp;omega
   generalize hS:scl (l.take j) c=S at *;simp[zwm,ei,zcm,zcn,zcU,aa];refine⟨zcK _,?_⟩;try simp[zcn]
   refine zaD (.agg (zai ((l[j].2*c:Nat):Int))) (λJ=>zjk _ _ hm hc _ _ ⟨by rw[Int.natCast_mul],rfl⟩) ?_;have mM:List.drop 5 (l[j].1.cs++[AV.bool false,.snil,.snil])=[]:=aW (by simp);have gy:plain ([.int .i64 0,.snil,.bool false,.snil,.snil]:List AV)=some [.int .i64 0,.sl [] .none,.bool false,.sl [] .none,.sl [] .none]:=rfl;have jx:∀x∈l[j].1.cs,x.known=true:=am.1 (IT.cs_known l[j].1);have mi:∀x∈zai ((l[j].2*c:Nat):Int),x.known=true:=am.1 (zei _);simp[zaq,zaJ,mM];have mh:l[j].1.cs++zai ((l[j].2:Int)*(c:Int))=tmC (l[j].1,l[j].2*c):=by simp[tmC,Int.natCast_mul]
   rw[mh];simp[zaw,zaR,zgZ,gy];simp only[zax,zaM,zaK];simp[ah,gN,wi j (by omega)];refine⟨⟨by omega,by omega⟩,?_⟩;have n9:zaG S++[tmC (l[j].1,l[j].2*c)]=zaG (scl (l.take (j+1)) c):=by rw[eL,zLI]
   rw[n9];exact eq _ _ ⟨l.length-(j+1),by omega,Back.at (J:=[.cells (tmC l[j])]) (H2:=H++[.cells (zai (c:Int)),.perm zau 5 (j+1)]) (by simp) (by simp) (n8 _) (by simp[zo0,ux,AV.sc,AV.scA,AV.scB,AV.scV]) ⟨_,_,rfl,j+1,by omega,rfl,rfl,rfl,rfl⟩⟩
  ·obtain rfl:j=l.length:=by omega
   rw[ak];simp[zwm];exact Out.at (b:=.sl (zaG (scl l c)) .none) rfl (ac _) hs (.atom (.sl _ _)) rfl rfl hK
def kvS:List (IT × Nat)→Nat→List (List UInt8 × AV)
 |[],_=>[]
 |p::s,k=>(wrI p.1,.int .i64 k)::kvS s (k+1)
theorem zy6{i:IT}(hi:Dig i):∀ (s:List (IT × Nat)) (k:Nat),(∀ p∈s,Dig p.1)→(∀ p∈s,p.1≠i)→zbY (kvS s k) (wrI i)=none∧∀ c,zcQ (kvS s k) (wrI i) (.int .i64 (k+s.length:Nat))=kvS (s++[(i,c)]) k
 |[],k,_,_=>by simp[kvS,zbY,zcQ]
 |p::s,k,h,hn=>by
  have hb:(wrI p.1 == wrI i)=false:=by simp only[cI,ne_eq];intro he;exact hn p (by simp) (zBU (h p (by simp)) hi he)
  obtain⟨h1,h2⟩:=zy6 hi s (k+1) (λq hq=>h q (by simp[hq])) (λq hq=>hn q (by simp[hq]));refine⟨by simp[kvS,zbY,hb,h1],λc=>?_⟩;have:=h2 c;rw[show k+1+s.length=k+(p::s).length by simp;omega]at this;simp[kvS,zcQ,hb]at this ⊢;exact this
theorem zy8{i:IT}(hi:Dig i):∀ (s:List (IT × Nat)) (k j:Nat) (hj:j<s.length),(∀ p∈s,Dig p.1)→(s.map Prod.fst).Nodup→s[j].1=i→zbY (kvS s k) (wrI i)=some (.int .i64 (k+j:Nat))
 |p::s,k,0,hj,h,hn,he=>by simp at he;simp[kvS,zbY,he]
 |p::s,k,j+1,hj,h,hn,he=>by
  simp only[List.getElem_cons_succ]at he;simp only[aF,cv]at hn;have hb:(wrI p.1 == wrI i)=false:=by simp only[cI,ne_eq];intro hh;have:=zBU (h p (by simp)) hi hh;exact hn.1 (by rw[this,←he];exact aA.2 ⟨_,af (by simpa using hj),rfl⟩)
  have:=zy8 hi s (k+1) j (by simpa using hj) (λq hq=>h q (by simp[hq])) hn.2 he;rw[show k+1+j=k+(j+1) by omega]at this;simp[kvS,zbY,hb,this]
theorem zy5:∀ (s s':List (IT × Nat)) (k:Nat),s.map Prod.fst=s'.map Prod.fst→kvS s k=kvS s' k
 |[],[],_,_=>rfl
 |[],_::_,_,h=>by simp at h
 |_::_,[],_,h=>by simp at h
 |p::s,q::s',k,h=>by simp only[aF,cQ]at h;rw[kvS,kvS,h.1,zy5 s s' (k+1) h.2]
theorem zIW(s:List (IT×Nat)){j:Nat}(hj:j<s.length)(c k:Nat):kvS (s.set j (s[j].1,c)) k=kvS s k:=by
 refine zy5 _ _ _ ?_;rw[List.map_set];refine bB (by simp) λn h1 h2=>?_;rw[c9];split
 ·rename_i h;subst h;simp
 ·rfl
theorem zy7{n:Nat}:∀ (s:List (IT × Nat)) (k:Nat),((kvS s k).all λp=>p.2.scV n)=true
 |[],_=>rfl
 |p::s,k=>by rw[kvS,List.all_cons,zy7 s (k+1),ch];simp[AV.scV,AV.scA,AV.scB]
mutual
theorem zsZ:∀ i:IT,(wrI i).length+1≤4*i.nodes
 |.mk n ks=>by
  have:=zlA ks;rw[wrI];simp only[IT.nodes];split
  ·simp;omega
  ·rename_i h;have hl:=IT.len_le ks;simp;omega
theorem zlA:∀ ks:List IT,(zbv ks).length≤4*IT.nodesL ks
 |[]=>by simp[zbv]
 |k::ks=>by have:=zsZ k;have:=zlA ks;rw[zbv];simp only[IT.nodesL,aw,List.length_cons];omega
end
section
open Go.RowKit
set_option maxHeartbeats 1000000 in
set_option maxRecDepth 100000 in
theorem zIe(b:Nat)(w:World)(h0:w.cell? ⟨b,0,none⟩=some (.pointer (some ⟨b,0,none⟩))):
  Calls tP zid #[.pointer (some ⟨b,0,none⟩)] w λe w'=>e=.returned (.tuple #[])∧w'=w:=by
 obtain⟨j,hj⟩:∃j,tP.info? 112=some j:=cJ.1 (by kernel_rfl)
 go_enter Tryz.func169,Tryz.ntmps169
 go_wp2
 rw[Lib.run_neq_ptr_same w _ Tryz.underlying109 hj]
 go_wp2
 go_end0
 exact⟨rfl,rfl⟩
set_option maxHeartbeats 1000000 in
set_option maxRecDepth 100000 in
theorem zId(b:Nat)(w:World)(h0:w.cell? ⟨b,0,none⟩=some (.pointer none))(eS:w.shape? b=some (112,2))(hfz:w.frozen? ⟨b,0,none⟩=false):
  Calls tP zid #[.pointer (some ⟨b,0,none⟩)] w λe w'=>e=.returned (.tuple #[])∧w'=w.setCell ⟨b,0,none⟩ (.pointer (some ⟨b,0,none⟩)):=by
 obtain⟨j,hj⟩:∃j,tP.info? 112=some j:=cJ.1 (by kernel_rfl);have hjs:j.size=2:=by
  have:(tP.info? 112).map (·.size)=some 2:=by kernel_rfl
  rw[hj]at this;simpa using this
 go_enter Tryz.func169,Tryz.ntmps169
 go_wp2
 rw[Lib.run_to_unsafe w ⟨b,0,none⟩ Tryz.underlying109 Tryz.underlying256 hj (by rw[hjs];decide) eS (Nat.zero_lt_succ 1)];simp only[Result.andThen];rw[Oper.upon_value]
 go_wp2
 rw[run_callFunc_extern Tryz.func214 (by kernel_rfl) (by kernel_rfl) (by kernel_rfl) (e:=Extern.AbiNoEscape.same) (by kernel_rfl)];rw[Lib.run_noEscape];simp only[Result.andThen];rw[Oper.upon_value]
 go_wp2
 rw[Lib.run_from_unsafe w ⟨b,0,none⟩ Tryz.underlying256 Tryz.underlying109 hj eS (by kernel_rfl)];simp only[Result.andThen];rw[Oper.upon_value]
 go_wp2
 go_end0
 exact⟨rfl,rfl⟩
set_option maxHeartbeats 2000000 in
set_option maxRecDepth 100000 in
theorem zL6(b:Nat)(s:ByteArray)(v v':Value)(w w1 w2:World)(gk:Calls tP zid #[.pointer (some ⟨b,0,none⟩)] w λe w'=>e=.returned (.tuple #[])∧w'=w1)(fz:w1.heap[b]?=some (.cells #[.pointer (some ⟨b,0,none⟩),v] 112 (0,0)))(hr:∀ ty,(Builtin.append_ #[110,9] ty #[v,.string s]).run tP w1=.ok v' w2)(fD:w2.heap[b]?=some (.cells #[.pointer (some ⟨b,0,none⟩),v] 112 (0,0)))(fR:∃ ao n cap,v'=.slice ao n cap):
  Calls tP zj8 #[.pointer (some ⟨b,0,none⟩),.string s] w λe w'=>e=.returned (.tuple #[.int .i64 s.size,.nilIface])∧w'=w2.setCell ⟨b,1,none⟩ v':=by
 obtain⟨ao,n',cap,rfl⟩:=fR;have c1:w1.cell? ⟨b,1,none⟩=some v:=by rw[Lib.cell_of_heap fz];rfl
 have d1:w2.cell? ⟨b,1,none⟩=some v:=by rw[Lib.cell_of_heap fD];rfl
 have f1:w2.frozen? ⟨b,1,none⟩=false:=Lib.frozen_of_heap fD 1
 go_enter Tryz.func126,Tryz.ntmps126
 go_wp2_with (go_at_call 169;refine gk.mono ?_)
 rintro e w1' ⟨rfl,rfl⟩
 go_wp2_with (at_builtin;refine Go.Proofs.YtdmamdnkcefmmaaGreatDoor.wpList_append_str rfl _ _ 110 9 rfl rfl rfl hr ?_)
 go_wp2
 go_ret2
 exact⟨rfl,rfl⟩
theorem zyf:∃i,tP.info? 5=some i∧i.zero=some (.int .u8 0)∧i.size=1∧i.bytes=1:=by
 obtain⟨i,hi⟩:∃i,tP.info? 5=some i:=cJ.1 (by kernel_rfl);have h1:(tP.info? 5).map (·.size)=some 1:=by kernel_rfl
 have h2:(tP.info? 5).map (·.bytes)=some 1:=by kernel_rfl
 have h3:(tP.info? 5).bind (·.zero)=some (.int .u8 0):=by kernel_rfl
 rw[hi]at h1 h2 h3;exact⟨i,hi,by simpa using h3,by simpa using h1,by simpa using h2⟩
theorem zyr{B:Nat}{w:World}{G:Gh}{H:zaa}(hH:HRel B w G H){id b:Nat}{p c:AV}(hp:p=.nilp∨p=.ptr id 0)(h1:H[id]?=some (.bld 112 [p,c]))(hμ:G.μ[id]?=some (.blk b)):
  ∃ w1 v,Calls tP zid #[.pointer (some ⟨b,0,none⟩)] w (λe w'=>e=.returned (.tuple #[])∧w'=w1)∧Ext B w G w1 G∧HRel B w1 G (H.set id (.bld 112 [.ptr id 0,c])) ∧
   w1.heap[b]?=some (.cells #[.pointer (some ⟨b,0,none⟩),v] 112 (0,0))∧ARel w1 G v c:=by
 obtain⟨hB,hL,⟨vs⟩,hw,hc⟩:=hH.ok id _ _ h1 hμ
 match vs,hc with
 |[vp,v],⟨oz,hv,_⟩=>
  have hvp':vp=.pointer none∨vp=.pointer (some ⟨b,0,none⟩):=by
   rcases hp with rfl|rfl
   ·exact .inl oz
   ·obtain⟨b',k1,k2⟩:=oz;rw[hμ]at k1;cases k1;exact .inr k2
  have ep:=hH.storeB (cs':=[.ptr id 0,c]) (vs':=#[.pointer (some ⟨b,0,none⟩),v]) h1 hμ hw ⟨⟨b,hμ,rfl⟩,hv,trivial⟩;rcases hvp' with rfl|rfl
  ·refine⟨_,v,?_,ep.1,ep.2,setRow_heap w b _ _ _ _ hw,ep.1.arel hv⟩;refine(zId b w (by rw[Lib.cell_of_heap hw];rfl) (by simp[World.shape?,hw]) (Lib.frozen_of_heap hw 0)).mono ?_;rintro e w' ⟨rfl,rfl⟩;refine⟨rfl,?_⟩;rw[setCell_eq_setRow w b 0 _ _ _ _ hw];rfl
  ·refine⟨w,v,zIe b w (by rw[Lib.cell_of_heap hw];rfl),Ext.refl _ _ _,?_,hw,hv⟩;refine hH.reCellB h1 λus hus=>?_
   match us,hus with
   |[u1,u2],⟨k1,k2⟩=>
    refine⟨?_,k2⟩;rcases hp with rfl|rfl
    ·cases oz
    ·exact k1
theorem zHd{H:zaa}{id id2:Nat}{l s:List UInt8}{p:AV}(hp:p=.nilp∨p=.ptr id 0)(h1:H[id]?=some (.bld 112 [p,.sl (bcs l) (.own id2)]))(h2:H[id2]?=some (.perm 5 1 l.length))(hn:l.length+s.length≤140737488355328){K:AV→zaa→Prop}(hK:K (.tup [.int .i64 s.length,.nili]) ((H.set id2 (.perm 5 1 (l.length+s.length))).set id (.bld 112 [.ptr id 0,.sl (bcs (l++s)) (.own id2)]))):
  ACalls tP zj8 [.ptr id 0,.str s] H K:=by
 intro B w G ⟨vs⟩ hH hv
 match vs,hv with
 |[v0,v1],⟨⟨b,hμ,iN⟩,jU,_⟩=>
  have jU:v1=.string ⟨s.toArray⟩:=jU;subst iN jU;obtain⟨w1,v,gk,kZ,gS,oH,pP⟩:=zyr hH hp h1 hμ;obtain⟨hd,v',size,n',hμ2,eP,heq⟩:=pP;have ey:id≠id2:=by rintro rfl;rw[h1]at h2;cases h2
  have oa:(H.set id (.bld 112 [.ptr id 0,.sl (bcs l) (.own id2)]))[id2]?=some (.perm 5 1 l.length):=by rw[List.getElem?_set_ne ey];exact h2
  have eu:=gS.ok id2 _ _ oa hμ2;obtain⟨e5,jq,⟨xs,er⟩,hL2⟩:=eu;subst e5 jq;obtain⟨rfl,eO⟩:=heq (zeC l);have ob:v.ownBlock≠some b:=λh=>ey (gS.dist id id2 _ _ b hμ hμ2 rfl h);have lS:b<w1.heap.size:=gS.lt id _ b hμ rfl;obtain⟨i,hi,hz,eB,fA⟩:=zyf;have mc:maxLen=9223372036854775807:=rfl;have key:∃ v' w2 G2,(∀ ty,(Builtin.append_ #[110,9] ty #[v,.string ⟨s.toArray⟩]).run tP w1=.ok v' w2)∧Ext B w1 G w2 G2 ∧
    HRel B w2 G2 ((H.set id (.bld 112 [.ptr id 0,.sl (bcs l) (.own id2)])).set id2 (.perm 5 1 (l.length+s.length)))∧ARel w2 G2 v' (.sl (bcs (l++s)) (.own id2))∧w2.heap[b]?=w1.heap[b]?:=by
   by_cases hs:s=[]
   ·subst hs;refine⟨v,w1,G,λty=>zJJ Tryz.underlying110 Tryz.underlying9 hi eB er _ rfl,Ext.refl _ _ _,?_,?_,rfl⟩
    ·have:(H.set id (.bld 112 [.ptr id 0,.sl (bcs l) (.own id2)])).set id2 (.perm 5 1 (l.length+([]:List UInt8).length))=H.set id (.bld 112 [.ptr id 0,.sl (bcs l) (.own id2)]):=by
      apply aL;intro k;by_cases hk:k=id2
      ·subst hk;rw[List.getElem?_set_self (List.getElem?_eq_some_iff.1 oa).1,oa];rfl
      ·rw[List.getElem?_set_ne (λh=>hk h.symm)]
     rw[this];exact gS
    ·rw[aG];exact⟨hd,v,1,_,hμ2,eP,heq⟩
   ·have f7:0<s.length:=List.length_pos_iff.2 hs;obtain⟨v',w2,et,eR,eD⟩:=zJI (P:=tP) (ty:=110) (B:=B) Tryz.underlying110 Tryz.underlying9 hi hz eB fA er ⟨s.toArray⟩ (by simpa[ByteArray.size]using f7) (by simp[ByteArray.size];omega) (by simpa[ByteArray.size]using hn) gS.base;have oK:(⟨s.toArray⟩:ByteArray).size=s.length:=rfl;rw[oK]at eR;have hx:All2 (DRel w1 G.L) xs (bcs l).flatten:=zs0 er hd (zeC l) (zfF l);obtain⟨G2,kA,gI,hT⟩:=zk1 gS oa hμ2 er eR eD (zeC s) f7 (zeC l) (zfF l) (zfF s) hx (zHN s);refine⟨v',w2,G2,λty=>et,kA,gI,by rw[←zx7];exact hT,?_⟩;rcases eD with ⟨g,k1,_,k3⟩ | ⟨_,k3⟩
    ·exact k3.block b lS (λh=>ob (by rw[k1,h]))
    ·exact k3.block b lS (by simp)
  obtain⟨v',w2,G2,et,kA,gI,lT,fD⟩:=key;have kj:=fD.trans oH;have hμ':=(kA.blk hμ);obtain⟨pn,kH⟩:=gI.storeB (id:=id) (cs':=[.ptr id 0,.sl (bcs (l++s)) (.own id2)]) (vs':=#[.pointer (some ⟨b,0,none⟩),v']) (by rw[List.getElem?_set_ne (λh=>ey h.symm)];exact List.getElem?_set_self (List.getElem?_eq_some_iff.1 h1).1) hμ' kj ⟨⟨b,hμ',rfl⟩,lT,trivial⟩;refine(zL6 b ⟨s.toArray⟩ v v' w w1 w2 gk oH et kj ?_).mono ?_
  ·obtain⟨jj,_⟩:=lT;generalize bcs (l++s)=cs at jj;cases jj with
   |slE a c=>exact⟨_,_,_,rfl⟩
   |sl=>exact⟨_,_,_,rfl⟩
  ·rintro e w' ⟨rfl,rfl⟩;have eQ:w2.setCell ⟨b,1,none⟩ v'=w2.setRow b #[.pointer (some ⟨b,0,none⟩),v']:=by rw[setCell_eq_setRow w2 b 1 _ _ _ _ kj];rfl
   rw[eQ];refine⟨_,_,_,G2,rfl,(kZ.trans kA).trans pn,?_,?_,hK⟩
   ·rw[dC _ _ ey,bD]at kH;exact kH
   ·exact⟨#[.int .i64 s.length,.nilIface],rfl,rfl,rfl,trivial⟩
theorem zHV:tP.cellsOf 5=1:=by kernel_rfl
set_option maxHeartbeats 2000000 in
set_option maxRecDepth 100000 in
theorem zLw{fr:Nat × Nat}(b g cap n:Nat)(p:Value)(cur:Array Value)(l:List UInt8)(w:World)(h0:l≠[])(oc:w.heap[b]?=some (.cells #[p,.slice (some ⟨g,0,none⟩) l.length cap] 112 (0,0)))(hg:w.heap[g]?=some (.cells cur 5 fr))(fP:l.length≤cap)(ib:cap≤maxLen)(eN:cur.size=cap)(eG:∀ j x,l[j]?=some x→w.cell? ((⟨g,0,none⟩:Addr).add j)=some (.int .u8 x.toNat)):
  Calls tP zis #[.pointer (some ⟨b,0,none⟩)] w λe w'=>e=.returned (.string ⟨l.toArray⟩)∧w'=w.drew.freeze ⟨g,0,none⟩ l.length:=by
 have ik:l.length≠0:=by simpa using h0
 have c1:w.drew.cell? ⟨b,1,none⟩=some (.slice (some ⟨g,0,none⟩) l.length cap):=by have:w.drew.heap[b]?=some (.cells #[p,.slice (some ⟨g,0,none⟩) l.length cap] 112 (0,0)):=oc;rw[Lib.cell_of_heap this];rfl
 have hSD:(Builtin.unsafeSliceData_ #[110] 174 #[.slice (some ⟨g,0,none⟩) l.length cap]).run tP w.drew=.ok (.pointer (some ⟨g,0,none⟩)) w.drew:=
  Lib.run_unsafeSliceData_row _ _ _ _ _ _ (by omega)
 have hUS:(Builtin.unsafeString_ #[174,3] 9 #[.pointer (some ⟨g,0,none⟩),.int .i64 l.length]).run tP w.drew=.ok (.string ⟨l.toArray⟩) (w.drew.freeze ⟨g,0,none⟩ l.length):=by refine Lib.run_unsafeString_row w.drew 174 3 9 5 Tryz.underlying174 zHV g cur.size (by have kr:w.drew.heap[g]?=some (.cells cur 5 fr):=hg;simp[World.shape?,kr]) l h0 (by omega) (by unfold maxLen at ib;omega) ?_;intro j x hx;exact eG j x hx
 go_enter Tryz.func76,Tryz.ntmps76
 go_wp2
 go_region
 all_goals (go_wp2;go_ret;exact⟨rfl,rfl⟩)
theorem zx8{w:World}{L:Nat→Nat}:∀{l:List UInt8} {xs:List Value},All2 (DRel w L) xs (bcs l).flatten→xs=l.map λb=>Value.int .u8 b.toNat
 |[],[],_=>rfl
 |[],_::_,h=>h.elim
 |_::_,[],h=>h.elim
 |c::l,x::xs,⟨fJ,fc⟩=>by cases fJ;rw[aF,zx8 (l:=l) fc]
end
section
variable (t0:AV) (H:zaa) (K:Kt)
def zUu(_:Nat):List Bool:=[]
noncomputable def zUv:=Tryz.f240.body.getD .skip
def zvl:=zac .lss false t0 (.int .i64 10) λt4=>zag t4 (zac .add false t0 (.int .i64 1) λt7=>zaN 0 0 (.str [48,49,50,51,52,53,54,55,56,57,97,98,99,100,101,102,103,104,105,106,107,108,109,110,111,112,113,114,115,116,117,118,119,120,121,122]) (some t0) (some t7) λt8=>K t8 H) (zac .mul false t0 (.int .i64 2) λt10=>zac .mul false t0 (.int .i64 2) λt12=>zac .add false t12 (.int .i64 2) λt13=>zaN 0 0 (.str [48,48,48,49,48,50,48,51,48,52,48,53,48,54,48,55,48,56,48,57,49,48,49,49,49,50,49,51,49,52,49,53,49,54,49,55,49,56,49,57,50,48,50,49,50,50,50,51,50,52,50,53,50,54,50,55,50,56,50,57,51,48,51,49,51,50,51,51,51,52,51,53,51,54,51,55,51,56,51,57,52,48,52,49,52,50,52,51,52,52,52,53,52,54,52,55,52,56,52,57,53,48,53,49,53,50,53,51,53,52,53,53,53,54,53,55,53,56,53,57,54,48,54,49,54,50,54,51,54,52,54,53,54,54,54,55,54,56,54,57,55,48,55,49,55,50,55,51,55,52,55,53,55,54,55,55,55,56,55,57,56,48,56,49,56,50,56,51,56,52,56,53,56,54,56,55,56,56,56,57,57,48,57,49,57,50,57,51,57,52,57,53,57,54,57,55,57,56,57,57]) (some t10) (some t13) λt14=>K t14 H)
def zN4(_:Nat):List Bool:=[]
noncomputable def zN5:=Tryz.f127.body.getD .skip
def zN3:=ACalls tP zzx [t0] H λt4 H=>K t4 H
def zRL(_:Nat):List Bool:=[]
noncomputable def zRM:=Tryz.f170.body.getD .skip
def zRK:=ACalls tP zrE [t0,(.int .i64 10)] H λt4 H=>K t4 H
variable {t0} {H} {K}
theorem zUw(h:HSc H→zvl t0 H K):ACalls tP zrJ [t0] H K:=
 acb zUu Tryz.func240 zUv h
theorem zN6(h:HSc H→zN3 t0 H K):ACalls tP zrb [t0] H K:=
 acb zN4 Tryz.func127 zN5 h
theorem zRN(h:HSc H→zRK t0 H K):ACalls tP zzx [t0] H K:=
 acb zRL Tryz.func170 zRM h
end
section
open Go.RowKit
def small(n:Nat):List UInt8:=if n<10 then [48+UInt8.ofNat n] else [48+UInt8.ofNat (n / 10),48+UInt8.ofNat (n % 10)]
def digs:List UInt8:=[48,49,50,51,52,53,54,55,56,57,97,98,99,100,101,102,103,104,105,106,107,108,109,110,111,112,113,114,115,116,117,118,119,120,121,122]
def pairs:List UInt8:=(List.range 100).flatMap λn=>[48+UInt8.ofNat (n / 10),48+UInt8.ofNat (n % 10)]
theorem zIm:∀n,n<10→(digs.take (n+1)).drop n=small n:=by decide
theorem zJL:∀n,n<100→10≤n→(pairs.take (2*n+2)).drop (2*n)=small n:=by decide
theorem zKP(n:Nat)(hn:n<100)(H:zaa)(K:Kt)(hK:K (.str (small n)) H):ACalls tP zrJ [.int .i64 n] H K:=by
 refine zUw λhs=>?_;by_cases ke:n<10
 ·have:(n:Int)<10:=by omega
  have e1:IntKind.i64.wrap ((n:Int)+1)=((n+1:Nat):Int):=by rw[zay (by omega) (by omega)];omega
  simp[zvl,this];rw[e1];refine⟨by omega,⟨by omega,by omega⟩,?_⟩;have gP:K (.str ((digs.take (n+1)).drop n)) H:=by rw[zIm n ke];exact hK
  rw[Int.toNat_natCast];exact gP
 ·have:¬ (n:Int)<10:=by omega
  have e1:IntKind.i64.wrap ((n:Int)*2)=((2*n:Nat):Int):=by rw[zay (by omega) (by omega)];omega
  have e2:IntKind.i64.wrap (((2*n:Nat):Int)+2)=((2*n+2:Nat):Int):=by rw[zay (by omega) (by omega)];omega
  simp[zvl,this];rw[e1,e2];refine⟨by omega,by omega,⟨by omega,by omega⟩,?_⟩;have gP:K (.str ((pairs.take (2*n+2)).drop (2*n))) H:=by rw[zJL n hn (by omega)];exact hK
  have hp:pairs=[48,48,48,49,48,50,48,51,48,52,48,53,48,54,48,55,48,56,48,57,49,48,49,49,49,50,49,51,49,52,49,53,49,54,49,55,49,56,49,57,50,48,50,49,50,50,50,51,50,52,50,53,50,54,50,55,50,56,50,57,51,48,51,49,51,50,51,51,51,52,51,53,51,54,51,55,51,56,51,57,52,48,52,49,52,50,52,51,52,52,52,53,52,54,52,55,52,56,52,57,53,48,53,49,53,50,53,51,53,52,53,53,53,54,53,55,53,56,53,57,54,48,54,49,54,50,54,51,54,52,54,53,54,54,54,55,54,56,54,57,55,48,55,49,55,50,55,51,55,52,55,53,55,54,55,55,55,56,55,57,56,48,56,49,56,50,56,51,56,52,56,53,56,54,56,55,56,56,56,57,57,48,57,49,57,50,57,51,57,52,57,53,57,54,57,55,57,56,57,57]:=by decide
  rw[hp]at gP;rw[Int.toNat_natCast,Int.toNat_natCast];exact gP
theorem zIP(n:Nat)(hn:n<100)(w:World)(R:World→Prop)(s:ByteArray)(hs:Calls tP zrJ #[.int .i64 n] w λe w'=>e=.returned (.string s)∧R w'):
  Calls tP zrE #[.int .i64 n,.int .i64 10] w λe w'=>e=.returned (.string s)∧R w':=by
 have a1:((0:Int)≤(n:Int)):=by omega
 have a2:((n:Int)<100):=by omega
 go_enter Tryz.func215,Tryz.ntmps215
 go_wp2_with (go_at_call 240;refine hs.mono ?_)
 rintro e w1 ⟨rfl,hR⟩
 go_wp2
 go_ret
 exact⟨rfl,hR⟩
theorem zIQ(n:Nat)(hn:n<100)(H:zaa)(K:Kt)(hK:K (.str (small n)) H):ACalls tP zrE [.int .i64 n,.int .i64 10] H K:=by
 intro B w G ⟨vs⟩ hH hv
 match vs,hv with
 |[v0,v1],⟨h0,h1,_⟩=>
  have h0:v0=.int .i64 n:=h0;have h1:v1=.int .i64 10:=h1;subst h0 h1;have hs:=zKP n hn H (λr H'=>r=.str (small n)∧H'=H) ⟨rfl,rfl⟩ B w G #[.int .i64 n] hH ⟨rfl,trivial⟩;refine(zIP n hn w (λw'=>∃G',Ext B w G w' G'∧HRel B w' G' H) ⟨(small n).toArray⟩ (hs.mono ?_)).mono ?_
  ·rintro e w1 ⟨v,r,H',G',rfl,hE,eU,hT,rfl,rfl⟩;have hT:v=.string ⟨(small n).toArray⟩:=hT;exact⟨by rw[hT],G',hE,eU⟩
  ·rintro e w1 ⟨rfl,G',hE,eU⟩;exact⟨_,.str (small n),_,G',rfl,hE,eU,rfl,hK⟩
theorem zG3(n:Nat)(hn:n<100)(H:zaa)(K:Kt)(hK:K (.str (small n)) H):ACalls tP zrb [.int .i64 n] H K:=
 zN6 λhs=>zRN λhs=>zIQ n hn _ _ hK
end
@[congr] theorem ybt{m:WM}{g:Bool}{H:zaa}{p:(AV→zaa→Prop)→Prop}{k:AV→zaa→Prop}:zdT m g H p k=zdT m g H p k:=rfl
def wb(H:zaa)(id id2:Nat)(l:List UInt8):zaa:=(H.set id2 (.perm 5 1 l.length)).set id (.bld 112 [.ptr id 0,.sl (bcs l) (.own id2)])
structure Wb (H:zaa) (id id2:Nat) (l:List UInt8):Prop where
 ne:id≠id2
 h1:∃p,(p=.nilp∨p=.ptr id 0)∧H[id]?=some (.bld 112 [p,.sl (bcs l) (.own id2)])
 h2:H[id2]?=some (.perm 5 1 l.length)
section
variable {H J:zaa} {id id2:Nat} {l l' s:List UInt8}
theorem Wb.lt1(h:Wb H id id2 l):id<H.length:=by obtain⟨p,_,h⟩:=h.h1;exact(List.getElem?_eq_some_iff.1 h).1
theorem Wb.lt2(h:Wb H id id2 l):id2<H.length:=(List.getElem?_eq_some_iff.1 h.h2).1
@[simp] theorem yeU:(wb H id id2 l).length=H.length:=by simp[wb]
theorem zlz(ey:id≠id2):wb (wb H id id2 l) id id2 l'=wb H id id2 l':=by unfold wb;rw[dC _ _ ey,bD,bD]
theorem Wb.app(h:Wb H id id2 l):Wb (H++J) id id2 l:=by obtain⟨p,hp,h1⟩:=h.h1;exact⟨h.ne,⟨p,hp,by rw[List.getElem?_append_left h.lt1];exact h1⟩,by rw[List.getElem?_append_left h.lt2];exact h.h2⟩
theorem Wb.wb_app(h:Wb H id id2 l):wb (H++J) id id2 l'=wb H id id2 l'++J:=by unfold wb;rw[aM _ _ h.lt2,aM _ _ (by simpa using h.lt1)]
theorem Wb.next(h:Wb H id id2 l):Wb (wb H id id2 l') id id2 l':=by
 refine⟨h.ne,⟨_,.inr rfl,?_⟩,?_⟩
 ·unfold wb;rw[List.getElem?_set_self (by simpa using h.lt1)]
 ·unfold wb;rw[List.getElem?_set_ne h.ne,List.getElem?_set_self h.lt2]
theorem Wb.hsc(h:Wb H id id2 l)(hs:HSc H):HSc (wb H id id2 l'):=by refine HSc.set (HSc.set hs rfl) ?_;have:=h.lt1;have:=h.lt2;simp[AB.sc,AV.scA,AV.scB];try omega
theorem Ws(h:Wb H id id2 l)(hn:l.length+s.length≤140737488355328){K:AV→zaa→Prop}(hK:K (.tup [.int .i64 s.length,.nili]) (wb H id id2 (l++s))):
  ACalls tP zj8 [.ptr id 0,.str s] H K:=by
 obtain⟨p,hp,h1⟩:=h.h1;refine zHd hp h1 h.h2 hn ?_;unfold wb at hK;rwa [aw]at hK
end
section
open Go.RowKit
variable {P:Program} {B:Nat} {w:World} {G:Gh} {H:zaa}
theorem HRel.toFrz(h:HRel B w G H){id e n:Nat}(hn:0<n)(hH:H[id]?=some (.perm e 1 n)):HRel B w G (H.set id (.frz e 1 n)):=by
 refine⟨by simp[h.len],?_,h.dist,h.fresh,h.lt,h.base⟩;intro i ab gi h1 h2;by_cases hi:i=id
 ·subst hi;rw[List.getElem?_set_self (List.getElem?_eq_some_iff.1 hH).1]at h1;cases h1;have eu:=h.ok i _ _ hH h2;cases gi with
  |blk b=>exact eu.elim
  |gap=>exact eu.elim
  |own v s n'=>
   obtain⟨rfl,rfl,⟨xs,gc,hx⟩,hL⟩:=eu;rcases hx with ⟨_,h0⟩|⟨g,cap,cur,rfl,ko,hg,fP,ib,je,jP⟩
   ·omega
   ·exact⟨g,cap,cur,_,rfl,rfl,rfl,hg,ko,hL g rfl,fP,ib,je⟩
 ·rw[List.getElem?_set_ne (λh=>hi h.symm)]at h1;exact h.ok i ab gi h1 h2
theorem ACalls.toFrz{f:FuncId}{args:List AV}{K:Kt}(h:ACalls P f args H λr H'=>∃id e n,0<n∧H'[id]?=some (.perm e 1 n)∧K r (H'.set id (.frz e 1 n))):ACalls P f args H K:=by intro B w G vs hH hv;refine(h B w G vs hH hv).mono λex w' ⟨v,r,H',G',h1,h2,h3,h4,h5⟩=>?_;obtain⟨id,e,n,hn,en,hk⟩:=h5;exact⟨v,r,_,G',h1,h2,h3.toFrz hn en,h4,hk⟩
end
section
open Go.RowKit
theorem zG9{H:zaa}{id id2:Nat}{l:List UInt8}{p:AV}(h0:l≠[])(h1:H[id]?=some (.bld 112 [p,.sl (bcs l) (.own id2)]))(h2:H[id2]?=some (.frz 5 1 l.length)){K:AV→zaa→Prop}(hK:K (.str l) H):ACalls tP zis [.ptr id 0] H K:=by
 intro B w G ⟨vs⟩ hH hv
 match vs,hv with
 |[v0],⟨⟨b,hμ,iN⟩,_⟩=>
  subst iN;obtain⟨hB,hL,⟨us⟩,hw,hc⟩:=hH.ok id _ _ h1 hμ
  match us,hc with
  |[vp,v],⟨oz,⟨hd,v',size,n',hμ2,eP,heq⟩,_⟩=>
   obtain⟨g,cap,cur,fr,e5,jq,fR,k2,k3,k4,k5,k6,k7⟩:=hH.ok id2 _ _ h2 hμ2;subst e5 jq;obtain⟨rfl,eO⟩:=heq (zeC l);have fM:=Ext.drew B w G (w.drawn+1) (bL _);have hHd:=hH.drew (w.drawn+1) (bL _);have ey:bcs l≠[]:=λh=>h0 (by simpa[bcs]using h);obtain⟨b',off,cap',zs,kU,jR,oI,ot,_⟩:=hd.flat ey (zfF l);rw[fR]at kU;simp only[Value.slice.injEq,bK,Addr.mk.injEq]at kU;obtain⟨⟨rfl,rfl,_⟩,_,rfl⟩:=kU;have kQ:zs=l.map λb=>Value.int .u8 b.toNat:=zx8 oI;subst fR;refine(zLw b g cap l.length vp cur l w h0 hw k2 k5 k6 (by omega) ?_).mono ?_
   ·intro j x hj;have:=ot j (.int .u8 x.toNat) (by rw[kQ,List.getElem?_map,hj];rfl);by_cases h0j:j=0
    ·subst h0j;simpa[Addr.add]using this
    ·simpa[Addr.add,h0j]using this
   ·rintro e w' ⟨rfl,rfl⟩;obtain⟨kZ,gS⟩:=hHd.freezeG h2 hμ2 l.length;exact⟨_,(.str l),_,G,rfl,fM.trans kZ,gS,rfl,hK⟩
theorem wpList_append_any{P:Program}{w:World}{eh:Array Oper}{rest:List Oper}{o:Oper}{a:Act}{Q:Exit→Act→World→Prop}(nD:o.guard=none)(sl x:Operand)(t u:TypeId)(ho:o.op=.call { callee:=.builtin .append,args:=#[sl,x],argTypes:=#[t,u] }){v v' xv:Value}{w':World}(hs:a.eval sl=v)(hx:a.eval x=xv)(hr:∀ty,(Builtin.append_ #[t,u] ty #[v,xv]).run P w=.ok v' w')(h:wpList P eh Q rest (a.put o.dst v') w'):wpList P eh Q (o::rest) a w:=by
 refine wpList_plain nD λK hK=>?_;unfold Oper.wp execOp;simp only[ho,resolve,invoke,builtin,Sem.run_bind,Sem.run_pure,Result.andThen_ok,cj,aF,bx,hs,hx,hr];exact hK _ _ h
set_option maxHeartbeats 2000000 in
set_option maxRecDepth 100000 in
theorem zL5(b:Nat)(c:UInt8)(v v':Value)(w w1 w2:World)(gk:Calls tP zid #[.pointer (some ⟨b,0,none⟩)] w λe w'=>e=.returned (.tuple #[])∧w'=w1)(fz:w1.heap[b]?=some (.cells #[.pointer (some ⟨b,0,none⟩),v] 112 (0,0)))(hr:∀ ty,(Builtin.append_ #[110,110] ty #[v,.slice (some ⟨w1.heap.size,0,none⟩) 1 1]).run tP (w1.alloc (.cells #[.int .u8 c.toNat] 5))=.ok v' w2)(fD:w2.heap[b]?=some (.cells #[.pointer (some ⟨b,0,none⟩),v] 112 (0,0)))(fR:∃ ao n cap,v'=.slice ao n cap):
  Calls tP zgM #[.pointer (some ⟨b,0,none⟩),.int .u8 c.toNat] w λe w'=>e=.returned .nilIface∧w'=w2.setCell ⟨b,1,none⟩ v':=by
 obtain⟨ao,n',cap,rfl⟩:=fR;have c1:w1.cell? ⟨b,1,none⟩=some v:=by rw[Lib.cell_of_heap fz];rfl
 have d1:w2.cell? ⟨b,1,none⟩=some v:=by rw[Lib.cell_of_heap fD];rfl
 have f1:w2.frozen? ⟨b,1,none⟩=false:=Lib.frozen_of_heap fD 1
 go_enter Tryz.func128,Tryz.ntmps128
 go_wp2_with (go_at_call 169;refine gk.mono ?_)
 rintro e w1' ⟨rfl,rfl⟩
 go_wp2_with (at_builtin;refine Go.Proofs.YtdmamdnkcefmmaaGreatDoor.wpList_append_any rfl _ _ 110 110 rfl rfl rfl hr ?_)
 go_wp2
 go_ret
 exact⟨rfl,rfl⟩
theorem zHc{H:zaa}{id id2:Nat}{l:List UInt8}{c:UInt8}{p:AV}(hp:p=.nilp∨p=.ptr id 0)(h1:H[id]?=some (.bld 112 [p,.sl (bcs l) (.own id2)]))(h2:H[id2]?=some (.perm 5 1 l.length))(hn:l.length+1≤140737488355328){K:AV→zaa→Prop}(hK:K .nili ((H.set id2 (.perm 5 1 (l.length+1))).set id (.bld 112 [.ptr id 0,.sl (bcs (l++[c])) (.own id2)]))):
  ACalls tP zgM [.ptr id 0,.int .u8 c.toNat] H K:=by
 intro B w G ⟨vs⟩ hH hv
 match vs,hv with
 |[v0,v1],⟨⟨b,hμ,iN⟩,jU,_⟩=>
  have jU:v1=.int .u8 c.toNat:=jU;subst iN jU;obtain⟨w1,v,gk,kZ,gS,oH,hva0⟩:=zyr hH hp h1 hμ;obtain⟨qW,po⟩:=gS.other (.cells #[.int .u8 c.toNat] 5);have pP:=qW.arel hva0;obtain⟨W,hW⟩:∃W,W=w1.alloc (.cells #[.int .u8 c.toNat] 5):=⟨_,rfl⟩;rw[←hW]at qW po pP;obtain⟨hd,v',size,n',hμ2,eP,heq⟩:=pP;have ey:id≠id2:=by rintro rfl;rw[h1]at h2;cases h2
  have oa:(H.set id (.bld 112 [.ptr id 0,.sl (bcs l) (.own id2)]))[id2]?=some (.perm 5 1 l.length):=by rw[List.getElem?_set_ne ey];exact h2
  have eu:=po.ok id2 _ _ oa hμ2;obtain⟨e5,jq,⟨xs,er⟩,hL2⟩:=eu;subst e5 jq;obtain⟨rfl,eO⟩:=heq (zeC l);have ob:v.ownBlock≠some b:=λh=>ey (gS.dist id id2 _ _ b hμ hμ2 rfl h);have lS:b<W.heap.size:=po.lt id _ b hμ rfl;have iV:W.heap[b]?=w1.heap[b]?:=by rw[hW];exact zcX (gS.lt id _ b hμ rfl)
  obtain⟨i,hi,hz,eB,fA⟩:=zyf;have mc:maxLen=9223372036854775807:=rfl;have key:∃ v' w2 G2,(∀ ty,(Builtin.append_ #[110,110] ty #[v,.slice (some ⟨w1.heap.size,0,none⟩) 1 1]).run tP W=.ok v' w2)∧Ext B W G w2 G2 ∧
    HRel B w2 G2 ((H.set id (.bld 112 [.ptr id 0,.sl (bcs l) (.own id2)])).set id2 (.perm 5 1 (l.length+1)))∧ARel w2 G2 v' (.sl (bcs (l++[c])) (.own id2))∧w2.heap[b]?=W.heap[b]?:=by
   have hown0:W.ownsRow B 5 i.size v l.length xs:=by rw[eB];exact er
   obtain⟨v',w2,et,eR,eD⟩:=zk0 (P:=tP) (ty:=110) (t:=110) (B:=B) Tryz.underlying110 hi hz (by rw[eB];rfl) hown0 ⟨w1.heap.size,0,none⟩ 1 1 [.int .u8 c.toNat] (by rw[eB];rfl) (λj u hu=>by
    have hj:j=0:=by have:=(List.getElem?_eq_some_iff.1 hu).1;simp at this;omega
    subst hj;simp at hu;subst hu;rw[hW];show (match (w1.alloc (.cells #[.int .u8 c.toNat] 5)).heap[w1.heap.size]? with|some (.cells c _ _)=>c[0]?|_=>none)=_;rw[zdE];rfl) (λu hu=>by simp at hu;subst hu;rfl) (by omega) (by omega) (by rw[fA];omega) po.base
   rw[eB]at eR;have hx:All2 (DRel W G.L) xs (bcs l).flatten:=zs0 er hd (zeC l) (zfF l);obtain⟨G2,kA,gI,hT⟩:=zk1 po oa hμ2 er eR eD (ys:=bcs [c]) (zeC [c]) (by omega) (zeC l) (zfF l) (zfF [c]) hx ⟨.int _ _,trivial⟩;refine⟨v',w2,G2,λty=>et,kA,gI,by rw[←zx7];exact hT,?_⟩;rcases eD with ⟨g,k1,_,k3⟩|⟨_,k3⟩
   ·exact k3.block b lS (λh=>ob (by rw[k1,h]))
   ·exact k3.block b lS (by simp)
  obtain⟨v',w2,G2,et,kA,gI,lT,fD⟩:=key;have kj:=fD.trans (iV.trans oH);have hμ':=(kA.blk hμ);obtain⟨pn,kH⟩:=gI.storeB (id:=id) (cs':=[.ptr id 0,.sl (bcs (l++[c])) (.own id2)]) (vs':=#[.pointer (some ⟨b,0,none⟩),v']) (by rw[List.getElem?_set_ne (λh=>ey h.symm)];exact List.getElem?_set_self (List.getElem?_eq_some_iff.1 h1).1) hμ' kj ⟨⟨b,hμ',rfl⟩,lT,trivial⟩;rw[hW]at et;refine(zL5 b c v v' w w1 w2 gk oH et kj ?_).mono ?_
  ·obtain⟨jj,_⟩:=lT;generalize bcs (l++[c])=cs at jj;cases jj with
   |slE a c=>exact⟨_,_,_,rfl⟩
   |sl=>exact⟨_,_,_,rfl⟩
  ·rintro e w' ⟨rfl,rfl⟩;have eQ:w2.setCell ⟨b,1,none⟩ v'=w2.setRow b #[.pointer (some ⟨b,0,none⟩),v']:=by rw[setCell_eq_setRow w2 b 1 _ _ _ _ kj];rfl
   rw[eQ];refine⟨_,_,_,G2,rfl,((kZ.trans qW).trans kA).trans pn,?_,?_,hK⟩
   ·rw[dC _ _ ey,bD]at kH;exact kH
   ·rfl
theorem Wy{H:zaa}{id id2:Nat}{l:List UInt8}{c:UInt8}(h:Wb H id id2 l)(hn:l.length+1≤1000000000){K:AV→zaa→Prop}(hK:K .nili (wb H id id2 (l++[c]))):
  ACalls tP zgM [.ptr id 0,.int .u8 c.toNat] H K:=by
 obtain⟨p,hp,h1⟩:=h.h1;refine zHc hp h1 h.h2 (by omega) ?_;unfold wb at hK;rwa [aw]at hK
end
end Go.Proofs.YtdmamdnkcefmmaaGreatDoor

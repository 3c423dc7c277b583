import Derived.Test.YtdmamdnkcefmmaaGreatDoorKMI
import Derived.Test.YtdmamdnkcefmmaaGreatDoorKMG
set_option linter.unusedSimpArgs false
set_option linter.unusedVariables false
set_option maxRecDepth 8000
namespace Go.Proofs.YtdmamdnkcefmmaaGreatDoor
def Gd(s:List (IT×Nat)):Prop:=∀p∈s,p.1.nodes≤1000∧0<p.2
theorem Gd.add{s:List (IT×Nat)}(h:Gd s){i:IT}(hi:i.nodes≤1000)(c:Nat):Gd (za5 s i c):=by
 intro p hp;rcases zjC p hp with ⟨q,hq,he,eP⟩|⟨h0,he,eP⟩
 ·have:=h q hq;rw[←he];omega
 ·rw[he];omega
theorem Gd.nil:Gd []:=λp hp=>by simp at hp
theorem zez{s:List (IT × Nat)}(hG:Gd s)(hN:zaH (λ_=>1) s≤100000)(i:IT)(hi:i.nodes≤1000)(c:Nat)(hc:c≤100000)(id:Nat)(H:zaa)(K:Kt)(en:H[id]?=some (.vec zau 5 s.length (tms s)))(hK:K (.ov id (za5 s i c).length) (H.set id (.vec zau 5 (za5 s i c).length (tms (za5 s i c))))):
  ACalls tP zc2 [.ov id s.length,.agg i.cs,.agg (zai (c:Int))] H K:=by
 have hl:=zeI (λp hp=>(hG p hp).2);refine zX6 s i c hi (λp hp=>⟨(hG p hp).1,(hG p hp).2,?_⟩) (aD hc (by decide)) (by omega) id H K en hK;exact aD (ap (zeg hp) hN) (by decide)
theorem zdD{s:List (IT×Nat)}{β:Type}(h:β→IT×Nat)(L:List β){j:Nat}(hj:j<L.length):zaA s ((L.take (j+1)).map h)=za5 (zaA s ((L.take j).map h)) (h L[j]).1 (h L[j]).2:=by rw[ae hj,aK,aF,bx,zxM]
theorem zey(s L:List (IT×Nat)):zaH (λ_=>1) (zaA s L)=zaH (λ_=>1) s+zaH (λ_=>1) L:=zcl _ _ _
theorem zp8(i:IT)(hi:i.nodes≤1000)(H0:zaa)(B:zaa)(hs:HSc H0)(K:Kt)(hK:K (.sl (zaG [(i,1)]) .none) H0):
  ACalls tP zc2 [.snil,.agg i.cs,.agg (zai 1)] (H0++B) (λr H=>Out H0.length K r H):=by
 refine ACalls.vecA (us:=[.agg i.cs,.agg (zai 1)]) zau 5 ?_;have:=zez (s:=[]) Gd.nil (by simp) i hi 1 (by omega) (H0++B).length (H0++B++[.vec zau 5 0 []]) (λr H=>Out H0.length K r H) (by simp[tms]) ?_
 ·simpa using this
 ·have e:za5 [] i 1=[(i,1)]:=by simp[za5,zbF]
  rw[e];have e2:(H0++B++[AB.vec zau 5 0 []]).set (H0++B).length (.vec zau 5 [(i,1)].length (tms [(i,1)]))=H0++(B++[.vec zau 5 [(i,1)].length (tms [(i,1)])]):=by rw[ah _ _ (ac _)];simp
  rw[e2];exact zkZ [(i,1)] (H0++B).length (by simp) (by rw[←aq];simp) hs hK
theorem zix:∀ x:IT,x.nodes=IT.nodesL (zaI x)+1
 |.mk _ _=>rfl
theorem zha(h:IT→IT)(L:List (IT×Nat)):zaH (λ_=>1) (L.map λw=>(h w.1,w.2))=zaH (λ_=>1) L:=by rw[ziN _ (λ_=>1) h 1 (λx=>by simp),cw]
theorem zcU(p:IT×Nat):List.take 5 (tmC p)=tmC p:=ai (by simp)
theorem zcm(p:IT×Nat):List.take 2 (tmC p)=p.1.cs:=by rw[tmC,bT (by simp)]
theorem zcn(p:IT×Nat):List.take 3 (List.drop 2 (tmC p))=zai (p.2:Int):=by rw[tmC,bN (by simp),ai (by simp[zai])]
theorem zcK(p:IT×Nat):∀x∈tmC p,x.known=true:=am.1 (by rw[tmC,bb,IT.cs_known,zei];rfl)
def hpM(H:zaa)(tn:Int)(tks:List VT)(s:List (IT×Nat)):zaa:=H++[.cells [.int .i64 5,.int .i64 tn,.sl (VT.css tks) .none],.vec zau 5 s.length (tms s)]
theorem zjR{H:zaa}(hs:HSc H){tn:Int}{tks:List VT}{s:List (IT×Nat)}:HSc (hpM H tn tks s):=
 hs.append (by simp only[AB.sc,List.all_cons,List.all_nil,zfr];simp[AV.scA,AV.scB])
theorem zqL{H:zaa}{tn:Int}{tks:List VT}{s s':List (IT×Nat)}{J:zaa}:(hpM H tn tks s++J).set (H.length+1) (.vec zau 5 s'.length (tms s'))=hpM H tn tks s'++J:=by simp[hpM,List.set_append]
theorem zqK{H:zaa}{tn:Int}{tks:List VT}{s:List (IT×Nat)}{J:zaa}:(hpM H tn tks s++J)[H.length+1]?=some (.vec zau 5 s.length (tms s)):=by simp[hpM,List.getElem?_append]
@[simp] theorem zIK{H:zaa}{tn:Int}{tks:List VT}{s:List (IT×Nat)}:(hpM H tn tks s).length=H.length+2:=by simp[hpM]
@[simp] theorem yd5{H:zaa}{tn:Int}{tks:List VT}{s:List (IT×Nat)}{c:AB}{J:zaa}:(hpM H tn tks s++c::J)[H.length+2]?=some c:=by rw[←zIK (H:=H) (tn:=tn) (tks:=tks) (s:=s)];simp
@[simp] theorem yd3{H:zaa}{tn:Int}{tks:List VT}{s:List (IT×Nat)}{J:zaa}:(hpM H tn tks s++J)[H.length]?=some (.cells [.int .i64 5,.int .i64 tn,.sl (VT.css tks) .none]):=by simp[hpM,List.getElem?_append]
@[simp] theorem yd4{H:zaa}{tn:Int}{tks:List VT}{s:List (IT×Nat)}:(hpM H tn tks s)[H.length]?=some (.cells [.int .i64 5,.int .i64 tn,.sl (VT.css tks) .none]):=by simp[hpM,List.getElem?_append]
@[simp] theorem yd6{H:zaa}{tn:Int}{tks:List VT}{s:List (IT×Nat)}(h:H.length<(hpM H tn tks s).length):(hpM H tn tks s)[H.length]=.cells [.int .i64 5,.int .i64 tn,.sl (VT.css tks) .none]:=by simp[hpM,List.getElem_append]
theorem zsy(g:List IT→Nat):∀ (l:List (List IT × Nat)) (k:Nat),zbo g (l.take k)≤zbo g l
 |l,0=>by simp
 |[],k+1=>by simp
 |r::l,k+1=>by have:=zsy g l k;simp only[List.take_succ_cons,zf7];omega
theorem zBd(ca:Int)(C:List (IT × Nat)):∀ R:List (List IT × Nat),zaH (λ_=>1) (R.flatMap λr=>C.map λw=>(bef (.mk ca r.1) w.1,r.2*w.2))=zbo (λ_=>1) R*zaH (λ_=>1) C
 |[]=>by simp
 |r::R=>by rw[aZ,zf2,zBd ca C R,zlh,zha (bef (.mk ca r.1)),zf7,a8];simp
theorem zHv(s a b:List (IT×Nat)):zaA s (a++b)=zaA (zaA s a) b:=by simp[zaA]
theorem zxL{s:List (IT×Nat)}(F:List IT×Nat→List (IT×Nat))(R:List (List IT×Nat)){j:Nat}(hj:j<R.length):zaA s ((R.take (j+1)).flatMap F)=zaA (zaA s ((R.take j).flatMap F)) (F R[j]):=by rw[ae hj,bm,zHv,aZ,bZ,aG]
theorem zI7{d7:List Dat}(hk:zbx d7)(h8:∀D∈d7,D.cons.length≤8)(hD:zbz d7=true){f:Nat}(hQ:zjy d7 f)(hM:zjw d7 f):zjw d7 (f+1):=by
 intro t l m hf iY gE nU hl hm h6 hn H K hK;obtain⟨k,tn,tks⟩:=t;simp only[VT.kind]at nU;subst nU;refine ACalls.out (zZ0 λhs=>?_);have f5:(VT.mk 5 tn tks).cs=[.int .i64 5,.int .i64 tn,.sl (VT.css tks) .none]:=rfl;cases l with
 |nil=>
  have e:zaS d7 (f+1) (.mk 5 tn tks) [] m=[(.mk 0 m,1)]:=by rw[zaS]
  rw[e]at hK;simp[zpx,IT.css,zaq,zaJ,zcE,AV.known,f5,aa];refine zeY 1 (by omega) _ _ ?_;exact zp8 (.mk 0 m) (by simp only[IT.nodes,IT.nodesL]at hn ⊢;omega) H [_] hs K hK
 |cons a l=>
  cases m with
  |nil=>
   have e:zaS d7 (f+1) (.mk 5 tn tks) (a::l) []=[(.mk 0 (a::l),1)]:=by rw[zaS]
   rw[e]at hK;have hb:(((l.length:Int)+1) == 0)=false:=by simp;omega
   simp[zpx,zaq,zaJ,zcE,AV.known,f5,hb,aa];refine zeY 1 (by omega) _ _ ?_;exact zp8 (.mk 0 (a::l)) (by simp only[IT.nodes,IT.nodesL]at hn ⊢;omega) H [_] hs K hK
  |cons b m=>
   obtain⟨ca,pa⟩:=a;obtain⟨cb,pb⟩:=b;obtain⟨la,ll,el⟩:=zfl h8 _ _ l hl;obtain⟨mb,mm,em⟩:=zfl h8 _ _ m hm;obtain⟨ca0,ca8,psa,iz,lu,m9,ea⟩:=zeP la;obtain⟨cb0,cb8,psb,lI,gf,nc,eb⟩:=zeP mb;have na:=(IT.mk ca pa).nodes_pos;have nb:=(IT.mk cb pb).nodes_pos;simp only[IT.nodesL]at hf hn;obtain⟨A,hA⟩:∃A,A=zaS d7 f (.mk 5 tn tks) l (.mk cb pb::m):=⟨_,rfl⟩;obtain⟨B,hB⟩:∃B,B=zaS d7 f (.mk 5 tn tks) (.mk ca pa::l) m:=⟨_,rfl⟩;obtain⟨C,hC⟩:∃C,C=zaS d7 f (.mk 5 tn tks) l m:=⟨_,rfl⟩;obtain⟨A1,A2⟩:=(zcC h8 f).2.2 (.mk 5 tn tks) l (.mk cb pb::m) (by simp only[IT.nodesL];omega) ll hm (by omega);obtain⟨B1,B2⟩:=(zcC h8 f).2.2 (.mk 5 tn tks) (.mk ca pa::l) m (by simp only[IT.nodesL];omega) hl mm (by omega);obtain⟨C1,C2⟩:=(zcC h8 f).2.2 (.mk 5 tn tks) l m (by omega) ll mm (by omega);rw[←hA]at A1 A2;rw[←hB]at B1 B2;rw[←hC]at C1 C2;simp only[IT.nodesL]at A1 B1
   replace A2:=ap A2 (zcS (by omega))
   replace B2:=ap B2 (zcS (by omega))
   replace C2:=ap C2 (zcS (by omega))
   have Al:=zeI λp hp=>(A1 p hp).1;have Bl:=zeI λp hp=>(B1 p hp).1;have Cl:=zeI λp hp=>(C1 p hp).1;have fh:=IT.len_le l;have oy:=IT.len_le m;have fz:(((l.length:Int)+1) == 0)=false:=by simp;omega
   have fD:(((m.length:Int)+1) == 0)=false:=by simp;omega
   have mO:∀(x:List IT),∀c∈IT.css x,c.length=2:=λx c hc=>by rw[IT.css_map]at hc;obtain⟨v,_,rfl⟩:=aA.1 hc;simp
   have qQ:∀j≤A.length,Gd (zaA [] ((A.take j).map λw=>(bef (.mk ca pa) w.1,w.2))):=by
    intro j;induction j with
    |zero=>intro _;exact Gd.nil
    |succ j ih=>intro hj;rw[zdD _ _ (show j<A.length by omega)];have:=(A1 A[j] (af (by omega))).2.2.2.2.2.2;exact(ih (by omega)).add (by simp only[bef,IT.nodes,IT.nodesL]at this ⊢;simp only[IT.nodes]at hn;omega) _
   have tl1:(List.take (l.length+1) (IT.css (.mk ca pa::l))).tail=IT.css l:=by simp[IT.css,ai]
   have tl2:(List.take (m.length+1) (IT.css (.mk cb pb::m))).tail=IT.css m:=by simp[IT.css,ai]
   have l7:∀(e:IT) (w:IT),IT.nodesL (zaI w)≤320→e.nodes≤320→(bef e w).nodes≤1000:=λe w h1 h2=>by simp only[bef,IT.nodes,IT.nodesL];omega
   simp[zpx,zaq,zaJ,zcE,AV.known,f5,fz,fD,aa];refine⟨mO _,?_⟩;rw[tl1,←f5];refine zaD (.sl (zaG A) .none) (λJ=>by rw[hA];exact hM _ l (.mk cb pb::m) (by simp only[IT.nodesL];omega) iY gE rfl ll hm (by omega) (by simp only[IT.nodesL];omega) _ _ ⟨rfl,rfl⟩) ?_;simp[aa];unfold zpD;refine ALoop.vec 9 zau 5 rfl ?_;have fS:(H++[AB.cells (VT.mk 5 tn tks).cs]).length=H.length+1:=by simp
   rw[fS,aq];show zpD _ _ _ _ (.ov (H.length+1) (zaA [] ((A.take 0).map λw=>(bef (.mk ca pa) w.1,w.2))).length) _ _ _ (hpM H tn tks (zaA [] ((A.take 0).map λw=>(bef (.mk ca pa) w.1,w.2)))) _;refine zZW (Inv:=λq t9 t44 H'=>∃j:Nat,j≤A.length∧A.length-j=q∧t44=.int .i64 j∧t9=.ov (H.length+1) (zaA [] ((A.take j).map λw=>(bef (.mk ca pa) w.1,w.2))).length∧H'=hpM H tn tks (zaA [] ((A.take j).map λw=>(bef (.mk ca pa) w.1,w.2)))) A.length ?_ ?_
   ·intro _;exact⟨0,by omega,rfl,rfl,rfl,rfl⟩
   ·rintro q t9 t44 H' ⟨j,hj,rfl,rfl,rfl,rfl⟩ hsc7 hlen7 hsF7 Kb7 lK;by_cases eI:j<A.length
    ·have hw:=A1 A[j] (af eI);have qR:=zeg (af eI);have ep:=zdD (s:=[]) (λw:IT × Nat=>(bef (.mk ca pa) w.1,w.2)) A eI;have pj:zaH (λ_=>1) (zaA [] ((A.take j).map λw=>(bef (.mk ca pa) w.1,w.2)))≤729:=by rw[zey,zcw,aC,zha];exact ap (zg9 _ _ _) A2
     have hG:=qQ j (by omega);generalize kG:zaA [] ((A.take j).map λw=>(bef (.mk ca pa) w.1,w.2))=s at *;simp[zwY,eI,zcU,zcm,zcn,wi j (by omega)];refine⟨zcK _,?_⟩;have pk:(bef (.mk ca pa) A[j].1).nodes≤1000:=l7 _ _ (by omega) (by omega);have pl:A[j].1.nodes≤1000:=by have:=hw.2.2.2.2.2.2;have:=zix A[j].1;omega
     refine zaD (.agg (bef (.mk ca pa) A[j].1).cs) (λJ=>zqh _ _ pl _ _ ⟨rfl,rfl⟩) ?_;refine zez hG (by omega) (bef (.mk ca pa) A[j].1) pk A[j].2 (by omega) (H.length+1) _ _ zqK ?_;rw[zqL];exact lK _ _ ⟨A.length-(j+1),by omega,Back.at (J:=[.cells (tmC A[j])]) (H2:=hpM H tn tks (za5 s (bef (.mk ca pa) A[j].1) A[j].2)) rfl (by simp) (zjR hs) (by simp[zpC,ux,AV.sc,AV.scA,AV.scB,AV.scV]) ⟨_,_,rfl,j+1,by omega,rfl,rfl,by rw[ep],by rw[ep]⟩⟩
    ·obtain rfl:j=A.length:=by omega
     rw[ak];obtain⟨s1,e5⟩:∃s1,s1=zaA [] (A.map λw=>(bef (.mk ca pa) w.1,w.2)):=⟨_,rfl⟩;have hG1:Gd s1:=by have:=qQ A.length (ac _);rw[ak,←e5]at this;exact this
     have hN1:zaH (λ_=>1) s1≤729:=by rw[e5,zey,zcw,aC,zha];exact A2
     rw[←e5];have hsB:∀j≤B.length,Gd (zaA s1 ((B.take j).map λw=>(bef (.mk cb pb) w.1,w.2))):=by
      intro j;induction j with
      |zero=>intro _;exact hG1
      |succ j ih=>intro hj;rw[zdD _ _ (show j<B.length by omega)];have:=(B1 B[j] (af (by omega))).2.2.2.2.2.2;exact(ih (by omega)).add (l7 _ _ (by omega) (by omega)) _
     simp[zwY,aa];refine⟨mO _,?_⟩;rw[tl2,←f5];refine zaD (.sl (zaG B) .none) (λJ=>by rw[hB];exact hM _ (.mk ca pa::l) m (by simp only[IT.nodesL];omega) iY gE rfl hl mm (by omega) (by simp only[IT.nodesL];omega) _ _ ⟨rfl,rfl⟩) ?_;simp[aa];show zw0 _ _ _ _ (.ov (H.length+1) (zaA s1 ((B.take 0).map λw=>(bef (.mk cb pb) w.1,w.2))).length) _ _ _ (hpM H tn tks (zaA s1 ((B.take 0).map λw=>(bef (.mk cb pb) w.1,w.2)))) _;refine zZT (Inv:=λq t9 t66 H'=>∃j:Nat,j≤B.length∧B.length-j=q∧t66=.int .i64 j∧t9=.ov (H.length+1) (zaA s1 ((B.take j).map λw=>(bef (.mk cb pb) w.1,w.2))).length∧H'=hpM H tn tks (zaA s1 ((B.take j).map λw=>(bef (.mk cb pb) w.1,w.2)))) B.length ?_ ?_
     ·intro _;exact⟨0,by omega,rfl,rfl,rfl,rfl⟩
     ·rintro q t9 t66 H' ⟨j,hj,rfl,rfl,rfl,rfl⟩ lN hlen12 hsF12 Kb12 lO;by_cases eI:j<B.length
      ·have hw:=B1 B[j] (af eI);have qR:=zeg (af eI);have ep:=zdD (s:=s1) (λw:IT × Nat=>(bef (.mk cb pb) w.1,w.2)) B eI;have pj:zaH (λ_=>1) (zaA s1 ((B.take j).map λw=>(bef (.mk cb pb) w.1,w.2)))≤1500:=by rw[zey,zha];have:=zg9 (λ_=>1) B j;omega
       have hG:=hsB j (by omega);generalize kG:zaA s1 ((B.take j).map λw=>(bef (.mk cb pb) w.1,w.2))=s at *;simp[zpy,eI,zcU,zcm,zcn,wi j (by omega)];refine⟨zcK _,?_⟩;have pk:(bef (.mk cb pb) B[j].1).nodes≤1000:=l7 _ _ (by omega) (by omega);have pl:B[j].1.nodes≤1000:=by have:=hw.2.2.2.2.2.2;have:=zix B[j].1;omega
       refine zaD (.agg (bef (.mk cb pb) B[j].1).cs) (λJ=>zqh _ _ pl _ _ ⟨rfl,rfl⟩) ?_;refine zez hG (by omega) (bef (.mk cb pb) B[j].1) pk B[j].2 (by omega) (H.length+1) _ _ zqK ?_;rw[zqL];exact lO _ _ ⟨B.length-(j+1),by omega,Back.at (J:=[.cells (tmC B[j])]) (H2:=hpM H tn tks (za5 s (bef (.mk cb pb) B[j].1) B[j].2)) rfl (by simp) (zjR hs) (by simp[zpz,ux,AV.sc,AV.scA,AV.scB,AV.scV]) ⟨_,_,rfl,j+1,by omega,rfl,rfl,by rw[ep],by rw[ep]⟩⟩
      ·obtain rfl:j=B.length:=by omega
       rw[ak];obtain⟨s2,fy⟩:∃s2,s2=zaA s1 (B.map λw=>(bef (.mk cb pb) w.1,w.2)):=⟨_,rfl⟩;have hG2:Gd s2:=by have:=hsB B.length (ac _);rw[ak,←fy]at this;exact this
       have hN2:zaH (λ_=>1) s2≤1500:=by rw[fy,zey,zha];omega
       rw[←fy];have fb:∀(s:List (IT×Nat)) (J:zaa),s=zaS d7 (f+1) (.mk 5 tn tks) (.mk ca pa::l) (.mk cb pb::m)→Out H.length K (.ov (H.length+1) s.length) (hpM H tn tks s++J):=by intro s J jo;subst jo;have:=zkZ (H:=H) (J:=[.cells [.int .i64 5,.int .i64 tn,.sl (VT.css tks) .none],.vec zau 5 (zaS d7 (f+1) (.mk 5 tn tks) (.mk ca pa::l) (.mk cb pb::m)).length (tms (zaS d7 (f+1) (.mk 5 tn tks) (.mk ca pa::l) (.mk cb pb::m)))]++J) (K:=K) (zaS d7 (f+1) (.mk 5 tn tks) (.mk ca pa::l) (.mk cb pb::m)) (H.length+1) (by omega) (by simp[List.getElem?_append]) hs hK;simpa[hpM]using this
       by_cases eY:ca=cb
       ·subst eY;have g9:zaS d7 (f+1) (.mk 5 tn tks) (.mk ca pa::l) (.mk ca pb::m)=zaA s2 ((zcj d7 f ((zbi d7 (.mk 5 tn tks) ca).getD []) pa pb).flatMap λr=>C.map λw=>(bef (.mk ca r.1) w.1,r.2*w.2)):=by rw[zaS,au (by simp[zaO]),fy,e5,hA,hB,hC];rfl
        rw[iz]at lI;cases lI;obtain⟨lf,lP⟩:∃lf,zbt d7 (.mk 5 tn tks) ca=some lf:=by
         cases lP:zbt d7 (.mk 5 tn tks) ca with
         |none=>simp[zbi,lP]at iz
         |some lf=>exact⟨lf,rfl⟩
        obtain⟨bs,o7,hlb2,oF,gD,gn,_⟩:=zsa hk lP;rw[iz]at gD;have gJ:psa=pick lf bs:=cT gD;have hpsl:psa.length≤8:=by rw[gJ];have:=ziB lf bs;omega
        have nV:∀x∈psa,x.nodes≤1000∧za0 d7 0 x=true:=λx hx=>by rw[gJ]at hx;have hm:=zgY hx;have:=gn x hm;exact⟨by omega,zqA hD (zBD gE) lP _ hm⟩
        obtain⟨R,hR⟩:∃R,R=zcj d7 f psa pa pb:=⟨_,rfl⟩;obtain⟨R1,R2⟩:=(zcC h8 f).2.1 psa pa pb (by simp only[IT.nodes]at hf;omega) lu.symm gf.symm m9 nc (by omega);rw[←hR]at R1 R2;have C3:=((zcC h8 f).2.2 (.mk 5 tn tks) l m (by omega) ll mm (by omega)).2;rw[←hC]at C3;have hRC:zbo (λ_=>1) R*zaH (λ_=>1) C≤729:=by refine ap (bf R2 C3) ?_;rw[←zk3 (by omega) (by omega)];exact zcS (by omega)
        have hR7:zbo (λ_=>1) R≤729:=ap R2 (zcS (by omega));have Rl:=zqU λp hp=>(R1 p hp).1;rw[iz,Option.getD_some,←hR]at g9;simp[zpy,IT.cs,aa];refine zaD (.tup [.sl (VT.css psa) .none,.bool true]) (λJ=>by
         have:=zB0 d7 hk (.mk 5 tn tks) iY ca (hpM H tn tks s2++J) (λv H'=>v=.tup [.sl (VT.css psa) .none,.bool true]∧H'=hpM H tn tks s2++J) (by rw[iz];exact⟨rfl,rfl⟩);exact this) ?_
        simp;refine⟨mO _,mO _,?_⟩;rw[tl1,tl2,←f5];refine zaD (.sl (zaG C) .none) (λJ=>by rw[hC];exact hM _ l m (by omega) iY gE rfl ll mm (by omega) (by omega) _ _ ⟨rfl,rfl⟩) ?_;refine zaD (.sl (zaL R) .none) (λJ=>by rw[hR];exact hQ psa pa pb (by simp only[IT.nodes]at hf;omega) lu.symm gf.symm (by omega) nV m9 nc (by omega) (by simp only[IT.nodes]at hn;omega) _ _ ⟨rfl,rfl⟩) ?_;simp;obtain⟨F,hF⟩:∃F:List IT×Nat→List (IT×Nat),F=λr=>C.map λw=>(bef (.mk ca r.1) w.1,r.2*w.2):=⟨_,rfl⟩;have hFN:∀L,zaH (λ_=>1) (List.flatMap F L)=zbo (λ_=>1) L*zaH (λ_=>1) C:=λL=>by rw[hF];exact zBd ca C L
        have hFg:∀r∈R,∀(i:Nat) (s:List (IT×Nat)),i≤C.length→Gd s→Gd (zaA s ((C.take i).map λw=>(bef (.mk ca r.1) w.1,r.2*w.2))):=by
         intro r hr i s hi hs;induction i with
         |zero=>exact hs
         |succ i ih=>rw[zdD _ _ (show i<C.length by omega)];have h1:=(R1 r hr).2.2.2.2.2.2;have h2:=(C1 C[i] (af (by omega))).2.2.2.2.2.2;exact(ih (by omega)).add (l7 _ _ (by omega) (by simp only[IT.nodes]at hn ⊢;omega)) _
        have nW:∀j≤R.length,Gd (zaA s2 ((R.take j).flatMap F)):=by
         intro j;induction j with
         |zero=>intro _;exact hG2
         |succ j ih=>intro hj;rw[zxL _ _ (show j<R.length by omega)];have:=hFg R[j] (af (by omega)) C.length _ (ac _) (ih (by omega));rw[ak]at this;rw[hF]at this ⊢;exact this
        show zw1 _ (.ov (H.length+1) (zaA s2 ((R.take 0).flatMap F)).length) _ _ _ _ (hpM H tn tks (zaA s2 ((R.take 0).flatMap F))) _;refine zZU (Inv:=λq t9 t120 H'=>∃j:Nat,j≤R.length∧R.length-j=q∧t120=.int .i64 j∧t9=.ov (H.length+1) (zaA s2 ((R.take j).flatMap F)).length∧H'=hpM H tn tks (zaA s2 ((R.take j).flatMap F))) R.length ?_ ?_
        ·intro _;exact⟨0,by omega,rfl,rfl,rfl,rfl⟩
        ·rintro q t9 t120 H' ⟨j,hj,rfl,rfl,rfl,rfl⟩ hsc21 hlen21 hsF21 Kb21 hKb21;by_cases eI:j<R.length
         ·have hr:=R1 R[j] (af eI);have pm:=zqY (af eI);have ep:=zxL (s:=s2) F R eI;have pj:zaH (λ_=>1) (zaA s2 ((R.take j).flatMap F))≤2300:=by rw[zey,hFN];have:=ar (zaH (λ_=>1) C) (zsy (λ_=>1) R j);omega
          have hG:=nW j (by omega);generalize kG:zaA s2 ((R.take j).flatMap F)=s at *;simp[zwW,eI];obtain⟨cr,nX⟩:∃cr:List AV,cr=.sl (IT.css R[j].1) .none::zai (R[j].2:Int):=⟨_,rfl⟩;have cr1:cr[0]?=some (.sl (IT.css R[j].1) .none):=by rw[nX];rfl
          have cr3:List.take 3 (List.drop 1 cr)=zai (R[j].2:Int):=by rw[nX];simp[ai]
          have crl:cr.length=4:=by rw[nX];simp
          have crs:∀n,cr.all (AV.scA n)=true:=λn=>by rw[nX];simp[AV.scA,AV.scB,zai]
          rw[←nX];have hp24:∀s',HSc (hpM H tn tks s'++[.cells cr]):=λs'=>(zjR hs).append (by simp only[AB.sc,List.all_cons,List.all_nil,crs];rfl);have hat3:∀s' c,(hpM H tn tks s'++[.cells cr,c])[H.length+3]?=some c:=λs' c=>by
           have e:H.length+3=(hpM H tn tks s'++[AB.cells cr]).length:=by simp
           rw[e,show hpM H tn tks s'++[AB.cells cr,c]=(hpM H tn tks s'++[.cells cr])++[c] by simp,List.getElem?_append_right (ac _)];simp
          have jr:=hr.2.2.2.2.2.2;refine zZV (Inv:=λq t9 t126 H'=>∃i:Nat,i≤C.length∧C.length-i=q∧t126=.int .i64 i∧t9=.ov (H.length+1) (zaA s ((C.take i).map λw=>(bef (.mk ca R[j].1) w.1,R[j].2*w.2))).length∧H'=hpM H tn tks (zaA s ((C.take i).map λw=>(bef (.mk ca R[j].1) w.1,R[j].2*w.2)))++[.cells cr]) C.length ?_ ?_
          ·intro _;exact⟨0,by omega,rfl,rfl,rfl,rfl⟩
          ·rintro q t9 t126 H' ⟨i,hi,rfl,rfl,rfl,rfl⟩ hsc24 hlen24 hsF24 Kb24 hKb24;by_cases fg:i<C.length
           ·have hw:=C1 C[i] (af fg);have qR:=zeg (af fg);have hstep2:=zdD (s:=s) (λw:IT × Nat=>(bef (.mk ca R[j].1) w.1,R[j].2*w.2)) C fg;have hprod:R[j].2*C[i].2≤729:=ap (bf pm qR) hRC;have hNi:zaH (λ_=>1) (zaA s ((C.take i).map λw=>(bef (.mk ca R[j].1) w.1,R[j].2*w.2)))≤3100:=by rw[zey,zlh,zha (bef (.mk ca R[j].1))];have:=bf pm (zg9 (λ_=>1) C i);omega
            have hGi:=hFg R[j] (af eI) i s (by omega) hG;generalize hsd2:zaA s ((C.take i).map λw=>(bef (.mk ca R[j].1) w.1,R[j].2*w.2))=s' at *;have iA:Sm (R[j].2:Int):=zb0 (aD (show R[j].2≤729 by omega) (by decide));have kj:Sm (C[i].2:Int):=zb0 (aD (show C[i].2≤729 by omega) (by decide));have cra:∀k,zbA false 1 0 cr k=k (.sl (IT.css R[j].1) .none):=λk=>by rw[nX];simp
            have crt:List.take 3 cr.tail=zai (R[j].2:Int):=by rw[nX];simp[ai]
            have qS:([.int .i64 ca,.sl (IT.css R[j].1) .none]:List AV)=(IT.mk ca R[j].1).cs:=rfl;simp[zwX,fg,zcU,zcm,zcn,hat3,cra,crt,crl,IT.cs,zaq,zaJ,wi i (by omega)];refine⟨zcK _,?_⟩;rw[qS];have pk:(bef (.mk ca R[j].1) C[i].1).nodes≤1000:=l7 _ _ (by omega) (by simp only[IT.nodes]at hn ⊢;omega);have pl:C[i].1.nodes≤1000:=by have:=hw.2.2.2.2.2.2;have:=zix C[i].1;omega
            refine zaD (.agg (bef (.mk ca R[j].1) C[i].1).cs) (λJ=>zqh _ _ pl _ _ ⟨rfl,rfl⟩) ?_;refine zaD (.agg (zai ((R[j].2*C[i].2:Nat):Int))) (λJ=>zhn _ _ iA kj _ _ ⟨by rw[Int.natCast_mul],rfl⟩) ?_;refine zez hGi (by omega) (bef (.mk ca R[j].1) C[i].1) pk (R[j].2*C[i].2) (by omega) (H.length+1) _ _ zqK ?_;rw[zqL];exact hKb24 _ _ ⟨C.length-(i+1),by omega,Back.at (J:=[.cells (tmC C[i])]) (H2:=hpM H tn tks (za5 s' (bef (.mk ca R[j].1) C[i].1) (R[j].2*C[i].2))++[.cells cr]) (by simp) (by simp) (hp24 _) (by simp[zpB,ux,AV.sc,AV.scA,AV.scB,AV.scV]) ⟨_,_,rfl,i+1,by omega,rfl,rfl,by rw[hstep2],by rw[hstep2]⟩⟩
           ·obtain rfl:i=C.length:=by omega
            rw[ak];have hFj:F R[j]=C.map λw=>(bef (.mk ca R[j].1) w.1,R[j].2*w.2):=by rw[hF]
            rw[hFj]at ep;simp[zwX,wi j (by omega)];exact hKb21 _ _ ⟨R.length-(j+1),by omega,Back.at (J:=[.cells cr]) (H2:=hpM H tn tks (zaA s (C.map λw=>(bef (.mk ca R[j].1) w.1,R[j].2*w.2)))) rfl (by simp) (zjR hs) (by simp[zpA,ux,AV.sc,AV.scA,AV.scB,AV.scV]) ⟨_,_,rfl,j+1,by omega,rfl,rfl,by rw[ep],by rw[ep]⟩⟩
         ·obtain rfl:j=R.length:=by omega
          rw[ak];have:=fb (zaA s2 (R.flatMap F)) [] (by rw[g9,hF]);simp[zwW];simpa using this
       ·have g9:zaS d7 (f+1) (.mk 5 tn tks) (.mk ca pa::l) (.mk cb pb::m)=s2:=by rw[zaS,az (by simpa[zaO]using eY),fy,e5,hA,hB]
        have o3:(ca != cb)=true:=by simpa using eY
        have:=fb s2 [] g9.symm;simp[zpy,IT.cs,o3,aa];simpa using this
theorem zhN:∀n,n<13→fct n≤479001600:=by decide
theorem zmA(n:Nat)(hn:n≤12)(H:zaa)(K:Kt)(hK:K (.agg (zai (fct n:Int))) H):ACalls tP zgN [.int .i64 n] H K:=by
 refine ACalls.out (zPd λhs=>?_);simp[zCR,aa];refine zeY 1 (by omega) _ _ ?_;simp[aa,zdg];have hsc:∀z:Int,HSc (H++[.cells [.bool false,.snil,.snil],.cells (zai z)]):=λz=>hs.append (by simp[AB.sc,zai,AV.scA,AV.scB]);refine zPb (Inv:=λq t4 H'=>∃i:Nat,1≤i∧i≤12∧(i≤n∨i=1)∧n-i=q∧t4=.int .i64 ((i+1:Nat):Int)∧H'=H++[.cells [.bool false,.snil,.snil],.cells (zai (fct i:Int))]) (n-1) ?_ ?_
 ·intro _;exact⟨1,by omega,by omega,by omega,rfl,rfl,rfl⟩
 ·rintro q t4 H' ⟨i,hi1,hi2,hi3,rfl,rfl,rfl⟩ eE ek eK Kb eq;by_cases ei:i+1≤n
  ·have eC:((i+1:Nat):Int)≤(n:Int):=by omega
   have lQ:(i:Int)+1≤(n:Int):=by omega
   have hf:=zhN i (by omega);simp[ztM,lQ];refine zaD (.agg (zai ((i+1:Nat):Int))) (λJ=>by
    have:=zeY (i+1) (by omega) (H++[.cells [.bool false,.snil,.snil],.cells (zai (fct i:Int))]++J) (λv H'=>v=.agg (zai ((i+1:Nat):Int))∧H'=H++[.cells [.bool false,.snil,.snil],.cells (zai (fct i:Int))]++J) ⟨rfl,rfl⟩;simpa using this) ?_
   refine zaD (.agg (zai (fct (i+1):Int))) (λJ=>zhn _ _ (zb0 (aD hf (by decide))) (zb0 (aD (show i+1≤13 by omega) (by decide))) _ _ ⟨by rw[fct,Int.natCast_mul,dV],rfl⟩) ?_;have w:IntKind.i64.wrap ((i:Int)+1+1)=((i+1+1:Nat):Int):=by rw[zay (by omega) (by omega)];omega
   simp[aa,zdg,w];exact eq _ _ ⟨n-(i+1),by omega,Back.here (by simp) (hsc _) (by simp[zmz,ux,AV.sc,AV.scA,AV.scB,AV.scV]) ⟨_,rfl,i+1,by omega,by omega,by omega,rfl,by simp;omega,rfl⟩⟩
  ·have lQ:¬ ((i:Int)+1≤(n:Int)):=by omega
   have he:fct i=fct n:=by
    by_cases h:i=n
    ·rw[h]
    ·have:n=0∧i=1:=by omega
     rw[this.1,this.2];rfl
   rw[←he]at hK;simp[ztM,lQ,aa,zdg];exact zcH hs hK
theorem zJP:∀a,a<7→∀b,b<7→∀k,k<13→(k≤a+b∧max a b≤k→(fct k=pcf a b k*(fct (k-a)*fct (k-b)*fct (a+b-k))∧fct (k-a)*fct (k-b)*fct (a+b-k)<1000000000∧0<fct (k-a)*fct (k-b)*fct (a+b-k))):=by
 have:=(by decide +kernel:((List.range 7).all λa=>(List.range 7).all λb=>(List.range 13).all λk=>decide (¬(k≤a+b∧max a b≤k)∨(fct k=pcf a b k*(fct (k-a)*fct (k-b)*fct (a+b-k))∧fct (k-a)*fct (k-b)*fct (a+b-k)<1000000000∧0<fct (k-a)*fct (k-b)*fct (a+b-k))))=true);intro a ha b hb k hk h;have h1:=am.mp this a (bz.mpr ha);have h2:=am.mp h1 b (bz.mpr hb);have h3:=am.mp h2 k (bz.mpr hk);rcases ce h3 with h4|h4
 ·exact absurd h h4
 ·exact h4
def zbN(l:List Nat):List (List AV):=l.map λ(z:Nat)=>zai (z:Int)
@[simp] theorem zJY(l:List Nat):(zbN l).length=l.length:=by simp[zbN]
@[simp] theorem yej{l:List Nat}{i:Nat}(h:i<(zbN l).length):(zbN l)[i]=zai ((l[i]'(by simpa using h):Nat):Int):=by simp[zbN]
def zbI(a b n:Nat):List Nat:=(List.range n).map (pcf a b)
theorem zZM(a b:Nat)(ha:a≤6)(hb:b≤6)(H:zaa)(K:Kt)(hK:K (.tup [.sl (zbN (zbI a b (a+b+1))) .none,.bool true]) H):ACalls tP zr3 [.int .i64 a,.int .i64 b] H K:=by
 refine ACalls.out (zZK λhs=>?_);have c1:¬((a:Int)<0):=by omega
 have c2:¬((b:Int)<0):=by omega
 have c3:¬((16:Int)<(a:Int)):=by omega
 have c4:¬((16:Int)<(b:Int)):=by omega
 simp[zGC,c1,c2,c3,c4];unfold zpw;refine ALoop.own 6 zfK 3 rfl ?_;show zpw (.int .i64 a) (.int .i64 b) (.sl (zbN (zbI a b 0)) (.own H.length)) (.int .i64 0) (H++[.perm zfK 3 0]) _;have hsc:∀n,HSc (H++[.perm zfK 3 n]):=λn=>hs.append (by simp[AB.sc]);refine zZI (Inv:=λq t6 t7 H'=>∃k:Nat,k≤a+b+1∧a+b+1-k=q∧t7=.int .i64 k∧t6=.sl (zbN (zbI a b k)) (.own H.length)∧H'=H++[.perm zfK 3 k]) (a+b+1) ?_ ?_
 ·intro _;exact⟨0,by omega,rfl,rfl,rfl,rfl⟩
 ·rintro q t6 t7 H' ⟨k,hk,rfl,rfl,rfl,rfl⟩ eE ek eK Kb eq;have wab:IntKind.i64.wrap ((a:Int)+(b:Int))=((a+b:Nat):Int):=by rw[zay (by omega) (by omega)];omega
  by_cases ei:k≤a+b
  ·have eC:(k:Int)≤(a:Int)+(b:Int):=by omega
   have fe:(zbI a b k).length=k:=by simp[zbI]
   have ep:zbN (zbI a b k)++[zai (pcf a b k:Int)]=zbN (zbI a b (k+1)):=by simp[zbN,zbI,bU]
   have hj:∀(z:Nat) (J:zaa),z=pcf a b k→zpv (.int .i64 a) (.int .i64 b) (.sl (zbN (zbI a b k)) (.own H.length)) (.int .i64 k) (.ptr (H.length+1) 0) (H++([.perm zfK 3 k,.cells (zai (z:Int))]++J)) (Out H.length K) Kb:=by intro z J hz;subst hz;simp[zpv,zaw,zaR,plain,AV.pd,zcR,wi k (by omega),zdg];simp only[zax,zaM,zaK];simp[fe,ah];refine⟨⟨by omega,by omega⟩,?_⟩;rw[ep];exact eq _ _ ⟨a+b+1-(k+1),by omega,Back.at (J:=.cells (zai (pcf a b k:Int))::J) (H2:=H++[.perm zfK 3 (k+1)]) (by simp) (by simp) (hsc _) (by simp[zpu,ux,AV.sc,AV.scA,AV.scB,AV.scV]) ⟨_,_,rfl,k+1,by omega,rfl,rfl,rfl,rfl⟩⟩
   simp[zwU,wab,eC,aa];refine zeY 0 (by omega) _ _ ?_;have mc:(if (b:Int)>(a:Int) then (b:Int) else (a:Int))=((max a b:Nat):Int):=by split <;> omega
   have mP:(if a<b then (b:Int) else (a:Int))=((max a b:Nat):Int):=by split <;> omega
   simp[aa,zdg,mP];by_cases hm:max a b≤k
   ·obtain⟨d1,d2,d3⟩:=zJP a (by omega) b (by omega) k (by omega) ⟨ei,hm⟩;have hm':((max a b:Nat):Int)≤(k:Int):=by omega
    have w1:IntKind.i64.wrap ((k:Int)-(a:Int))=((k-a:Nat):Int):=by rw[zay (by omega) (by omega)];omega
    have w2:IntKind.i64.wrap ((k:Int)-(b:Int))=((k-b:Nat):Int):=by rw[zay (by omega) (by omega)];omega
    have w3:IntKind.i64.wrap ((a:Int)+(b:Int)-(k:Int))=((a+b-k:Nat):Int):=by rw[zay (by omega) (by omega)];omega
    have f1:=zhN (k-a) (by omega);have f2:=zhN (k-b) (by omega);have f3:=zhN (a+b-k) (by omega);have kp:∀x y:Nat,x*y<1000000000→Sm ((x*y:Nat):Int):=λx y h=>zb0 (dR h (by decide));have jD:∀i:Nat,fct i≤479001600→Sm (fct i:Int):=λi h=>zb0 (aD h (by decide));have p3:0<fct (a+b-k):=by
     rcases Nat.eq_zero_or_pos (fct (a+b-k)) with h|h
     ·rw[h]at d3;omega
     ·exact h
    have d4:fct (k-a)*fct (k-b)<1000000000:=aD (cR _ p3) d2;simp[hm,w1,w2,w3];refine zmA (k-a) (by omega) _ _ ?_;refine zmA (k-b) (by omega) _ _ ?_;refine zhn _ _ (jD _ f1) (jD _ f2) _ _ ?_;refine zmA (a+b-k) (by omega) _ _ ?_;rw[←Int.natCast_mul];refine zhn _ _ (kp _ _ d4) (jD _ f3) _ _ ?_;rw[←Int.natCast_mul];generalize hd:fct (k-a)*fct (k-b)*fct (a+b-k)=d at d1 d2 d3 ⊢;simp[aa,zdg];refine zaD (.agg (zai (fct k:Int))) (λJ=>zmA k (by omega) _ _ ⟨rfl,rfl⟩) ?_;have f4:=zhN k (by omega);refine zaD (.tup [.agg (zai (pcf a b k:Int)),.bool true]) (λJ=>by
     rw[d1]at f4 ⊢;exact zPi (pcf a b k) d (aD f4 (by decide)) d3 d2 _ _ ⟨rfl,rfl⟩) ?_
    simp[aa,zdg];exact hj (pcf a b k) [.cells (zai (d:Int))] rfl
   ·have hz:pcf a b k=0:=by simp[pcf];omega
    have hm':¬(((max a b:Nat):Int)≤(k:Int)):=by omega
    simp[hm];exact hj 0 [] hz.symm
  ·obtain rfl:k=a+b+1:=by omega
   have eC:¬((a:Int)+(b:Int)+1≤(a:Int)+(b:Int)):=by omega
   simp[zwU,wab,eC];exact⟨⟨rfl,rfl⟩,Out.tup (bs:=[.sl (zbN (zbI a b (a+b+1))) .none,.bool true]) hs hK ⟨slV,zaV rfl rfl,trivial⟩⟩
def zbV(out:List (List IT×Nat))(ws:List (IT×Nat)):List (List IT×Nat):=out.flatMap λr=>ws.map λw=>(r.1++[w.1],r.2*w.2)
mutual
def zaT(d7:List Dat):Nat→VT→IT→IT→List (IT × Nat)
 |0,_,_,_=>[]
 | f+1,t,i,j=>if t.kind=6 then (zcs d7 f t.kids (zaI i) (zaI j)).map λr=>(.mk 0 r.1,r.2)
  else if t.kind=7 then (zaU (zaO i).toNat (zaO j).toNat).filter λp=>p.2 != 0
  else if t.kind=5 then (zaW d7 f t (zaI i) (zaI j)).map λr=>(.mk 0 r.1,r.2) else [(.mk 0 [],1)]
def zcs(d7:List Dat):Nat→List VT→List IT→List IT→List (List IT × Nat)
 |0,_,_,_=>[]
 |f+1,ts,l,m=>(List.range ts.length).foldl (λout k=>zbV out (zaT d7 f (ts.getD k tz) (l.getD k d0) (m.getD k d0))) [([],1)]
def zaW(d7:List Dat):Nat→VT→List IT→List IT→List (List IT × Nat)
 |0,_,_,_=>[]
 |f+1,t,[],m=>[(m,1)]
 |f+1,t,a::l,[]=>[(a::l,1)]
 |f+1,t,a::l,b::m=>
  (zaW d7 f t l (b::m)).map (λr=>(a::r.1,r.2))++(zaW d7 f t (a::l) m).map (λr=>(b::r.1,r.2)) ++
   if zaO a=zaO b then (zcs d7 f ((zbi d7 t (zaO a)).getD []) (zaI a) (zaI b)).flatMap λr=>(zaW d7 f t l m).map λx=>(.mk (zaO a) r.1::x.1,r.2*x.2) else []
end
def zat{α:Type}(g:α→Nat)(s:List (α×Nat)):Nat:=(s.map λp=>p.2*g p.1).foldr (·+·) 0
theorem zc6(g:IT→Nat)(s:List (IT×Nat)):zaH g s=zat g s:=rfl
theorem zf3(g:List IT→Nat)(s:List (List IT×Nat)):zbo g s=zat g s:=rfl
section
variable {α β γ:Type}
@[simp] theorem zf5(g:α→Nat):zat g []=0:=rfl
@[simp] theorem zbc(g:α→Nat)(p:α×Nat)(s:List (α×Nat)):zat g (p::s)=p.2*g p.1+zat g s:=rfl
theorem zel(g:α→Nat):∀ a b:List (α × Nat),zat g (a++b)=zat g a+zat g b
 |[],b=>by simp
 |p::a,b=>by rw[List.cons_append,zbc,zbc,zel g a b];omega
theorem zd6(g:β→Nat)(h:α→β):∀ s:List (α × Nat),zat g (s.map λp=>(h p.1,p.2))=zat (λx=>g (h x)) s
 |[]=>rfl
 |p::s=>by rw[aF,zbc,zbc,zd6 g h s]
theorem zsx(g:β→Nat)(h:α→β)(c:Nat):∀ s:List (α × Nat),zat g (s.map λp=>(h p.1,c*p.2))=c*zat (λx=>g (h x)) s
 |[]=>rfl
 |p::s=>by rw[aF,zbc,zbc,zsx g h c s,cH,cV]
theorem zf4(g:γ→Nat)(h:α→β→γ)(ws:List (β × Nat)):∀ s:List (α × Nat),zat g (s.flatMap λr=>ws.map λw=>(h r.1 w.1,r.2*w.2))=zat (λa=>zat (λb=>g (h a b)) ws) s
 |[]=>rfl
 |p::s=>by rw[aZ,zel,zbc,zf4 g h ws s,zsx g (h p.1)]
theorem zBe(g1 g2:α→Nat):∀ s:List (α × Nat),zat (λx=>g1 x+g2 x) s=zat g1 s+zat g2 s
 |[]=>rfl
 |p::s=>by rw[zbc,zbc,zbc,zBe g1 g2 s,cH];omega
theorem zlk(c:Nat)(g:α→Nat):∀ s:List (α × Nat),zat (λx=>c*g x) s=c*zat g s
 |[]=>by simp
 |p::s=>by rw[zbc,zbc,zlk c g s,cH,Nat.mul_left_comm]
theorem zBg:∀ s:List (α × Nat),zat (λ_=>0) s=0
 |[]=>rfl
 |p::s=>by rw[zbc,zBg s];rfl
theorem zBf(h:α→β→Nat)(ws:List (β × Nat)):∀ s:List (α × Nat),zat (λa=>zat (λb=>h a b) ws) s=zat (λb=>zat (λa=>h a b) s) ws
 |[]=>by simp[zBg]
 |p::s=>by
  rw[zbc,zBf h ws s];have:(λb=>zat (λa=>h a b) (p::s))=λb=>p.2*h p.1 b+zat (λa=>h a b) s:=by funext b;rw[zbc]
  rw[this,zBe,zlk]
theorem zlj(g:α→Nat):∀ s:List (α × Nat),zat g (s.filter λp=>p.2 != 0)=zat g s
 |[]=>rfl
 |p::s=>by
  rw[cG];by_cases h:p.2=0
  ·simp[h,zlj g s]
  ·simp[h,zlj g s]
end
def zxv(d7:List Dat)(f:Nat):Prop:=∀(t:VT) (i j:IT) (g:IT→Nat),zaH g (zaT d7 f t i j)=zaH g (zbd d7 f t i j)
def zHb(d7:List Dat)(f:Nat):Prop:=∀(ts:List VT) (l m:List IT) (g:List IT→Nat),zbo g (zcs d7 f ts l m)=zbo g (zcj d7 f ts l m)
def zHa(d7:List Dat)(f:Nat):Prop:=∀(t:VT) (l m:List IT) (g:IT→Nat),zbo (λx=>g (.mk 0 x)) (zaW d7 f t l m)=zaH g (zaS d7 f t l m)
theorem zsm(g:List IT→Nat)(out:List (List IT×Nat))(ws:List (IT×Nat)):zbo g (zbM out ws)=zat (λx=>zat (λl=>g (l++[x])) out) ws:=by
 have h:zbM out ws=ws.flatMap λw=>out.map λr=>(r.1++[w.1],w.2*r.2):=by unfold zbM;congr 1;funext w;congr 1;funext r;rw[bi]
 rw[h,zf3];exact zf4 g (λx l=>l++[x]) out ws
theorem zLr(g:List IT→Nat)(out:List (List IT×Nat))(ws:List (IT×Nat)):zbo g (zbV out ws)=zbo g (zbM out ws):=by rw[zsm,zf3];unfold zbV;rw[zf4 g (λl x=>l++[x]) ws out,zBf]
def zct(d7:List Dat)(f:Nat)(ts:List VT)(l m:List IT)(k:Nat):List (List IT×Nat):=(List.range k).foldl (λout k=>zbV out (zaT d7 f (ts.getD k tz) (l.getD k d0) (m.getD k d0))) [([],1)]
theorem ziH(d7:List Dat)(f:Nat)(ts:List VT)(l m:List IT):zct d7 f ts l m 0=[([],1)]:=rfl
theorem zg4(d7:List Dat)(f:Nat)(ts:List VT)(l m:List IT)(k:Nat):zct d7 f ts l m (k+1)=zbV (zct d7 f ts l m k) (zaT d7 f (ts.getD k tz) (l.getD k d0) (m.getD k d0)):=by rw[zct,bU,List.foldl_append];rfl
theorem zfX(d7:List Dat)(f:Nat)(ts:List VT)(l m:List IT):zcs d7 (f+1) ts l m=zct d7 f ts l m ts.length:=by rw[zcs];rfl
theorem zsk{d7:List Dat}{f:Nat}(hP:zxv d7 f)(ts:List VT)(l m:List IT):∀ (k:Nat) (g:List IT→Nat),zbo g (zct d7 f ts l m k)=zbo g (zb5 d7 f ts l m k)
 |0,g=>rfl
 |k+1,g=>by rw[zg4,zg3,zLr,zsm,zsm];have h1:∀x,zat (λl=>g (l++[x])) (zct d7 f ts l m k)=zat (λl=>g (l++[x])) (zb5 d7 f ts l m k):=λx=>zsk hP ts l m k λl=>g (l++[x]);simp only[h1];exact hP (ts.getD k tz) (l.getD k d0) (m.getD k d0) λx=>zat (λl=>g (l++[x])) (zb5 d7 f ts l m k)
theorem zf8(d7:List Dat):∀ f,zxv d7 f∧zHb d7 f∧zHa d7 f
 |0=>⟨λt i j g=>by rw[zaT,zbd],λts l m g=>by rw[zcs,zcj],λt l m g=>by rw[zaW,zaS];rfl⟩
 |f+1=>by
  obtain⟨hP,hQ,hM⟩:=zf8 d7 f;refine⟨λt i j g=>?_,λts l m g=>?_,λt l m g=>?_⟩
  ·rw[zaT,zbd];by_cases k6:t.kind=6
   ·simp only[k6,a6];rw[zcl,zcw,aC,zc6,zc6,zd6 g (λl=>IT.mk 0 l),zd6 g (λl=>IT.mk 0 l)];exact hQ t.kids (zaI i) (zaI j) λl=>g (.mk 0 l)
   ·by_cases k7:t.kind=7
    ·simp only[k7,a6,au (show ¬(7:Int)=6 by omega)];rw[zcl,zcw,aC,zc6,zc6,zlj]
    ·by_cases k5:t.kind=5
     ·simp only[k5,a6,au (show ¬(5:Int)=6 by omega),au (show ¬(5:Int)=7 by omega)];rw[zcl,zcw,aC,zc6,zd6 g (λl=>IT.mk 0 l)];exact hM _ _ _ _
     ·simp only[k6,k7,k5,aN]
  ·rw[zfX,zh6];exact zsk hP ts l m _ g
  ·cases l with
   |nil=>rw[zaW,zaS];rfl
   |cons a l=>
    cases m with
    |nil=>rw[zaW,zaS];rfl
    |cons b m=>
     have e1:=hM t l (b::m) λi=>g (bef a i);have e2:=hM t (a::l) m λi=>g (bef b i);rw[zaW,zaS];have h1:∀(c:IT) (s:List (List IT×Nat)),zbo (λx=>g (.mk 0 x)) (s.map λr=>(c::r.1,r.2))=zbo (λx=>g (bef c (.mk 0 x))) s:=λc s=>zd6 (λx=>g (.mk 0 x)) (λx=>c::x) s;have h2:∀(c:IT) (s:List (IT×Nat)),zaH g (s.map λw=>(bef c w.1,w.2))=zaH (λi=>g (bef c i)) s:=λc s=>zd6 g (bef c) s;by_cases eY:zaO a=zaO b
     ·rw[az eY,au (by simpa using eY),ziO,ziO,zcl,zcl,zcl,zcw,h1,h1,h2,h2,e1,e2];have h3:=zf4 (λx=>g (.mk 0 x)) (λ(r x:List IT)=>IT.mk (zaO a) r::x) (zaW d7 f t l m) (zcs d7 f ((zbi d7 t (zaO a)).getD []) (zaI a) (zaI b));have h4:=zf4 g (λ(r:List IT) (x:IT)=>bef (.mk (zaO a) r) x) (zaS d7 f t l m) (zcj d7 f ((zbi d7 t (zaO a)).getD []) (zaI a) (zaI b));rw[zf3,zc6 _ (List.flatMap _ _),h3,h4];have h5:∀r,zat (λx=>g (.mk 0 (IT.mk (zaO a) r::x))) (zaW d7 f t l m)=zat (λx=>g (bef (.mk (zaO a) r) x)) (zaS d7 f t l m):=λr=>hM t l m λi=>g (bef (.mk (zaO a) r) i);simp only[h5];have h6:=hQ ((zbi d7 t (zaO a)).getD []) (zaI a) (zaI b) λr=>zat (λx=>g (bef (.mk (zaO a) r) x)) (zaS d7 f t l m);rw[zf3,zf3]at h6;rw[h6,zc6,zc6];omega
     ·rw[au eY,az (by simpa using eY),aG,ziO,zcl,zcl,zcw,h1,h1,h2,h2,e1,e2];omega
def Asc(s:List (IT×Nat)):Prop:=s.Pairwise λp q=>IT.cmp p.1 q.1<0
theorem zyo{a b c:IT}(h1:IT.cmp a b<0)(h2:IT.cmp b c≤0):IT.cmp a c<0:=by
 obtain⟨h3,h4⟩:=IT.cmp_tri a b c (by omega) h2;by_cases h:IT.cmp a c=0
 ·have:=h4 h;omega
 ·omega
theorem zgD(a:IT):IT.cmp a a=0:=by have:=IT.cmp_anti a a;omega
theorem zxN{i:IT}{c:Nat}:∀ {s:List (IT × Nat)},Asc s→Asc (zbF s i c)∧∀ p∈zbF s i c,p.1=i∨∃ q∈s,q.1=p.1
 |[],_=>⟨by simp[zbF,Asc],λp hp=>by simp[zbF]at hp;exact .inl (by rw[hp])⟩
 |x::s,h=>by
  have h1:=cd.1 h;unfold zbF;by_cases ha:IT.cmp x.1 i<0
  ·obtain⟨k1,k2⟩:=zxN (i:=i) (c:=c) h1.2;rw[az ha];refine⟨cd.2 ⟨λp hp=>?_,k1⟩,λp hp=>?_⟩
   ·rcases k2 p hp with e | ⟨q,hq,e⟩
    ·rw[e];exact ha
    ·rw[←e];exact h1.1 q hq
   ·rcases aP.1 hp with e | hp
    ·exact .inr ⟨x,aR,by rw[e]⟩
    ·rcases k2 p hp with e | ⟨q,hq,e⟩
     ·exact .inl e
     ·exact .inr ⟨q,aU _ hq,e⟩
  ·rw[au ha];by_cases h0:IT.cmp x.1 i=0
   ·rw[az h0];refine⟨cd.2 ⟨h1.1,h1.2⟩,λp hp=>?_⟩;rcases aP.1 hp with e | hp
    ·exact .inr ⟨x,aR,by rw[e]⟩
    ·exact .inr ⟨p,aU _ hp,rfl⟩
   ·rw[au h0];have hix:IT.cmp i x.1<0:=by have:=IT.cmp_anti i x.1;omega
    refine⟨cd.2 ⟨λp hp=>?_,h⟩,λp hp=>?_⟩
    ·rcases aP.1 hp with e | hp
     ·rw[e];exact hix
     ·exact zyo hix (by have:=h1.1 p hp;omega)
    ·rcases aP.1 hp with e | hp
     ·exact .inl (by rw[e])
     ·exact .inr ⟨p,hp,rfl⟩
theorem zHz{i:IT}{c:Nat}{s:List (IT×Nat)}(h:Asc s):Asc (za5 s i c):=by
 unfold za5;split
 ·exact h
 ·exact(zxN h).1
theorem zgz:∀ (l s:List (IT × Nat)),Asc s→Asc (zaA s l)
 |[],s,h=>h
 |p::l,s,h=>zgz l _ (zHz h)
open Classical in
noncomputable def one{α:Type}(x:α):α→Nat:=λy=>if y=x then 1 else 0
theorem zzN{α:Type}(x:α):one x x=1:=by simp[one]
theorem zzO{α:Type}{x y:α}(h:y≠x):one x y=0:=by simp[one,h]
theorem zBj{α:Type}{g:α→Nat}:∀ {s:List (α × Nat)},0<zat g s→∃ q∈s,0<q.2∧0<g q.1
 |[],h=>by simp at h
 |p::s,h=>by
  rw[zbc]at h;by_cases h0:0<p.2*g p.1
  ·exact⟨p,aR,Nat.pos_of_mul_pos_right h0,Nat.pos_of_mul_pos_left h0⟩
  ·obtain⟨q,hq,h1⟩:=zBj (s:=s) (g:=g) (by omega);exact⟨q,aU _ hq,h1⟩
theorem zdX{α:Type}(g:α→Nat):∀ {s:List (α × Nat)} {p:α × Nat},p∈s→p.2*g p.1≤zat g s
 |x::s,p,h=>by
  rw[zbc];rcases aP.1 h with rfl|h
  ·omega
  ·have:=zdX g h;omega
theorem zdY{α:Type}{s s':List (α×Nat)}(h:∀g:α→Nat,zat g s=zat g s'){p:α×Nat}(hp:p∈s)(h0:0<p.2):∃q∈s',q.1=p.1:=by
 have h1:=zdX (one p.1) hp;rw[zzN,h]at h1;obtain⟨q,hq,_,h2⟩:=zBj (s:=s') (g:=one p.1) (by omega);refine⟨q,hq,?_⟩;by_cases he:q.1=p.1
 ·exact he
 ·rw[zzO he]at h2;omega
theorem zsA{x:IT}:∀ {s:List (IT × Nat)},(∀ p∈s,p.1≠x)→zat (one x) s=0
 |[],_=>rfl
 |p::s,h=>by rw[zbc,zzO (h p aR),zsA λq hq=>h q (aU _ hq)];rfl
theorem zqf:∀ {s s':List (IT × Nat)},Asc s→Asc s'→(∀ p∈s,0<p.2)→(∀ p∈s',0<p.2)→(∀ g:IT→Nat,zat g s=zat g s')→s=s'
 |[],[],_,_,_,_,_=>rfl
 |[],q::s',_,_,_,h2,h=>by obtain⟨x,hx,_⟩:=zdY (λg=>(h g).symm) (aR (a:=q)) (h2 q aR);simp at hx
 |p::s,[],_,_,h1,_,h=>by obtain⟨x,hx,_⟩:=zdY h (aR (a:=p)) (h1 p aR);simp at hx
 |p::s,q::s',a1,a2,h1,h2,h=>by
  have b1:=cd.1 a1;have b2:=cd.1 a2;have c1:IT.cmp q.1 p.1≤0:=by
   obtain⟨x,hx,he⟩:=zdY h (aR (a:=p)) (h1 p aR);rcases aP.1 hx with rfl|hx
   ·rw[he,zgD];omega
   ·have:=b2.1 x hx;rw[he]at this;omega
  have c2:IT.cmp p.1 q.1≤0:=by
   obtain⟨x,hx,he⟩:=zdY (λg=>(h g).symm) (aR (a:=q)) (h2 q aR);rcases aP.1 hx with rfl|hx
   ·rw[he,zgD];omega
   ·have:=b1.1 x hx;rw[he]at this;omega
  have he:p.1=q.1:=zjL (by have:=IT.cmp_anti p.1 q.1;omega);have n1:zat (one p.1) s=0:=zsA λx hx e=>by have:=b1.1 x hx;rw[e,zgD]at this;omega
  have n2:zat (one p.1) s'=0:=zsA λx hx e=>by have:=b2.1 x hx;rw[e,he,zgD]at this;omega
  have hc:=h (one p.1);rw[zbc,zbc,n1,n2,←he,zzN]at hc;have hpq:p=q:=Prod.ext he (by omega);subst hpq;have:=zqf b1.2 b2.2 (λx hx=>h1 x (aU _ hx)) (λx hx=>h2 x (aU _ hx)) λg=>by have:=h g;rw[zbc,zbc]at this;omega
  rw[this]
theorem zli{α:Type}(g:α→Nat)(c:α→Bool):∀ s:List (α × Nat),zat g (s.filter λp=>c p.1)=zat (λx=>if c x then g x else 0) s
 |[]=>rfl
 |p::s=>by
  rw[cG,zbc];by_cases h:c p.1=true
  ·simp only[h,a6];rw[zbc,zli g c s]
  ·simp only[h,aH,aN];rw[zli g c s];simp
theorem zLz{α:Type}(g:α→Nat){s s':List (α×Nat)}(h:s.Perm s'):zat g s=zat g s':=by
 induction h with
 |nil=>rfl
 |cons x _ ih=>rw[zbc,zbc,ih]
 |swap x y l=>simp only[zbc];omega
 |trans _ _ h1 h2=>rw[h1,h2]
theorem zLs{out:List (List IT×Nat)}{ws:List (IT×Nat)}(h1:∀r∈out,0<r.2)(h2:∀w∈ws,0<w.2):∀r∈zbV out ws,0<r.2:=by intro r hr;obtain⟨x,hx,hr⟩:=bY.1 hr;obtain⟨w,hw,rfl⟩:=aA.1 hr;exact du (h1 x hx) (h2 w hw)
theorem zsj{d7:List Dat}{f:Nat}(hP:∀ (t:VT) (i j:IT),∀ p∈zaT d7 f t i j,0<p.2)(ts:List VT)(l m:List IT):∀ k,∀ r∈zct d7 f ts l m k,0<r.2
 |0,r,hr=>by rw[ziH]at hr;simp at hr;rw[hr];omega
 |k+1,r,hr=>by rw[zg4]at hr;exact zLs (zsj hP ts l m k) (hP _ _ _) r hr
theorem zg0(d7:List Dat):∀ f,(∀ (t:VT) (i j:IT),∀ p∈zaT d7 f t i j,0<p.2)∧(∀ (ts:List VT) (l m:List IT),∀ r∈zcs d7 f ts l m,0<r.2)∧(∀ (t:VT) (l m:List IT),∀ r∈zaW d7 f t l m,0<r.2)
 |0=>⟨λt i j p hp=>by rw[zaT]at hp;simp at hp,λts l m r hr=>by rw[zcs]at hr;simp at hr,λt l m r hr=>by rw[zaW]at hr;simp at hr⟩
 |f+1=>by
  obtain⟨hP,hQ,hM⟩:=zg0 d7 f;refine⟨λt i j p hp=>?_,λts l m r hr=>?_,λt l m r hr=>?_⟩
  ·rw[zaT]at hp;split at hp
   ·obtain⟨r,hr,rfl⟩:=aA.1 hp;exact hQ _ _ _ r hr
   ·split at hp
    ·have:=(cM.1 hp).2;simp at this;omega
    ·split at hp
     ·obtain⟨r,hr,rfl⟩:=aA.1 hp;exact hM _ _ _ r hr
     ·simp at hp;rw[hp];omega
  ·rw[zfX]at hr;exact zsj hP ts l m _ r hr
  ·cases l with
   |nil=>rw[zaW]at hr;simp at hr;rw[hr];omega
   |cons a l=>
    cases m with
    |nil=>rw[zaW]at hr;simp at hr;rw[hr];omega
    |cons b m=>
     rw[zaW]at hr;rcases aX.1 hr with hr|hr
     ·rcases aX.1 hr with hr | hr
      ·obtain⟨x,hx,rfl⟩:=aA.1 hr;exact hM _ _ _ x hx
      ·obtain⟨x,hx,rfl⟩:=aA.1 hr;exact hM _ _ _ x hx
     ·split at hr
      ·obtain⟨x,hx,hr⟩:=bY.1 hr;obtain⟨w,hw,rfl⟩:=aA.1 hr;exact du (hQ _ _ _ x hx) (hM _ _ _ w hw)
      ·simp at hr
theorem zfN{α:Type}:∀ {s:List (α × Nat)},(∀ p∈s,0<p.2)→s.length≤zat (λ_=>1) s
 |[],_=>by simp
 |p::s,h=>by rw[List.length_cons,zbc];have:=h p aR;have:=zfN λq hq=>h q (aU p hq);omega
theorem zjG{d7:List Dat}(h8:∀ D∈d7,D.cons.length≤8){f:Nat}{t:VT}{i j:IT}(hf:i.nodes+j.nodes≤f)(hi:0≤rdV d7 i t)(hj:0≤rdV d7 j t)(h6:rdV d7 i t+rdV d7 j t≤6):
  (∀p∈zaT d7 f t i j,0<p.2∧p.2≤729∧0≤rdV d7 p.1 t∧rdV d7 p.1 t≤rdV d7 i t+rdV d7 j t∧rdV d7 i t≤rdV d7 p.1 t∧rdV d7 j t≤rdV d7 p.1 t∧p.1.nodes≤i.nodes+j.nodes)∧zat (λ_=>1) (zaT d7 f t i j)≤3 ^ (rdV d7 i t+rdV d7 j t).toNat∧zat (λ_=>1) (zaT d7 f t i j)≤729∧(zaT d7 f t i j).length≤729:=by
 obtain⟨d1,d2⟩:=(zcC h8 f).1 t i j hf hi hj h6;have hs:=(zf8 d7 f).1 t i j;have gy:=(zg0 d7 f).1 t i j;have h1:zat (λ_=>1) (zaT d7 f t i j)≤3 ^ (rdV d7 i t+rdV d7 j t).toNat:=by rw[←zc6,hs];exact d2
 have h2:=ap h1 (zcS h6);refine⟨λp hp=>?_,h1,h2,ap (zfN gy) h2⟩;obtain⟨q,hq,he⟩:=zdY (s:=zaT d7 f t i j) (s':=zbd d7 f t i j) hs hp (gy p hp);have:=d1 q hq;rw[he]at this;have hm:=zdX (λ_=>1) hp;rw[bl]at hm;exact⟨gy p hp,by omega,this.2⟩
theorem zya{d7:List Dat}(h8:∀ D∈d7,D.cons.length≤8){f:Nat}{ts:List VT}{l m:List IT}(hf:IT.nodesL l+IT.nodesL m+1≤f)(hl:l.length=ts.length)(hm:m.length=ts.length)(hi:0≤rdA d7 l ts 0)(hj:0≤rdA d7 m ts 0)(h6:rdA d7 l ts 0+rdA d7 m ts 0≤6):
  (∀r∈zcs d7 f ts l m,0<r.2∧r.2≤729∧r.1.length=ts.length∧0≤rdA d7 r.1 ts 0∧rdA d7 r.1 ts 0≤rdA d7 l ts 0+rdA d7 m ts 0∧IT.nodesL r.1≤IT.nodesL l+IT.nodesL m)∧zat (λ_=>1) (zcs d7 f ts l m)≤3 ^ (rdA d7 l ts 0+rdA d7 m ts 0).toNat∧zat (λ_=>1) (zcs d7 f ts l m)≤729∧(zcs d7 f ts l m).length≤729:=by
 obtain⟨d1,d2⟩:=(zcC h8 f).2.1 ts l m hf hl hm hi hj h6;have hs:=(zf8 d7 f).2.1 ts l m;have gy:=(zg0 d7 f).2.1 ts l m;have h1:zat (λ_=>1) (zcs d7 f ts l m)≤3 ^ (rdA d7 l ts 0+rdA d7 m ts 0).toNat:=by rw[←zf3,hs];exact d2
 have h2:=ap h1 (zcS h6);refine⟨λp hp=>?_,h1,h2,ap (zfN gy) h2⟩;obtain⟨q,hq,he⟩:=zdY (s:=zcs d7 f ts l m) (s':=zcj d7 f ts l m) hs hp (gy p hp);obtain⟨_,e1,e2,e3,_,_,e6⟩:=d1 q hq;rw[he]at e1 e2 e3 e6;have hm:=zdX (λ_=>1) hp;rw[bl]at hm;exact⟨gy p hp,by omega,e1,e2,e3,e6⟩
theorem zjF{d7:List Dat}(h8:∀ D∈d7,D.cons.length≤8){f:Nat}{t:VT}{l m:List IT}(hf:IT.nodesL l+IT.nodesL m+1≤f)(hi:0≤rdE d7 l t 0)(hj:0≤rdE d7 m t 0)(h6:rdE d7 l t 0+rdE d7 m t 0≤6):
  (∀r∈zaW d7 f t l m,0<r.2∧r.2≤729∧0≤rdE d7 r.1 t 0∧rdE d7 r.1 t 0≤rdE d7 l t 0+rdE d7 m t 0∧IT.nodesL r.1≤IT.nodesL l+IT.nodesL m)∧zat (λ_=>1) (zaW d7 f t l m)≤3 ^ (rdE d7 l t 0+rdE d7 m t 0).toNat∧zat (λ_=>1) (zaW d7 f t l m)≤729∧(zaW d7 f t l m).length≤729:=by
 obtain⟨d1,d2⟩:=(zcC h8 f).2.2 t l m hf hi hj h6;have hs:=(zf8 d7 f).2.2 t l m;have gy:=(zg0 d7 f).2.2 t l m;have h1:zat (λ_=>1) (zaW d7 f t l m)≤3 ^ (rdE d7 l t 0+rdE d7 m t 0).toNat:=by have:=hs λ_=>1;rw[zf3]at this;rw[this];exact d2
 have h2:=ap h1 (zcS h6);refine⟨λp hp=>?_,h1,h2,ap (zfN gy) h2⟩;have jo:∀g:IT→Nat,zat g ((zaW d7 f t l m).map λr=>(IT.mk 0 r.1,r.2))=zat g (zaS d7 f t l m):=λg=>by rw[zd6 g (λx=>IT.mk 0 x)];exact hs g
 obtain⟨q,hq,he⟩:=zdY jo (p:=(IT.mk 0 p.1,p.2)) (aA.2 ⟨p,hp,rfl⟩) (gy p hp);obtain⟨_,_,e2,e3,_,_,e6⟩:=d1 q hq;simp only at he;rw[he]at e2 e3 e6;have hm:=zdX (λ_=>1) hp;rw[bl]at hm;exact⟨gy p hp,by omega,e2,e3,e6⟩
end Go.Proofs.YtdmamdnkcefmmaaGreatDoor

import Derived.Test.YtdmamdnkcefmmaaGreatDoorKGQ5
set_option linter.unusedSimpArgs false
set_option linter.unusedVariables false
set_option linter.unusedSectionVars false
set_option linter.defProp false
set_option maxRecDepth 100000
namespace Go.Proofs.YtdmamdnkcefmmaaGreatDoor
theorem FQ:∀ {L:List (List AV)},(∀ c∈L,c.length=3)→L.flatten.length=L.length*3
 |[],_=>rfl
 |c::L,h=>by rw[List.flatten_cons,aH,FQ λx hx=>h x (be _ hx),h c bu,List.length_cons];omega
def zA4{L:List (List AV)}(h3:∀c∈L,c.length=3){i:Nat}(hi:i<L.length)(x:List AV):L.flatten.take (i*3)++(x++L.flatten.drop (i*3+3))=(L.set i x).flatten:=by
 have e:L.flatten=(L.take i).flatten++(L[i]++(L.drop (i+1)).flatten):=by
  have h0:L=L.take i++L[i]::L.drop (i+1):=by rw[←ai hi,aJ]
  have h1:=congrArg List.flatten h0;rwa [da,List.flatten_cons]at h1
 have l1:(L.take i).flatten.length=i*3:=by rw[FQ λc hc=>h3 c (bq hc)];simp;omega
 have l2:((L.take i).flatten++L[i]).length=i*3+3:=by rw[aH,l1,h3 _ (ae hi)]
 rw[e,cc l1,←aB (L.take i).flatten L[i],bS l2,bx,aN hi];simp
def zR:List AV:=[.bool false,.ZG,.ZG]
def yS(n i:Nat):List (List AV):=List.replicate i (ue 0)++List.replicate (n-i) zR
def zJU(n i:Nat):∀c∈yS n i,c.length=3:=by intro c hc;rcases bg.1 hc with h|h <;> rw[bL h] <;> rfl
def yfV{n i:Nat}(h:i<n):(yS n i).set i (ue 0)=yS n (i+1):=by unfold yS;rw[au _ _ (by simp),List.length_replicate,dG,show n-i=n-(i+1)+1 by omega,List.replicate_succ,List.set_cons_zero,List.replicate_succ',aB];rfl
def zP6(n:Nat)(hn:n≤100)(H:or)(K:Kt)(hK:HSc H→K (.ms H.length 0 n n) (H++[.cells (List.replicate n (ue 0)).flatten])):ge tP 174 [I6 n] H K:=by
 refine zWv λhs=>?_;simp[Yk,vo];refine⟨⟨by omega,by omega⟩,?_⟩;have h0:(List.replicate n ([.bool false,.ZG,.ZG]:List AV))=yS n 0:=by simp[yS,zR]
 rw[h0];have hsc:∀i,HSc (H++[.cells (yS n i).flatten]):=λi=>hs.append (by
  simp only[AB.sc,List.all_cons,List.all_nil,cV];rw[aA];intro x hx;obtain⟨c,hc,hx⟩:=eN.1 hx;rcases bg.1 hc with h|h <;> rw[bL h]at hx
  ·exact aA.1 (EX _ _) x hx
  ·exact aA.1 (show zR.all (AV.ZH _)=true by simp[zR,AV.ZH,AV.ZI]) x hx)
 refine zWt (Inv:=λq t9 H'=>∃i:Nat,i≤n∧n-i=q∧t9=I6 i∧H'=H++[.cells (yS n i).flatten]) n ?_ ?_
 ·intro _;exact⟨0,by omega,rfl,rfl,rfl⟩
 ·rintro q t9 H' ⟨i,hi,rfl,rfl,rfl⟩ fG fz fM Kb fB;by_cases fy:i<n
  ·have hL:(yS n i).length=n:=by simp[yS];omega
   simp[Qe,fy,wi i (by omega)];refine Ad 0 (by omega) _ _ ?_;have gI:=FQ (zJU n i);have fN:=zA4 (zJU n i) (i:=i) (by omega) (ue 0);rw[yfV fy]at fN;rw[List.length_flatten]at gI;simp[zy,gI,hL];rw[fN];refine⟨by omega,?_⟩;exact fB _ _ ⟨n-(i+1),by omega,Back.here (by simp) (hsc _) (by simp[Jr,ux,AV.sc,AV.ZH,AV.ZI,AV.ZJ]) ⟨_,rfl,i+1,by omega,rfl,rfl,rfl⟩⟩
  ·obtain rfl:i=n:=by omega
   have:=hK hs;have e:yS i i=List.replicate i (ue 0):=by simp[yS]
   simp[Qe,e];exact this
def zNb:∀a,a<7→∀b,b<7→∀k,k<13→(k≤a+b∧max a b≤k→pcf a b k=chs k a*chs a (k-b)∧pcf a b k<1000000∧chs k a<1000000∧chs a (k-b)<1000000):=by
 have:=(by decide +kernel:((List.range 7).all λa=>(List.range 7).all λb=>(List.range 13).all λk=>decide (¬(k≤a+b∧max a b≤k)∨(pcf a b k=chs k a*chs a (k-b)∧pcf a b k<1000000∧chs k a<1000000∧chs a (k-b)<1000000)))=true);intro a ha b hb k hk h;have h1:=aA.mp this a (bP.mpr ha);have h2:=aA.mp h1 b (bP.mpr hb);have h3:=aA.mp h2 k (bP.mpr hk);rcases c6 h3 with h4|h4
 ·exact absurd h h4
 ·exact⟨h4.1,h4.2⟩
def rwL(a b k:Nat):List (List AV):=(List.range (a+b+1)).map λj=>ue (((if j<k then pcf a b j else 0:Nat)):Int)
def zDd(a b k:Nat):(rwL a b k).length=a+b+1:=by simp[rwL]
def Tx(a b k:Nat):∀c∈rwL a b k,c.length=3:=by intro c hc;obtain⟨j,_,rfl⟩:=aF.1 hc;rfl
def zN0(a b:Nat):List.replicate (a+b+1) (ue 0)=rwL a b (max a b):=by
 refine bU (by simp[rwL]) λj h1 h2=>?_;simp only[rwL,eR,cS,cU];by_cases h:j<max a b
 ·rw[aN h];have:pcf a b j=0:=by simp[pcf];omega
  rw[this];rfl
 ·rw[aG h];rfl
def zN1{a b k:Nat}(h:k≤a+b):(rwL a b k).set k (ue (pcf a b k:Int))=rwL a b (k+1):=by
 refine bU (by simp[rwL]) λj h1 h2=>?_;rw[d7];simp only[rwL,cS,cU];by_cases hj:k=j
 ·subst hj;simp
 ·rw[aG hj];by_cases hk:j<k
  ·rw[aN hk,aN (by omega)]
  ·rw[aG hk,aG (by omega)]
def zDc(a b:Nat):rwL a b (a+b+1)=ww (vV a b (a+b+1)):=by
 refine bU (by simp[rwL,ww,vV]) λj h1 h2=>?_;have hj:j<a+b+1:=by simpa[rwL]using h1
 simp[rwL,ww,vV,hj]
theorem zCF:∀ l:List Nat,plain (ww l).flatten=some (ww l).flatten
 |[]=>rfl
 |z::l=>by show plain (ue (z:Int)++(ww l).flatten)=_;exact BZ (xH _) (zCF l)
def zSv(a b:Nat)(ha:a≤6)(hb:b≤6)(H:or)(K:Kt)(hK:K (.sl (ww (vV a b (a+b+1))) .none) H):ge tP 131 [I6 a,I6 b] H K:=by
 refine ge.out (zSt λhs=>?_);have w1:IntKind.i64.wrap ((a:Int)+(b:Int))=((a+b:Nat):Int):=by rw[um (by omega) (by omega)];omega
 have w2:IntKind.i64.wrap ((a:Int)+(b:Int)+1)=((a+b+1:Nat):Int):=by rw[um (by omega) (by omega)];omega
 have nS:(if a<b then (b:Int) else (a:Int))=((max a b:Nat):Int):=by split <;> omega
 have oE:(if (b:Int)>(a:Int) then (b:Int) else (a:Int))=((max a b:Nat):Int):=by split <;> omega
 simp[Yh,w1,w2,nS,oE];refine zP6 (a+b+1) (by omega) _ _ λ_=>?_;rw[zN0];have hsc:∀i,HSc (H++[.cells (rwL a b i).flatten]):=λi=>hs.append (by
  simp only[AB.sc,List.all_cons,List.all_nil,cV];rw[aA];intro x hx;obtain⟨c,hc,hx⟩:=eN.1 hx;obtain⟨j,_,rfl⟩:=aF.1 hc;exact aA.1 (EX _ _) x hx)
 try simp only[nS,oE]
 refine zSr (Inv:=λq t6 H'=>∃k:Nat,max a b≤k∧k≤a+b+1∧a+b+1-k=q∧t6=I6 k∧H'=H++[.cells (rwL a b k).flatten]) (a+b+1-max a b) ?_ ?_
 ·intro _;exact⟨max a b,by omega,by omega,rfl,rfl,rfl⟩
 ·rintro q t6 H' ⟨k,jU,hk,rfl,rfl,rfl⟩ fG fz fM Kb fB;by_cases fy:k≤a+b
  ·have fK:(k:Int)≤(a:Int)+(b:Int):=by omega
   obtain⟨p1,p2,p3,p4⟩:=zNb a (by omega) b (by omega) k (by omega) ⟨fy,jU⟩;have w3:IntKind.i64.wrap ((k:Int)-(b:Int))=((k-b:Nat):Int):=by rw[um (by omega) (by omega)];omega
   simp[Qd,w1,fK,w3,wi k (by omega)];refine zAX k a (by omega) (by omega) _ _ ?_;refine zAX a (k-b) (by omega) (by omega) _ _ ?_;refine Mt _ _ (xf (eu p3 (by decide))) (xf (eu p4 (by decide))) _ _ ?_;rw[←Int.natCast_mul,←p1];have gI:=FQ (Tx a b k);have fN:=zA4 (Tx a b k) (i:=k) (by rw[zDd];omega) (ue (pcf a b k:Int));rw[zN1 fy]at fN;rw[List.length_flatten,zDd]at gI;simp[zy,gI];rw[fN];refine⟨by omega,by omega,?_⟩;exact fB _ _ ⟨a+b+1-(k+1),by omega,Back.here (by simp) (hsc _) (by simp[Jp,ux,AV.sc,AV.ZH,AV.ZI,AV.ZJ]) ⟨_,rfl,k+1,by omega,by omega,rfl,rfl,rfl⟩⟩
  ·obtain rfl:k=a+b+1:=by omega
   have fK:¬((a:Int)+(b:Int)+1≤(a:Int)+(b:Int)):=by omega
   simp[Qd,w1,fK];rw[zDc];have gI:=FQ (Tx a b (a+b+1));rw[zDc,zNl]at gI;have gQ:(vV a b (a+b+1)).length=a+b+1:=by simp[vV]
   refine⟨_,H,[_],rfl,af _,hs,.one (.frz H.length 0 (a+b+1) (a+b+1) 3 (ww (vV a b (a+b+1))).flatten (ww (vV a b (a+b+1))) (af _) (by simp) (by omega) ?_ (by simp[gQ]) (λc hc=>?_) (af _)),hK⟩
   ·rw[bA,am (by omega)];exact zCF _
   ·obtain⟨z,_,rfl⟩:=aF.1 hc;rfl
def yd3(a b:Nat)(ha:a≤6)(hb:b≤6)(H:or)(K:Kt)(hK:K (.tup [.sl (ww (vV a b (a+b+1))) .none,.bool true]) H):ge tP 79 [I6 a,I6 b] H K:=by
 refine ge.out (yd2 λhs=>?_);have c1:¬((a:Int)<0):=by omega
 have c2:¬((b:Int)<0):=by omega
 have c3:¬((16:Int)<(a:Int)):=by omega
 have c4:¬((16:Int)<(b:Int)):=by omega
 simp[Ye,c1,c2,c3,c4];refine zSv a b ha hb _ _ ?_;exact⟨⟨rfl,rfl⟩,Out.tup0 (bs:=[.sl (ww (vV a b (a+b+1))) .none,.bool true]) hs hK ⟨uJ rfl rfl,uJ rfl rfl,trivial⟩⟩
section
open Go.RowKit
variable {P:Program} {B:Nat} {w:World} {G:Gh} {H:or}
theorem tU.newRow(h:tU B w G H)(e size cap:Nat)(cur:Array Value)(hc:cap≤maxLen)(hs:cur.size=cap*size):
  Ext B w G (w.alloc (.cells cur e)) ⟨G.L,G.μ++[.own (.slice (some ⟨w.heap.size,0,none⟩) 0 cap) size 0]⟩∧tU B (w.alloc (.cells cur e)) ⟨G.L,G.μ++[.own (.slice (some ⟨w.heap.size,0,none⟩) 0 cap) size 0]⟩ (H++[.perm e size 0]):=by
 have he:=Ext.alloc h (.cells cur e) G.L (λ_ _=>rfl) [.own (.slice (some ⟨w.heap.size,0,none⟩) 0 cap) size 0];have split:∀(id:Nat) gi,(G.μ++[GI.own (.slice (some ⟨w.heap.size,0,none⟩) 0 cap) size 0])[id]?=some gi→G.μ[id]?=some gi∨(id=G.μ.length∧gi=.own (.slice (some ⟨w.heap.size,0,none⟩) 0 cap) size 0):=by
  intro id gi hg;by_cases fy:id<G.μ.length
  ·rw[ah fy]at hg;exact .inl hg
  ·have fT:=(ac.1 hg).1;simp at fT;have:id=G.μ.length:=by omega
   subst this;simp at hg;exact .inr ⟨rfl,hg.symm⟩
 refine⟨he,by simp[h.len],?_,?_,λb hb=>?_,?_,?_⟩
 ·intro id ab gi h1 h2;rcases split id gi h2 with h2 | ⟨rfl,rfl⟩
  ·have fy:id<H.length:=by rw[←h.len];exact (ac.1 h2).1
   rw[ah fy]at h1;exact(h.ok id ab gi h1 h2).keep he (λb hb=>⟨yk (h.lt id gi b h2 hb),rfl⟩)
  ·rw[h.len]at h1;simp at h1;subst h1;refine⟨rfl,rfl,⟨[],by simp,.inr ⟨w.heap.size,cap,cur,rfl,h.base,y6 _,bM _,hc,hs,by simp⟩⟩,λb hb=>?_⟩;simp[Value.ownBlock]at hb;subst hb;rw[eU];exact h.fresh _ (af _)
 ·intro id id' gi gi' b h1 h2 h3 h4;rcases split id gi h1 with k1 | ⟨e1,e2⟩ <;> rcases split id' gi' h2 with k2 | ⟨e3,e4⟩
  ·exact h.dist id id' gi gi' b k1 k2 h3 h4
  ·rw[e4]at h4;simp[GI.block,Value.ownBlock]at h4;have:=h.lt id gi b k1 h3;omega
  ·rw[e2]at h3;simp[GI.block,Value.ownBlock]at h3;have:=h.lt id' gi' b k2 h4;omega
  ·rw[e1,e3]
 ·rw[wR]at hb;exact h.fresh b (by omega)
 ·intro id gi b h1 h2;rw[wR];rcases split id gi h1 with k1 | ⟨e1,e2⟩
  ·have:=h.lt id gi b k1 h2;omega
  ·rw[e2]at h2;simp[GI.block,Value.ownBlock]at h2;omega
 ·rw[wR];have:=h.base;omega
end
def zOx(n:Nat)(hn:0<n)(ig:n≤1000000)(H:or)(K:Kt)(hK:K (.sl [] (.own H.length)) (H++[.perm 28 2 0])):
  ge tP 176 [.ZG,.int .i64 n] H K:=by
 rintro B w G ⟨vs⟩ hR hv
 match vs,hv with
 |[v1,v2],⟨h1,h2,_⟩=>
 have h1:v1=.slice none 0 0:=h1;have h2:v2=.int .i64 n:=h2;subst h1 h2;obtain⟨i0,rQ,tB,mX,gk⟩:∃i0,tP.info? 28=some i0∧i0.zero=some (.agg #[.int .i64 0,.slice none 0 0])∧i0.size=2∧i0.bytes=32:=⟨_,rfl,rfl,rfl,rfl⟩;refine(Go.Proofs.Any8.slices_Grow_grow zP7 i0 _ rQ tB (by omega) none 0 0 n [] w (af _) (by omega) (by rw[gk];omega) (by omega) (by simp) (λ_=>rfl) (λ_ h=>by cases h)).mono ?_;rintro e w' ⟨rfl,rfl⟩;have gW:=grownCap_ge w (0+n) 0 28;have iw:=grownCap_le_maxLen w (0+n) 0 28 (by simp only[maxLen];omega);obtain⟨hE,hH⟩:=hR.drew (w.drawn+1) (cF _) |>.newRow 28 2 (grownCap w (0+n) 0 28) (([]:List Value).toArray++Builtin.zeroCells (Value.agg #[.int .i64 0,.slice none 0 0]).cells (0+n-0)++Builtin.zeroCells (Value.agg #[.int .i64 0,.slice none 0 0]).cells (grownCap w (0+n) 0 28-(0+n))) iw (by
  simp only[dp,size_zeroCells,cL,List.length_nil];have:(Value.agg #[.int .i64 0,.slice none 0 0]).cells.size=2:=rfl;rw[this];omega)
 refine⟨_,_,_,_,rfl,(Ext.drew B w G (w.drawn+1) (cF _)).trans hE,hH,?_,hK⟩;refine⟨.slE _ _,_,2,0,?_,af _,λ_=>⟨rfl,λc hc=>by simp at hc⟩⟩;rw[←hR.len];simp;rfl
def zOu(a b:List IT)(ha:0<a.length)(hb:a.length+b.length≤1000000)(H:or)(K:Kt)(hK:K (.sl (IT.css (a++b)) .none) H):
  ge tP 134 [.sl [[.sl (IT.css a) .none],[.sl (IT.css b) .none]] .full] H K:=by
 refine ge.out (zST λhs=>?_);have e:∀l:List IT,(IT.css l).length=l.length:=λl=>by simp[IT.ZC]
 have hS:∀c:List IT,∀k:AV→Prop,k (.int .i64 c.length)→tV 1 (.sl (IT.css c) .none) k:=λc k hk=>by simpa[e]using hk
 simp[zFo];let row:Nat→List IT:=λi=>if i=0 then a else b
 let sum:Nat→Nat:=λi=>if i=0 then 0 else if i=1 then a.length else a.length+b.length
 have fJ:∀i (hi:i < [[AV.sl (IT.css a) .none],[.sl (IT.css b) .none]].length),[[AV.sl (IT.css a) .none],[.sl (IT.css b) .none]][i]=[.sl (IT.css (row i)) .none]:=λi hi=>by rcases (by simp at hi;omega:i=0∨i=1) with rfl|rfl <;> rfl
 refine zSQ (Inv:=λq t3 t11 H'=>∃i:Nat,i≤2∧q=2-i∧t11=.int .i64 i∧t3=.int .i64 (sum i)∧H'=H) 2 ?_ ?_
 ·intro _;exact⟨0,by omega,rfl,rfl,rfl,rfl⟩
 ·rintro q t3 t11 H' ⟨i,hi,rfl,rfl,rfl,rfl⟩ hsc fz fM Kb fB;by_cases fy:i<2
  ·have fK:(i:Int)<2:=by omega
   have lv:(sum i:Int)+(row i).length=sum (i+1):=by rcases (by omega:i=0∨i=1) with rfl|rfl <;> simp[sum,row]
   have gJ:sum (i+1)≤1000000:=by rcases (by omega:i=0∨i=1) with rfl|rfl <;> simp[sum] <;> omega
   have kr:¬((sum (i+1):Int)<0):=by omega
   simp[Tt,fK,fy,fJ,e];rw[lv,um (by omega) (by omega)];simp[kr,zFp,zFq];rw[um (by omega) (by omega)];refine fB _ _ ⟨2-(i+1),by omega,Back.at (J:=[]) (H2:=H') (by simp) (by omega) hsc ?_ ⟨_,_,rfl,i+1,by omega,rfl,by simp,rfl,rfl⟩⟩;simp[MG,AV.sc,AV.ZJ,AV.ZH,AV.ZI]
  ·obtain rfl:i=2:=by omega
   simp[Tt];refine zOx _ (by simp[sum];omega) (by simp[sum];omega) _ _ ?_;let all:Nat→List IT:=λi=>if i=0 then [] else if i=1 then a else a++b
   refine zSP (Inv:=λq t6 t27 H2=>∃i:Nat,i≤2∧q=2-i∧t27=.int .i64 i∧t6=.sl (IT.css (all i)) (.own H'.length)∧H2=H'++[.perm 28 2 (all i).length]) 2 ?_ ?_
   ·intro _;exact⟨0,by omega,rfl,rfl,rfl,rfl⟩
   ·rintro q t6 t27 H2 ⟨i,hi,rfl,rfl,rfl,rfl⟩ gw jj mi Kb2 gv;by_cases fy:i<2
    ·have fK:(i:Int)<2:=by omega
     have fX:IT.css (all i)++IT.css (row i)=IT.css (all (i+1)):=by rcases (by omega:i=0∨i=1) with rfl|rfl <;> simp[all,row,IT.ZC]
     have hall2:(all i).length+(row i).length=(all (i+1)).length:=by rcases (by omega:i=0∨i=1) with rfl|rfl <;> simp[all,row]
     have gJ:(all (i+1)).length≤1000000:=by rcases (by omega:i=0∨i=1) with rfl|rfl <;> simp[all] <;> omega
     have h2:∀c∈IT.css (row i),c.length=2:=λc hc=>by rw[IT.ZC]at hc;obtain⟨x,_,rfl⟩:=aF.1 hc;simp
     simp[Ts,fK,fy,fJ,e,uj,uD,uy,au];rw[fX,hall2,um (by omega) (by omega)];refine⟨h2,⟨by omega,by omega⟩,?_⟩;refine gv _ _ ⟨2-(i+1),by omega,Back.at (J:=[]) (H2:=H'++[.perm 28 2 (all (i+1)).length]) (by simp) (by simp) (hs.append (by simp[AB.sc])) ?_ ⟨_,_,rfl,i+1,by omega,rfl,by simp,rfl,rfl⟩⟩;simp[MH,AV.sc,AV.ZJ,AV.ZH,AV.ZI]
    ·obtain rfl:i=2:=by omega
     simp[Ts];exact Out.at (H2:=H') (J:=[.perm 28 2 (a++b).length]) (by simp[all]) (af _) hs (.atom (.sl _ _)) rfl rfl (by simpa[all]using hK)
def zS0{eq:List Dat}(hk:vj eq)(n:Int)(ks:List VT)(ht:(VT.mk 5 n ks).ZO≤1000)(c:Int){ps:List VT}(hp:vt eq (.mk 5 n ks) c=some ps)(H:or)(K:Kt)(hK:K (.sl (VT.css ps) .none) H):ge tP 135 [.sl (eq.map Dat.cs) .none,.agg (VT.mk 5 n ks).cs,I6 c] H K:=by
 obtain⟨l,hf⟩:∃lf,wa eq (.mk 5 n ks) c=some lf:=by
  cases ny:wa eq (.mk 5 n ks) c with
  |none=>simp[vt,ny]at hp
  |some lf=>exact⟨lf,rfl⟩
 obtain⟨bs,re,iI,qA,i5,iP,_,lF,_⟩:=ST hk hf;rw[hp]at i5;obtain rfl:=dQ i5;refine ge.out (zSY λhs=>?_);obtain⟨f1,f2,f3⟩:=BP hk;simp[Yn,VT.cs,aa];refine zGz eq f1 f2 f3 (.mk 5 n ks) ht c _ _ ?_;rw[hf];simp[xC];refine lF _ _ ?_;simp[AQ];unfold Ju;refine tM.own 9 25 3 rfl ?_;have jY:(H++[AB.cells [AV.int IntKind.i64 5,AV.int IntKind.i64 n,AV.sl (VT.css ks) Tok.none]]).length=H.length+1:=by simp
 rw[jY,aB];show Ju _ (.sl (VT.css (pick (l.take 0) (bs.take 0))) (.own (H.length+1))) _ _ _ (H++[.cells [I6 5,I6 n,.sl (VT.css ks) .none],.perm 25 3 0]) _;have fO:∀ m,HSc (H++[.cells [I6 5,I6 n,.sl (VT.css ks) .none],.perm 25 3 m]):=λm=>hs.append (by simp[AB.sc,AV.ZH,AV.ZI]);refine zSW (Inv:=λq t9 t25 H'=>∃ i:Nat,i≤bs.length∧bs.length-i=q∧t25=I6 i∧t9=.sl (VT.css (pick (l.take i) (bs.take i))) (.own (H.length+1)) ∧
  H'=H++[.cells [I6 5,I6 n,.sl (VT.css ks) .none],.perm 25 3 (pick (l.take i) (bs.take i)).length]) bs.length ?_ ?_
 ·intro _;exact⟨0,by omega,rfl,rfl,rfl,rfl⟩
 ·rintro q t9 t25 H' ⟨i,hi,rfl,rfl,rfl,rfl⟩ fG fz fM Kb fB;by_cases fy:i<bs.length
  ·have gy:i<l.length:=by omega
   have fN:=SK iI gy;have gQ:=Fw (l.take i) (bs.take i);rw[a7]at gQ;generalize hA:pick (l.take i) (bs.take i)=A at *;have gb:∀ A',A'=pick (l.take (i+1)) (bs.take (i+1))→Jv (.sl (VT.css l) .none) (.sl (VT.css A') (.own (H.length+1))) (.sl (wz bs) .none) (I6 bs.length) (I6 i)
     (H++[.cells [I6 5,I6 n,.sl (VT.css ks) .none],.perm 25 3 A'.length]) (Out H.length K) Kb:=by
    rintro A' rfl;simp[Jv,Ym,wi i (by omega)];exact fB _ _ ⟨bs.length-(i+1),by omega,Back.here (by simp) (fO _) (by simp[Jt,ux,AV.sc,AV.ZH,AV.ZI,AV.ZJ]) ⟨_,_,rfl,i+1,by omega,rfl,rfl,rfl,rfl⟩⟩
   obtain⟨x1,x2,x3,fD,gG,gf,gL⟩:=ve l[i];cases mC:bs[i] with
   |true=>rw[mC,aN rfl,aP]at fN;simp[Jw,AQ,fy,Fx,mC];exact gb A fN.symm
   |false=>
    rw[mC]at fN;simp only[aK,ba]at fN;simp[Jw,AQ,fy,gy,Fx,mC];have hpv:∀v:VT,plain v.cs=some v.cs:=λv=>by cases v;rfl
    have f5:VT.css A++[l[i].cs]=VT.css (A++[l[i]]):=by rw[VT.ZC,VT.ZC,a6];rfl
    simp[uk,uI,hpv,plain,AV.pd];simp only[uj,uD,uy];simp[au];refine⟨⟨by omega,by omega⟩,?_⟩;rw[f5];have:=gb (A++[l[i]]) fN.symm;rw[aH]at this;exact this
  ·obtain rfl:i=bs.length:=by omega
   rw[←iI,az,iI,az];simp[Jw];exact Out.at (b:=.sl (VT.css (pick l bs)) .none) rfl (af _) hs (.atom (.sl _ _)) rfl rfl hK
def yej:∀(m:Nat) (v:IT),v.ZO≤m→v.ZO≤1000000→∀(H:or) (K:Kt),K (.agg v.cs) H→ge tP 82 [.agg v.cs] H K:=by
 intro m;induction m with
 |zero=>intro v h;have:=v.ZB;omega
 |succ m ih=>
  intro v hm hb H K hK;obtain⟨n,ks⟩:=v;have gy:=IT.ZQ ks;have kr:(IT.mk n ks).ZO=IT.ZA ks+1:=by simp[IT.ZO]
  refine ge.out (yeh λhs=>?_);simp[Yb,IT.cs,ug,uv,AV.ZP,aa];unfold Jn;refine tM.ownC (H.length+2) 1 28 2 (cs:=[I6 n,.ZG]) (by simp) rfl ?_;have fW:(H++[AB.cells [I6 n,.sl (IT.css ks) .none],.cells [I0,.ZG],.cells [I6 n,.ZG]]).set (H.length+2) (.cells ([AV.int .i64 n,.ZG].set 1 (.sl [] (.own (H++[AB.cells [I6 n,.sl (IT.css ks) .none],.cells [I0,.ZG],.cells [I6 n,.ZG]]).length))))++[.perm 28 2 0] =
    H++[.cells [I6 n,.sl (IT.css ks) .none],.cells [I0,.ZG],.cells [I6 n,.sl [] (.own (H.length+3))],.perm 28 2 0]:=by simp[au]
  rw[fW];show Jn (.ptr (H.length+1) 0) (.ptr (H.length+2) 0) (.sl (IT.css ks) .none) (I6 ks.length) I0 _ (Out H.length K);have hsc:∀ i,HSc (H++[.cells [I6 n,.sl (IT.css ks) .none],.cells [I0,.ZG],.cells [I6 n,.sl (IT.css (ks.take i)) (.own (H.length+3))],.perm 28 2 i]):=λi=>hs.append (by simp[AB.sc,AV.ZH,AV.ZI]);refine yef (Inv:=λq t12 H'=>∃ i:Nat,i≤ks.length∧q=ks.length-i∧t12=I6 i ∧
   H'=H++[.cells [I6 n,.sl (IT.css ks) .none],.cells [I0,.ZG],.cells [I6 n,.sl (IT.css (ks.take i)) (.own (H.length+3))],.perm 28 2 i]) ks.length ?_ ?_
  ·intro _;exact⟨0,by omega,by omega,rfl,by simp[IT.css]⟩
  ·rintro q t12 H' ⟨i,hi,rfl,rfl,rfl⟩ fG fz fM Kb fB;by_cases fy:i<ks.length
   ·obtain⟨x,y,fD,hx,hy⟩:=yb ks[i];have jF:=IT.ZM (n:=n) fy;simp[Qc,fy,fD,hx,hy];rw[←fD];refine ur (.agg (ks[i]).cs) (λJ=>ih ks[i] (by omega) (by omega) _ _ ⟨rfl,rfl⟩) ?_;rw[QX];simp[uj,uD,uy,bo hi,AV.ZP,au];refine⟨⟨by omega,by omega⟩,?_⟩;rw[um (by omega) (by omega)];rw[←zBp fy];refine fB _ _ ⟨ks.length-(i+1),by omega,Back.at (J:=[.cells (ks[i]).cs]) (H2:=H++[.cells [I6 n,.sl (IT.css ks) .none],.cells [I0,.ZG],.cells [I6 n,.sl (IT.css (ks.take (i+1))) (.own (H.length+3))],.perm 28 2 (i+1)]) (by simp) (by simp) (hsc _) ?_ ⟨_,rfl,i+1,by omega,rfl,by simp,rfl⟩⟩;simp[Jm,AV.sc,AV.ZJ,AV.ZH,AV.ZI]
   ·obtain rfl:i=ks.length:=by omega
    rw[az]at *;simp[Qc,AV.ZP,au];exact Out.at rfl (af _) hs (vK.agg (ds:=[I6 n,.sl (IT.css ks) .none]) ⟨.refl _,.sl _ _,trivial⟩) rfl (by simp[AV.ZJ,AV.ZH,AV.ZI]) (by simpa[IT.cs]using hK)
section
variable (t0 t1 t2 t3 t9 t10 t11 t12 t14 t20 t21 t22 t27 t28 t29 t43 t44 t45:AV) (H:or) (K:Kt) (Kb3 Kb7:Lt)
def zz:Nat→List Bool|3=>rl false [0,1,1,2,5,1,10,3,47]|7=>rl false [0,1,1,2,6,3,7,3,4,3,40]|10=>rl false [0,1,1,2,6,3,1,1,5,3,4,3,13,3,24]|200012=>rl false [0,2]|_=>[]
noncomputable def zyM:=bd Tryz.f78
def FR:=t0::ux 1 (t2::t3::ux 5 (t9::ux 10 (t20::t21::t22::ux 47 [])))
def zJe:=zz 3
noncomputable def Ty:=uc [1,1,0,1,0,0] zyM
def zJa:=ud tP zz [1,1,0,1,0] zyM (uq tP Tryz.f78.results.toList K)
def zJd:=tM tP Ty (zJa K) (FR t0 t2 t3 t9 t20 t21 t22) H
def MJ:=t0::ux 1 (t2::t3::ux 6 (t10::t11::t12::ux 7 (t20::t21::t22::ux 4 (t27::t28::t29::ux 40 []))))
def zJf:=zz 7
noncomputable def Tz:=uc [1,1,0,0,1,1,0,1,0,0] Ty
def zJb:=ud tP zz [1,1,0,0,1,1,0,1,0] Ty (vz zJe Kb3 (zJa K))
def MK:=tM tP Tz (zJb K Kb3) (MJ t0 t2 t3 t10 t11 t12 t20 t21 t22 t27 t28 t29) H
def FS:=t0::ux 1 (t2::t3::ux 6 (t10::t11::t12::ux 1 (t14::ux 5 (t20::t21::t22::ux 4 (t27::t28::t29::ux 13 (t43::t44::t45::ux 24 []))))))
def ydX:=zz 10
noncomputable def ydT:=uc [1,1,0,0,1,1,0,0] Tz
def ydS:=ud tP zz [1,1,0,0,1,1,0] Tz (vz zJf Kb7 (zJb K Kb3))
def zJc:=tM tP ydT (ydS K Kb3 Kb7) (FS t0 t2 t3 t10 t11 t12 t14 t20 t21 t22 t27 t28 t29 t43 t44 t45) H
def TA(t0 t2 t3 t10 t11 t12 t14 t20 t21 t22 t27 t28 t29 t43 t44 t45:AV)(H:or)(K:Kt)(Kb3:Lt)(Kb7:Lt)(Kb10:Lt):Prop:=gt .lss false t45 t44 λt46=>tO t46 (tW 5 t43 t45 λt47=>tL true 5 t47 H λt48=>un [I0,.ZG,(.bool false),.ZG,.ZG] H λt16 H=>ua 5 t16 t48 H λH=>apm H t12 λt49=>apu H (tN 0 t14) λt50=>apu H (tY false 1 t50 H) λt51=>zK .g true H (λK'=>ge tP 130 [t51] H K') λt52 H=>apu H (tN 0 t16) λt53=>apu H (tY true 2 t53 H) λt54=>apu H (uk 2 [I0,.ZG] 1 [(0,t54)]) λt55=>zK .g false H (λK'=>uj 28 2 32 t52 t55 H K') λt56 H=>apu H (tN 1 t14) λt57=>apu H (tY true 3 t57 H) λt58=>apu H (tN 2 t16) λt59=>apu H (tY true 3 t59 H) λt60=>zK .g true H (λK'=>ge tP 70 [t58,t60] H K') λt61 H=>apu H (ug [.ZG,(.bool false),.ZG,.ZG] [(0,1),(1,3)] [(0,t56),(1,t61)]) λt62=>apu H (uk 4 [.ZG,(.bool false),.ZG,.ZG] 1 [(0,t62)]) λt63=>zK .g false H (λK'=>uj 118 4 80 t49 t63 H K') λt64 H=>apm H t64 λt12=>gt .add false t45 I1 λt65=>Kb10 (FS t0 t2 t3 t10 t11 t12 t14 t20 t21 t22 t27 t28 t29 t43 t44 t65) H) (gt .add false t29 I1 λt66=>Kb7 (MJ t0 t2 t3 t10 t11 t12 t20 t21 t22 t27 t28 t66) H)
def TB:=gt .lss false t29 t28 λt30=>tO t30 (tW 4 t27 t29 λt31=>tL true 4 t31 H λt32=>un [.ZG,(.bool false),.ZG,.ZG] H λt14 H=>ua 4 t14 t32 H λH=>apm H t0 λt33=>apu H (tY true 3 t11 H) λt34=>apm H t2 λt35=>apm H t10 λt36=>apu H (tW 2 t35 t36) λt37=>apu H (tY true 2 t37 H) λt38=>apm H t3 λt39=>apm H t10 λt40=>apu H (tW 2 t39 t40) λt41=>apu H (tY true 2 t41 H) λt42=>apc tP H 43 [t33,t34,t38,t42] λt43=>apu H (tV 1 t43) λt44=>apm H I0 λt45=>zJc t0 t2 t3 t10 t11 t12 t14 t20 t21 t22 t27 t28 t29 t43 t44 t45 H K Kb3 Kb7) (gt .add false t22 I1 λt68=>Kb3 (FR t0 t2 t3 t12 t20 t21 t68) H)
def TC:=gt .lss false t22 t21 λt23=>tO t23 (tW 3 t20 t22 λt25=>tL true 3 t25 H λt26=>un [I0,I0,.ZG] H λt11 H=>ua 3 t11 t26 H λH=>tV 1 t9 λt28=>MK t0 t2 t3 t22 t11 .ZG t20 t21 t22 t9 t28 I0 H K Kb3) (K t9 H)
def zI9:=ge tP 61 [I1] H λt17 H=>ug [.ZG,(.bool false),.ZG,.ZG] [(0,1),(1,3)] [(1,t17)] λt18=>uk 4 [.ZG,(.bool false),.ZG,.ZG] 1 [(0,t18)] λt19=>tV 1 t1 λt21=>zJd t0 t2 t3 t19 t1 t21 I0 H K
variable {t0 t1 t2 t3 t9 t10 t11 t12 t14 t20 t21 t22 t27 t28 t29 t43 t44 t45} {H} {K} {Kb3 Kb7}
def ydU:Lo2 (λt12 t45=>FS t0 t2 t3 t10 t11 t12 t14 t20 t21 t22 t27 t28 t29 t43 t44 t45) (λt12 t45 H Kb10=>TA t0 t2 t3 t10 t11 t12 t14 t20 t21 t22 t27 t28 t29 t43 t44 t45 H K Kb3 Kb7 Kb10) t12 t45 H (zJc t0 t2 t3 t10 t11 t12 t14 t20 t21 t22 t27 t28 t29 t43 t44 t45 H K Kb3 Kb7):=lq2 zz ydX
def ydW:Lo2 (λt12 t29=>MJ t0 t2 t3 t10 t11 t12 t20 t21 t22 t27 t28 t29) (λt12 t29 H Kb7=>TB t0 t2 t3 t10 t11 t12 t20 t21 t22 t27 t28 t29 H K Kb3 Kb7) t12 t29 H (MK t0 t2 t3 t10 t11 t12 t20 t21 t22 t27 t28 t29 H K Kb3):=lq2 zz zJf
def ydV:Lo2 (λt9 t22=>FR t0 t2 t3 t9 t20 t21 t22) (λt9 t22 H Kb3=>TC t0 t2 t3 t9 t20 t21 t22 H K Kb3) t9 t22 H (zJd t0 t2 t3 t9 t20 t21 t22 H K):=lq2 zz zJe
def ydY(h:HSc H→zI9 t0 t1 t2 t3 H K):ge tP 78 [t0,t1,t2,t3] H K:=
 acb zz Tryz.func78 h
end
def ge.snilFull{P:Program}{f:FuncId}{us:List AV}{H:or}{K:AV→or→Prop}(h:ge P f us H λr H'=>(r=.ZG∧K (.sl [] .full) H')∨K r H'):ge P f us H K:=by
 intro B w G vs hH hv;refine(h B w G vs hH hv).mono λe w' ⟨v,r,H',G',h1,h2,h3,h4,h5⟩=>?_;rcases h5 with ⟨rfl,hk⟩|hk
 ·refine⟨v,.sl [] .full,H',G',h1,h2,h3,?_,hk⟩;have:v=.slice none 0 0:=h4;subst this;exact⟨.slE _ _,_,rfl⟩
 ·exact⟨v,r,H',G',h1,h2,h3,h4,hk⟩
def zAx(r:List IT)(hr:r.length≤1000000)(H:or)(K:Kt)(h0:r=[]→K (.sl [] .full) H)(h1:r≠[]→K (.sl (IT.css r) (.own H.length)) (H++[.perm 28 2 r.length])):
  ge tP 130 [.sl (IT.css r) .none] H K:=by
 refine ge.snilFull (zSo λhs=>?_);cases r with
 |nil=>simp[Sl,IT.css,DQ,Cm,uk,uI,plain,AV.pd,uj,uD,uy];exact⟨.inl (h0 rfl),h0 rfl⟩
 |cons x r=>have:=h1 (by simp);simp[Sl,IT.css,DQ,Cm,uk,uI,plain,AV.pd,uj,uD,uy];simp only[List.length_cons]at hr;refine⟨λc hc=>?_,⟨by omega,by omega⟩,by simpa[IT.css]using this⟩;rw[IT.ZC]at hc;obtain⟨v,_,rfl⟩:=aF.1 hc;simp
def FT{H:or}{g:Bool}{p:(AV→or→Prop)→Prop}{k:AV→or→Prop}(r:AV)(H':or)(h:p λv H2=>v=r∧H2=H')(hg:GrowA H H')(hk:k r H'):zK .g g H p k:=⟨r,H',h,λ_=>hg,hk⟩
def TD{H:or}{g:Bool}{p:(AV→or→Prop)→Prop}{k:AV→or→Prop}(r:AV)(h:p λv H2=>v=r∧H2=H)(hk:k r H):zK .g g H p k:=⟨r,H,h,λ_=>.inl rfl,hk⟩
def TE(eq:List Dat)(f:Nat):Prop:=∀ (t:VT) (i j:IT),i.ZO+j.ZO≤f→t.ZO≤1000→uW eq 0 t=true→0≤rdV eq i t→0≤rdV eq j t→rdV eq i t+rdV eq j t≤6→i.ZO+j.ZO≤300 →
 ∀(H:or) (K:Kt),K (.sl (vi (wg eq f t i j)) .none) H→ge tP 43 [.sl (eq.map Dat.cs) .none,.agg t.cs,.agg i.cs,.agg j.cs] H K
def ML(eq:List Dat)(f:Nat):Prop:=∀ (ts:List VT) (l m:List IT),IT.ZA l+IT.ZA m+1≤f→l.length=ts.length→m.length=ts.length→ts.length≤1000→(∀ x∈ts,x.ZO≤1000∧uW eq 0 x=true)→0≤rdA eq l ts 0→0≤rdA eq m ts 0→rdA eq l ts 0+rdA eq m ts 0≤6→IT.ZA l+IT.ZA m≤300 →
 ∀(H:or) (K:Kt),K (.sl (uC (xg eq f ts l m)) .none) H→ge tP 78 [.sl (eq.map Dat.cs) .none,.sl (VT.css ts) .none,.sl (IT.css l) .none,.sl (IT.css m) .none] H K
def MM(eq:List Dat)(f:Nat):Prop:=∀ (t:VT) (l m:List IT),IT.ZA l+IT.ZA m+1≤f→t.ZO≤1000→uW eq 0 t=true→t.kind=5→0≤rdE eq l t 0→0≤rdE eq m t 0→rdE eq l t 0+rdE eq m t 0≤6→IT.ZA l+IT.ZA m≤300 →
 ∀(H:or) (K:Kt),K (.sl (uC (vu eq f t l m)) .none) H→ge tP 81 [.sl (eq.map Dat.cs) .none,.agg t.cs,.sl (IT.css l) .none,.sl (IT.css m) .none] H K
def zNQ{eq:List Dat}(h8:∀ D∈eq,D.cons.length≤8){f:Nat}{ts:List VT}{l m:List IT}(hf:IT.ZA l+IT.ZA m≤f)(hl:l.length=ts.length)(hm:m.length=ts.length)(hA:0≤rdA eq l ts 0)(hB:0≤rdA eq m ts 0)(h6:rdA eq l ts 0+rdA eq m ts 0≤6)(k:Nat)(hk:k≤ts.length):
  (∀r∈xG eq f ts l m k,0<r.2∧r.2≤729∧r.1.length≤IT.ZA l+IT.ZA m)∧(xG eq f ts l m k).length≤729:=by
 have hb:=zC1 (f:=f) h8 hf hl hm hA hB h6 k hk;have hp:=Td (FJ eq f).1 ts l m k;have hs:∀g:List IT→Nat,uK g (xG eq f ts l m k)=uK g (wA eq f ts l m k):=λg=>S4 (Dy eq f).1 ts l m k g;have a1:=xw l ts 0 k hl (by omega) hA;have b1:=xw m ts 0 k hm (by omega) hB;have n1:=IT.ZD l k;have n2:=IT.ZD m k;have hN:uK (λ_=>1) (xG eq f ts l m k)≤729:=by obtain⟨h1,h2⟩:=(xV h8 (f+1)).2.1 (ts.take k) (l.take k) (m.take k) (by omega) (by simp;omega) (by simp;omega) a1.1 b1.1 (by omega);have e:=zC3 (eq:=eq) (f:=f) (ts:=ts) (l:=l) (m:=m) (k:=k) k (af _);rw[FE,a7,bo hk,e]at h2;rw[hs];exact aC h2 (xW (by omega))
 refine⟨λr hr=>?_,aC (B0 hp) hN⟩;obtain⟨q,hq,he⟩:=Ms hs hr (hp r hr);have h1:=Dz (λ_=>1) hr;rw[dX]at h1;obtain⟨_,_,h2⟩:=hb.1 q hq;rw[he]at h2;have h3:=IT.ZQ r.1;exact⟨hp r hr,by omega,by omega⟩
def zPk{out:List (List IT×Nat)}{ws:List (IT×Nat)}{j:Nat}(h:j<out.length):wE (out.take (j+1)) ws=wE (out.take j) ws++ws.map λw=>(out[j].1++[w.1],out[j].2*w.2):=by rw[ag h];simp only[wE,bF,bj,dc,aP]
theorem zDu(ws:List (IT × Nat)):∀ out:List (List IT × Nat),(wE out ws).length=out.length*ws.length
 |[]=>by simp[wE]
 |r::out=>by have:=zDu ws out;unfold wE at this ⊢;rw[bj,aH,this,cC,List.length_cons,bD];omega
def zNU{eq:List Dat}(h8:∀D∈eq,D.cons.length≤8){f:Nat}(hM:TE eq f):ML eq (f+1):=by
 intro ts l m hf hl hm tp jn hA hB h6 hn H K hK;rw[S3]at hK;refine ge.out (ydY λhs=>?_);simp[zI9,aa];refine Ad 1 (by omega) _ _ ?_;simp[ug,uv,uk,uI,plain,AV.pd,AV.ZP,xH,aa];have ij:([AV.sl [] .none::ue 1]:List (List AV))=uC (xG eq f ts l m 0):=by simp[zC4,uC,IT.css]
 rw[ij];refine ydV (Inv:=λq t9 t22 H'=>∃(k:Nat) (J:or) (tok:Tok),k≤ts.length∧ts.length-k=q∧t22=I6 k∧t9=.sl (uC (xG eq f ts l m k)) tok∧H'=H++J) ts.length ?_ ?_
 ·intro _;exact⟨0,[],.full,by omega,rfl,rfl,rfl,by simp⟩
 ·rintro q t9 t22 H' ⟨k,J,tok,hk,rfl,rfl,rfl,rfl⟩ fG fz fM Kb fB;have nu:=zNQ (f:=f) h8 (by omega) hl hm hA hB h6 k hk;obtain⟨out,gz⟩:∃ out,out=xG eq f ts l m k:=⟨_,rfl⟩;rw[←gz]at nu fM ⊢;obtain⟨b1,b2⟩:=nu;by_cases fy:k<ts.length
  ·have h3:k<l.length:=by omega
   have h4:k<m.length:=by omega
   obtain⟨x1,x2,x3,fD,gG,gf,gL⟩:=ve ts[k];obtain⟨y1,y2,md,hy1,lx⟩:=yb l[k];obtain⟨z1,z2,rn,ol,oX⟩:=yb m[k];have n1:=Aa h3;have n2:=Aa h4;have d1:=(Du (eq:=eq) l ts 0 (by omega) hl hA).1 k h3 fy;have d2:=(Du (eq:=eq) m ts 0 (by omega) hm hB).1 k h4 fy;have a1:=xw l ts 0 k hl (by omega) hA;have a2:=xw l ts 0 (k+1) hl (by omega) hA;have c1:=xw m ts 0 k hm (by omega) hB;have c2:=xw m ts 0 (k+1) hm (by omega) hB;have sl:=AR (eq:=eq) l[k] ts[k] (l.take k) (ts.take k) 0 (by simp;omega) (by omega) a1.1;have sm:=AR (eq:=eq) m[k] ts[k] (m.take k) (ts.take k) 0 (by simp;omega) (by omega) c1.1;rw[←ag h3,←ag fy]at sl;rw[←ag h4,←ag fy]at sm;have dd:rdV eq l[k] ts[k]+rdV eq m[k] ts[k]≤6:=by
    by_cases cl:rdV eq l[k] ts[k]<0∨rdA eq (l.take k) (ts.take k) 0+rdV eq l[k] ts[k]>6
    ·rw[aN cl]at sl;omega
    ·rw[aG cl]at sl;by_cases cm:rdV eq m[k] ts[k]<0∨rdA eq (m.take k) (ts.take k) 0+rdV eq m[k] ts[k]>6
     ·rw[aN cm]at sm;omega
     ·rw[aG cm]at sm;omega
   obtain⟨iW,jS⟩:=jn _ (ae fy);obtain⟨ws,mD⟩:∃ws,ws=wg eq f ts[k] l[k] m[k]:=⟨_,rfl⟩;obtain⟨p1,p2,p3,p4⟩:=zAf h8 (f:=f) (t:=ts[k]) (i:=l[k]) (j:=m[k]) (by omega) d1 d2 dd;rw[←mD]at p1 p2 p3 p4;have gb:xG eq f ts l m (k+1)=wE out ws:=by rw[S2,←gz];simp[aq,fy,h3,h4,mD]
   generalize tq:H++J=HB at *;simp[TC,fy,fD];rw[←fD];refine⟨⟨gG,gf,gL⟩,?_⟩;unfold MK;refine tM.own 12 118 4 rfl ?_;have jY:(HB++[AB.cells ts[k].cs]).length=HB.length+1:=by simp
   rw[jY,aB];show MK _ _ _ _ _ (.sl (uC (wE (out.take 0) ws)) (.own (HB.length+1))) _ _ _ _ _ _ (HB++[.cells ts[k].cs,.perm 118 4 0]) _ _;have htc:∀n,ts[k].cs.all (AV.ZH n)=true:=λn=>by obtain⟨v1,v2,v3⟩:=ts[k];simp[VT.cs,AV.ZH,AV.ZI]
   have ro:∀n,HSc (HB++[.cells ts[k].cs,.perm 118 4 n]):=λn=>fG.append (by simp only[AB.sc,List.all_cons,List.all_nil,htc];rfl);have lI:∀J,(AV.sl (uC out) tok).sc (HB++J).length=true:=λJ=>by
    have h0:(AV.sl (uC out) tok).sc HB.length=true:=by rw[aA]at fM;exact fM _ (by simp[FR,ux])
    exact wJ (by simp) h0
   refine ydW (Inv:=λq t12 t29 H'=>∃j:Nat,j≤out.length∧out.length-j=q∧t29=I6 j∧t12=.sl (uC (wE (out.take j) ws)) (.own (HB.length+1))∧H'=HB++[.cells ts[k].cs,.perm 118 4 (wE (out.take j) ws).length]) out.length ?_ ?_
   ·intro _;exact⟨0,by omega,rfl,rfl,rfl,by simp[wE]⟩
   ·rintro q t12 t29 H' ⟨j,hj,rfl,rfl,rfl,rfl⟩ hsc7 hlen7 hsF7 Kb7 nv;have jG:(wE (out.take j) ws).length≤729*729:=by rw[zDu];exact aZ (by simp;omega) p4
    by_cases fU:j<out.length
    ·obtain⟨r1,r2,r3⟩:=b1 out[j] (ae fU);have fC:=zPk (ws:=ws) fU;simp[TB,fU,h3,h4,fD,md,rn];rw[←fD,←md,←rn];refine ur (.sl (vi ws) .none) (λJ=>by rw[mD];exact hM ts[k] l[k] m[k] (by omega) iW jS d1 d2 dd (by omega) _ _ ⟨rfl,rfl⟩) ?_;simp;obtain⟨fu,jO⟩:∃ fu,fu=wE (out.take j) ws:=⟨_,rfl⟩;rw[←jO]at jG fC ⊢;obtain⟨g,hg⟩:∃ g:IT × Nat→List IT × Nat,g=λw=>(out[j].1++[w.1],out[j].2*w.2):=⟨_,rfl⟩;rw[←hg]at fC;have rv:(AV.sl (IT.css out[j].1) .none::ue (out[j].2:Int)).length=4:=by simp
     have oC:∀n,HSc (HB++[.cells ts[k].cs,.perm 118 4 n,.cells (.sl (IT.css out[j].1) .none::ue (out[j].2:Int))]):=λn=>fG.append (by simp only[AB.sc,List.all_cons,List.all_nil,htc];simp[ue,AV.ZH,AV.ZI]);refine ydU (Inv:=λq t12 t45 H'=>∃i:Nat,i≤ws.length∧ws.length-i=q∧t45=I6 i∧t12=.sl (uC (fu++(ws.take i).map g)) (.own (HB.length+1))∧H'=HB++[.cells ts[k].cs,.perm 118 4 (fu.length+i),.cells (.sl (IT.css out[j].1) .none::ue (out[j].2:Int))]) ws.length ?_ ?_
     ·intro _;exact⟨0,by omega,rfl,rfl,by simp,rfl⟩
     ·rintro q t12 t45 H' ⟨i,hi,rfl,rfl,rfl,rfl⟩ hsc10 jo hsF10 Kb10 l5;have ly:(fu++(ws.take i).map g).length=fu.length+i:=by simp;omega
      by_cases gq:i<ws.length
      ·obtain⟨w1,w2,_⟩:=p1 ws[i] (ae gq);have i7:fu++(ws.take (i+1)).map g=(fu++(ws.take i).map g)++[g ws[i]]:=by rw[ag gq];simp only[a6,aL,bI,aB]
       have l6:Sm (ws[i].2:Int):=xf (aI w2 (by decide));have ij:Sm (out[j].2:Int):=xf (aI r2 (by decide));simp[TA,gq,B6,Af,y5];refine⟨AT _,?_⟩;have gy:=r3;have rj:∀(a:List IT) (x:IT),IT.css a++[x.cs]=IT.css (a++[x]):=λa x=>by rw[IT.ZC,IT.ZC,a6];rfl
       have iU:∀(a:List IT),∀c∈IT.css a,c.length=2:=λa c hc=>by rw[IT.ZC]at hc;obtain⟨v,_,rfl⟩:=aF.1 hc;simp
       have sh:plain ([I0,.ZG]:List AV)=some [I0,.sl [] .none]:=rfl;by_cases mQ:out[j].1=[]
       ·refine TD (.sl [] .full) (zAx _ (by omega) _ _ (λ_=>⟨rfl,rfl⟩) (λh=>absurd mQ h)) ?_;simp[Af,uk,uI,sh,DA];refine FT (.sl (IT.css (out[j].1++[ws[i].1])) (.own (HB.length+4))) (HB++[.cells ts[k].cs,.perm 118 4 (fu.length+i),.cells (.sl (IT.css out[j].1) .none::ue (out[j].2:Int)),.cells (tmC ws[i])]++[.perm 28 2 (out[j].1.length+1)]) ?_ (.inr (.inl ⟨_,_,_,rfl⟩)) ?_
        ·simp[uj,uD,uy,mQ,IT.css]
        ·simp[y5];refine TD (.agg (ue ((out[j].2*ws[i].2:Nat):Int))) (Mt _ _ ij l6 _ _ ⟨by rw[Int.natCast_mul],rfl⟩) ?_;have gQ:plain (AV.sl (IT.css (out[j].1++[ws[i].1])) (.own (HB.length+4))::ue ((out[j].2*ws[i].2:Nat):Int))=some (.sl (IT.css (out[j].1++[ws[i].1])) .none::ue ((out[j].2*ws[i].2:Nat):Int)):=by simp[plain,AV.pd,xH]
         have qD:plain ([.ZG,.bool false,.ZG,.ZG]:List AV)=some [.sl [] .none,.bool false,.sl [] .none,.sl [] .none]:=rfl;have nw:uC (fu++(ws.take i).map g)++[.sl (IT.css (out[j].1++[ws[i].1])) .none::ue ((out[j].2*ws[i].2:Nat):Int)]=uC (fu++(ws.take (i+1)).map g):=by rw[i7,Mw _ [g ws[i]],hg];rfl
         rw[Int.natCast_mul]at gQ nw;simp only[bT]at nw;simp[ug,uv,gQ,qD];have iQ:min i ws.length=i:=by omega
         refine FT (.sl (uC (fu++List.take (i+1) (List.map g ws))) (.own (HB.length+1))) (HB++[.cells ts[k].cs,.perm 118 4 (fu.length+(i+1)),.cells (.sl (IT.css out[j].1) .none::ue (out[j].2:Int)),.cells (tmC ws[i]),.perm 28 2 (out[j].1.length+1)]) ?_ (.inr (.inr (.inl ⟨HB.length+1,118,4,fu.length+i,fu.length+(i+1),by simp,by simp[au]⟩))) ?_
         ·simp[uj,uD,uy,au,iQ];exact⟨⟨by omega,by omega⟩,nw,by omega⟩
         ·rw[wi i (by omega)];exact l5 _ _ ⟨ws.length-(i+1),by omega,Back.at (J:=[.cells (tmC ws[i]),.perm 28 2 (out[j].1.length+1)]) (H2:=HB++[.cells ts[k].cs,.perm 118 4 (fu.length+(i+1)),.cells (.sl (IT.css out[j].1) .none::ue (out[j].2:Int))]) (by simp) (by simp) (oC _) (by
           have:=lI [.cells ts[k].cs,.perm 118 4 (fu.length+(i+1)),.cells (.sl (IT.css out[j].1) .none::ue (out[j].2:Int))];simp only[FS,ux,List.all_cons,bl,dh,List.all_nil,this];simp[AV.sc,AV.ZH,AV.ZI,AV.ZJ]) ⟨_,_,rfl,i+1,by omega,rfl,rfl,by simp only[bT],rfl⟩⟩
       ·refine FT (.sl (IT.css out[j].1) (.own (HB.length+4))) (HB++[.cells ts[k].cs,.perm 118 4 (fu.length+i),.cells (.sl (IT.css out[j].1) .none::ue (out[j].2:Int)),.cells (tmC ws[i])]++[.perm 28 2 out[j].1.length]) (zAx _ (by omega) _ _ (λh=>absurd h mQ) (λ_=>⟨by simp,by simp⟩)) (.inr (.inl ⟨_,_,_,rfl⟩)) ?_;simp[Af,uk,uI,sh,DA];refine FT (.sl (IT.css (out[j].1++[ws[i].1])) (.own (HB.length+4))) (HB++[.cells ts[k].cs,.perm 118 4 (fu.length+i),.cells (.sl (IT.css out[j].1) .none::ue (out[j].2:Int)),.cells (tmC ws[i])]++[.perm 28 2 (out[j].1.length+1)]) ?_ (.inr (.inr (.inl ⟨HB.length+4,28,2,out[j].1.length,out[j].1.length+1,by simp,by simp[au]⟩))) ?_
        ·simp[uj,uD,uy,au,rj];omega
        ·simp[y5];refine TD (.agg (ue ((out[j].2*ws[i].2:Nat):Int))) (Mt _ _ ij l6 _ _ ⟨by rw[Int.natCast_mul],rfl⟩) ?_;have gQ:plain (AV.sl (IT.css (out[j].1++[ws[i].1])) (.own (HB.length+4))::ue ((out[j].2*ws[i].2:Nat):Int))=some (.sl (IT.css (out[j].1++[ws[i].1])) .none::ue ((out[j].2*ws[i].2:Nat):Int)):=by simp[plain,AV.pd,xH]
         have qD:plain ([.ZG,.bool false,.ZG,.ZG]:List AV)=some [.sl [] .none,.bool false,.sl [] .none,.sl [] .none]:=rfl;have nw:uC (fu++(ws.take i).map g)++[.sl (IT.css (out[j].1++[ws[i].1])) .none::ue ((out[j].2*ws[i].2:Nat):Int)]=uC (fu++(ws.take (i+1)).map g):=by rw[i7,Mw _ [g ws[i]],hg];rfl
         rw[Int.natCast_mul]at gQ nw;simp only[bT]at nw;simp[ug,uv,gQ,qD];have iQ:min i ws.length=i:=by omega
         refine FT (.sl (uC (fu++List.take (i+1) (List.map g ws))) (.own (HB.length+1))) (HB++[.cells ts[k].cs,.perm 118 4 (fu.length+(i+1)),.cells (.sl (IT.css out[j].1) .none::ue (out[j].2:Int)),.cells (tmC ws[i]),.perm 28 2 (out[j].1.length+1)]) ?_ (.inr (.inr (.inl ⟨HB.length+1,118,4,fu.length+i,fu.length+(i+1),by simp,by simp[au]⟩))) ?_
         ·simp[uj,uD,uy,au,iQ];exact⟨⟨by omega,by omega⟩,nw,by omega⟩
         ·rw[wi i (by omega)];exact l5 _ _ ⟨ws.length-(i+1),by omega,Back.at (J:=[.cells (tmC ws[i]),.perm 28 2 (out[j].1.length+1)]) (H2:=HB++[.cells ts[k].cs,.perm 118 4 (fu.length+(i+1)),.cells (.sl (IT.css out[j].1) .none::ue (out[j].2:Int))]) (by simp) (by simp) (oC _) (by
           have:=lI [.cells ts[k].cs,.perm 118 4 (fu.length+(i+1)),.cells (.sl (IT.css out[j].1) .none::ue (out[j].2:Int))];simp only[FS,ux,List.all_cons,bl,dh,List.all_nil,this];simp[AV.sc,AV.ZH,AV.ZI,AV.ZJ]) ⟨_,_,rfl,i+1,by omega,rfl,rfl,by simp only[bT],rfl⟩⟩
      ·obtain rfl:i=ws.length:=by omega
       rw[az,←fC];simp[TA,wi j (by omega)];have jo:fu.length+ws.length=(wE (out.take (j+1)) ws).length:=by rw[fC];simp
       exact nv _ _ ⟨out.length-(j+1),by omega,Back.at (J:=[.cells (.sl (IT.css out[j].1) .none::ue (out[j].2:Int))]) (H2:=HB++[.cells ts[k].cs,.perm 118 4 (wE (out.take (j+1)) ws).length]) (by rw[←jo];simp) (by simp) (ro _) (by
        have:=lI [.cells ts[k].cs,.perm 118 4 (wE (out.take (j+1)) ws).length];simp only[MJ,ux,List.all_cons,bl,dh,List.all_nil,this];simp[AV.sc,AV.ZH,AV.ZI,AV.ZJ]) ⟨_,_,rfl,j+1,by omega,rfl,rfl,rfl,rfl⟩⟩
    ·obtain rfl:j=out.length:=by omega
     rw[az]at jG ⊢;simp[TB,wi k (by omega)];exact fB _ _ ⟨ts.length-(k+1),by omega,Back.here (by simp;omega) (ro _) (by simp[FR,ux,AV.sc,AV.ZH,AV.ZI,AV.ZJ]) ⟨_,_,rfl,k+1,J++[.cells ts[k].cs,.perm 118 4 (wE out ws).length],.own (HB.length+1),by omega,rfl,rfl,by rw[gb],by rw[←tq];simp⟩⟩
  ·obtain rfl:k=ts.length:=by omega
   rw[←gz]at hK;simp[TC];exact Out.at (b:=.sl (uC out) .none) rfl (af _) hs (.atom (.sl _ _)) rfl rfl hK
section
variable (t0 t1 t2 t3 t4 t5 t9 t10 t11 t34 t35 t36 t60 t61 t62 t85 t86 t87 t88:AV) (H:or) (K:Kt) (Kb2 Kb6 Kb12 Kb13 Kb20:Lt)
def zA:Nat→List Bool|6=>rl false [9,1,24,3,66]|13=>rl false [9,1,50,3,40]|20=>rl false [9,1,76,3,14]|_=>[]
noncomputable def DC:=bd Tryz.f43
noncomputable def TF:=Tryz.f43.results.toList
def MN:=ux 9 (t9::ux 24 (t34::t35::t36::ux 66 []))
def yba:=zA 6
noncomputable def ya4:=uc [1,1,0,1,0,1,0,1,0,0] DC
def ya1:=ud tP zA [1,1,0,1,0,1,0,1,0] DC (uq tP TF K)
def MO:=tM tP ya4 (ya1 K) (MN t9 t34 t35 t36) H
def MP:=K t9 H
def B9:=MP t9 H K
def TG:=gt .lss false t36 t35 λt37=>tO t37 (tW 4 t34 t36 λt38=>tL true 4 t38 H λt39=>un [.ZG,(.bool false),.ZG,.ZG] H λt11 H=>ua 4 t11 t39 H λH=>tN 0 t11 λt41=>tL false 1 t41 H λt42=>ug [I0,.ZG] [(0,1),(1,1)] [(1,t42)] λt43=>tN 1 t11 λt44=>tL true 3 t44 H λt45=>ug [I0,.ZG,(.bool false),.ZG,.ZG] [(0,2),(2,3)] [(0,t43),(1,t45)] λt46=>uk 5 [I0,.ZG,(.bool false),.ZG,.ZG] 1 [(0,t46)] λt47=>uj 55 5 88 t9 t47 H λt48 H=>gt .add false t36 I1 λt49=>Kb6 (MN t48 t34 t35 t49) H) (B9 t9 H K)
def FU:=ux 9 (t9::ux 50 (t60::t61::t62::ux 40 []))
def ya8:=zA 13
noncomputable def ya2:=uc [1,1,0,1,0,1,1,1,0,1,1,0,0] DC
def yaZ:=ud tP zA [1,1,0,1,0,1,1,1,0,1,1,0] DC (uq tP TF K)
def MQ:=tM tP ya2 (yaZ K) (FU t9 t60 t61 t62) H
def TH(t9 t60 t61 t62:AV)(H:or)(K:Kt)(Kb13:Lt):Prop:=gt .add false t62 I1 λt77=>Kb13 (FU t9 t60 t61 t77) H
def MR:=TH t9 t60 t61 t62 H K Kb13
def TI:=gt .lss false t62 t61 λt63=>tO t63 (tW 3 t60 t62 λt65=>tL true 3 t65 H λt66=>un [(.bool false),.ZG,.ZG] H λt15 H=>ua 3 t15 t66 H λH=>tL true 3 t15 H λt67=>ge tP 80 [t67] H λt68 H=>gt .neq false t68 I0 λt69=>tO t69 (ug [I0,.ZG] [(0,1),(1,1)] [(0,t62)] λt72=>tL true 3 t15 H λt73=>ug [I0,.ZG,(.bool false),.ZG,.ZG] [(0,2),(2,3)] [(0,t72),(1,t73)] λt74=>uk 5 [I0,.ZG,(.bool false),.ZG,.ZG] 1 [(0,t74)] λt75=>uj 55 5 88 t9 t75 H λt76 H=>MR t76 t60 t61 t62 H K Kb13) (MR t9 t60 t61 t62 H K Kb13)) (B9 t9 H K)
def MS:=ux 9 (t9::ux 76 (t86::t87::t88::ux 14 []))
def ya9:=zA 20
noncomputable def ya3:=uc [1,1,0,1,0,1,1,1,1,1,0,1,0,0] DC
def ya0:=ud tP zA [1,1,0,1,0,1,1,1,1,1,0,1,0] DC (uq tP TF K)
def MT:=tM tP ya3 (ya0 K) (MS t9 t86 t87 t88) H
def TJ:=gt .lss false t88 t87 λt89=>tO t89 (tW 4 t86 t88 λt90=>tL true 4 t90 H λt91=>un [.ZG,(.bool false),.ZG,.ZG] H λt17 H=>ua 4 t17 t91 H λH=>tN 0 t17 λt93=>tL false 1 t93 H λt94=>ug [I0,.ZG] [(0,1),(1,1)] [(1,t94)] λt95=>tN 1 t17 λt96=>tL true 3 t96 H λt97=>ug [I0,.ZG,(.bool false),.ZG,.ZG] [(0,2),(2,3)] [(0,t95),(1,t97)] λt98=>uk 5 [I0,.ZG,(.bool false),.ZG,.ZG] 1 [(0,t98)] λt99=>uj 55 5 88 t9 t99 H λt100 H=>gt .add false t88 I1 λt101=>Kb20 (MS t100 t86 t87 t101) H) (B9 t9 H K)
def FV:=ul t1 H λt5 H=>ul t2 H λt6 H=>ul t3 H λt7 H=>tN 0 t5 λt18=>tL false 1 t18 H λt19=>gt .eql false t19 (I6 6) λt26=>tO t26 (tN 2 t5 λt28=>tL false 1 t28 H λt29=>tN 1 t6 λt30=>tL false 1 t30 H λt31=>tN 1 t7 λt32=>tL false 1 t32 H λt33=>ge tP 78 [t0,t29,t31,t33] H λt34 H=>tV 1 t34 λt35=>MO .ZG t34 t35 I0 H K) (gt .eql false t19 (I6 7) λt51=>tO t51 (tN 0 t6 λt53=>tL false 1 t53 H λt54=>tN 0 t7 λt55=>tL false 1 t55 H λt56=>ge tP 79 [t54,t56] H λt57 H=>uo t57 0 λt58=>uo t57 1 λt59=>tV 1 t58 λt61=>MQ .ZG t58 t61 I0 H K) (gt .eql false t19 (I6 5) λt79=>tO t79 (tL true 3 t5 H λt81=>tN 1 t6 λt82=>tL false 1 t82 H λt83=>tN 1 t7 λt84=>tL false 1 t84 H λt85=>ge tP 81 [t0,t81,t83,t85] H λt86 H=>tV 1 t86 λt87=>MT .ZG t86 t87 I0 H K) (ge tP 61 [I1] H λt21 H=>ug [I0,.ZG,(.bool false),.ZG,.ZG] [(0,2),(2,3)] [(1,t21)] λt22=>uk 5 [I0,.ZG,(.bool false),.ZG,.ZG] 1 [(0,t22)] λt23=>uj 55 5 88 .ZG t23 H λt24 H=>B9 t24 H K)))
def MU:Nat→List Bool|200007=>rl false [0,5]|200008=>rl false [0,5]|12=>rl false [2,1,6,3,73,3,17]|200014=>rl false [0,5]|_=>[]
noncomputable def zyQ:=bd Tryz.f81
def MV:=ux 2 (t2::ux 6 (t9::t10::t11::ux 73 (t85::t86::t87::ux 17 [])))
def yea:=MU 12
noncomputable def yd8:=uc [1,1,1,1,1,1,1,0,1,0,1,1,0,0] zyQ
def yd7:=ud tP MU [1,1,1,1,1,1,1,0,1,0,1,1,0] zyQ (uq tP Tryz.f81.results.toList K)
def zJi:=tM tP yd8 (yd7 K) (MV t2 t9 t10 t11 t85 t86 t87) H
def MW:=tL false 1 t9 H λt104=>K t104 H
def TK:=gt .lss false t87 t86 λt88=>tO t88 (tW 4 t85 t87 λt89=>tL true 4 t89 H λt90=>un [.ZG,(.bool false),.ZG,.ZG] H λt13 H=>ua 4 t13 t90 H λH=>apm H t10 λt91=>apm H t2 λt92=>apu H (tW 2 t92 I0) λt93=>apu H (tN 0 t93) λt94=>apu H (tY false 1 t94 H) λt95=>apu H (tN 0 t13) λt96=>apu H (tY false 1 t96 H) λt97=>apu H (ug [I0,.ZG] [(0,1),(1,1)] [(0,t95),(1,t97)]) λt98=>apu H (tN 1 t13) λt99=>apu H (tY true 3 t99 H) λt100=>apm H t11 λt101=>aCallV tP t91 [t98,t100,t101] H λt102 H=>gt .add false t87 I1 λt103=>Kb12 (MV t2 t9 t10 t11 t85 t86 t103) H) (MW t9 H K)
def MX:=ul t1 H λt5 H=>tV 1 t2 λt15=>gt .eql false t15 I0 λt16=>tO t16 (ge tP 61 [I1] H λt18 H=>ug [.ZG,(.bool false),.ZG,.ZG] [(0,1),(1,3)] [(0,t3),(1,t18)] λt19=>uk 4 [.ZG,(.bool false),.ZG,.ZG] 1 [(0,t19)] λt20=>K t20 H) (tV 1 t3 λt22=>gt .eql false t22 I0 λt23=>tO t23 (ge tP 61 [I1] H λt25 H=>ug [.ZG,(.bool false),.ZG,.ZG] [(0,1),(1,3)] [(0,t2),(1,t25)] λt26=>uk 4 [.ZG,(.bool false),.ZG,.ZG] 1 [(0,t26)] λt27=>K t27 H) (un [.ZG] H λt9 H=>yl 133 [t9] λt28=>apm H t28 λt29=>apm H t2 λt30=>apu H (tW 2 t30 I0) λt31=>apu H (tY true 2 t31 H) λt32=>apc tP H 61 [I1] λt33=>apm H t0 λt34=>apu H (tY true 3 t5 H) λt35=>apm H t2 λt36=>ub H (λK'=>uF 1 2 t36 (some I1) none (K' · H)) λt37=>apm H t3 λt38=>apc tP H 81 [t34,t35,t37,t38] λt39=>aCallV tP t29 [t32,t33,t39] H λt40 H=>apm H t28 λt41=>apm H t3 λt42=>apu H (tW 2 t42 I0) λt43=>apu H (tY true 2 t43 H) λt44=>apc tP H 61 [I1] λt45=>apm H t0 λt46=>apu H (tY true 3 t5 H) λt47=>apm H t2 λt48=>apm H t3 λt49=>ub H (λK'=>uF 1 2 t49 (some I1) none (K' · H)) λt50=>apc tP H 81 [t46,t47,t48,t50] λt51=>aCallV tP t41 [t44,t45,t51] H λt52 H=>apm H t2 λt53=>apu H (tW 2 t53 I0) λt54=>apu H (tN 0 t54) λt55=>apu H (tY false 1 t55 H) λt56=>apm H t3 λt57=>apu H (tW 2 t57 I0) λt58=>apu H (tN 0 t58) λt59=>apu H (tY false 1 t59 H) λt60=>apu H (gt .eql false t56 t60) λt61=>tO t61 (apm H t0 λt62=>apu H (tY true 3 t5 H) λt63=>apm H t2 λt64=>ub H (λK'=>uF 1 2 t64 (some I1) none (K' · H)) λt65=>apm H t3 λt66=>ub H (λK'=>uF 1 2 t66 (some I1) none (K' · H)) λt67=>apc tP H 81 [t62,t63,t65,t67] λt68=>apm H t68 λt11=>apm H t0 λt69=>apm H t0 λt70=>apu H (tY true 3 t5 H) λt71=>apm H t2 λt72=>apu H (tW 2 t72 I0) λt73=>apu H (tN 0 t73) λt74=>apu H (tY false 1 t74 H) λt75=>apc tP H 135 [t70,t71,t75] λt76=>apm H t2 λt77=>apu H (tW 2 t77 I0) λt78=>apu H (tN 1 t78) λt79=>apu H (tY false 1 t79 H) λt80=>apm H t3 λt81=>apu H (tW 2 t81 I0) λt82=>apu H (tN 1 t82) λt83=>apu H (tY false 1 t83 H) λt84=>apc tP H 78 [t69,t76,t80,t84] λt85=>apu H (tV 1 t85) λt86=>apm H I0 λt87=>zJi t2 t9 t28 t11 t85 t86 t87 H K) (MW t9 H K)))
def MY:Nat→List Bool|2=>rl false [3,3,3,3,18]|_=>[]
noncomputable def zvu:=bd Tryz.f133
def MZ:=ux 3 (t3::t4::t5::ux 3 (t9::t10::t11::ux 18 []))
def zSI:=MY 2
noncomputable def zSG:=uc [1,1,0,0] zvu
def zSF:=ud tP MY [1,1,0] zvu (uq tP Tryz.f133.results.toList K)
def zFn:=tM tP zSG (zSF K) (MZ t3 t4 t5 t9 t10 t11) H
def TL:=gt .lss false t11 t10 λt12=>tO t12 (tW 4 t9 t11 λt13=>tL true 4 t13 H λt14=>un [.ZG,(.bool false),.ZG,.ZG] H λt8 H=>ua 4 t8 t14 H λH=>apu H (tY false 1 t3 H) λt15=>apu H (tY true 2 t4 H) λt16=>apu H (uk 2 [I0,.ZG] 1 [(0,t16)]) λt17=>apu H (tN 0 t8) λt18=>apu H (tY false 1 t18 H) λt19=>apu H (uk 1 [.ZG] 2 [(0,t17),(1,t19)]) λt20=>apc tP H 134 [t20] λt21=>apu H (tY true 3 t5 H) λt22=>apu H (tN 1 t8) λt23=>apu H (tY true 3 t23 H) λt24=>apc tP H 70 [t22,t24] λt25=>apu H (ug [.ZG,(.bool false),.ZG,.ZG] [(0,1),(1,3)] [(0,t21),(1,t25)]) λt26=>apu H (uk 4 [.ZG,(.bool false),.ZG,.ZG] 1 [(0,t26)]) λt27=>uj 118 4 80 t15 t27 H λt28 H=>ua 1 t3 t28 H λH=>gt .add false t11 I1 λt29=>Kb2 (MZ t3 t4 t5 t9 t10 t29) H) (ut [] (K · H))
def zFm:=ul t0 H λt4 H=>ul t1 H λt5 H=>tV 1 t2 λt10=>zFn t3 t4 t5 t2 t10 I0 H K
variable {t0 t1 t2 t3 t4 t5 t9 t10 t11 t34 t35 t36 t60 t61 t62 t85 t86 t87 t88} {H} {K} {Kb2 Kb6 Kb12 Kb13 Kb20}
def ya7:Lo2 (λt9 t36=>MN t9 t34 t35 t36) (λt9 t36 H Kb6=>TG t9 t34 t35 t36 H K Kb6) t9 t36 H (MO t9 t34 t35 t36 H K):=lq2 zA yba
def ya5:Lo2 (λt9 t62=>FU t9 t60 t61 t62) (λt9 t62 H Kb13=>TI t9 t60 t61 t62 H K Kb13) t9 t62 H (MQ t9 t60 t61 t62 H K):=lq2 zA ya8
def ya6:Lo2 (λt9 t88=>MS t9 t86 t87 t88) (λt9 t88 H Kb20=>TJ t9 t86 t87 t88 H K Kb20) t9 t88 H (MT t9 t86 t87 t88 H K):=lq2 zA ya9
def ybb(h:HSc H→FV t0 t1 t2 t3 H K):ge tP 43 [t0,t1,t2,t3] H K:=
 acb zA Tryz.func43 h
def yd9:Lo1 (λt87=>MV t2 t9 t10 t11 t85 t86 t87) (λt87 H Kb12=>TK t2 t9 t10 t11 t85 t86 t87 H K Kb12) t87 H (zJi t2 t9 t10 t11 t85 t86 t87 H K):=lq1 MU yea
def yeb(h:HSc H→MX t0 t1 t2 t3 H K):ge tP 81 [t0,t1,t2,t3] H K:=
 acb MU Tryz.func81 h
def zSH:Lo1 (λt11=>MZ t3 t4 t5 t9 t10 t11) (λt11 H Kb2=>TL t3 t4 t5 t9 t10 t11 H K Kb2) t11 H (zFn t3 t4 t5 t9 t10 t11 H K):=lq1 MY zSI
def zSJ(h:HSc H→zFm t0 t1 t2 t3 H K):ge tP 133 [t0,t1,t2,t3] H K:=
 acb MY Tryz.func133 h
end
def bw(H:or)(io iv:Nat)(l:List (List IT×Nat)):or:=(H.set iv (.vec 118 4 l.length (uC l).flatten)).set io (.cells [.ov iv l.length])
structure Bw (H:or) (io iv:Nat) (l:List (List IT × Nat)):Prop where
 ne:io≠iv
 h1:H[io]?=some (.cells [.ov iv l.length])
 h2:H[iv]?=some (.vec 118 4 l.length (uC l).flatten)
section
variable {H J:or} {io iv:Nat} {l l':List (List IT×Nat)}
@[simp] theorem TM:(bw H io iv l).length=H.length:=by simp[bw]
def Bw.app(h:Bw H io iv l):Bw (H++J) io iv l:=⟨h.ne,vq h.h1,vq h.h2⟩
def Bw.bw_app(h:Bw H io iv l):bw (H++J) io iv l'=bw H io iv l'++J:=by unfold bw;rw[aY _ _ (uR h.h2),aY _ _ (by simpa using uR h.h1)]
def zKX(fI:io≠iv):bw (bw H io iv l) io iv l'=bw H io iv l':=by unfold bw;rw[eI _ _ fI,bX,bX]
def Bw.next(h:Bw H io iv l):Bw (bw H io iv l') io iv l':=by
 have l1:=uR h.h1;have l2:=uR h.h2;refine⟨h.ne,?_,?_⟩
 ·unfold bw;rw[ak (by simpa using l1)]
 ·unfold bw;rw[aj h.ne,ak l2]
def zC5(l:List (List IT×Nat))(n:Nat):(uC l).flatten.all (AV.ZH n)=true:=by
 rw[aA];intro x hx;obtain⟨c,hc,hx⟩:=eN.1 hx;obtain⟨r,_,rfl⟩:=aF.1 hc;rcases aT.1 hx with rfl|hx
 ·rfl
 ·exact aA.1 (EX _ _) x hx
def Bw.hsc(h:Bw H io iv l)(hs:HSc H):HSc (bw H io iv l'):=by have l2:=uR h.h2;unfold bw;refine HSc.set (HSc.set hs (by simp only[AB.sc];exact zC5 _ _)) ?_;simp[AB.sc,AV.ZH,AV.ZI];omega
def Bw.self(h:Bw H io iv l):bw H io iv l=H:=by
 unfold bw;have e1:H.set iv (.vec 118 4 l.length (uC l).flatten)=H:=by
  refine aU λi=>?_;by_cases hi:iv=i
  ·subst hi;rw[ak (uR h.h2),h.h2]
  ·rw[aj hi]
 rw[e1];refine aU λi=>?_;by_cases hi:io=i
 ·subst hi;rw[ak (uR h.h1),h.h1]
 ·rw[aj hi]
end
def zAn:y9 tP 133=true:=by kernel_rfl
def TN(e:IT)(he:e.ZO≤1000)(c:Nat)(hc:c≤729)(rest:List (List IT×Nat))(hr:∀r∈rest,r.2≤729∧r.1.length≤1000)(hl:rest.length≤729)(H:or)(io iv:Nat)(l:List (List IT×Nat))(hP:Bw H io iv l)(gy:l.length≤100000)(K:Kt)(hK:K (.tup []) (bw H io iv (l++rest.map λr=>(e::r.1,c*r.2)))):ge tP 133 [.agg e.cs,.agg (ue (c:Int)),.sl (uC rest) .none,.ptr io 0] H K:=by
 refine ge.out (zSJ λhs=>?_);obtain⟨x,y,fD,hx,hy⟩:=yb e;obtain⟨g,hg⟩:∃g:List IT×Nat→List IT×Nat,g=λr=>(e::r.1,c*r.2):=⟨_,rfl⟩;rw[←hg]at hK;simp[zFm,aa];have hsc:∀l',HSc (bw H io iv l'++[.cells e.cs,.cells (ue (c:Int))]):=λl'=>(hP.hsc hs).append (by
  obtain⟨a,b⟩:=e;simp[AB.sc,IT.cs,ue,AV.ZH,AV.ZI])
 refine zSH (Inv:=λq t11 H'=>∃i:Nat,i≤rest.length∧rest.length-i=q∧t11=I6 i∧H'=bw H io iv (l++(rest.take i).map g)++[.cells e.cs,.cells (ue (c:Int))]) rest.length ?_ ?_
 ·intro _;exact⟨0,by omega,rfl,rfl,by simp[hP.self]⟩
 ·rintro q t11 H' ⟨i,hi,rfl,rfl,rfl⟩ gw fz fM Kb fB;by_cases gq:i<rest.length
  ·obtain⟨r1,r2⟩:=hr _ (ae gq);have si:Bw (bw H io iv (l++(rest.take i).map g)) io iv (l++(rest.take i).map g):=hP.next;obtain⟨fu,jO⟩:∃ fu,fu=l++(rest.take i).map g:=⟨_,rfl⟩;have i7:l++(rest.take (i+1)).map g=fu++[g rest[i]]:=by rw[jO,ag gq];simp only[a6,aL,bI,aB]
   have ly:fu.length=l.length+i:=by rw[jO];simp;omega
   rw[←jO]at si ⊢;have g1:∀J,(bw H io iv fu++J)[io]?=some (.cells [.ov iv fu.length]):=λJ=>vq si.h1;have g2:∀J,(bw H io iv fu++J)[iv]?=some (.vec 118 4 fu.length (uC fu).flatten):=λJ=>vq si.h2;have g3:∀b J,(bw H io iv fu++AB.cells b::J)[H.length]?=some (.cells b):=λb J=>by rw[←TM (H:=H) (io:=io) (iv:=iv) (l:=fu)];simp
   have g4:∀b b' J,(bw H io iv fu++AB.cells b::AB.cells b'::J)[H.length+1]?=some (.cells b'):=λb b' J=>by rw[←TM (H:=H) (io:=io) (iv:=iv) (l:=fu)];simp
   have g5:∀b b' b'' J,(bw H io iv fu++AB.cells b::AB.cells b'::AB.cells b''::J)[H.length+2]?=some (.cells b''):=λb b' b'' J=>by rw[←TM (H:=H) (io:=io) (iv:=iv) (l:=fu)];simp
   have sh:plain ([I0,.ZG]:List AV)=some [I0,.sl [] .none]:=rfl;simp[TL,gq,g1,g3,g4,g5,uk,uI,sh,DA,plain,AV.pd];refine ur (.sl (IT.css (e::rest[i].1)) .none) (λJ=>by
    have:=zOu [e] rest[i].1 (by simp) (by simp;omega) (bw H io iv fu++[.cells e.cs,.cells (ue (c:Int)),.cells (.sl (IT.css rest[i].1) .none::ue (rest[i].2:Int))]++J) (λv H'=>v=.sl (IT.css (e::rest[i].1)) .none∧H'=bw H io iv fu++[.cells e.cs,.cells (ue (c:Int)),.cells (.sl (IT.css rest[i].1) .none::ue (rest[i].2:Int))]++J) ⟨rfl,rfl⟩;exact this) ?_
   refine ur (.agg (ue ((c*rest[i].2:Nat):Int))) (λJ=>Mt _ _ (xf (aI hc (by decide))) (xf (aI r1 (by decide))) _ _ ⟨by rw[Int.natCast_mul],rfl⟩) ?_;have fR:([.sl (IT.css (e::rest[i].1)) .none::ue ((c*rest[i].2:Nat):Int)]:List (List AV))=uC [g rest[i]]:=by rw[hg];rfl
   have gQ:plain (AV.sl (IT.css (e::rest[i].1)) .none::ue ((c*rest[i].2:Nat):Int))=some (.sl (IT.css (e::rest[i].1)) .none::ue ((c*rest[i].2:Nat):Int)):=by simp[plain,AV.pd,xH]
   rw[Int.natCast_mul]at gQ fR;have fW:∀J:or,(((bw H io iv fu++J).set iv (.vec 118 4 (fu.length+1) ((uC fu).flatten++(.sl (IT.css (e::rest[i].1)) .none::ue ((c:Int)*(rest[i].2:Int)))))).set io (.cells [.ov iv (fu.length+1)]))=bw H io iv (fu++[g rest[i]])++J:=by intro J;have h1:=si.bw_app (J:=J) (l':=fu++[g rest[i]]);rw[zKX hP.ne]at h1;rw[←h1];unfold bw;rw[Mw,←fR];simp
   have g6:∀X J,((bw H io iv fu++J).set iv X)[io]?=some (.cells [.ov iv fu.length]):=λX J=>by rw[aj (λh=>hP.ne h.symm)];exact g1 J
   simp[ug,uv,gQ,uj,uD,uy,g2,g6,wi i (by omega)];refine⟨⟨by omega,by omega⟩,?_⟩;rw[fW,←i7];exact fB _ _ ⟨rest.length-(i+1),by omega,Back.at (J:=[.cells (.sl (IT.css rest[i].1) .none::ue (rest[i].2:Int))]) (H2:=bw H io iv (l++(rest.take (i+1)).map g)++[.cells e.cs,.cells (ue (c:Int))]) (by simp) (by simp) (hsc _) (by
    have l1:=uR hP.h1;simp[MZ,ux,AV.sc,AV.ZH,AV.ZI,AV.ZJ];try omega) ⟨_,rfl,i+1,by omega,rfl,rfl,rfl⟩⟩
  ·obtain rfl:i=rest.length:=by omega
   rw[az]at *;simp[TL];exact zPE (J:=[_,_]) rfl (by simp) (hP.hsc hs) hK
def hpB(H:or)(T:VT)(l:List (List IT×Nat)):or:=H++[.cells T.cs,.cells [.ov (H.length+2) l.length],.vec 118 4 l.length (uC l).flatten]
def hpB_B{H:or}{T:VT}{l:List (List IT×Nat)}:Bw (hpB H T l) (H.length+1) (H.length+2) l:=⟨by omega,by simp[hpB],by simp[hpB]⟩
def TO{H:or}{T:VT}{l l':List (List IT×Nat)}:bw (hpB H T l) (H.length+1) (H.length+2) l'=hpB H T l':=by simp[bw,hpB,au]
@[simp] theorem yit{H:or}{T:VT}{l:List (List IT×Nat)}:(hpB H T l).length=H.length+3:=by simp[hpB]
@[simp] theorem yir{H:or}{T:VT}{l:List (List IT×Nat)}(h:H.length<(hpB H T l).length):(hpB H T l)[H.length]=.cells T.cs:=by simp[hpB]
@[simp] theorem zBj{H:or}{T:VT}{l:List (List IT×Nat)}:(hpB H T l)[H.length]?=some (.cells T.cs):=by simp[hpB]
@[simp] theorem yis{H:or}{T:VT}{l:List (List IT×Nat)}(h:H.length+1<(hpB H T l).length):(hpB H T l)[H.length+1]=.cells [.ov (H.length+2) l.length]:=by simp[hpB,List.getElem_append]
theorem zCG:∀ l:List (List IT × Nat),plain (uC l).flatten=some (uC l).flatten
 |[]=>rfl
 |r::l=>by show plain ((.sl (IT.css r.1) .none::ue (r.2:Int))++(uC l).flatten)=_;exact BZ (by simp[plain,AV.pd,xH]) (zCG l)
def zM3{H:or}{T:VT}{K:Kt}(l:List (List IT×Nat))(hs:HSc H)(hK:K (.sl (uC l) .none) H):Out H.length K (.ov (H.length+2) l.length) (hpB H T l):=
 ⟨.sl (uC l) .none,H,_,rfl,af _,hs,.one (.vfz (H.length+2) 118 4 l.length (uC l).flatten (uC l) (by omega) (by simp[hpB]) (zCG l) (by simp) (λc hc=>by
  obtain⟨p,_,rfl⟩:=aF.1 hc;simp)),hK⟩
def zMu{eq:List Dat}(hk:vj eq)(h8:∀D∈eq,D.cons.length≤8)(hD:vM eq=true){f:Nat}(hQ:ML eq f)(hM:MM eq f):MM eq (f+1):=by
 intro t l m hf ky jn pS hl hm h6 hn H K hK;obtain⟨k,tn,tks⟩:=t;simp only[VT.kind]at pS;subst pS;refine ge.out (yeb λhs=>?_);have ip:(VT.mk 5 tn tks).cs=[I6 5,I6 tn,.sl (VT.css tks) .none]:=rfl;have qD:plain ([.ZG,.bool false,.ZG,.ZG]:List AV)=some [.sl [] .none,.bool false,.sl [] .none,.sl [] .none]:=rfl;cases l with
 |nil=>
  have e:vu eq (f+1) (.mk 5 tn tks) [] m=[(m,1)]:=by rw[vu]
  rw[e]at hK;simp[MX,IT.css,ip,aa];refine Ad 1 (by omega) _ _ ?_;simp[ug,uv,uk,uI,plain,AV.pd,AV.ZP,xH,qD];exact Out.at (b:=.sl (uC [(m,1)]) .none) rfl (af _) hs (.atom (.sl _ _)) rfl rfl hK
 |cons a l=>
  cases m with
  |nil=>
   have e:vu eq (f+1) (.mk 5 tn tks) (a::l) []=[(a::l,1)]:=by rw[vu]
   rw[e]at hK;have hb:(((l.length:Int)+1) == 0)=false:=by simp;omega
   simp[MX,ip,hb,aa];refine Ad 1 (by omega) _ _ ?_;simp[ug,uv,uk,uI,plain,AV.pd,AV.ZP,xH,qD];exact Out.at (b:=.sl (uC [(a::l,1)]) .none) rfl (af _) hs (.atom (.sl _ _)) rfl rfl hK
  |cons b m=>
   obtain⟨ca,pa⟩:=a;obtain⟨cb,pb⟩:=b;obtain⟨la,ll,el⟩:=Dx h8 _ _ l hl;obtain⟨mb,mm,em⟩:=Dx h8 _ _ m hm;obtain⟨ca0,ca8,psa,kG,jL,pQ,ea⟩:=BW la;obtain⟨cb0,cb8,psb,mq,iI,pR,eb⟩:=BW mb;have na:=(IT.mk ca pa).ZB;have nb:=(IT.mk cb pb).ZB;simp only[IT.ZA]at hf hn;have gJ:(((l.length:Int)+1) == 0)=false:=by simp;omega
   have gF:(((m.length:Int)+1) == 0)=false:=by simp;omega
   have tl1:(List.take (l.length+1) (IT.css (.mk ca pa::l))).tail=IT.css l:=by simp[IT.css,am]
   have tl2:(List.take (m.length+1) (IT.css (.mk cb pb::m))).tail=IT.css m:=by simp[IT.css,am]
   have oD:∀(x:List IT),∀c∈IT.css x,c.length=2:=λx c hc=>by rw[IT.ZC]at hc;obtain⟨v,_,rfl⟩:=aF.1 hc;simp
   simp[MX,ip,gJ,gF,aa];refine⟨rfl,?_⟩;refine ur (.agg (ue ((1:Nat):Int))) (λJ=>Ad 1 (by omega) _ _ ⟨rfl,rfl⟩) ?_;refine⟨oD _,?_⟩;rw[tl1,←ip];obtain⟨A,hA⟩:∃A,A=vu eq f (.mk 5 tn tks) l (.mk cb pb::m):=⟨_,rfl⟩;obtain⟨B,hB⟩:∃B,B=vu eq f (.mk 5 tn tks) (.mk ca pa::l) m:=⟨_,rfl⟩;obtain⟨C,hC⟩:∃C,C=vu eq f (.mk 5 tn tks) l m:=⟨_,rfl⟩;obtain⟨A1,A2,A3,A4⟩:=Mx h8 (f:=f) (t:=.mk 5 tn tks) (l:=l) (m:=.mk cb pb::m) (by simp only[IT.ZA];omega) ll hm (by omega);obtain⟨B1,B2,B3,B4⟩:=Mx h8 (f:=f) (t:=.mk 5 tn tks) (l:=.mk ca pa::l) (m:=m) (by simp only[IT.ZA];omega) hl mm (by omega);obtain⟨C1,C2,C3,C4⟩:=Mx h8 (f:=f) (t:=.mk 5 tn tks) (l:=l) (m:=m) (by omega) ll mm (by omega);rw[←hA]at A1 A2 A3 A4;rw[←hB]at B1 B2 B3 B4;rw[←hC]at C1 C2 C3 C4;simp only[IT.ZA]at A1 B1;refine ur (.sl (uC A) .none) (λJ=>by rw[hA];exact hM _ l (.mk cb pb::m) (by simp only[IT.ZA];omega) ky jn rfl ll hm (by omega) (by simp only[IT.ZA];omega) _ _ ⟨rfl,rfl⟩) ?_;simp only[aCallV,zAn];refine ge.ovC (id:=H.length+1) (j:=0) (cs:=[.ZG]) 118 4 (by simp) rfl ?_;have fW:(H++[AB.cells (VT.mk 5 tn tks).cs,.cells [.ZG]]).set (H.length+1) (.cells ([AV.ZG].set 0 (.ov (H++[AB.cells (VT.mk 5 tn tks).cs,.cells [.ZG]]).length 0)))++[.vec 118 4 0 []]=hpB H (.mk 5 tn tks) []:=by simp[hpB,au,uC]
   rw[fW];have tC:∀r:List IT×Nat,IT.ZA r.1≤700→r.1.length≤1000:=λr h=>by have:=IT.ZQ r.1;omega
   refine TN (.mk ca pa) (by simp only[IT.ZO]at hn ⊢;omega) 1 (by omega) A (λr hr=>⟨(A1 r hr).2.1,tC r (by have:=(A1 r hr).2.2.2.2;omega)⟩) A4 _ (H.length+1) (H.length+2) [] hpB_B (by simp) _ ?_;rw[TO];simp only[List.nil_append,c9];obtain⟨s1,f9⟩:∃s1:List (List IT×Nat),s1=A.map λr=>(IT.mk ca pa::r.1,r.2):=⟨_,rfl⟩;rw[←f9];have hs1l:s1.length≤729:=by rw[f9];simpa using A4
   have h0:=zBj (H:=H) (T:=.mk 5 tn tks) (l:=s1);refine ur (.agg (ue ((1:Nat):Int))) (λJ=>Ad 1 (by omega) _ _ ⟨rfl,rfl⟩) ?_;simp[h0,ip];refine⟨oD _,?_⟩;rw[tl2,←ip];refine ur (.sl (uC B) .none) (λJ=>by rw[hB];exact hM _ (.mk ca pa::l) m (by simp only[IT.ZA];omega) ky jn rfl hl mm (by omega) (by simp only[IT.ZA];omega) _ _ ⟨rfl,rfl⟩) ?_;refine TN (.mk cb pb) (by simp only[IT.ZO]at hn ⊢;omega) 1 (by omega) B (λr hr=>⟨(B1 r hr).2.1,tC r (by have:=(B1 r hr).2.2.2.2;omega)⟩) B4 _ (H.length+1) (H.length+2) s1 hpB_B (by omega) _ ?_;rw[TO];simp only[c9];obtain⟨s2,gn⟩:∃s2:List (List IT×Nat),s2=s1++B.map λr=>(IT.mk cb pb::r.1,r.2):=⟨_,rfl⟩;rw[←gn];have hs2l:s2.length≤1458:=by rw[gn];simp;omega
   have h02:=λl'=>zBj (H:=H) (T:=.mk 5 tn tks) (l:=l');have gz:∀l',l'=vu eq (f+1) (.mk 5 tn tks) (.mk ca pa::l) (.mk cb pb::m)→MW (.ptr (H.length+1) 0) (hpB H (.mk 5 tn tks) l') (Out H.length K):=by rintro l' rfl;have h1:=(hpB_B (H:=H) (T:=.mk 5 tn tks) (l:=vu eq (f+1) (.mk 5 tn tks) (.mk ca pa::l) (.mk cb pb::m))).h1;have h2:=(hpB_B (H:=H) (T:=.mk 5 tn tks) (l:=vu eq (f+1) (.mk 5 tn tks) (.mk ca pa::l) (.mk cb pb::m))).h2;simp[MW,h1];exact zM3 _ hs hK
   by_cases gc:ca=cb
   ·subst gc;simp[h02,ip,IT.cs];refine⟨oD _,oD _,?_⟩;rw[←ip];rw[kG]at mq;cases mq;obtain⟨R,hR⟩:∃R,R=xg eq f psa pa pb:=⟨_,rfl⟩;obtain⟨R1,R2,R3,R4⟩:=zAg h8 (f:=f) (ts:=psa) (l:=pa) (m:=pb) (by simp only[IT.ZO]at hf;omega) jL.symm iI.symm pQ pR (by omega);rw[←hR]at R1 R2 R3 R4;obtain⟨lf,ny⟩:∃lf,wa eq (.mk 5 tn tks) ca=some lf:=by
     cases ny:wa eq (.mk 5 tn tks) ca with
     |none=>simp[vt,ny]at kG
     |some lf=>exact⟨lf,rfl⟩
    obtain⟨bs,re,pw,qA,i5,iP,_⟩:=ST hk ny;rw[kG]at i5;have ke:psa=pick lf bs:=dQ i5;have hpsl:psa.length≤8:=by rw[ke];have:=Fw lf bs;omega
    have pT:∀x∈psa,x.ZO≤1000∧uW eq 0 x=true:=λx hx=>by rw[ke]at hx;have hm:=Ds hx;have:=iP x hm;exact⟨by omega,Sj hD (zEf jn) ny _ hm⟩
    refine ur (.sl (uC C) .none) (λJ=>by rw[hC];exact hM _ l m (by omega) ky jn rfl ll mm (by omega) (by omega) _ _ ⟨rfl,rfl⟩) ?_;refine ur (.sl (VT.css psa) .none) (λJ=>zS0 hk tn tks ky ca kG _ _ ⟨rfl,rfl⟩) ?_;refine ur (.sl (uC R) .none) (λJ=>by rw[hR];exact hQ psa pa pb (by simp only[IT.ZO]at hf;omega) jL.symm iI.symm (by omega) pT pQ pR (by omega) (by simp only[IT.ZO]at hn;omega) _ _ ⟨rfl,rfl⟩) ?_;simp;obtain⟨F,hF⟩:∃F:List IT×Nat→List (List IT×Nat),F=λr=>C.map λx=>(IT.mk ca r.1::x.1,r.2*x.2):=⟨_,rfl⟩;have jx:s2++R.flatMap F=vu eq (f+1) (.mk 5 tn tks) (.mk ca pa::l) (.mk ca pb::m):=by rw[vu,aN (show uT (.mk ca pa)=uT (.mk ca pb) from rfl),gn,f9,hA,hB,hF,hR,hC];simp only[uT,uz,kG,Option.getD_some]
    have iN:R.length*C.length≤729:=by refine aC (aZ (B0 λp hp=>(R1 p hp).1) (B0 λp hp=>(C1 p hp).1)) (aC (aZ R2 C2) ?_);rw[←Mp (by omega) (by omega)];exact xW (by omega)
    have od:∀i,((R.take i).flatMap F).length≤729:=λi=>by
     have:∀L:List (List IT×Nat),(L.flatMap F).length=L.length*C.length:=λL=>by
      induction L with
      |nil=>simp
      |cons r L ih=>rw[bj,aH,ih,hF,cC,List.length_cons,bD];omega
     rw[this];exact aC (aD _ (by simp;omega)) iN
    have px:∀l',HSc (hpB H (.mk 5 tn tks) l'):=λl'=>hs.append (by simp only[AB.sc,List.all_cons,List.all_nil,zC5];simp[VT.cs,AV.ZH,AV.ZI]);refine yd9 (Inv:=λq t87 H'=>∃i:Nat,i≤R.length∧R.length-i=q∧t87=I6 i∧H'=hpB H (.mk 5 tn tks) (s2++(R.take i).flatMap F)) R.length ?_ ?_
    ·intro _;exact⟨0,by omega,rfl,rfl,by simp⟩
    ·rintro q t87 H' ⟨i,hi,rfl,rfl,rfl⟩ hsc12 fz fM Kb fB;by_cases gq:i<R.length
     ·obtain⟨r1,r2,r3,_,_,r6⟩:=R1 _ (ae gq);have i7:s2++(R.take (i+1)).flatMap F=(s2++(R.take i).flatMap F)++F R[i]:=by rw[ag gq];simp only[bF,bj,dc,aP,aB]
      have gI:=od i;obtain⟨fu,jO⟩:∃fu,fu=s2++(R.take i).flatMap F:=⟨_,rfl⟩;have ly:fu.length≤3000:=by rw[jO,aH];omega
      rw[←jO]at i7 ⊢;simp[TK,gq,IT.cs,IT.css,ug,uv,AV.ZP];simp only[aCallV,zAn];have hBa:Bw (hpB H (.mk 5 tn tks) fu++[.cells (.sl (IT.css R[i].1) .none::ue (R[i].2:Int))]) (H.length+1) (H.length+2) fu:=hpB_B.app;refine TN (.mk ca R[i].1) (by simp only[IT.ZO]at hn ⊢;omega) R[i].2 (by omega) C (λr hr=>⟨(C1 r hr).2.1,tC r (by have:=(C1 r hr).2.2.2.2;omega)⟩) C4 _ (H.length+1) (H.length+2) fu hBa (by omega) _ ?_;rw[hpB_B.bw_app,TO];have hFi:F R[i]=C.map λr=>(IT.mk ca R[i].1::r.1,R[i].2*r.2):=by rw[hF]
      rw[←hFi,←i7,wi i (by omega)];exact fB _ _ ⟨R.length-(i+1),by omega,Back.at (J:=[.cells (.sl (IT.css R[i].1) .none::ue (R[i].2:Int))]) (H2:=hpB H (.mk 5 tn tks) (s2++(R.take (i+1)).flatMap F)) rfl (by simp) (px _) (by simp[MV,ux,AV.sc,AV.ZH,AV.ZI,AV.ZJ]) ⟨_,rfl,i+1,by omega,rfl,rfl,rfl⟩⟩
     ·obtain rfl:i=R.length:=by omega
      rw[az,jx];simp[TK];exact gz _ rfl
   ·have tv:(ca == cb)=false:=by simpa using gc
    simp[h02,IT.cs,tv];refine gz s2 ?_;rw[vu,aG (by simpa[uT]using gc),aP,gn,f9,hA,hB]
def zD5{n:Nat}{H2 J H':or}{K:Kt}(he:H'=H2++J)(hn:n≤H2.length)(hs:HSc H2)(h:K (.tup []) H2):Out n K (.tup []) H':=by subst he;exact⟨.tup [],H2,J,rfl,hn,hs,.tup trivial,h⟩
theorem zEy:∀ (ks:List IT) (k:IT),vF (ks++[k])=vF ks++wj k++[44]
 |[],k=>by simp[vF]
 |x::ks,k=>by have:=zEy ks k;simp[vF,this]
theorem zCa:∀ (ks:List IT) (k:IT),IT.ZA (ks++[k])=IT.ZA ks+k.ZO
 |[],k=>by simp[IT.ZA]
 |x::ks,k=>by have:=zCa ks k;simp only[List.cons_append,IT.ZA,this];omega
def zOC(n:Nat)(h:n≤9):small n=[UInt8.ofNat (48+n)]:=by
 have:∀n≤9,small n=[UInt8.ofNat (48+n)]:=by decide
 exact this n h
def ydO:∀(m:Nat) (i:IT),i.ZO≤m→i.ZO≤1000→Dig i→∀(H:or) (id id2:Nat) (l:List UInt8),Wb H id id2 l→l.length+4*i.ZO≤1000000→∀K:Kt,K (.tup []) (wb H id id2 (l++wj i))→ge tP 75 [.ptr id 0,.agg i.cs] H K:=by
 intro m;induction m with
 |zero=>intro i h;have:=i.ZB;omega
 |succ m ih=>
  intro i hm hn hd H id id2 l hB hl K hK;obtain⟨n,ks⟩:=i;rw[Dig]at hd;obtain⟨jX,hd9,hdk⟩:=hd;obtain⟨a,rfl⟩:∃a:Nat,n=a:=⟨n.toNat,by omega⟩;have iM:IT.ZA ks+1≤m+1:=by simpa[IT.ZO]using hm
  have kr:IT.ZA ks+1≤1000:=by simpa[IT.ZO]using hn
  have mL:l.length+4*(IT.ZA ks+1)≤1000000:=by simpa[IT.ZO]using hl
  have jV:=IT.ZQ ks;refine ge.out (ydM λhs=>?_);have kL:(IT.mk (a:Int) ks).cs=[I6 a,.sl (IT.css ks) .none]:=rfl;rw[wj,Int.toNat_natCast]at hK;obtain⟨dg,hdg⟩:∃dg,dg=UInt8.ofNat (48+a):=⟨_,rfl⟩;have lu:=zOC a (by omega);rw[←hdg]at hK lu;have hO:∀r J,r=l++(dg::if ks.length=0 then [] else 40::(vF ks++[41]))→Out H.length K (.tup []) (wb H id id2 r++J):=λr J h=>zD5 rfl (by simp) (hB.hsc hs) (by rw[h];exact hK);simp[X9,kL,aa];refine zJ0 a (by omega) _ _ ?_;rw[lu];refine Ws hB.app (by simp;omega) ?_;rw[hB.wb_app];by_cases fI:ks.length=0
  ·obtain rfl:=aO fI;simp[IT.css];exact hO _ _ (by simp)
  ·have jb:0<ks.length:=by omega
   simp[jb];have se:Wb (wb H id id2 (l++[dg])) id id2 (l++[dg]):=hB.next;refine Wy (c:=40) se.app (by simp;omega) ?_;rw[se.wb_app,ME hB.ne];simp;obtain⟨p,hp⟩:∃p,p=l++[dg,40]:=⟨_,rfl⟩;have gQ:p.length=l.length+2:=by rw[hp];simp
   rw[←hp];have sj:∀q,Wb (wb H id id2 (p++q)) id id2 (p++q):=λq=>hB.next;refine ydK (Inv:=λq t20 H'=>∃j:Nat,j≤ks.length∧ks.length-j=q∧t20=I6 j∧H'=wb H id id2 (p++vF (ks.take j))++[.cells [I6 a,.sl (IT.css ks) .none]]) ks.length ?_ ?_
   ·intro _;exact⟨0,by omega,rfl,rfl,by simp[vF]⟩
   ·rintro q t20 H' ⟨j,hj,rfl,rfl,rfl⟩ fG fz fM Kb fB;have rz:=MD (ks.take j);have tp:=IT.ZD ks j;by_cases fU:j<ks.length
    ·have nN:=Aa fU;have o4:=zzr hdk _ (ae fU);have hts:=IT.ZD ks (j+1);have fN:vF (ks.take (j+1))=vF (ks.take j)++wj ks[j]++[44]:=by rw[ag fU,zEy]
     have hwl1:=MD (ks.take (j+1));have rN:IT.ZA (ks.take (j+1))=IT.ZA (ks.take j)+ks[j].ZO:=by rw[ag fU,zCa]
     obtain⟨x2,y2,gd,gf,lx⟩:=yb ks[j];have qC:=Tq ks[j];simp[Qb,fU,gd,gf,lx];rw[←gd];refine ih ks[j] (by omega) (by omega) o4 _ id id2 _ ((sj (vF (ks.take j))).app) (by simp;omega) _ ?_;rw[(sj (vF (ks.take j))).wb_app,ME hB.ne];have rg:Wb (wb H id id2 (p++vF (ks.take j)++wj ks[j])) id id2 (p++vF (ks.take j)++wj ks[j]):=hB.next;refine Wy (c:=44) rg.app (by simp;omega) ?_;rw[rg.wb_app,ME hB.ne];have ko:p++vF (ks.take j)++wj ks[j]++[44]=p++vF (ks.take (j+1)):=by rw[fN];simp
     rw[ko,wi j (by omega)];exact fB _ _ ⟨ks.length-(j+1),by omega,Back.at (J:=[.cells ks[j].cs]) (H2:=wb H id id2 (p++vF (ks.take (j+1)))++[.cells [I6 a,.sl (IT.css ks) .none]]) (by simp) (by simp) ((hB.hsc hs).append (by simp[AB.sc,AV.ZH,AV.ZI])) (by
      have:=hB.lt1;simp[Jk,ux,AV.sc,AV.ZH,AV.ZI,AV.ZJ];omega) ⟨_,rfl,j+1,by omega,rfl,rfl,rfl⟩⟩
    ·obtain rfl:j=ks.length:=by omega
     rw[az]at *;simp[Qb];refine Wy (c:=41) (sj _).app (by simp;omega) ?_;rw[(sj _).wb_app,ME hB.ne];simp;exact hO _ _ (by rw[hp,aG fI];simp)
section
variable {H J:or} {is im iv:Nat} {c:List AV} {s s':List (IT×Nat)}
end
section
open Go.RowKit
variable {P:Program} {B:Nat} {w:World} {G:Gh} {H:or}
theorem tM.ovC{c:Code}{Q:AExit→List AV→or→Prop}{F:List AV}{id j:Nat}{cs:List AV}(e size:Nat)(fA:H[id]?=some (.cells cs))(hj:cs[j]?=some .ZG)(h:tM P c Q F (H.set id (.cells (cs.set j (.ov H.length 0)))++[.vec e size 0 []])):tM P c Q F H:=by
 intro B w G a hH hF hd;obtain⟨G',hE,f7⟩:=hH.ovCell e size fA hj;refine wp_mono (h B w G' a f7 (hF.ext hE) hd) λe a' w' hp=>?_;obtain⟨F'',H'',G'',e'',rfl,k1,k2,k3,k4,k5⟩:=hp;exact⟨F'',H'',G'',e'',rfl,hE.trans k1,k2,k3,k4,k5⟩
section
variable {α:Type}
def vcs:Nat→List (List α)→List AV
 |_,[]=>[]
 |b,l::ls=>.ov b l.length::vcs (b+1) ls
def vbs(f:α→List AV)(e size:Nat)(ls:List (List α)):List AB:=ls.map λl=>.vec e size l.length (l.flatMap f)
@[simp] theorem zEr:∀ (b:Nat) (ls:List (List α)),(vcs b ls).length=ls.length
 |_,[]=>rfl
 |b,l::ls=>by simp[vcs,zEr (b+1) ls]
@[simp] theorem yji(f:α→List AV)(e size:Nat)(ls:List (List α)):(vbs f e size ls).length=ls.length:=by simp[vbs]
theorem DD:∀ (b:Nat) (ls:List (List α)) (k:Nat),(vcs b ls)[k]?=ls[k]?.map λl=>.ov (b+k) l.length
 |_,[],k=>by simp[vcs]
 |b,l::ls,0=>by simp[vcs]
 |b,l::ls,k+1=>by simp[vcs,DD (b+1) ls k];cases ls[k]? <;> simp;omega
theorem zPT(f:α→List AV)(e size:Nat)(ls:List (List α))(k:Nat):(vbs f e size ls)[k]?=ls[k]?.map λl=>.vec e size l.length (l.flatMap f):=by simp[vbs]
theorem TP:∀ (b:Nat) (ls:List (List α)) (k:Nat) (l:List α),(vcs b ls).set k (.ov (b+k) l.length)=vcs b (ls.set k l)
 |_,[],k,l=>by simp[vcs]
 |b,x::ls,0,l=>by simp[vcs]
 |b,x::ls,k+1,l=>by have:=TP (b+1) ls k l;rw[show b+1+k=b+(k+1) by omega]at this;simp[vcs,this]
theorem zPU(f:α→List AV)(e size:Nat)(ls:List (List α))(k:Nat)(l:List α):(vbs f e size ls).set k (.vec e size l.length (l.flatMap f))=vbs f e size (ls.set k l):=by simp[vbs,fg]
theorem zPV:∀ (b n:Nat),vcs b (List.replicate (n+1) ([]:List α))=.ov b 0::vcs (b+1) (List.replicate n ([]:List α))
 |b,n=>rfl
theorem tM.ovCs{c:Code}{Q:AExit→List AV→or→Prop}{F:List AV}(α:Type)(f:α→List AV){id:Nat}(e size:Nat):∀ (n:Nat) (pre:List AV) (H:or),H[id]?=some (.cells (pre++List.replicate n .ZG)) →
  tM P c Q F (H.set id (.cells (pre++vcs H.length (List.replicate n ([]:List α))))++vbs f e size (List.replicate n ([]:List α)))→tM P c Q F H
 |0,pre,H,fA,h=>by
  have hs:H.set id (.cells (pre++vcs H.length (List.replicate 0 ([]:List α))))=H:=by
   refine aU λi=>?_;rw[cM];split
   ·rename_i hi;subst hi;rw[aN (ac.1 fA).1,fA];simp[vcs]
   ·rfl
  rw[hs]at h;simpa[vbs]using h
 |n+1,pre,H,fA,h=>by
  refine tM.ovC e size fA (j:=pre.length) (by simp) ?_;have fy:=(ac.1 fA).1;have h1:(pre++List.replicate (n+1) AV.ZG).set pre.length (.ov H.length 0)=(pre++[.ov H.length 0])++List.replicate n .ZG:=by rw[au _ _ (af _)];simp[List.replicate_succ]
  rw[h1];refine tM.ovCs α f e size n (pre++[.ov H.length 0]) _ (by rw[ah (by simpa using fy),ak fy]) ?_;have h2:(H.set id (.cells (pre++[AV.ov H.length 0]++List.replicate n AV.ZG))++[AB.vec e size 0 []]).set id (.cells (pre++[AV.ov H.length 0]++vcs (H.set id (.cells (pre++[AV.ov H.length 0]++List.replicate n AV.ZG))++[AB.vec e size 0 []]).length (List.replicate n ([]:List α))))++vbs f e size (List.replicate n ([]:List α))
    = H.set id (.cells (pre++vcs H.length (List.replicate (n+1) ([]:List α))))++vbs f e size (List.replicate (n+1) ([]:List α)):=by
   rw[aY _ _ (by simpa using fy),bX,aB];simp[zPV,vbs,List.replicate_succ,vcs]
  rw[h2];exact h
def NX(f:α→List AV)(e size:Nat)(H1:or)(st:List (List α)):or:=H1++(.cells (vcs (H1.length+1) st)::vbs f e size st)
theorem zB(f:α→List AV)(e size:Nat)(H1:or)(st:List (List α)):(NX f e size H1 st).length=H1.length+1+st.length:=by simp[NX];omega
theorem zzy(f:α→List AV)(e size:Nat)(H1:or)(st:List (List α)):H1 <+: NX f e size H1 st:=⟨_,rfl⟩
theorem TQ(f:α→List AV)(e size:Nat)(H1 J:or)(st:List (List α)):(NX f e size H1 st++J)[H1.length]?=some (.cells (vcs (H1.length+1) st)):=by simp[NX]
theorem zzw(f:α→List AV)(e size:Nat)(H1:or)(st:List (List α)):(NX f e size H1 st)[H1.length]?=some (.cells (vcs (H1.length+1) st)):=by simp[NX]
theorem TR(f:α→List AV)(e size:Nat)(H1 J:or)(st:List (List α)){k:Nat}(hk:k<st.length):(NX f e size H1 st++J)[H1.length+1+k]?=some (.vec e size st[k].length (st[k].flatMap f)):=by rw[ah (by rw[zB];omega),NX,aM (by omega),show H1.length+1+k-H1.length=k+1 by omega,List.getElem?_cons_succ,zPT,aw hk];rfl
theorem zzv(f:α→List AV)(e size:Nat)(H1 J:or){st:List (List α)}{k:Nat}{l:List α}(h:st[k]?=some l):(NX f e size H1 st++J)[H1.length+1+k]?=some (.vec e size l.length (l.flatMap f)):=by obtain⟨hk,rfl⟩:=ac.1 h;exact TR f e size H1 J st hk
theorem TS(b:Nat){st:List (List α)}{k:Nat}{l:List α}(h:st[k]?=some l):(vcs b st)[k]?=some (.ov (b+k) l.length):=by rw[DD,h];rfl
theorem zzz(f:α→List AV)(e size:Nat)(H1 J:or)(st:List (List α)){k:Nat}(hk:k<st.length)(l:List α):((NX f e size H1 st++J).set (H1.length+1+k) (.vec e size l.length (l.flatMap f))).set H1.length (.cells (vcs (H1.length+1) (st.set k l)))=NX f e size H1 (st.set k l)++J:=by rw[aY _ _ (by rw[zB];omega),aY _ _ (by simp[zB];omega)];congr 1;unfold NX;rw[au _ _ (by omega),au _ _ (by omega),show H1.length+1+k-H1.length=k+1 by omega,List.set_cons_succ,dG,List.set_cons_zero,zPU]
theorem zPW(b:Nat)(ls:List (List α)){k:Nat}(hk:k<ls.length)(l:List α):(vcs b ls).take k++.ov (b+k) l.length::(vcs b ls).drop (k+1)=vcs b (ls.set k l):=by rw[←TP,bx,aN (by simpa using hk)]
theorem zEs{n:Nat}:∀ (b:Nat) (ls:List (List α)),b+ls.length≤n→(vcs b ls).all (AV.ZH n)=true
 |_,[],_=>rfl
 |b,l::ls,h=>by
  simp only[List.length_cons]at h;have ih:=zEs (n:=n) (b+1) ls (by omega);have hb:b<n:=by omega
  rw[vcs,List.all_cons,ih,cV];simpa[AV.ZH,AV.ZI]using hb
theorem zJ3{f:α→List AV}{e size:Nat}{H1:or}{st:List (List α)}(hs:HSc H1)(hf:∀x n,(f x).all (AV.ZH n)=true):HSc (NX f e size H1 st):=by
 refine hs.append ?_;rw[aA];intro b hb;rcases aT.1 hb with rfl|hb
 ·simp only[AB.sc];exact zEs _ _ (by simp;omega)
 ·obtain⟨l,_,rfl⟩:=aF.1 hb;simp only[AB.sc,List.all_flatMap,hf];simp
theorem tM.nx{c:Code}{Q:AExit→List AV→or→Prop}{F:List AV}(f:α→List AV)(e size n:Nat)(h:tM P c Q F (NX f e size H (List.replicate n []))):tM P c Q F (H++[.cells (List.replicate n .ZG)]):=by
 refine tM.ovCs α f (id:=H.length) e size n [] _ (by simp) ?_;have:(H++[AB.cells (List.replicate n AV.ZG)]).set H.length (.cells ([]++vcs (H++[AB.cells (List.replicate n AV.ZG)]).length (List.replicate n ([]:List α))))++vbs f e size (List.replicate n ([]:List α))=NX f e size H (List.replicate n []):=by simp[NX,au]
 rw[this];exact h
end
end
section
open Go.RowKit
variable {P:Program} {B:Nat} {w:World} {G:Gh} {H:or}
theorem tU.newRowV(h:tU B w G H)(e size cap:Nat)(cur:Array Value)(hc:cap≤maxLen)(hs:cur.size=cap*size):
  Ext B w G (w.alloc (.cells cur e)) ⟨G.L,G.μ++[.own (.slice (some ⟨w.heap.size,0,none⟩) 0 cap) size 0]⟩∧tU B (w.alloc (.cells cur e)) ⟨G.L,G.μ++[.own (.slice (some ⟨w.heap.size,0,none⟩) 0 cap) size 0]⟩ (H++[.vec e size 0 []]):=by
 have he:=Ext.alloc h (.cells cur e) G.L (λ_ _=>rfl) [.own (.slice (some ⟨w.heap.size,0,none⟩) 0 cap) size 0];have split:∀(id:Nat) gi,(G.μ++[GI.own (.slice (some ⟨w.heap.size,0,none⟩) 0 cap) size 0])[id]?=some gi→G.μ[id]?=some gi∨(id=G.μ.length∧gi=.own (.slice (some ⟨w.heap.size,0,none⟩) 0 cap) size 0):=by
  intro id gi hg;by_cases fy:id<G.μ.length
  ·rw[ah fy]at hg;exact .inl hg
  ·have fT:=(ac.1 hg).1;simp at fT;have:id=G.μ.length:=by omega
   subst this;simp at hg;exact .inr ⟨rfl,hg.symm⟩
 refine⟨he,by simp[h.len],?_,?_,λb hb=>?_,?_,?_⟩
 ·intro id ab gi h1 h2;rcases split id gi h2 with h2 | ⟨rfl,rfl⟩
  ·have fy:id<H.length:=by rw[←h.len];exact (ac.1 h2).1
   rw[ah fy]at h1;exact(h.ok id ab gi h1 h2).keep he (λb hb=>⟨yk (h.lt id gi b h2 hb),rfl⟩)
  ·rw[h.len]at h1;simp at h1;subst h1;refine⟨rfl,rfl,⟨[],⟨by simp,.inr ⟨w.heap.size,cap,cur,rfl,h.base,y6 _,bM _,hc,hs,by simp⟩⟩,trivial⟩,λb hb=>?_⟩;simp[Value.ownBlock]at hb;subst hb;exact h.fresh _ (af _)
 ·intro id id' gi gi' b h1 h2 h3 h4;rcases split id gi h1 with k1 | ⟨e1,e2⟩ <;> rcases split id' gi' h2 with k2 | ⟨e3,e4⟩
  ·exact h.dist id id' gi gi' b k1 k2 h3 h4
  ·rw[e4]at h4;simp[GI.block,Value.ownBlock]at h4;have:=h.lt id gi b k1 h3;omega
  ·rw[e2]at h3;simp[GI.block,Value.ownBlock]at h3;have:=h.lt id' gi' b k2 h4;omega
  ·rw[e1,e3]
 ·rw[wR]at hb;exact h.fresh b (by omega)
 ·intro id gi b h1 h2;rw[wR];rcases split id gi h1 with k1 | ⟨e1,e2⟩
  ·have:=h.lt id gi b k1 h2;omega
  ·rw[e2]at h2;simp[GI.block,Value.ownBlock]at h2;omega
 ·rw[wR];have:=h.base;omega
end
def zOw(n:Nat)(hn:0<n)(ig:n≤1000000)(H:or)(K:Kt)(hK:K (.ov H.length 0) (H++[.vec 55 5 0 []])):
  ge tP 141 [.ZG,.int .i64 n] H K:=by
 rintro B w G ⟨vs⟩ hR hv
 match vs,hv with
 |[v1,v2],⟨h1,h2,_⟩=>
 have h1:v1=.slice none 0 0:=h1;have h2:v2=.int .i64 n:=h2;subst h1 h2;obtain⟨i0,rQ,tB,mX,gk⟩:∃i0,tP.info? 55=some i0∧i0.zero=some (.agg #[.int .i64 0,.slice none 0 0,.bool false,.slice none 0 0,.slice none 0 0])∧i0.size=5∧i0.bytes=88:=⟨_,rfl,rfl,rfl,rfl⟩;refine(Go.Proofs.Any8.slices_Grow_grow zEF i0 _ rQ tB (by omega) none 0 0 n [] w (af _) (by omega) (by rw[gk];omega) (by omega) (by simp) (λ_=>rfl) (λ_ h=>by cases h)).mono ?_;rintro e w' ⟨rfl,rfl⟩;have gW:=grownCap_ge w (0+n) 0 55;have iw:=grownCap_le_maxLen w (0+n) 0 55 (by simp only[maxLen];omega);obtain⟨z,hz⟩:∃z:Value,z=.agg #[.int .i64 0,.slice none 0 0,.bool false,.slice none 0 0,.slice none 0 0]:=⟨_,rfl⟩;rw[←hz];obtain⟨hE,hH⟩:=hR.drew (w.drawn+1) (cF _) |>.newRowV 55 5 (grownCap w (0+n) 0 55) (([]:List Value).toArray++Builtin.zeroCells z.cells (0+n-0)++Builtin.zeroCells z.cells (grownCap w (0+n) 0 55-(0+n))) iw (by
  simp only[dp,size_zeroCells,cL,List.length_nil];have:z.cells.size=5:=by rw[hz];rfl
  rw[this];omega)
 refine⟨_,_,_,_,rfl,(Ext.drew B w G (w.drawn+1) (cF _)).trans hE,hH,?_,hK⟩;refine⟨⟨_,_,rfl,λh=>by omega,bM _⟩,_,5,0,?_,af _,λ_=>rfl⟩;rw[←hR.len];simp;rfl
section
open Go.RowKit
variable {P:Program} {B:Nat} {w:World} {G:Gh} {H:or}
theorem zAS{v:Value}{a:AV}(h:DRel w G.L v a):ARel w G v a:=by
 cases h with
 |bool b=>rfl
 |int k n=>rfl
 |str s=>rfl
 |slE a cap=>exact .slE a cap
 |sl b off cap ft es vs fI fZ hL fP hc hd=>exact .sl b off cap ft es vs fI fZ hL fP hc hd
end
end Go.Proofs.YtdmamdnkcefmmaaGreatDoor

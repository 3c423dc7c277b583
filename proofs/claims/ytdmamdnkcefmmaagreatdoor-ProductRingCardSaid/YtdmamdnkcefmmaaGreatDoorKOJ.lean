import Derived.Test.YtdmamdnkcefmmaaGreatDoorKOD
import Derived.Test.YtdmamdnkcefmmaaGreatDoorKZ1
import Derived.Test.YtdmamdnkcefmmaaGreatDoorAbsQ1
import Derived.Test.YtdmamdnkcefmmaaGreatDoorKV5
import Derived.Test.YtdmamdnkcefmmaaGreatDoorKI2
import Derived.Test.YtdmamdnkcefmmaaGreatDoorKNum
import Derived.Test.YtdmamdnkcefmmaaGreatDoorProg
import Derived.KernelRfl
set_option linter.unusedSimpArgs false
set_option linter.unusedVariables false
set_option maxRecDepth 100000
namespace Go.Proofs.YtdmamdnkcefmmaaGreatDoor
mutual
def wrI:IT→List UInt8
 |.mk n ks=>UInt8.ofNat (48+n.toNat)::(if ks.length=0 then [] else 40::(zbm ks++[41]))
def zbm:List IT→List UInt8
 |[]=>[]
 |k::ks=>wrI k++44::zbm ks
end
mutual
def Dig:IT→Prop
 |.mk n ks=>0≤n∧n≤9∧zcH ks
def zcH:List IT→Prop
 |[]=>True
 |k::ks=>Dig k∧zcH ks
end
theorem zu3:∀ {ks:List IT},zcH ks→∀ k∈ks,Dig k
 |k::ks,h,x,hx=>by
  rw[zcH]at h;rcases aS.1 hx with rfl|hx
  ·exact h.1
  ·exact zu3 h.2 x hx
theorem zoj:∀ {ks:List IT},(∀ k∈ks,Dig k)→zcH ks
 |[],_=>by rw[zcH];trivial
 |k::ks,h=>by rw[zcH];exact⟨h k aO,zoj λx hx=>h x (aU _ hx)⟩
theorem zFB{a b:Int}(ha:0≤a)(ha9:a≤9)(hb:0≤b)(hb9:b≤9)(h:UInt8.ofNat (48+a.toNat)=UInt8.ofNat (48+b.toNat)):a=b:=by have:=congrArg UInt8.toNat h;rw[cD (by show _<256;omega),cD (by show _<256;omega)]at this;omega
theorem zwi{a:Int}(ha:0≤a)(ha9:a≤9):UInt8.ofNat (48+a.toNat)≠41:=by intro h;have:=congrArg UInt8.toNat h;rw[cD (by show _<256;omega)]at this;simp at this;omega
theorem zrl(k:IT)(s:List UInt8):∃r,wrI k++s=UInt8.ofNat (48+(zaI k).toNat)::r:=by obtain⟨n,ks⟩:=k;rw[wrI];exact⟨_,rfl⟩
theorem zu4{k:IT}(h:Dig k):0≤zaI k∧zaI k≤9:=by obtain⟨n,ks⟩:=k;rw[Dig]at h;exact⟨h.1,h.2.1⟩
mutual
theorem zzx:∀ (i j:IT) (s s':List UInt8),Dig i→Dig j→s.head?≠some 40→s'.head?≠some 40→wrI i++s=wrI j++s'→i=j∧s=s'
 |.mk n ks,.mk m ls,s,s',hi,hj,h1,h2,h=>by
  rw[Dig]at hi hj;rw[wrI,wrI,List.cons_append,List.cons_append,cI]at h;obtain rfl:=zFB hi.1 hi.2.1 hj.1 hj.2.1 h.1;have h':=h.2;by_cases hk:ks.length=0
  ·obtain rfl:=aB hk;by_cases hl:ls.length=0
   ·obtain rfl:=aB hl;simp at h';exact⟨rfl,h'⟩
   ·rw[aA (show ([]:List IT).length=0 from rfl),ap hl]at h';rw[List.nil_append]at h';rw[h']at h1;simp at h1
  ·by_cases hl:ls.length=0
   ·obtain rfl:=aB hl;rw[ap hk,aA (show ([]:List IT).length=0 from rfl),List.nil_append]at h';rw[←h']at h2;simp at h2
   ·rw[ap hk,ap hl,List.cons_append,List.cons_append,cI]at h';have h3:=h'.2;simp only[aw,List.cons_append,List.nil_append]at h3;obtain⟨e1,e2⟩:=zzv ks ls s s' hi.2.2 hj.2.2 h3;exact⟨by rw[e1],e2⟩
theorem zzv:∀ (ks ls:List IT) (s s':List UInt8),zcH ks→zcH ls→zbm ks++41::s=zbm ls++41::s'→ks=ls∧s=s'
 |[],[],s,s',_,_,h=>by rw[zbm,List.nil_append,List.nil_append]at h;simp at h;exact⟨rfl,h⟩
 |[],l::ls,s,s',_,hl,h=>by rw[zcH]at hl;rw[zbm,zbm,aw,List.nil_append,List.cons_append]at h;obtain⟨r,hr⟩:=zrl l (44::(zbm ls++41::s'));rw[hr]at h;have h0:=(List.cons.inj h).1;have:=zu4 hl.1;exact absurd h0.symm (zwi this.1 this.2)
 |k::ks,[],s,s',hk,_,h=>by rw[zcH]at hk;rw[zbm,zbm,aw,List.nil_append,List.cons_append]at h;obtain⟨r,hr⟩:=zrl k (44::(zbm ks++41::s));rw[hr]at h;have h0:=(List.cons.inj h).1;have:=zu4 hk.1;exact absurd h0 (zwi this.1 this.2)
 |k::ks,l::ls,s,s',hk,hl,h=>by rw[zcH]at hk hl;rw[zbm,zbm,aw,aw,List.cons_append,List.cons_append]at h;obtain⟨e1,e2⟩:=zzx k l (44::(zbm ks++41::s)) (44::(zbm ls++41::s')) hk.1 hl.1 (by simp) (by simp) h;rw[cI]at e2;obtain⟨e3,e4⟩:=zzv ks ls s s' hk.2 hl.2 e2.2;exact⟨by rw[e1,e3],e4⟩
end
theorem zzy{i j:IT}(hi:Dig i)(hj:Dig j)(h:wrI i=wrI j):i=j:=
 (zzx i j [] [] hi hj (by simp) (by simp) (by rw[h])).1
theorem zjb{dU:List Dat}(h8:∀D∈dU,D.cons.length≤8):∀(m:Nat) (i:IT),i.nodes≤m→∀t:VT,0≤rdV dU i t→Dig i:=by
 intro m;induction m with
 |zero=>intro i h;have:=i.nodes_pos;omega
 |succ m ih=>
  have hA:∀(l:List IT) (ts:List VT),IT.nodesL l≤m→l.length=ts.length→0≤rdA dU l ts 0→zcH l:=by intro l ts hm hl h;refine zoj λk hk=>?_;obtain⟨j,hj,rfl⟩:=bb hk;have:=(zdO (dU:=dU) l ts 0 (by omega) hl h).1 j hj (by omega);exact ih l[j] (by have:=zck hj;omega) ts[j] this
  intro i hm t h;obtain⟨n,ks⟩:=i;obtain⟨k,tn,tks⟩:=t;simp only[IT.nodes]at hm;rw[Dig];by_cases k6:k=6
  ·subst k6;rw[rdV]at h;simp only[VT.kind,VT.kids,aV]at h;by_cases hn:n=0
   ·by_cases hl:tks.length=ks.length
    ·simp[hn,hl]at h;exact⟨by omega,by omega,hA ks tks (by omega) hl.symm h⟩
    ·simp[hn,hl]at h
   ·simp[hn]at h
  ·by_cases k7:k=7
   ·subst k7;rw[rdV]at h;simp only[VT.kind,k6,aH,aV]at h;by_cases hc:0≤n∧n≤6∧ks.length=0
    ·obtain rfl:=aB hc.2.2;exact⟨hc.1,by omega,by rw[zcH];trivial⟩
    ·rw[ap hc]at h;omega
   ·by_cases k5:k=5
    ·subst k5;rw[zey]at h;by_cases hc:n=0∧ks.length≤6
     ·rw[aA hc]at h;refine⟨by omega,by omega,zoj λx hx=>?_⟩;obtain⟨j,hj,rfl⟩:=bb hx;have hn:=zck hj;obtain⟨c,eks,he⟩:∃ c eks,ks[j]=.mk c eks:=⟨zaI ks[j],zaF ks[j],by cases ks[j];rfl⟩;obtain⟨ps,e1,e2,e3⟩:=zHs h8 h hj he;have hrE:0≤rdE dU [ks[j]] (.mk 5 tn tks) 0:=by have h0:=h;rw[zqO ks]at h0;exact (zkn h8 (.mk 5 tn tks) (ks.map λx=>[x]) 0 (by omega) (by omega) h0).1 [ks[j]] (aC.2 ⟨ks[j],ah hj,rfl⟩)
      rw[he]at hrE;obtain⟨c0,c8,_⟩:=zdy hrE;rw[he,Dig];rw[he]at hn;simp only[IT.nodes]at hn;exact⟨c0,by omega,hA eks ps (by omega) e2.symm e3.1⟩
     ·rw[ap hc]at h;omega
    ·rw[rdV]at h;simp only[VT.kind,k6,k7,k5,aH]at h;by_cases hc:n=0∧ks.length=0
     ·obtain rfl:=aB hc.2;exact⟨by omega,by omega,by rw[zcH];trivial⟩
     ·rw[ap hc]at h;omega
theorem zhr:∀ {L:List (List AV)},(∀ c∈L,c.length=3)→L.flatten.length=L.length*3
 |[],_=>rfl
 |c::L,h=>by rw[List.flatten_cons,az,zhr λx hx=>h x (aU _ hx),h c aO,List.length_cons];omega
theorem zwy{L:List (List AV)}(h3:∀c∈L,c.length=3){i:Nat}(hi:i<L.length)(x:List AV):L.flatten.take (i*3)++(x++L.flatten.drop (i*3+3))=(L.set i x).flatten:=by
 have e:L.flatten=(L.take i).flatten++(L[i]++(L.drop (i+1)).flatten):=by
  have h0:L=L.take i++L[i]::L.drop (i+1):=by rw[←ag hi,aT]
  have h1:=congrArg List.flatten h0;rwa [cg,List.flatten_cons]at h1
 have l1:(L.take i).flatten.length=i*3:=by rw[zhr λc hc=>h3 c (bE hc)];simp;omega
 have l2:((L.take i).flatten++L[i]).length=i*3+3:=by rw[az,l1,h3 _ (ah hi)]
 rw[e,dj l1,←aw (L.take i).flatten L[i],cJ l2,bl,aA hi];simp
def zR:List AV:=[.bool false,.snil,.snil]
def zsL(n i:Nat):List (List AV):=List.replicate i (zam 0)++List.replicate (n-i) zR
theorem zD1(n i:Nat):∀c∈zsL n i,c.length=3:=by intro c hc;rcases aX.1 hc with h|h <;> rw[bm h] <;> rfl
theorem zWE{n i:Nat}(h:i<n):(zsL n i).set i (zam 0)=zsL n (i+1):=by unfold zsL;rw[aj _ _ (by simp),List.length_replicate,cT,show n-i=n-(i+1)+1 by omega,List.replicate_succ,List.set_cons_zero,List.replicate_succ',aw];rfl
theorem zJJ(n:Nat)(hn:n≤100)(H:zaa)(K:Kt)(hK:HSc H→K (.ms H.length 0 n n) (H++[.cells (List.replicate n (zam 0)).flatten])):ACalls tP zpQ [.int .i64 n] H K:=by
 refine zPc λhs=>?_;simp[zBx,zbu];refine⟨⟨by omega,by omega⟩,?_⟩;have h0:(List.replicate n ([.bool false,.snil,.snil]:List AV))=zsL n 0:=by simp[zsL,zR]
 rw[h0];have hsc:∀i,HSc (H++[.cells (zsL n i).flatten]):=λi=>hs.append (by
  simp only[AB.sc,List.all_cons,List.all_nil,ce];rw[ak];intro x hx;obtain⟨c,hc,hx⟩:=dH.1 hx;rcases aX.1 hc with h|h <;> rw[bm h]at hx
  ·exact ak.1 (zgz _ _) x hx
  ·exact ak.1 (show zR.all (AV.scA _)=true by simp[zR,AV.scA,AV.scB]) x hx)
 refine zPa (Inv:=λq t9 H'=>∃i:Nat,i≤n∧n-i=q∧t9=.int .i64 i∧H'=H++[.cells (zsL n i).flatten]) n ?_ ?_
 ·intro _;exact⟨0,by omega,rfl,rfl,rfl⟩
 ·rintro q t9 H' ⟨i,hi,rfl,rfl,rfl⟩ eA d8 eC Kb ee;by_cases d7:i<n
  ·have hL:(zsL n i).length=n:=by simp[zsL];omega
   simp[zsU,d7,wi i (by omega)];refine zeI 0 (by omega) _ _ ?_;have eZ:=zhr (zD1 n i);have eD:=zwy (zD1 n i) (i:=i) (by omega) (zam 0);rw[zWE d7]at eD;rw[List.length_flatten]at eZ;simp[zgy,eZ,hL];rw[eD];refine⟨by omega,?_⟩;exact ee _ _ ⟨n-(i+1),by omega,Back.here (by simp) (hsc _) (by simp[zmp,ux,AV.sc,AV.scA,AV.scB,AV.scV]) ⟨_,rfl,i+1,by omega,rfl,rfl,rfl⟩⟩
  ·obtain rfl:i=n:=by omega
   have:=hK hs;have e:zsL i i=List.replicate i (zam 0):=by simp[zsL]
   simp[zsU,e];exact this
theorem zHe:∀a,a<7→∀b,b<7→∀k,k<13→(k≤a+b∧max a b≤k→pcf a b k=chs k a*chs a (k-b)∧pcf a b k<1000000∧chs k a<1000000∧chs a (k-b)<1000000):=by
 have:=(by decide +kernel:((List.range 7).all λa=>(List.range 7).all λb=>(List.range 13).all λk=>decide (¬(k≤a+b∧max a b≤k)∨(pcf a b k=chs k a*chs a (k-b)∧pcf a b k<1000000∧chs k a<1000000∧chs a (k-b)<1000000)))=true);intro a ha b hb k hk h;have h1:=ak.mp this a (bh.mpr ha);have h2:=ak.mp h1 b (bh.mpr hb);have h3:=ak.mp h2 k (bh.mpr hk);rcases bY h3 with h4|h4
 ·exact absurd h h4
 ·exact⟨h4.1,h4.2⟩
def rwL(a b k:Nat):List (List AV):=(List.range (a+b+1)).map λj=>zam (((if j<k then pcf a b j else 0:Nat)):Int)
theorem zyk(a b k:Nat):(rwL a b k).length=a+b+1:=by simp[rwL]
theorem zqK(a b k:Nat):∀c∈rwL a b k,c.length=3:=by intro c hc;obtain⟨j,_,rfl⟩:=aC.1 hc;rfl
theorem zHQ(a b:Nat):List.replicate (a+b+1) (zam 0)=rwL a b (max a b):=by
 refine bA (by simp[rwL]) λj h1 h2=>?_;simp only[rwL,dK,bU,bV];by_cases h:j<max a b
 ·rw[aA h];have:pcf a b j=0:=by simp[pcf];omega
  rw[this];rfl
 ·rw[ap h];rfl
theorem zHR{a b k:Nat}(h:k≤a+b):(rwL a b k).set k (zam (pcf a b k:Int))=rwL a b (k+1):=by
 refine bA (by simp[rwL]) λj h1 h2=>?_;rw[cY];simp only[rwL,bU,bV];by_cases hj:k=j
 ·subst hj;simp
 ·rw[ap hj];by_cases hk:j<k
  ·rw[aA hk,aA (by omega)]
  ·rw[ap hk,ap (by omega)]
theorem zyj(a b:Nat):rwL a b (a+b+1)=zcl (zc0 a b (a+b+1)):=by
 refine bA (by simp[rwL,zcl,zc0]) λj h1 h2=>?_;have hj:j<a+b+1:=by simpa[rwL]using h1
 simp[rwL,zcl,zc0,hj]
theorem zxR:∀ l:List Nat,plain (zcl l).flatten=some (zcl l).flatten
 |[]=>rfl
 |z::l=>by show plain (zam (z:Int)++(zcl l).flatten)=_;exact zid (zdh _) (zxR l)
theorem zLH(a b:Nat)(ha:a≤6)(hb:b≤6)(H:zaa)(K:Kt)(hK:K (.sl (zcl (zc0 a b (a+b+1))) .none) H):ACalls tP zpz [.int .i64 a,.int .i64 b] H K:=by
 refine ACalls.out (zLF λhs=>?_);have w1:IntKind.i64.wrap ((a:Int)+(b:Int))=((a+b:Nat):Int):=by rw[zav (by omega) (by omega)];omega
 have w2:IntKind.i64.wrap ((a:Int)+(b:Int)+1)=((a+b+1:Nat):Int):=by rw[zav (by omega) (by omega)];omega
 have oE:(if a<b then (b:Int) else (a:Int))=((max a b:Nat):Int):=by split <;> omega
 have hmx':(if (b:Int)>(a:Int) then (b:Int) else (a:Int))=((max a b:Nat):Int):=by split <;> omega
 simp[zAd,w1,w2,oE,hmx'];refine zJJ (a+b+1) (by omega) _ _ λ_=>?_;rw[zHQ];have hsc:∀i,HSc (H++[.cells (rwL a b i).flatten]):=λi=>hs.append (by
  simp only[AB.sc,List.all_cons,List.all_nil,ce];rw[ak];intro x hx;obtain⟨c,hc,hx⟩:=dH.1 hx;obtain⟨j,_,rfl⟩:=aC.1 hc;exact ak.1 (zgz _ _) x hx)
 try simp only[oE,hmx']
 refine zLD (Inv:=λq t6 H'=>∃k:Nat,max a b≤k∧k≤a+b+1∧a+b+1-k=q∧t6=.int .i64 k∧H'=H++[.cells (rwL a b k).flatten]) (a+b+1-max a b) ?_ ?_
 ·intro _;exact⟨max a b,by omega,by omega,rfl,rfl,rfl⟩
 ·rintro q t6 H' ⟨k,gI,hk,rfl,rfl,rfl⟩ eA d8 eC Kb ee;by_cases d7:k≤a+b
  ·have eE:(k:Int)≤(a:Int)+(b:Int):=by omega
   obtain⟨p1,p2,p3,p4⟩:=zHe a (by omega) b (by omega) k (by omega) ⟨d7,gI⟩;have w3:IntKind.i64.wrap ((k:Int)-(b:Int))=((k-b:Nat):Int):=by rw[zav (by omega) (by omega)];omega
   simp[zrQ,w1,eE,w3,wi k (by omega)];refine zwr k a (by omega) (by omega) _ _ ?_;refine zwr a (k-b) (by omega) (by omega) _ _ ?_;refine zgV _ _ (zcP (dS p3 (by decide))) (zcP (dS p4 (by decide))) _ _ ?_;rw[←Int.natCast_mul,←p1];have eZ:=zhr (zqK a b k);have eD:=zwy (zqK a b k) (i:=k) (by rw[zyk];omega) (zam (pcf a b k:Int));rw[zHR d7]at eD;rw[List.length_flatten,zyk]at eZ;simp[zgy,eZ];rw[eD];refine⟨by omega,by omega,?_⟩;exact ee _ _ ⟨a+b+1-(k+1),by omega,Back.here (by simp) (hsc _) (by simp[zlj,ux,AV.sc,AV.scA,AV.scB,AV.scV]) ⟨_,rfl,k+1,by omega,by omega,rfl,rfl,rfl⟩⟩
  ·obtain rfl:k=a+b+1:=by omega
   have eE:¬((a:Int)+(b:Int)+1≤(a:Int)+(b:Int)):=by omega
   simp[zrQ,w1,eE];rw[zyj];have eZ:=zhr (zqK a b (a+b+1));rw[zyj,zHm]at eZ;have gd:(zc0 a b (a+b+1)).length=a+b+1:=by simp[zc0]
   refine⟨_,H,[_],rfl,aa _,hs,.one (.frz H.length 0 (a+b+1) (a+b+1) 3 (zcl (zc0 a b (a+b+1))).flatten (zcl (zc0 a b (a+b+1))) (aa _) (by simp) (by omega) ?_ (by simp[gd]) (λc hc=>?_) (aa _)),hK⟩
   ·rw[br,am (by omega)];exact zxR _
   ·obtain⟨z,_,rfl⟩:=aC.1 hc;rfl
theorem zVe(a b:Nat)(ha:a≤6)(hb:b≤6)(H:zaa)(K:Kt)(hK:K (.tup [.sl (zcl (zc0 a b (a+b+1))) .none,.bool true]) H):ACalls tP zqe [.int .i64 a,.int .i64 b] H K:=by
 refine ACalls.out (zVd λhs=>?_);have c1:¬((a:Int)<0):=by omega
 have c2:¬((b:Int)<0):=by omega
 have c3:¬((16:Int)<(a:Int)):=by omega
 have c4:¬((16:Int)<(b:Int)):=by omega
 simp[zDy,c1,c2,c3,c4];refine zLH a b ha hb _ _ ?_;exact⟨⟨rfl,rfl⟩,Out.tup0 (bs:=[.sl (zcl (zc0 a b (a+b+1))) .none,.bool true]) hs hK ⟨zaY rfl rfl,zaY rfl rfl,trivial⟩⟩
section
open Go.RowKit
variable {P:Program} {B:Nat} {w:World} {G:Gh} {H:zaa}
theorem HRel.newRow(h:HRel B w G H)(e size cap:Nat)(cur:Array Value)(hc:cap≤maxLen)(hs:cur.size=cap*size):
  Ext B w G (w.alloc (.cells cur e)) ⟨G.L,G.μ++[.own (.slice (some ⟨w.heap.size,0,none⟩) 0 cap) size 0]⟩∧HRel B (w.alloc (.cells cur e)) ⟨G.L,G.μ++[.own (.slice (some ⟨w.heap.size,0,none⟩) 0 cap) size 0]⟩ (H++[.perm e size 0]):=by
 have he:=Ext.alloc h (.cells cur e) G.L (λ_ _=>rfl) [.own (.slice (some ⟨w.heap.size,0,none⟩) 0 cap) size 0];have split:∀(id:Nat) gi,(G.μ++[GI.own (.slice (some ⟨w.heap.size,0,none⟩) 0 cap) size 0])[id]?=some gi→G.μ[id]?=some gi∨(id=G.μ.length∧gi=.own (.slice (some ⟨w.heap.size,0,none⟩) 0 cap) size 0):=by
  intro id gi hg;by_cases d7:id<G.μ.length
  ·rw[List.getElem?_append_left d7]at hg;exact .inl hg
  ·have eM:=(List.getElem?_eq_some_iff.1 hg).1;simp at eM;have:id=G.μ.length:=by omega
   subst this;simp at hg;exact .inr ⟨rfl,hg.symm⟩
 refine⟨he,by simp[h.len],?_,?_,λb hb=>?_,?_,?_⟩
 ·intro id ab gi h1 h2;rcases split id gi h2 with h2 | ⟨rfl,rfl⟩
  ·have d7:id<H.length:=by rw[←h.len];exact (List.getElem?_eq_some_iff.1 h2).1
   rw[List.getElem?_append_left d7]at h1;exact(h.ok id ab gi h1 h2).keep he (λb hb=>⟨zcI (h.lt id gi b h2 hb),rfl⟩)
  ·rw[h.len]at h1;simp at h1;subst h1;refine⟨rfl,rfl,⟨[],by simp,.inr ⟨w.heap.size,cap,cur,rfl,h.base,zdq _,bu _,hc,hs,by simp⟩⟩,λb hb=>?_⟩;simp[Value.ownBlock]at hb;subst hb;rw[dN];exact h.fresh _ (aa _)
 ·intro id id' gi gi' b h1 h2 h3 h4;rcases split id gi h1 with k1 | ⟨e1,e2⟩ <;> rcases split id' gi' h2 with k2 | ⟨e3,e4⟩
  ·exact h.dist id id' gi gi' b k1 k2 h3 h4
  ·rw[e4]at h4;simp[GI.block,Value.ownBlock]at h4;have:=h.lt id gi b k1 h3;omega
  ·rw[e2]at h3;simp[GI.block,Value.ownBlock]at h3;have:=h.lt id' gi' b k2 h4;omega
  ·rw[e1,e3]
 ·rw[zb7]at hb;exact h.fresh b (by omega)
 ·intro id gi b h1 h2;rw[zb7];rcases split id gi h1 with k1 | ⟨e1,e2⟩
  ·have:=h.lt id gi b k1 h2;omega
  ·rw[e2]at h2;simp[GI.block,Value.ownBlock]at h2;omega
 ·rw[zb7];have:=h.base;omega
end
theorem zId(n:Nat)(hn:0<n)(jR:n≤1000000)(H:zaa)(K:Kt)(hK:K (.sl [] (.own H.length)) (H++[.perm zba 2 0])):
  ACalls tP zxg [.snil,.int .i64 n] H K:=by
 rintro B w G ⟨vs⟩ hR hv
 match vs,hv with
 |[v1,v2],⟨h1,h2,_⟩=>
 have h1:v1=.slice none 0 0:=h1;have h2:v2=.int .i64 n:=h2;subst h1 h2;obtain⟨i0,jf,pG,lQ,fA⟩:∃i0,tP.info? 28=some i0∧i0.zero=some (.agg #[.int .i64 0,.slice none 0 0])∧i0.size=2∧i0.bytes=32:=⟨_,rfl,rfl,rfl,rfl⟩;refine(Go.Proofs.Any8.slices_Grow_grow zJK i0 _ jf pG (by omega) none 0 0 n [] w (aa _) (by omega) (by rw[fA];omega) (by omega) (by simp) (λ_=>rfl) (λ_ h=>by cases h)).mono ?_;rintro e w' ⟨rfl,rfl⟩;have iT:=grownCap_ge w (0+n) 0 28;have fg:=grownCap_le_maxLen w (0+n) 0 28 (by simp only[maxLen];omega);obtain⟨hE,hH⟩:=hR.drew (w.drawn+1) (bP _) |>.newRow 28 2 (grownCap w (0+n) 0 28) (([]:List Value).toArray++Builtin.zeroCells (Value.agg #[.int .i64 0,.slice none 0 0]).cells (0+n-0)++Builtin.zeroCells (Value.agg #[.int .i64 0,.slice none 0 0]).cells (grownCap w (0+n) 0 28-(0+n))) fg (by
  simp only[cv,size_zeroCells,bR,List.length_nil];have:(Value.agg #[.int .i64 0,.slice none 0 0]).cells.size=2:=rfl;rw[this];omega)
 refine⟨_,_,_,_,rfl,(Ext.drew B w G (w.drawn+1) (bP _)).trans hE,hH,?_,hK⟩;refine⟨.slE _ _,_,2,0,?_,aa _,λ_=>⟨rfl,λc hc=>by simp at hc⟩⟩;rw[←hR.len];simp;rfl
theorem zIb(a b:List IT)(ha:0<a.length)(hb:a.length+b.length≤1000000)(H:zaa)(K:Kt)(hK:K (.sl (IT.css (a++b)) .none) H):
  ACalls tP zpB [.sl [[.sl (IT.css a) .none],[.sl (IT.css b) .none]] .full] H K:=by
 refine ACalls.out (zL5 λhs=>?_);have e:∀l:List IT,(IT.css l).length=l.length:=λl=>by simp[IT.css_map]
 have hS:∀c:List IT,∀k:AV→Prop,k (.int .i64 c.length)→zai 1 (.sl (IT.css c) .none) k:=λc k hk=>by simpa[e]using hk
 simp[zAj];let row:Nat→List IT:=λi=>if i=0 then a else b
 let sum:Nat→Nat:=λi=>if i=0 then 0 else if i=1 then a.length else a.length+b.length
 have ek:∀i (hi:i < [[AV.sl (IT.css a) .none],[.sl (IT.css b) .none]].length),[[AV.sl (IT.css a) .none],[.sl (IT.css b) .none]][i]=[.sl (IT.css (row i)) .none]:=λi hi=>by rcases (by simp at hi;omega:i=0∨i=1) with rfl|rfl <;> rfl
 refine zL2 (Inv:=λq t3 t11 H'=>∃i:Nat,i≤2∧q=2-i∧t11=.int .i64 i∧t3=.int .i64 (sum i)∧H'=H) 2 ?_ ?_
 ·intro _;exact⟨0,by omega,rfl,rfl,rfl,rfl⟩
 ·rintro q t3 t11 H' ⟨i,hi,rfl,rfl,rfl,rfl⟩ hsc d8 eC Kb ee;by_cases d7:i<2
  ·have eE:(i:Int)<2:=by omega
   have gy:(sum i:Int)+(row i).length=sum (i+1):=by rcases (by omega:i=0∨i=1) with rfl|rfl <;> simp[sum,row]
   have fR:sum (i+1)≤1000000:=by rcases (by omega:i=0∨i=1) with rfl|rfl <;> simp[sum] <;> omega
   have ip:¬((sum (i+1):Int)<0):=by omega
   simp[zrZ,eE,d7,ek,e];rw[gy,zav (by omega) (by omega)];simp[ip,zAk,zAl];rw[zav (by omega) (by omega)];refine ee _ _ ⟨2-(i+1),by omega,Back.at (J:=[]) (H2:=H') (by simp) (by omega) hsc ?_ ⟨_,_,rfl,i+1,by omega,rfl,by simp,rfl,rfl⟩⟩;simp[zlp,AV.sc,AV.scV,AV.scA,AV.scB]
  ·obtain rfl:i=2:=by omega
   simp[zrZ];refine zId _ (by simp[sum];omega) (by simp[sum];omega) _ _ ?_;let all:Nat→List IT:=λi=>if i=0 then [] else if i=1 then a else a++b
   refine zL1 (Inv:=λq t6 t27 H2=>∃i:Nat,i≤2∧q=2-i∧t27=.int .i64 i∧t6=.sl (IT.css (all i)) (.own H'.length)∧H2=H'++[.perm zba 2 (all i).length]) 2 ?_ ?_
   ·intro _;exact⟨0,by omega,rfl,rfl,rfl,rfl⟩
   ·rintro q t6 t27 H2 ⟨i,hi,rfl,rfl,rfl,rfl⟩ fU iA lJ Kb2 fK;by_cases d7:i<2
    ·have eE:(i:Int)<2:=by omega
     have eB:IT.css (all i)++IT.css (row i)=IT.css (all (i+1)):=by rcases (by omega:i=0∨i=1) with rfl|rfl <;> simp[all,row,IT.css_map]
     have hall2:(all i).length+(row i).length=(all (i+1)).length:=by rcases (by omega:i=0∨i=1) with rfl|rfl <;> simp[all,row]
     have fR:(all (i+1)).length≤1000000:=by rcases (by omega:i=0∨i=1) with rfl|rfl <;> simp[all] <;> omega
     have h2:∀c∈IT.css (row i),c.length=2:=λc hc=>by rw[IT.css_map]at hc;obtain⟨x,_,rfl⟩:=aC.1 hc;simp
     simp[zrY,eE,d7,ek,e,zax,zaO,zaK,aj];rw[eB,hall2,zav (by omega) (by omega)];refine⟨h2,⟨by omega,by omega⟩,?_⟩;refine fK _ _ ⟨2-(i+1),by omega,Back.at (J:=[]) (H2:=H'++[.perm zba 2 (all (i+1)).length]) (by simp) (by simp) (hs.append (by simp[AB.sc])) ?_ ⟨_,_,rfl,i+1,by omega,rfl,by simp,rfl,rfl⟩⟩;simp[zlo,AV.sc,AV.scV,AV.scA,AV.scB]
    ·obtain rfl:i=2:=by omega
     simp[zrY];exact Out.at (H2:=H') (J:=[.perm zba 2 (a++b).length]) (by simp[all]) (aa _) hs (.atom (.sl _ _)) rfl rfl (by simpa[all]using hK)
theorem zMc{dU:List Dat}(hk:zbw dU)(n:Int)(ks:List VT)(ht:(VT.mk 5 n ks).nodes≤1000)(c:Int){ps:List VT}(hp:zbb dU (.mk 5 n ks) c=some ps)(H:zaa)(K:Kt)(hK:K (.sl (VT.css ps) .none) H):ACalls tP zpC [.sl (dU.map Dat.cs) .none,.agg (VT.mk 5 n ks).cs,.int .i64 c] H K:=by
 obtain⟨l,hf⟩:∃lf,zbr dU (.mk 5 n ks) c=some lf:=by
  cases nB:zbr dU (.mk 5 n ks) c with
  |none=>simp[zbb,nB]at hp
  |some lf=>exact⟨lf,rfl⟩
 obtain⟨bs,ou,fV,nS,gY,gq,_,jb,_⟩:=zxI hk hf;rw[hp]at gY;obtain rfl:=dc gY;refine ACalls.out (zMa λhs=>?_);obtain⟨f1,f2,f3⟩:=zfq hk;simp[zAp,VT.cs,ae];refine zBq dU f1 f2 f3 (.mk 5 n ks) ht c _ _ ?_;rw[hf];simp[zcC];refine jb _ _ ?_;simp[zeQ];unfold zlu;refine ALoop.own 9 za2 3 rfl ?_;have i7:(H++[AB.cells [AV.int IntKind.i64 5,AV.int IntKind.i64 n,AV.sl (VT.css ks) Tok.none]]).length=H.length+1:=by simp
 rw[i7,aw];show zlu _ (.sl (VT.css (pick (l.take 0) (bs.take 0))) (.own (H.length+1))) _ _ _ (H++[.cells [.int .i64 5,.int .i64 n,.sl (VT.css ks) .none],.perm za2 3 0]) _;have et:∀ m,HSc (H++[.cells [.int .i64 5,.int .i64 n,.sl (VT.css ks) .none],.perm za2 3 m]):=λm=>hs.append (by simp[AB.sc,AV.scA,AV.scB]);refine zL8 (Inv:=λq t9 t25 H'=>∃ i:Nat,i≤bs.length∧bs.length-i=q∧t25=.int .i64 i∧t9=.sl (VT.css (pick (l.take i) (bs.take i))) (.own (H.length+1)) ∧
  H'=H++[.cells [.int .i64 5,.int .i64 n,.sl (VT.css ks) .none],.perm za2 3 (pick (l.take i) (bs.take i)).length]) bs.length ?_ ?_
 ·intro _;exact⟨0,by omega,rfl,rfl,rfl,rfl⟩
 ·rintro q t9 t25 H' ⟨i,hi,rfl,rfl,rfl,rfl⟩ eA d8 eC Kb ee;by_cases d7:i<bs.length
  ·have fc:i<l.length:=by omega
   have eD:=zqq fV fc;have gd:=zkf (l.take i) (bs.take i);rw[aW]at gd;generalize hA:pick (l.take i) (bs.take i)=A at *;have eP:∀ A',A'=pick (l.take (i+1)) (bs.take (i+1))→zlt (.sl (VT.css l) .none) (.sl (VT.css A') (.own (H.length+1))) (.sl (zbV bs) .none) (.int .i64 bs.length) (.int .i64 i)
     (H++[.cells [.int .i64 5,.int .i64 n,.sl (VT.css ks) .none],.perm za2 3 A'.length]) (Out H.length K) Kb:=by
    rintro A' rfl;simp[zlt,zAq,wi i (by omega)];exact ee _ _ ⟨bs.length-(i+1),by omega,Back.here (by simp) (et _) (by simp[zls,ux,AV.sc,AV.scA,AV.scB,AV.scV]) ⟨_,_,rfl,i+1,by omega,rfl,rfl,rfl,rfl⟩⟩
   obtain⟨x1,x2,x3,ei,fF,e8,fC⟩:=zbh l[i];cases jX:bs[i] with
   |true=>rw[jX,aA rfl,aK]at eD;simp[zlr,zeQ,d7,zhd,jX];exact eP A eD.symm
   |false=>
    rw[jX]at eD;simp only[aF,aH]at eD;simp[zlr,zeQ,d7,fc,zhd,jX];have hpv:∀v:VT,plain v.cs=some v.cs:=λv=>by cases v;rfl
    have ew:VT.css A++[l[i].cs]=VT.css (A++[l[i]]):=by rw[VT.css_map,VT.css_map,aP];rfl
    simp[zau,zaU,hpv,plain,AV.pd];simp only[zax,zaO,zaK];simp[aj];refine⟨⟨by omega,by omega⟩,?_⟩;rw[ew];have:=eP (A++[l[i]]) eD.symm;rw[az]at this;exact this
  ·obtain rfl:i=bs.length:=by omega
   rw[←fV,aq,fV,aq];simp[zlr];exact Out.at (b:=.sl (VT.css (pick l bs)) .none) rfl (aa _) hs (.atom (.sl _ _)) rfl rfl hK
theorem zVx:∀(m:Nat) (v:IT),v.nodes≤m→v.nodes≤1000000→∀(H:zaa) (K:Kt),K (.agg v.cs) H→ACalls tP zj0 [.agg v.cs] H K:=by
 intro m;induction m with
 |zero=>intro v h;have:=v.nodes_pos;omega
 |succ m ih=>
  intro v hm hb H K hK;obtain⟨n,ks⟩:=v;have fc:=IT.len_le ks;have ip:(IT.mk n ks).nodes=IT.nodesL ks+1:=by simp[IT.nodes]
  refine ACalls.out (zVv λhs=>?_);simp[zDC,IT.cs,zar,zaL,AV.known,ae];unfold zn1;refine ALoop.ownC (H.length+2) 1 zba 2 (cs:=[.int .i64 n,.snil]) (by simp) rfl ?_;have eI:(H++[AB.cells [.int .i64 n,.sl (IT.css ks) .none],.cells [.int .i64 0,.snil],.cells [.int .i64 n,.snil]]).set (H.length+2) (.cells ([AV.int .i64 n,.snil].set 1 (.sl [] (.own (H++[AB.cells [.int .i64 n,.sl (IT.css ks) .none],.cells [.int .i64 0,.snil],.cells [.int .i64 n,.snil]]).length))))++[.perm zba 2 0] =
    H++[.cells [.int .i64 n,.sl (IT.css ks) .none],.cells [.int .i64 0,.snil],.cells [.int .i64 n,.sl [] (.own (H.length+3))],.perm zba 2 0]:=by simp[aj]
  rw[eI];show zn1 (.ptr (H.length+1) 0) (.ptr (H.length+2) 0) (.sl (IT.css ks) .none) (.int .i64 ks.length) (.int .i64 0) _ (Out H.length K);have hsc:∀ i,HSc (H++[.cells [.int .i64 n,.sl (IT.css ks) .none],.cells [.int .i64 0,.snil],.cells [.int .i64 n,.sl (IT.css (ks.take i)) (.own (H.length+3))],.perm zba 2 i]):=λi=>hs.append (by simp[AB.sc,AV.scA,AV.scB]);refine zVt (Inv:=λq t12 H'=>∃ i:Nat,i≤ks.length∧q=ks.length-i∧t12=.int .i64 i ∧
   H'=H++[.cells [.int .i64 n,.sl (IT.css ks) .none],.cells [.int .i64 0,.snil],.cells [.int .i64 n,.sl (IT.css (ks.take i)) (.own (H.length+3))],.perm zba 2 i]) ks.length ?_ ?_
  ·intro _;exact⟨0,by omega,by omega,rfl,by simp[IT.css]⟩
  ·rintro q t12 H' ⟨i,hi,rfl,rfl,rfl⟩ eA d8 eC Kb ee;by_cases d7:i<ks.length
   ·obtain⟨x,y,ei,hx,hy⟩:=zde ks[i];have gC:=IT.kid_lt (n:=n) d7;simp[zuI,d7,ei,hx,hy];rw[←ei];refine zaH (.agg (ks[i]).cs) (λJ=>ih ks[i] (by omega) (by omega) _ _ ⟨rfl,rfl⟩) ?_;rw[zoG];simp[zax,zaO,zaK,bj hi,AV.known,aj];refine⟨⟨by omega,by omega⟩,?_⟩;rw[zav (by omega) (by omega)];rw[←zF5 d7];refine ee _ _ ⟨ks.length-(i+1),by omega,Back.at (J:=[.cells (ks[i]).cs]) (H2:=H++[.cells [.int .i64 n,.sl (IT.css ks) .none],.cells [.int .i64 0,.snil],.cells [.int .i64 n,.sl (IT.css (ks.take (i+1))) (.own (H.length+3))],.perm zba 2 (i+1)]) (by simp) (by simp) (hsc _) ?_ ⟨_,rfl,i+1,by omega,rfl,by simp,rfl⟩⟩;simp[zn0,AV.sc,AV.scV,AV.scA,AV.scB]
   ·obtain rfl:i=ks.length:=by omega
    rw[aq]at *;simp[zuI,AV.known,aj];exact Out.at rfl (aa _) hs (WkV.agg (ds:=[.int .i64 n,.sl (IT.css ks) .none]) ⟨.refl _,.sl _ _,trivial⟩) rfl (by simp[AV.scV,AV.scA,AV.scB]) (by simpa[IT.cs]using hK)
theorem zVB(z:Int)(hz:Sm z)(H:zaa)(K:Kt)(hK:K (.agg (zam z)) H):ACalls tP zqg [.agg (zam z)] H K:=by
 refine ACalls.out (zVA λhs=>?_);have hl:=hz.len;simp[zDD,zgy,ae];refine zgg z (by omega) _ _ ?_;have e:zam z=[.bool (decide (z<0)),.sl (zan (lim z.natAbs)) .none,.sl (zan [1]) .none]:=rfl
 conv=>lhs
 rw[e];refine zks (decide (z<0)) z.natAbs (by omega) (z:=z) (by by_cases h:z<0 <;> simp[h] <;> omega) _ _ ?_;simp[zgy,ae];exact zdM hs hK
theorem zDA(a:Nat)(ha:Sm (a:Int))(H:zaa)(K:Kt)(hK:K (.int .i64 (if a=0 then 0 else 1)) H):ACalls tP zjZ [.agg (zam (a:Int))] H K:=by refine ACalls.out (zVh λhs=>?_);have hl:=ha.len;simp[zDz,zgy,ae];refine zgg (a:Int) (by omega) _ _ ?_;refine zH7 a _ _ ?_;exact Out.int rfl (aa _) hs hK
section
variable (t0 t1 t2 t3 t9 t10 t11 t12 t14 t20 t21 t22 t27 t28 t29 t43 t44 t45:AV) (H:zaa) (K:Kt) (Kb3 Kb7:Lt)
def zeh:Nat→List Bool|3=>rl false [0,1,1,2,5,1,10,3,47]|7=>rl false [0,1,1,2,6,3,7,3,4,3,40]|10=>rl false [0,1,1,2,6,3,1,1,5,3,4,3,13,3,24]|200012=>rl false [0,2]|_=>[]
noncomputable def zuD:=Tryz.f78.body.getD .skip
noncomputable def zVa:=Tryz.f78.results.toList
def ziN:=t0::ux 1 (t2::t3::ux 5 (t9::ux 10 (t20::t21::t22::ux 47 [])))
def zDw:=zeh 3
noncomputable def zuE:=zas [1,1,0,1,0,0] zuD
def zDs:=zat tP zeh [1,1,0,1,0] zuD (zaB tP zVa K)
def zDv:=ALoop tP zuE (zDs K) (ziN t0 t2 t3 t9 t20 t21 t22) H
def znT:=t0::ux 1 (t2::t3::ux 6 (t10::t11::t12::ux 7 (t20::t21::t22::ux 4 (t27::t28::t29::ux 40 []))))
def zDx:=zeh 7
noncomputable def zuF:=zas [1,1,0,0,1,1,0,1,0,0] zuE
def zDt:=zat tP zeh [1,1,0,0,1,1,0,1,0] zuE (zbR zDw Kb3 (zDs K))
def znU:=ALoop tP zuF (zDt K Kb3) (znT t0 t2 t3 t10 t11 t12 t20 t21 t22 t27 t28 t29) H
def ziM:=t0::ux 1 (t2::t3::ux 6 (t10::t11::t12::ux 1 (t14::ux 5 (t20::t21::t22::ux 4 (t27::t28::t29::ux 13 (t43::t44::t45::ux 24 []))))))
def zU8:=zeh 10
noncomputable def zU4:=zas [1,1,0,0,1,1,0,0] zuF
def zU3:=zat tP zeh [1,1,0,0,1,1,0] zuF (zbR zDx Kb7 (zDt K Kb3))
def zDu:=ALoop tP zU4 (zU3 K Kb3 Kb7) (ziM t0 t2 t3 t10 t11 t12 t14 t20 t21 t22 t27 t28 t29 t43 t44 t45) H
def zuA(t0 t2 t3 t10 t11 t12 t14 t20 t21 t22 t27 t28 t29 t43 t44 t45:AV)(H:zaa)(K:Kt)(Kb3:Lt)(Kb7:Lt)(Kb10:Lt):Prop:=zad .lss false t45 t44 λt46=>zag t46 (zaj 5 t43 t45 λt47=>zae true 5 t47 H λt48=>zaz [(.int .i64 0),.snil,(.bool false),.snil,.snil] H λt16 H=>zao 5 t16 t48 H λH=>apm H t12 λt49=>apu H (zaf 0 t14) λt50=>apu H (zal false 1 t50 H) λt51=>zdH .g true H (λK'=>ACalls tP zpy [t51] H K') λt52 H=>apu H (zaf 0 t16) λt53=>apu H (zal true 2 t53 H) λt54=>apu H (zau 2 [(.int .i64 0),.snil] 1 [(0,t54)]) λt55=>zdH .g false H (λK'=>zax zba 2 32 t52 t55 H K') λt56 H=>apu H (zaf 1 t14) λt57=>apu H (zal true 3 t57 H) λt58=>apu H (zaf 2 t16) λt59=>apu H (zal true 3 t59 H) λt60=>zdH .g true H (λK'=>ACalls tP zet [t58,t60] H K') λt61 H=>apu H (zar [.snil,(.bool false),.snil,.snil] [(0,1),(1,3)] [(0,t56),(1,t61)]) λt62=>apu H (zau 4 [.snil,(.bool false),.snil,.snil] 1 [(0,t62)]) λt63=>zdH .g false H (λK'=>zax zbv 4 80 t49 t63 H K') λt64 H=>apm H t64 λt12=>zad .add false t45 (.int .i64 1) λt65=>Kb10 (ziM t0 t2 t3 t10 t11 t12 t14 t20 t21 t22 t27 t28 t29 t43 t44 t65) H) (zad .add false t29 (.int .i64 1) λt66=>Kb7 (znT t0 t2 t3 t10 t11 t12 t20 t21 t22 t27 t28 t66) H)
def zuC:=zad .lss false t29 t28 λt30=>zag t30 (zaj 4 t27 t29 λt31=>zae true 4 t31 H λt32=>zaz [.snil,(.bool false),.snil,.snil] H λt14 H=>zao 4 t14 t32 H λH=>apm H t0 λt33=>apu H (zal true 3 t11 H) λt34=>apm H t2 λt35=>apm H t10 λt36=>apu H (zaj 2 t35 t36) λt37=>apu H (zal true 2 t37 H) λt38=>apm H t3 λt39=>apm H t10 λt40=>apu H (zaj 2 t39 t40) λt41=>apu H (zal true 2 t41 H) λt42=>zaJ H (λH K'=>ACalls tP zhV [t33,t34,t38,t42] H K') λt43=>apu H (zai 1 t43) λt44=>apm H (.int .i64 0) λt45=>zDu t0 t2 t3 t10 t11 t12 t14 t20 t21 t22 t27 t28 t29 t43 t44 t45 H K Kb3 Kb7) (zad .add false t22 (.int .i64 1) λt68=>Kb3 (ziN t0 t2 t3 t12 t20 t21 t68) H)
def zuB:=zad .lss false t22 t21 λt23=>zag t23 (zaj 3 t20 t22 λt25=>zae true 3 t25 H λt26=>zaz [(.int .i64 0),(.int .i64 0),.snil] H λt11 H=>zao 3 t11 t26 H λH=>zai 1 t9 λt28=>znU t0 t2 t3 t22 t11 .snil t20 t21 t22 t9 t28 (.int .i64 0) H K Kb3) (K t9 H)
def zDr:=ACalls tP zdv [(.int .i64 1)] H λt17 H=>zar [.snil,(.bool false),.snil,.snil] [(0,1),(1,3)] [(1,t17)] λt18=>zau 4 [.snil,(.bool false),.snil,.snil] 1 [(0,t18)] λt19=>zai 1 t1 λt21=>zDv t0 t2 t3 t19 t1 t21 (.int .i64 0) H K
variable {t0 t1 t2 t3 t9 t10 t11 t12 t14 t20 t21 t22 t27 t28 t29 t43 t44 t45} {H} {K} {Kb3 Kb7}
theorem zU5:Lo2 (λt12 t45=>ziM t0 t2 t3 t10 t11 t12 t14 t20 t21 t22 t27 t28 t29 t43 t44 t45) (λt12 t45 H Kb10=>zuA t0 t2 t3 t10 t11 t12 t14 t20 t21 t22 t27 t28 t29 t43 t44 t45 H K Kb3 Kb7 Kb10) t12 t45 H (zDu t0 t2 t3 t10 t11 t12 t14 t20 t21 t22 t27 t28 t29 t43 t44 t45 H K Kb3 Kb7):=lq2 zeh zU8
theorem zU7:Lo2 (λt12 t29=>znT t0 t2 t3 t10 t11 t12 t20 t21 t22 t27 t28 t29) (λt12 t29 H Kb7=>zuC t0 t2 t3 t10 t11 t12 t20 t21 t22 t27 t28 t29 H K Kb3 Kb7) t12 t29 H (znU t0 t2 t3 t10 t11 t12 t20 t21 t22 t27 t28 t29 H K Kb3):=lq2 zeh zDx
theorem zU6:Lo2 (λt9 t22=>ziN t0 t2 t3 t9 t20 t21 t22) (λt9 t22 H Kb3=>zuB t0 t2 t3 t9 t20 t21 t22 H K Kb3) t9 t22 H (zDv t0 t2 t3 t9 t20 t21 t22 H K):=lq2 zeh zDw
theorem zU9(h:HSc H→zDr t0 t1 t2 t3 H K):ACalls tP zjY [t0,t1,t2,t3] H K:=
 acb zeh Tryz.func78 zuD h
end
theorem ACalls.snilFull{P:Program}{f:FuncId}{us:List AV}{H:zaa}{K:AV→zaa→Prop}(h:ACalls P f us H λr H'=>(r=.snil∧K (.sl [] .full) H')∨K r H'):ACalls P f us H K:=by
 intro B w G vs hH hv;refine(h B w G vs hH hv).mono λe w' ⟨v,r,H',G',h1,h2,h3,h4,h5⟩=>?_;rcases h5 with ⟨rfl,hk⟩|hk
 ·refine⟨v,.sl [] .full,H',G',h1,h2,h3,?_,hk⟩;have:v=.slice none 0 0:=h4;subst this;exact⟨.slE _ _,_,rfl⟩
 ·exact⟨v,r,H',G',h1,h2,h3,h4,hk⟩
theorem zv4(r:List IT)(hr:r.length≤1000000)(H:zaa)(K:Kt)(h0:r=[]→K (.sl [] .full) H)(h1:r≠[]→K (.sl (IT.css r) (.own H.length)) (H++[.perm zba 2 r.length])):
  ACalls tP zpy [.sl (IT.css r) .none] H K:=by
 refine ACalls.snilFull (zLA λhs=>?_);cases r with
 |nil=>simp[zrP,IT.css,zg3,zge,zau,zaU,plain,AV.pd,zax,zaO,zaK];exact⟨.inl (h0 rfl),h0 rfl⟩
 |cons x r=>have:=h1 (by simp);simp[zrP,IT.css,zg3,zge,zau,zaU,plain,AV.pd,zax,zaO,zaK];simp only[List.length_cons]at hr;refine⟨λc hc=>?_,⟨by omega,by omega⟩,by simpa[IT.css]using this⟩;rw[IT.css_map]at hc;obtain⟨v,_,rfl⟩:=aC.1 hc;simp
theorem zg1{H:zaa}{g:Bool}{p:(AV→zaa→Prop)→Prop}{k:AV→zaa→Prop}(r:AV)(H':zaa)(h:p λv H2=>v=r∧H2=H')(hg:GrowA H H')(hk:k r H'):zdH .g g H p k:=⟨r,H',h,λ_=>hg,hk⟩
theorem zor{H:zaa}{g:Bool}{p:(AV→zaa→Prop)→Prop}{k:AV→zaa→Prop}(r:AV)(h:p λv H2=>v=r∧H2=H)(hk:k r H):zdH .g g H p k:=⟨r,H,h,λ_=>.inl rfl,hk⟩
def zon(dU:List Dat)(f:Nat):Prop:=∀ (t:VT) (i j:IT),i.nodes+j.nodes≤f→t.nodes≤1000→za3 dU 0 t=true→0≤rdV dU i t→0≤rdV dU j t→rdV dU i t+rdV dU j t≤6→i.nodes+j.nodes≤300 →
 ∀(H:zaa) (K:Kt),K (.sl (zaD (zaA dU f t i j)) .none) H→ACalls tP zhV [.sl (dU.map Dat.cs) .none,.agg t.cs,.agg i.cs,.agg j.cs] H K
def ziY(dU:List Dat)(f:Nat):Prop:=∀ (ts:List VT) (l m:List IT),IT.nodesL l+IT.nodesL m+1≤f→l.length=ts.length→m.length=ts.length→ts.length≤1000→(∀ x∈ts,x.nodes≤1000∧za3 dU 0 x=true)→0≤rdA dU l ts 0→0≤rdA dU m ts 0→rdA dU l ts 0+rdA dU m ts 0≤6→IT.nodesL l+IT.nodesL m≤300 →
 ∀(H:zaa) (K:Kt),K (.sl (zaR (zbp dU f ts l m)) .none) H→ACalls tP zjY [.sl (dU.map Dat.cs) .none,.sl (VT.css ts) .none,.sl (IT.css l) .none,.sl (IT.css m) .none] H K
def ziX(dU:List Dat)(f:Nat):Prop:=∀ (t:VT) (l m:List IT),IT.nodesL l+IT.nodesL m+1≤f→t.nodes≤1000→za3 dU 0 t=true→t.kind=5→0≤rdE dU l t 0→0≤rdE dU m t 0→rdE dU l t 0+rdE dU m t 0≤6→IT.nodesL l+IT.nodesL m≤300 →
 ∀(H:zaa) (K:Kt),K (.sl (zaR (zaE dU f t l m)) .none) H→ACalls tP zgs [.sl (dU.map Dat.cs) .none,.agg t.cs,.sl (IT.css l) .none,.sl (IT.css m) .none] H K
theorem zHF{dU:List Dat}(h8:∀ D∈dU,D.cons.length≤8){f:Nat}{ts:List VT}{l m:List IT}(hf:IT.nodesL l+IT.nodesL m≤f)(hl:l.length=ts.length)(hm:m.length=ts.length)(hA:0≤rdA dU l ts 0)(hB:0≤rdA dU m ts 0)(h6:rdA dU l ts 0+rdA dU m ts 0≤6)(k:Nat)(hk:k≤ts.length):
  (∀r∈za6 dU f ts l m k,0<r.2∧r.2≤729∧r.1.length≤IT.nodesL l+IT.nodesL m)∧(za6 dU f ts l m k).length≤729:=by
 have hb:=zHE (f:=f) h8 hf hl hm hA hB h6 k hk;have hp:=zqC (zgx dU f).1 ts l m k;have hs:∀g:List IT→Nat,zah g (za6 dU f ts l m k)=zah g (zcn dU f ts l m k):=λg=>zqE (zd8 dU f).1 ts l m k g;have a1:=zcu l ts 0 k hl (by omega) hA;have b1:=zcu m ts 0 k hm (by omega) hB;have n1:=IT.nodesL_take_le l k;have n2:=IT.nodesL_take_le m k;have hN:zah (λ_=>1) (za6 dU f ts l m k)≤729:=by obtain⟨h1,h2⟩:=(zep h8 (f+1)).2.1 (ts.take k) (l.take k) (m.take k) (by omega) (by simp;omega) (by simp;omega) a1.1 b1.1 (by omega);have e:=zx9 (dU:=dU) (f:=f) (ts:=ts) (l:=l) (m:=m) (k:=k) k (aa _);rw[zjj,aW,bj hk,e]at h2;rw[hs];exact ar h2 (ze2 (by omega))
 refine⟨λr hr=>?_,ar (zdu hp) hN⟩;obtain⟨q,hq,he⟩:=zer hs hr (hp r hr);have h1:=zd4 (λ_=>1) hr;rw[bv]at h1;obtain⟨_,_,h2⟩:=hb.1 q hq;rw[he]at h2;have h3:=IT.len_le r.1;exact⟨hp r hr,by omega,by omega⟩
theorem zIX{out:List (List IT×Nat)}{ws:List (IT×Nat)}{j:Nat}(h:j<out.length):zbD (out.take (j+1)) ws=zbD (out.take j) ws++ws.map λw=>(out[j].1++[w.1],out[j].2*w.2):=by rw[af h];simp only[zbD,bB,bf,cV,aK]
theorem zyC(ws:List (IT × Nat)):∀ out:List (List IT × Nat),(zbD out ws).length=out.length*ws.length
 |[]=>by simp[zbD]
 |r::out=>by have:=zyC ws out;unfold zbD at this ⊢;rw[bf,az,this,cc,List.length_cons,cp];omega
theorem zHI{dU:List Dat}(h8:∀D∈dU,D.cons.length≤8){f:Nat}(hM:zon dU f):ziY dU (f+1):=by
 intro ts l m hf hl hm htl jL hA hB h6 hn H K hK;rw[zdz]at hK;refine ACalls.out (zU9 λhs=>?_);simp[zDr,ae];refine zeI 1 (by omega) _ _ ?_;simp[zar,zaL,zau,zaU,plain,AV.pd,AV.known,zdh,ae];have jn:([AV.sl [] .none::zam 1]:List (List AV))=zaR (za6 dU f ts l m 0):=by simp[zfD,zaR,IT.css]
 rw[jn];refine zU6 (Inv:=λq t9 t22 H'=>∃(k:Nat) (J:zaa) (tok:Tok),k≤ts.length∧ts.length-k=q∧t22=.int .i64 k∧t9=.sl (zaR (za6 dU f ts l m k)) tok∧H'=H++J) ts.length ?_ ?_
 ·intro _;exact⟨0,[],.full,by omega,rfl,rfl,rfl,by simp⟩
 ·rintro q t9 t22 H' ⟨k,J,tok,hk,rfl,rfl,rfl,rfl⟩ eA d8 eC Kb ee;have hbnd:=zHF (f:=f) h8 (by omega) hl hm hA hB h6 k hk;obtain⟨out,jM⟩:∃ out,out=za6 dU f ts l m k:=⟨_,rfl⟩;rw[←jM]at hbnd eC ⊢;obtain⟨b1,b2⟩:=hbnd;by_cases d7:k<ts.length
  ·have h3:k<l.length:=by omega
   have h4:k<m.length:=by omega
   obtain⟨x1,x2,x3,ei,fF,e8,fC⟩:=zbh ts[k];obtain⟨y1,y2,kW,hy1,kM⟩:=zde l[k];obtain⟨z1,z2,hvz,hz1,hz2⟩:=zde m[k];have n1:=zck h3;have n2:=zck h4;have d1:=(zdO (dU:=dU) l ts 0 (by omega) hl hA).1 k h3 d7;have d2:=(zdO (dU:=dU) m ts 0 (by omega) hm hB).1 k h4 d7;have a1:=zcu l ts 0 k hl (by omega) hA;have a2:=zcu l ts 0 (k+1) hl (by omega) hA;have c1:=zcu m ts 0 k hm (by omega) hB;have c2:=zcu m ts 0 (k+1) hm (by omega) hB;have sl:=ze3 (dU:=dU) l[k] ts[k] (l.take k) (ts.take k) 0 (by simp;omega) (by omega) a1.1;have sm:=ze3 (dU:=dU) m[k] ts[k] (m.take k) (ts.take k) 0 (by simp;omega) (by omega) c1.1;rw[←af h3,←af d7]at sl;rw[←af h4,←af d7]at sm;have dd:rdV dU l[k] ts[k]+rdV dU m[k] ts[k]≤6:=by
    by_cases cl:rdV dU l[k] ts[k]<0∨rdA dU (l.take k) (ts.take k) 0+rdV dU l[k] ts[k]>6
    ·rw[aA cl]at sl;omega
    ·rw[ap cl]at sl;by_cases cm:rdV dU m[k] ts[k]<0∨rdA dU (m.take k) (ts.take k) 0+rdV dU m[k] ts[k]>6
     ·rw[aA cm]at sm;omega
     ·rw[ap cm]at sm;omega
   obtain⟨jW,mr⟩:=jL _ (ah d7);obtain⟨ws,mg⟩:∃ws,ws=zaA dU f ts[k] l[k] m[k]:=⟨_,rfl⟩;obtain⟨p1,p2,p3,p4⟩:=zem h8 (f:=f) (t:=ts[k]) (i:=l[k]) (j:=m[k]) (by omega) d1 d2 dd;rw[←mg]at p1 p2 p3 p4;have eP:za6 dU f ts l m (k+1)=zbD out ws:=by rw[zcw,←jM];simp[List.getD_eq_getElem?_getD,d7,h3,h4,mg]
   generalize hHB:H++J=HB at *;simp[zuB,d7,ei];rw[←ei];refine⟨⟨fF,e8,fC⟩,?_⟩;unfold znU;refine ALoop.own 12 zbv 4 rfl ?_;have i7:(HB++[AB.cells ts[k].cs]).length=HB.length+1:=by simp
   rw[i7,aw];show znU _ _ _ _ _ (.sl (zaR (zbD (out.take 0) ws)) (.own (HB.length+1))) _ _ _ _ _ _ (HB++[.cells ts[k].cs,.perm zbv 4 0]) _ _;have htc:∀n,ts[k].cs.all (AV.scA n)=true:=λn=>by obtain⟨v1,v2,v3⟩:=ts[k];simp[VT.cs,AV.scA,AV.scB]
   have hp7:∀n,HSc (HB++[.cells ts[k].cs,.perm zbv 4 n]):=λn=>eA.append (by simp only[AB.sc,List.all_cons,List.all_nil,htc];rfl);have lI:∀J,(AV.sl (zaR out) tok).sc (HB++J).length=true:=λJ=>by
    have h0:(AV.sl (zaR out) tok).sc HB.length=true:=by rw[ak]at eC;exact eC _ (by simp[ziN,ux])
    exact zcf (by simp) h0
   refine zU7 (Inv:=λq t12 t29 H'=>∃j:Nat,j≤out.length∧out.length-j=q∧t29=.int .i64 j∧t12=.sl (zaR (zbD (out.take j) ws)) (.own (HB.length+1))∧H'=HB++[.cells ts[k].cs,.perm zbv 4 (zbD (out.take j) ws).length]) out.length ?_ ?_
   ·intro _;exact⟨0,by omega,rfl,rfl,rfl,by simp[zbD]⟩
   ·rintro q t12 t29 H' ⟨j,hj,rfl,rfl,rfl,rfl⟩ hsc7 hlen7 hsF7 Kb7 hKb7;have ia:(zbD (out.take j) ws).length≤729*729:=by rw[zyC];exact bx (by simp;omega) p4
    by_cases eN:j<out.length
    ·obtain⟨r1,r2,r3⟩:=b1 out[j] (ah eN);have eL:=zIX (ws:=ws) eN;simp[zuC,eN,h3,h4,ei,kW,hvz];rw[←ei,←kW,←hvz];refine zaH (.sl (zaD ws) .none) (λJ=>by rw[mg];exact hM ts[k] l[k] m[k] (by omega) jW mr d1 d2 dd (by omega) _ _ ⟨rfl,rfl⟩) ?_;simp;obtain⟨dZ,iB⟩:∃ dZ,dZ=zbD (out.take j) ws:=⟨_,rfl⟩;rw[←iB]at ia eL ⊢;obtain⟨g,hg⟩:∃ g:IT × Nat→List IT × Nat,g=λw=>(out[j].1++[w.1],out[j].2*w.2):=⟨_,rfl⟩;rw[←hg]at eL;have hrc:(AV.sl (IT.css out[j].1) .none::zam (out[j].2:Int)).length=4:=by simp
     have hp10:∀n,HSc (HB++[.cells ts[k].cs,.perm zbv 4 n,.cells (.sl (IT.css out[j].1) .none::zam (out[j].2:Int))]):=λn=>eA.append (by simp only[AB.sc,List.all_cons,List.all_nil,htc];simp[zam,AV.scA,AV.scB]);refine zU5 (Inv:=λq t12 t45 H'=>∃i:Nat,i≤ws.length∧ws.length-i=q∧t45=.int .i64 i∧t12=.sl (zaR (dZ++(ws.take i).map g)) (.own (HB.length+1))∧H'=HB++[.cells ts[k].cs,.perm zbv 4 (dZ.length+i),.cells (.sl (IT.css out[j].1) .none::zam (out[j].2:Int))]) ws.length ?_ ?_
     ·intro _;exact⟨0,by omega,rfl,rfl,by simp,rfl⟩
     ·rintro q t12 t45 H' ⟨i,hi,rfl,rfl,rfl,rfl⟩ hsc10 hlen10 hsF10 Kb10 hKb10;have i8:(dZ++(ws.take i).map g).length=dZ.length+i:=by simp;omega
      by_cases fe:i<ws.length
      ·obtain⟨w1,w2,_⟩:=p1 ws[i] (ah fe);have gE:dZ++(ws.take (i+1)).map g=(dZ++(ws.take i).map g)++[g ws[i]]:=by rw[af fe];simp only[aP,aD,bJ,aw]
       have lh:Sm (ws[i].2:Int):=zcP (aQ w2 (by decide));have jn:Sm (out[j].2:Int):=zcP (aQ r2 (by decide));simp[zuA,fe,zcQ,zco,zcz];refine⟨zea _,?_⟩;have fc:=r3;have pD:∀(a:List IT) (x:IT),IT.css a++[x.cs]=IT.css (a++[x]):=λa x=>by rw[IT.css_map,IT.css_map,aP];rfl
       have gO:∀(a:List IT),∀c∈IT.css a,c.length=2:=λa c hc=>by rw[IT.css_map]at hc;obtain⟨v,_,rfl⟩:=aC.1 hc;simp
       have oF:plain ([.int .i64 0,.snil]:List AV)=some [.int .i64 0,.sl [] .none]:=rfl;by_cases kr:out[j].1=[]
       ·refine zor (.sl [] .full) (zv4 _ (by omega) _ _ (λ_=>⟨rfl,rfl⟩) (λh=>absurd kr h)) ?_;simp[zco,zau,zaU,oF,zkh];refine zg1 (.sl (IT.css (out[j].1++[ws[i].1])) (.own (HB.length+4))) (HB++[.cells ts[k].cs,.perm zbv 4 (dZ.length+i),.cells (.sl (IT.css out[j].1) .none::zam (out[j].2:Int)),.cells (tmC ws[i])]++[.perm zba 2 (out[j].1.length+1)]) ?_ (.inr (.inl ⟨_,_,_,rfl⟩)) ?_
        ·simp[zax,zaO,zaK,kr,IT.css]
        ·simp[zcz];refine zor (.agg (zam ((out[j].2*ws[i].2:Nat):Int))) (zgV _ _ jn lh _ _ ⟨by rw[Int.natCast_mul],rfl⟩) ?_;have gd:plain (AV.sl (IT.css (out[j].1++[ws[i].1])) (.own (HB.length+4))::zam ((out[j].2*ws[i].2:Nat):Int))=some (.sl (IT.css (out[j].1++[ws[i].1])) .none::zam ((out[j].2*ws[i].2:Nat):Int)):=by simp[plain,AV.pd,zdh]
         have nC:plain ([.snil,.bool false,.snil,.snil]:List AV)=some [.sl [] .none,.bool false,.sl [] .none,.sl [] .none]:=rfl;have mY:zaR (dZ++(ws.take i).map g)++[.sl (IT.css (out[j].1++[ws[i].1])) .none::zam ((out[j].2*ws[i].2:Nat):Int)]=zaR (dZ++(ws.take (i+1)).map g):=by rw[gE,zqG _ [g ws[i]],hg];rfl
         rw[Int.natCast_mul]at gd mY;simp only[bM]at mY;simp[zar,zaL,gd,nC];have gX:min i ws.length=i:=by omega
         refine zg1 (.sl (zaR (dZ++List.take (i+1) (List.map g ws))) (.own (HB.length+1))) (HB++[.cells ts[k].cs,.perm zbv 4 (dZ.length+(i+1)),.cells (.sl (IT.css out[j].1) .none::zam (out[j].2:Int)),.cells (tmC ws[i]),.perm zba 2 (out[j].1.length+1)]) ?_ (.inr (.inr (.inl ⟨HB.length+1,zbv,4,dZ.length+i,dZ.length+(i+1),by simp,by simp[aj]⟩))) ?_
         ·simp[zax,zaO,zaK,aj,gX];exact⟨⟨by omega,by omega⟩,mY,by omega⟩
         ·rw[wi i (by omega)];exact hKb10 _ _ ⟨ws.length-(i+1),by omega,Back.at (J:=[.cells (tmC ws[i]),.perm zba 2 (out[j].1.length+1)]) (H2:=HB++[.cells ts[k].cs,.perm zbv 4 (dZ.length+(i+1)),.cells (.sl (IT.css out[j].1) .none::zam (out[j].2:Int))]) (by simp) (by simp) (hp10 _) (by
           have:=lI [.cells ts[k].cs,.perm zbv 4 (dZ.length+(i+1)),.cells (.sl (IT.css out[j].1) .none::zam (out[j].2:Int))];simp only[ziM,ux,List.all_cons,bo,dq,List.all_nil,this];simp[AV.sc,AV.scA,AV.scB,AV.scV]) ⟨_,_,rfl,i+1,by omega,rfl,rfl,by simp only[bM],rfl⟩⟩
       ·refine zg1 (.sl (IT.css out[j].1) (.own (HB.length+4))) (HB++[.cells ts[k].cs,.perm zbv 4 (dZ.length+i),.cells (.sl (IT.css out[j].1) .none::zam (out[j].2:Int)),.cells (tmC ws[i])]++[.perm zba 2 out[j].1.length]) (zv4 _ (by omega) _ _ (λh=>absurd h kr) (λ_=>⟨by simp,by simp⟩)) (.inr (.inl ⟨_,_,_,rfl⟩)) ?_;simp[zco,zau,zaU,oF,zkh];refine zg1 (.sl (IT.css (out[j].1++[ws[i].1])) (.own (HB.length+4))) (HB++[.cells ts[k].cs,.perm zbv 4 (dZ.length+i),.cells (.sl (IT.css out[j].1) .none::zam (out[j].2:Int)),.cells (tmC ws[i])]++[.perm zba 2 (out[j].1.length+1)]) ?_ (.inr (.inr (.inl ⟨HB.length+4,zba,2,out[j].1.length,out[j].1.length+1,by simp,by simp[aj]⟩))) ?_
        ·simp[zax,zaO,zaK,aj,pD];omega
        ·simp[zcz];refine zor (.agg (zam ((out[j].2*ws[i].2:Nat):Int))) (zgV _ _ jn lh _ _ ⟨by rw[Int.natCast_mul],rfl⟩) ?_;have gd:plain (AV.sl (IT.css (out[j].1++[ws[i].1])) (.own (HB.length+4))::zam ((out[j].2*ws[i].2:Nat):Int))=some (.sl (IT.css (out[j].1++[ws[i].1])) .none::zam ((out[j].2*ws[i].2:Nat):Int)):=by simp[plain,AV.pd,zdh]
         have nC:plain ([.snil,.bool false,.snil,.snil]:List AV)=some [.sl [] .none,.bool false,.sl [] .none,.sl [] .none]:=rfl;have mY:zaR (dZ++(ws.take i).map g)++[.sl (IT.css (out[j].1++[ws[i].1])) .none::zam ((out[j].2*ws[i].2:Nat):Int)]=zaR (dZ++(ws.take (i+1)).map g):=by rw[gE,zqG _ [g ws[i]],hg];rfl
         rw[Int.natCast_mul]at gd mY;simp only[bM]at mY;simp[zar,zaL,gd,nC];have gX:min i ws.length=i:=by omega
         refine zg1 (.sl (zaR (dZ++List.take (i+1) (List.map g ws))) (.own (HB.length+1))) (HB++[.cells ts[k].cs,.perm zbv 4 (dZ.length+(i+1)),.cells (.sl (IT.css out[j].1) .none::zam (out[j].2:Int)),.cells (tmC ws[i]),.perm zba 2 (out[j].1.length+1)]) ?_ (.inr (.inr (.inl ⟨HB.length+1,zbv,4,dZ.length+i,dZ.length+(i+1),by simp,by simp[aj]⟩))) ?_
         ·simp[zax,zaO,zaK,aj,gX];exact⟨⟨by omega,by omega⟩,mY,by omega⟩
         ·rw[wi i (by omega)];exact hKb10 _ _ ⟨ws.length-(i+1),by omega,Back.at (J:=[.cells (tmC ws[i]),.perm zba 2 (out[j].1.length+1)]) (H2:=HB++[.cells ts[k].cs,.perm zbv 4 (dZ.length+(i+1)),.cells (.sl (IT.css out[j].1) .none::zam (out[j].2:Int))]) (by simp) (by simp) (hp10 _) (by
           have:=lI [.cells ts[k].cs,.perm zbv 4 (dZ.length+(i+1)),.cells (.sl (IT.css out[j].1) .none::zam (out[j].2:Int))];simp only[ziM,ux,List.all_cons,bo,dq,List.all_nil,this];simp[AV.sc,AV.scA,AV.scB,AV.scV]) ⟨_,_,rfl,i+1,by omega,rfl,rfl,by simp only[bM],rfl⟩⟩
      ·obtain rfl:i=ws.length:=by omega
       rw[aq,←eL];simp[zuA,wi j (by omega)];have hlen10:dZ.length+ws.length=(zbD (out.take (j+1)) ws).length:=by rw[eL];simp
       exact hKb7 _ _ ⟨out.length-(j+1),by omega,Back.at (J:=[.cells (.sl (IT.css out[j].1) .none::zam (out[j].2:Int))]) (H2:=HB++[.cells ts[k].cs,.perm zbv 4 (zbD (out.take (j+1)) ws).length]) (by rw[←hlen10];simp) (by simp) (hp7 _) (by
        have:=lI [.cells ts[k].cs,.perm zbv 4 (zbD (out.take (j+1)) ws).length];simp only[znT,ux,List.all_cons,bo,dq,List.all_nil,this];simp[AV.sc,AV.scA,AV.scB,AV.scV]) ⟨_,_,rfl,j+1,by omega,rfl,rfl,rfl,rfl⟩⟩
    ·obtain rfl:j=out.length:=by omega
     rw[aq]at ia ⊢;simp[zuC,wi k (by omega)];exact ee _ _ ⟨ts.length-(k+1),by omega,Back.here (by simp;omega) (hp7 _) (by simp[ziN,ux,AV.sc,AV.scA,AV.scB,AV.scV]) ⟨_,_,rfl,k+1,J++[.cells ts[k].cs,.perm zbv 4 (zbD out ws).length],.own (HB.length+1),by omega,rfl,rfl,by rw[eP],by rw[←hHB];simp⟩⟩
  ·obtain rfl:k=ts.length:=by omega
   rw[←jM]at hK;simp[zuB];exact Out.at (b:=.sl (zaR out) .none) rfl (aa _) hs (.atom (.sl _ _)) rfl rfl hK
end Go.Proofs.YtdmamdnkcefmmaaGreatDoor

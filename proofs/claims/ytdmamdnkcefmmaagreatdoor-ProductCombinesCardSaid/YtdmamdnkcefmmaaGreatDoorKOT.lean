import Derived.Test.YtdmamdnkcefmmaaGreatDoorAbsV
set_option linter.unusedSimpArgs false
set_option linter.unusedVariables false
set_option linter.unusedSectionVars false
set_option linter.defProp false
set_option maxRecDepth 100000
namespace Go.Proofs.YtdmamdnkcefmmaaGreatDoor
section
open Go.Proofs (sortWorld sortWorldK ltOf CmpLays)
open Go.RowKit
open Go.Sort (grow putRow putCells mapBlock onCells ahead SWO PermIn SortedIn Holds HoldsK flatK size_flatK get_flatK)
variable {P:Program} {B:Nat} {w:World} {G:Gh} {H:or}
theorem TT{α:Type}{k:Nat}:∀ {l:List (List α)} (hk:∀ r∈l,r.length=k) {i j:Nat} (hj:j<k),l.flatten[i*k+j]?=(l[i]?).bind λr=>r[j]?
 |[],_,i,j,_=>by simp
 |r::l,hk,0,j,hj=>by have:=hk r (by simp);simp[ah (show j<r.length by omega)]
 |r::l,hk,i+1,j,hj=>by
  have h1:=hk r (by simp);have h2:r.length≤(i+1)*k+j:=by rw[bp];omega
  rw[List.flatten_cons,aM h2,show (i+1)*k+j-r.length=i*k+j by rw[bp];omega,TT (λx hx=>hk x (by simp[hx])) hj];rfl
theorem zA2{α:Type}{k:Nat}:∀ {l:List (List α)} (hk:∀ r∈l,r.length=k),l.flatten.length=l.length*k
 |[],_=>by simp
 |r::l,hk=>by rw[List.flatten_cons,aH,zA2 (λx hx=>hk x (by simp[hx])),hk r (by simp),List.length_cons,bp];omega
theorem zLN{α:Type}[Inhabited α](enc:α→List Value)(k:Nat)(jU:0<k)(hk:∀x,(enc x).length=k)(d:Array α):(flatK enc k d).toList=(d.toList.map enc).flatten:=by
 have hl:∀r∈d.toList.map enc,r.length=k:=λr hr=>by obtain⟨x,_,rfl⟩:=aF.1 hr;exact hk x
 refine aU λt=>?_;have ht:t=t / k*k+t % k:=by rw[bh];exact(cP t k).symm
 have hm:t % k<k:=ci _ jU;by_cases h:t<d.size*k
 ·have h1:t / k<d.size:=(cw jU).2 h;rw[cp,eC (by simpa using h),←dJ (flatK enc k d) t (by simpa using h),get_flatK _ _ _ _ h]
  conv=>rhs;rw[ht,TT hl hm]
  rw[bn,cp,eC h1];simp only[Option.map_some,Option.bind_some];rw[dJ d _ h1,aw (by rw[hk];exact hm),dJ (enc d[t / k]) _ (by rw[hk];exact hm)]
 ·rw[aW (by simpa using h),aW (by rw[zA2 hl];simpa using h)]
theorem zz4{α β:Type}{R:α→β→Prop}:∀ {l:List (List α)} {m:List (List β)},All2 (λa b=>All2 R a b) l m→All2 R l.flatten m.flatten
 |[],[],_=>trivial
 |a::l,b::m,⟨h1,h2⟩=>by rw[List.flatten_cons,List.flatten_cons];exact All2.append h1 (zz4 h2)
theorem tU.sortedK(h:tU B w G H){id e k n g cap:Nat}{cs cs':List AV}(hH:H[id]?=some (.vec e k n cs))(hμ:G.μ[id]?=some (.own (.slice (some ⟨g,0,none⟩) n cap) k n))(d:Array Value)(hd:d.size=n*k)(hc:All2 (ARel w G) d.toList cs')(m:Nat)(os:Array Obj):
  Ext B w G (sortWorld _root_.id w g 0 m d os) G∧tU B (sortWorld _root_.id w g 0 m d os) G (H.set id (.vec e k n cs')):=by
 obtain⟨_,_,⟨xs,⟨ix,ho⟩,rK⟩,pc⟩:=h.ok id _ _ hH hμ;rcases ho with ⟨h1,_⟩|⟨g',cap',cur,h1,hB,hw,fZ,iw,fP,gj⟩
 ·cases h1
 cases h1;have fS:d.size≤cur.size:=by rw[hd,fP];exact aD _ fZ
 have gH:=zNq _root_.id d cur fS;rw[hd]at gH;simp only[List.map_id]at gH;have h1:=h.storeV (cur':=putCells _root_.id 0 d cur) (xs':=d.toList) hH hμ hw hB fZ iw (by simp[putCells,fP]) gH (by simp[hd]) hc;obtain⟨mP,hR1⟩:=h1;have mg:=Ext.drew B (w.setRow g (putCells _root_.id 0 d cur)) G ((w.setRow g (putCells _root_.id 0 d cur)).drawn+m) (Nat.le_add_right _ _);have jv:=hR1.drew ((w.setRow g (putCells _root_.id 0 d cur)).drawn+m) (Nat.le_add_right _ _);obtain⟨rx,hR3⟩:=tU.grown os.toList jv;have heq:sortWorld _root_.id w g 0 m d os=grow { w.setRow g (putCells _root_.id 0 d cur) with drawn:=(w.setRow g (putCells _root_.id 0 d cur)).drawn+m } os.toList.toArray:=by
  have hh:w.heap.modify g (onCells (putCells _root_.id 0 d))=(w.setRow g (putCells _root_.id 0 d cur)).heap:=by
   unfold World.setRow;refine Array.ext_getElem? λi=>?_;simp only[dZ];by_cases hi:g=i
   ·subst hi;simp[hw,onCells]
   ·simp[hi]
  have e:sortWorld _root_.id w g 0 m d os=grow { w with heap:=w.heap.modify g (onCells (putCells _root_.id 0 d)),drawn:=w.drawn+m } os:=rfl;rw[e,hh,Array.toArray_toList];rfl
 rw[heq];exact⟨(mP.trans mg).trans rx,hR3⟩
theorem zOG(h:tU B w G H){n k g f:Nat}(mI:G.L g=0){enc:Fin n→List Value}[Inhabited (Fin n)]{rows:Nat→List AV}{cf:Nat→Nat→Int}(hd:∀i:Fin n,All2 (DRel w G.L) (enc i) (rows i))(lz:∀i j,i<n→j<n→ge P f [.agg (rows i),.agg (rows j)] [] λr _=>r=.int .i64 (cf i j)):CmpLays P f #[] enc k (λi j=>cf i j) g 0 n w:=by
 intro m os dk hdk x y;show Calls P f _ (sortWorld _root_.id w g 0 m (flatK enc k dk) os) λe w'=>e=.returned (.int .i64 (cf x y))∧∃q os',w'=grow ((sortWorld _root_.id w g 0 m (flatK enc k dk) os).drewN q) os';generalize hW:sortWorld _root_.id w g 0 m (flatK enc k dk) os=W;have fP:w.heap.size≤W.heap.size:=by rw[←hW];exact zOF _ _ _ _ _ _
 have fR:∀a:Addr,a.block≠g→a.block<w.heap.size→W.cell? a=w.cell? a:=λa h1 h2=>by rw[←hW];exact zOE _ _ _ _ _ _ a h1 h2
 have hL:∀b,W.heap.size≤b→G.L b=0:=λb hb=>h.fresh b (by omega);have hmono:∀{v:Value} {a:AV},DRel w G.L v a→DRel W G.L v a:=λhx=>hx.mono (λ_=>af _) λb off ho=>by
  refine fR ⟨b,off,none⟩ ?_ ?_
  ·intro hb;have hb:b=g:=hb;rw[hb,mI]at ho;omega
  ·show b<w.heap.size;refine cE λhb=>?_;rw[h.fresh b hb]at ho;omega
 have harg:∀i:Fin n,VRel W ⟨G.L,[]⟩ (.agg (enc i).toArray) (.agg (rows i)):=λi=>⟨_,rfl,by
  rw[List.toList_toArray];exact(hd i).mono λ_ _ hx=>zAS (G:=⟨G.L,[]⟩) (hmono hx)⟩
 refine (lz x y x.2 y.2 W.heap.size W ⟨G.L,[]⟩ #[.agg (enc x).toArray,.agg (enc y).toArray]
  ⟨rfl,λ_ _ _ h=>by simp at h,λ_ _ _ _ _ h=>by simp at h,hL,λ_ _ _ h=>by simp at h,af _⟩ ⟨harg x,harg y,trivial⟩).mono ?_
 rintro e w' ⟨v,r,H',G',rfl,h2,_,h4,rfl⟩;have h4:v=.int .i64 (cf x y):=h4;subst h4;exact⟨rfl,zL0 (h2.dr.le (by simp[AZ])) h2.below⟩
theorem ge.sortFuncK{ρ:Go.Shelf.Ren}(L:Go.Proofs.SlLaysF0.n6 P ρ){id e k n f:Nat}(jU:0<k)(aE:∀ w,(isAgg (ρ.t 24)).run P w=.ok true w)(zE:∀ w,(Go.sizeOf (ρ.t 24)).run P w=.ok k w){cs:List AV}(hH:H[id]?=some (.vec e k n cs))(hn:n<4611686018427387904)(rows:List (List AV))(cf:Nat→Nat→Int)(hp:plain cs=some rows.flatten)(lc:rows.length=n)(rA:∀ r∈rows,r.length=k)(eg:∀ args w,(callFunc f args).run P w=.ok (.enter f args) w)(lz:∀ i j,i<n→j<n→ge P f [.agg (rows.getD i []),.agg (rows.getD j [])] [] λr _=>r=.int .i64 (cf i j))(sk:∀ i,i<n→¬ cf i i<0)(sn:∀ i j k,i<n→j<n→k<n→cf i j<0→cf j k<0→cf i k<0)(so:∀ i j k,i<n→j<n→k<n→¬ cf i j<0→¬ cf j k<0→¬ cf i k<0){K:Kt}(hK:∀ p:List Nat,p.Perm (List.range n)→(∀ a b (ha:a<p.length) (hb:b<p.length),a<b→¬ cf p[b] p[a]<0)→K (.tup []) (H.set id (.vec e k n (p.map λi=>rows.getD i []).flatten))):
  ge P (ρ.f 6) [.ov id n,.fn f []] H K:=by
 rintro B w G ⟨vs⟩ hR hv
 match vs,hv with
 |[v1,v2],⟨h1,h2,_⟩=>
 obtain⟨⟨a0,cap0,rfl,_⟩,v',s0,n',hμ,fS,heq⟩:=h1;obtain⟨ws,rfl,mD⟩:=h2;have mD:ws=#[]:=by
  cases rz:ws.toList with
  |nil=>exact Array.toList_inj.1 rz
  |cons x l=>rw[rz]at mD;exact mD.elim
 subst mD;obtain⟨rfl,rfl,⟨xs,fF,f5⟩,pc⟩:=hR.ok id _ _ hH hμ;obtain rfl:=heq rfl;have ix:=fF.1;have gT:=Ap f5 hp
 match n,ix,hH,hn,lz,sk,sn,so,hK,hμ,fF,lc with
 |0,ix,hH,hn,lz,sk,sn,so,hK,hμ,fF,lc=>
  refine(Go.Proofs.AnyF.slices_SortFunc_none (P:=P) (ρ:=ρ) L a0 cap0 _ w).mono ?_;rintro e' w' ⟨rfl,rfl⟩;have hc:cs=[]:=by
   have gN:=f5.length;cases cs with
   |nil=>rfl
   |cons x l=>simp at gN;omega
  subst hc;have:=hK [] (by simp) (by simp);refine⟨_,.tup [],_,G,rfl,Ext.refl _ _ _,?_,⟨#[],rfl,trivial⟩,this⟩;have hs:H.set id (.vec e k 0 [])=H:=by
   refine aU λi=>?_;rw[cM];split
   ·rename_i hi;subst hi;rw[aN (ac.1 hH).1,hH]
   ·rfl
  simpa[hs]using hR
 |n+1,ix,hH,hn,lz,sk,sn,so,hK,hμ,fF,lc=>
  obtain⟨_,ho⟩:=fF;rcases ho with ⟨h1,h0⟩|⟨g,cap,cur,h1,hB,hw,fZ,iw,fP,gj⟩
  ·omega
  cases h1;have mI:G.L g=0:=pc g rfl;have rz:g<w.heap.size:=(aQ.1 hw).1;have lU:∀i,i<n+1→i*k+k≤(n+1)*k:=λi hi=>by have:=aD k (show i+1≤n+1 from hi);rwa [bp,c9]at this
  let enc:Fin (n+1)→List Value:=λi=>(xs.drop (i.1*k)).take k
  have nE:∀i,(enc i).length=k:=λi=>by have:=lU i.1 i.2;simp only[enc,a7,dy];omega
  have fJ:∀(i:Fin (n+1)) (j:Nat),j<k→(enc i)[j]?=xs[i.1*k+j]?:=λi j hj=>by simp only[enc,bQ,cD,aN hj]
  have l7:∀i:Fin (n+1),All2 (DRel w G.L) (enc i) (rows.getD i.1 []):=λi=>by
   have hi:i.1<rows.length:=by rw[lc];exact i.2
   have hri:rows.getD i.1 []=rows[i.1]:=by rw[aq,aw hi];rfl
   rw[hri];refine All2.of_get (by rw[nE,rA _ (ae hi)]) λj x y hx hy=>?_;have hj:j<k:=by rw[←rA _ (ae hi)];exact(ac.1 hy).1
   rw[fJ i j hj]at hx;have gI:rows.flatten[i.1*k+j]?=some y:=by rw[TT rA hj,aw hi];exact hy
   obtain⟨x',mv,hr⟩:=All2.get gT gI;rw[hx]at mv;cases mv;exact hr
  have ii:∀i,∀v∈enc i,v.oneCell'=true:=λi v hv=>by
   obtain⟨j,hj,rfl⟩:=ed.1 hv;have hjr:j<(rows.getD i.1 []).length:=by rw[←(l7 i).length];exact hj
   obtain⟨x,hx,hr⟩:=All2.get (l7 i) (aw hjr);rw[aw hj]at hx;cases hx;generalize (rows.getD i.1 [])[j]=a at hr;generalize (enc i)[j]=v at hr;cases hr <;> rfl
  have hlays:=zOG (P:=P) (f:=f) (n:=n+1) (k:=k) (rows:=λi=>rows.getD i []) hR mI l7 lz;let d:Array (Fin (n+1)):=Array.ofFn λi=>i
  have lM:d.size=n+1:=by simp[d]
  have o4:∀j (hj:j<n+1),d[j]! = ⟨j,hj⟩:=λj hj=>by rw[dJ d j (by rw[lM];exact hj)];simp[d]
  have hholds:HoldsK enc k w g 0 d:=by
   intro t ht;rw[size_flatK,lM]at ht;have kS:t / k<n+1:=(cw jU).2 ht;have hm:t % k<k:=ci _ jU;have htk2:t=t / k*k+t % k:=by rw[bh];exact(cP t k).symm
   have htx:t<xs.length:=by rw[ix];exact ht
   have hc:cur[t]?=some xs[t]:=by have:xs[t]?=some xs[t]:=aw _;rw[←this,←gj,bQ,aN ht,cp]
   have hv:(flatK enc k d)[t]! = xs[t]:=by rw[get_flatK _ _ _ _ (by rw[lM];exact ht),o4 _ kS];have h3:=fJ ⟨t / k,kS⟩ (t % k) hm;simp only at h3;rw[←htk2,aw htx,aw (by rw[nE];exact hm)]at h3;rw[dJ (enc _) _ (by rw[nE];exact hm)];exact dQ h3
   refine⟨?_,?_⟩
   ·rw[aX,hv];simp[World.cell?,hw,hc]
   ·simp[World.frozen?,hw]
  have hO:SWO (ltOf λi j:Fin (n+1)=>cf i j):=⟨λx=>by simp only[ltOf,bZ];exact sk x x.2,
   λx y z h1 h2=>by simp only[ltOf,bc]at *;exact sn x y z x.2 y.2 z.2 h1 h2,
   λx y z h1 h2=>by simp only[ltOf,bZ]at *;exact so x y z x.2 y.2 z.2 h1 h2⟩
  have ji:=Go.Proofs.AnyQ.slices_SortFunc (P:=P) (ρ:=ρ) L k aE zE enc nE ii (λi j=>cf i j) hO f #[] g 0 cap0 d w eg (by rw[lM];exact hlays) hholds rz (by rw[lM];exact hn);rw[lM]at ji;refine ji.mono ?_;rintro e' w' ⟨rfl,d',m,os,hp',hsrt,rfl⟩;obtain⟨kT,_,p9⟩:=hp';have hds':d'.size=n+1:=kT.trans lM;have oY:(d'.toList.map Fin.val).Perm (List.range (n+1)):=by
   have h1:d'.toList.Perm d.toList:=by have e1:(d'.extract 0 (n+1))=d':=zAW d' hds';have e2:(d.extract 0 (n+1))=d:=zAW d lM;rwa [e1,e2]at p9
   exact(h1.map Fin.val).trans (List.Perm.of_eq (zMN _))
  have hS:=hR.sortedK hH hμ (flatK enc k d') (by rw[size_flatK,hds']) (cs':=((d'.toList.map Fin.val).map λi=>rows.getD i []).flatten) (by
   rw[zLN enc k jU nE,d5];refine zz4 (All2.of_get (by simp) λi x y hx hy=>?_);simp only[bn,Option.map_eq_some_iff]at hx hy;obtain⟨a,ha,rfl⟩:=hx;obtain⟨b,hb,rfl⟩:=hy;rw[ha]at hb;cases hb;exact(l7 a).mono λ_ _ h=>zAS h) m os
  refine⟨_,.tup [],_,G,rfl,hS.1,hS.2,⟨#[],rfl,trivial⟩,hK _ oY λa b ha hb gc=>?_⟩;simp only[cC,Array.length_toList]at ha hb;have:=hsrt a b (bM _) gc (by omega);rw[dJ d' a ha,dJ d' b hb]at this;simp only[ltOf,bZ]at this;simpa using this
end
section
open Go.Shelf
def zQa:Go.Shelf.Ren:=⟨λ| 6=>84|15=>137|14=>136|28=>185|29=>186|20=>177|21=>178|22=>179|23=>180|24=>181|25=>182|26=>183|27=>184|46=>217|47=>218|48=>219|49=>220|50=>221|57=>244|n=>n,λ| 22=>31|24=>55|25=>127|3=>3|39=>184|0=>0|53=>88|55=>100|4=>4|46=>224|45=>223|50=>107|5=>5|9=>9|66=>260|70=>72|76=>288|77=>289|n=>n,λ| n=>n⟩
def zP9:Go.Proofs.SlLaysF0.n6 tP zQa:={
 mixed:=by kernel_rfl
 f6:=⟨Tryz.f84.name,by decide,Tryz.func84.trans (congrArg some (by kernel_rfl))⟩
 f14:=⟨Tryz.f136.name,by decide,Tryz.func136.trans (congrArg some (by kernel_rfl))⟩
 f15:=Tryz.func137.trans (congrArg some (by kernel_rfl))
 f20:=⟨Tryz.f177.name,by decide,Tryz.func177.trans (congrArg some (by kernel_rfl))⟩
 f21:=⟨Tryz.f178.name,by decide,Tryz.func178.trans (congrArg some (by kernel_rfl))⟩
 f22:=⟨Tryz.f179.name,by decide,Tryz.func179.trans (congrArg some (by kernel_rfl))⟩
 f23:=⟨Tryz.f180.name,by decide,Tryz.func180.trans (congrArg some (by kernel_rfl))⟩
 f24:=⟨Tryz.f181.name,by decide,Tryz.func181.trans (congrArg some (by kernel_rfl))⟩
 f25:=⟨Tryz.f182.name,by decide,Tryz.func182.trans (congrArg some (by kernel_rfl))⟩
 f26:=⟨Tryz.f183.name,by decide,Tryz.func183.trans (congrArg some (by kernel_rfl))⟩
 f27:=⟨Tryz.f184.name,by decide,Tryz.func184.trans (congrArg some (by kernel_rfl))⟩
 f28:=Tryz.func185.trans (congrArg some (by kernel_rfl))
 f29:=Tryz.func186.trans (congrArg some (by kernel_rfl))
 f46:=⟨Tryz.f217.name,by decide,Tryz.func217.trans (congrArg some (by kernel_rfl))⟩
 f47:=Tryz.func218.trans (congrArg some (by kernel_rfl))
 f48:=Tryz.func219.trans (congrArg some (by kernel_rfl))
 f49:=⟨Tryz.f220.name,by decide,Tryz.func220.trans (congrArg some (by kernel_rfl))⟩
 f50:=⟨Tryz.f221.name,by decide,Tryz.func221.trans (congrArg some (by kernel_rfl))⟩
 f57:=⟨Tryz.f244.name,by decide,Tryz.func244.trans (congrArg some (by kernel_rfl))⟩
 t0:=Tryz.underlying0
 a0:=Tryz.isAgg0
 z0:=Tryz.sizeOf0
 v0:=Tryz.zeroValue0
 t3:=Tryz.underlying3
 a3:=Tryz.isAgg3
 z3:=Tryz.sizeOf3
 v3:=Tryz.zeroValue3
 t4:=Tryz.underlying4
 a4:=Tryz.isAgg4
 z4:=Tryz.sizeOf4
 v4:=Tryz.zeroValue4
 t5:=Tryz.underlying5
 a5:=Tryz.isAgg5
 z5:=Tryz.sizeOf5
 v5:=Tryz.zeroValue5
 t9:=Tryz.underlying9
 a9:=Tryz.isAgg9
 z9:=Tryz.sizeOf9
 v9:=Tryz.zeroValue9
 t22:=Tryz.underlying31
 a22:=Tryz.isAgg31
 z22:=Tryz.sizeOf31
 v22:=Tryz.zeroValue31
 t25:=Tryz.underlying127
 a25:=Tryz.isAgg127
 z25:=Tryz.sizeOf127
 v25:=Tryz.zeroValue127
 t39:=Tryz.underlying184
 a39:=Tryz.isAgg184
 z39:=Tryz.sizeOf184
 v39:=Tryz.zeroValue184
 t45:=Tryz.underlying223
 a45:=Tryz.isAgg223
 z45:=Tryz.sizeOf223
 v45:=Tryz.zeroValue223
 t46:=Tryz.underlying224
 a46:=Tryz.isAgg224
 z46:=Tryz.sizeOf224
 v46:=Tryz.zeroValue224
 t50:=Tryz.underlying107
 a50:=Tryz.isAgg107
 z50:=Tryz.sizeOf107
 v50:=Tryz.zeroValue107
 t53:=Tryz.underlying88
 a53:=Tryz.isAgg88
 z53:=Tryz.sizeOf88
 v53:=Tryz.zeroValue88
 t55:=Tryz.underlying100
 a55:=Tryz.isAgg100
 z55:=Tryz.sizeOf100
 v55:=Tryz.zeroValue100
 t66:=Tryz.underlying260
 a66:=Tryz.isAgg260
 z66:=Tryz.sizeOf260
 v66:=Tryz.zeroValue260
 t70:=Tryz.underlying72
 a70:=Tryz.isAgg72
 z70:=Tryz.sizeOf72
 v70:=Tryz.zeroValue72
 t76:=Tryz.underlying288
 a76:=Tryz.isAgg288
 z76:=Tryz.sizeOf288
 v76:=Tryz.zeroValue288
 t77:=Tryz.underlying289
 a77:=Tryz.isAgg289
 z77:=Tryz.sizeOf289
 v77:=Tryz.zeroValue289 }
end
def FW(p:IT×Raw):plain (twC p)=some (twC p):=BZ (DA p.1) (Raw.plain _)
theorem FX:∀ s:List (IT × Raw),plain (tw s)=some (tw s)
 |[]=>rfl
 |p::s=>by rw[De];exact BZ (FW p) (FX s)
def zM4{H J:or}{K:Kt}(s:List (IT×Raw))(id:Nat)(fS:H.length≤id)(fA:(H++J)[id]?=some (.vec 55 5 s.length (tw s)))(hs:HSc H)(hK:K (.sl (twS s) .none) H):Out H.length K (.ov id s.length) (H++J):=
 ⟨.sl (twS s) .none,H,J,rfl,af _,hs,.one (.vfz id 55 5 s.length (tw s) (twS s) fS fA (by rw[KT];exact FX s) (by simp) (λc hc=>by
  obtain⟨p,_,rfl⟩:=aF.1 hc;simp)),hK⟩
def ofW(eq:List Dat)(t:VT)(s:List (IT×Raw))(d:Nat):List (IT×Raw):=s.filter λp=>rdV eq p.1 t == (d:Int)
def zbcq(eq:List Dat)(t:VT)(s:List (IT×Raw))(d:Nat):List (IT×Raw):=(List.range d).flatMap (ofW eq t s)
def M0(eq:List Dat)(t:VT)(s:List (IT×Raw))(d:Nat):zbcq eq t s (d+1)=zbcq eq t s d++ofW eq t s d:=by simp[zbcq,c5]
def zCp{eq:List Dat}{t:VT}{s:List (IT×Raw)}{d:Nat}:∀p∈zbcq eq t s d,p∈s:=by intro p hp;obtain⟨k,_,h⟩:=cG.1 hp;exact(cx.1 h).1
def zMO{eq:List Dat}{t:VT}{s:List (IT×Raw)}{d j:Nat}(hj:j<s.length):ofW eq t (s.take (j+1)) d=ofW eq t (s.take j) d++if rdV eq s[j].1 t=(d:Int) then [s[j]] else []:=by
 rw[ag hj];simp only[ofW,df,dz,List.filter_nil];by_cases h:rdV eq s[j].1 t=(d:Int)
 ·simp[h]
 ·have h4:(rdV eq s[j].1 t == (d:Int))=false:=by simpa using h
  simp[h,h4]
def M1{eq:List Dat}{t:VT}{s:List (IT×Raw)}{d:Nat}:(ofW eq t s d).length≤s.length:=cT _ _
theorem TU{eq:List Dat}{t:VT}{s:List (IT × Raw)}:∀ d:Nat,(zbcq eq t s d).length≤d*s.length
 |0=>by simp[zbcq]
 |d+1=>by rw[M0,aH,bD];have:=TU (eq:=eq) (t:=t) (s:=s) d;have:=M1 (eq:=eq) (t:=t) (s:=s) (d:=d);omega
def zD6(a:List (IT×Raw))(p:IT×Raw):twS a++[twC p]=twS (a++[p]):=by simp[twS]
def kvW:List (IT × Raw)→Nat→List (List UInt8 × AV)
 |[],_=>[]
 |p::s,k=>(wj p.1,I6 k)::kvW s (k+1)
theorem zBz{i:IT}(hi:Dig i):∀ (s:List (IT × Raw)) (k:Nat),(∀ p∈s,Dig p.1)→(∀ p∈s,p.1≠i)→wo (kvW s k) (wj i)=none∧∀ c,xx (kvW s k) (wj i) (I6 (k+s.length:Nat))=kvW (s++[(i,c)]) k
 |[],k,_,_=>by simp[kvW,wo,xx]
 |p::s,k,h,hn=>by
  have hb:(wj p.1 == wj i)=false:=by simp only[dE,ne_eq];intro he;exact hn p (by simp) (zEA (h p (by simp)) hi he)
  obtain⟨h1,h2⟩:=zBz hi s (k+1) (λq hq=>h q (by simp[hq])) (λq hq=>hn q (by simp[hq]));refine⟨by simp[kvW,wo,hb,h1],λc=>?_⟩;have:=h2 c;rw[show k+1+s.length=k+(p::s).length by simp;omega]at this;simp[kvW,xx,hb]at this ⊢;exact this
theorem zBB{i:IT}(hi:Dig i):∀ (s:List (IT × Raw)) (k j:Nat) (hj:j<s.length),(∀ p∈s,Dig p.1)→(s.map Prod.fst).Nodup→s[j].1=i→wo (kvW s k) (wj i)=some (I6 (k+j:Nat))
 |p::s,k,0,hj,h,hn,he=>by simp at he;simp[kvW,wo,he]
 |p::s,k,j+1,hj,h,hn,he=>by
  simp only[List.getElem_cons_succ]at he;simp only[aL,dl]at hn;have hb:(wj p.1 == wj i)=false:=by simp only[dE,ne_eq];intro hh;have:=zEA (h p (by simp)) hi hh;exact hn.1 (by rw[this,←he];exact aF.2 ⟨_,ae (by simpa using hj),rfl⟩)
  have:=zBB hi s (k+1) j (by simpa using hj) (λq hq=>h q (by simp[hq])) hn.2 he;rw[show k+1+j=k+(j+1) by omega]at this;simp[kvW,wo,hb,this]
theorem zBy:∀ (s s':List (IT × Raw)) (k:Nat),s.map Prod.fst=s'.map Prod.fst→kvW s k=kvW s' k
 |[],[],_,_=>rfl
 |[],_::_,_,h=>by simp at h
 |_::_,[],_,h=>by simp at h
 |p::s,q::s',k,h=>by simp only[aL,dM]at h;rw[kvW,kvW,h.1,zBy s s' (k+1) h.2]
def zMl(s:List (IT×Raw)){j:Nat}(hj:j<s.length)(c:Raw)(k:Nat):kvW (s.set j (s[j].1,c)) k=kvW s k:=by
 refine zBy _ _ _ ?_;rw[fg];refine bU (by simp) λn h1 h2=>?_;rw[d7];split
 ·rename_i h;subst h;simp
 ·rfl
theorem zBA{n:Nat}:∀ (s:List (IT × Raw)) (k:Nat),((kvW s k).all λp=>p.2.ZJ n)=true
 |[],_=>rfl
 |p::s,k=>by rw[kvW,List.all_cons,zBA s (k+1),cV];simp[AV.ZJ,AV.ZH,AV.ZI]
def vr:List (IT × Raw)→IT→Raw→List (IT × Raw)
 |[],i,c=>[(i,c)]
 |p::s,i,c=>if IT.same p.1 i then (p.1,ofR (p.2.val+c.val))::s else p::vr s i c
theorem TV{i:IT}{c:Raw}:∀ {s:List (IT × Raw)} {p:IT × Raw},p∈vr s i c→p.1=i∨p∈s
 |[],p,h=>by simp[vr]at h;rw[h];exact .inl rfl
 |x::s,p,h=>by
  unfold vr at h;split at h
  ·rename_i he;rcases aT.1 h with rfl | h
   ·exact .inl (same_eq _ _ he)
   ·exact .inr (be _ h)
  ·rcases aT.1 h with rfl | h
   ·exact .inr bu
   ·rcases TV h with h | h
    ·exact .inl h
    ·exact .inr (be _ h)
theorem zzY{i:IT}{c:Raw}:∀ {s:List (IT × Raw)},(s.map Prod.fst).Nodup→((vr s i c).map Prod.fst).Nodup
 |[],_=>by simp[vr]
 |x::s,h=>by
  rw[aL,dl]at h;unfold vr;split
  ·rw[aL,dl];exact h
  ·rename_i he;rw[aL,dl];refine⟨λhx=>?_,zzY h.2⟩;obtain⟨p,hp,hpe⟩:=aF.1 hx;rcases TV hp with h1 | h1
   ·exact he (by rw[←hpe,h1,MC])
   ·exact h.1 (aF.2 ⟨p,h1,hpe⟩)
theorem zzU{i:IT}{c:Raw}:∀ {s:List (IT × Raw)} {k:Nat} (hk:k<s.length),s[k].1=i→(s.map Prod.fst).Nodup→vr s i c=s.set k (s[k].1,ofR (s[k].2.val+c.val))
 |x::s,0,_,he,_=>by simp only[List.getElem_cons_zero]at he;unfold vr;rw[aN (by rw[he];exact MC i)];rfl
 |x::s,k+1,hk,he,hn=>by
  rw[aL,dl]at hn;simp only[List.getElem_cons_succ]at he;have iK:k<s.length:=by simpa using hk
  unfold vr;rw[aG λh=>hn.1 (by rw[same_eq _ _ h,←he];exact aF.2 ⟨s[k],ae iK,rfl⟩),zzU iK he hn.2];rfl
theorem zzZ{i:IT}{c:Raw}:∀ {s:List (IT × Raw)},(∀ p∈s,p.1≠i)→vr s i c=s++[(i,c)]
 |[],_=>rfl
 |x::s,h=>by unfold vr;rw[aG λhe=>h x bu (same_eq _ _ he),zzZ λp hp=>h p (be _ hp)];rfl
def uL(s l:List (IT×Raw)):List (IT×Raw):=l.foldl (λs p=>vr s p.1 p.2) s
def zAE(s:List (IT×Raw)):uL s []=s:=rfl
def zLf(s l:List (IT×Raw))(p:IT×Raw):uL s (l++[p])=vr (uL s l) p.1 p.2:=by simp[uL]
def zAC(s a b:List (IT×Raw)):uL s (a++b)=uL (uL s a) b:=by simp[uL]
theorem Ca:∀ (l s:List (IT × Raw)),(s.map Prod.fst).Nodup→((uL s l).map Prod.fst).Nodup
 |[],s,h=>h
 |p::l,s,h=>Ca l _ (zzY h)
theorem zzX(i:IT)(c:Raw):∀ s:List (IT × Raw),(vr s i c).length≤s.length+1
 |[]=>by simp[vr]
 |p::s=>by have:=zzX i c s;unfold vr;split <;> simp <;> omega
theorem FY:∀ (l s:List (IT × Raw)),(uL s l).length≤s.length+l.length
 |[],s=>by simp[uL]
 |p::l,s=>by have h1:=FY l (vr s p.1 p.2);have h2:=zzX p.1 p.2 s;have e:uL s (p::l)=uL (vr s p.1 p.2) l:=rfl;rw[e,List.length_cons];omega
theorem FZ:∀ (l s:List (IT × Raw)),∀ p∈uL s l,(∃ q∈s,q.1=p.1)∨∃ q∈l,q.1=p.1
 |[],s,p,hp=>.inl ⟨p,hp,rfl⟩
 |x::l,s,p,hp=>by
  have e:uL s (x::l)=uL (vr s x.1 x.2) l:=rfl;rw[e]at hp;rcases FZ l _ p hp with ⟨q,hq,h⟩|⟨q,hq,h⟩
  ·rcases TV hq with h1 | h1
   ·exact .inr ⟨x,by simp,by rw[←h,h1]⟩
   ·exact .inl ⟨q,h1,h⟩
  ·exact .inr ⟨q,by simp[hq],h⟩
def sx(H:or)(is im iv:Nat)(c:List AV)(s:List (IT×Raw)):or:=
 ((H.set iv (.vec 55 5 s.length (tw s))).set im (.map (kvW s 0))).set is (.cells (c++[.map im,.ov iv s.length]))
structure Sx (H:or) (is im iv:Nat) (c:List AV) (s:List (IT × Raw)):Prop where
 c4:c.length=4
 n1:is≠im
 n2:is≠iv
 n3:im≠iv
 h1:H[is]?=some (.cells (c++[.map im,.ov iv s.length]))
 h2:H[im]?=some (.map (kvW s 0))
 h3:H[iv]?=some (.vec 55 5 s.length (tw s))
section
variable {H J:or} {is im iv:Nat} {c:List AV} {s s':List (IT×Raw)}
@[simp] theorem zPs:(sx H is im iv c s).length=H.length:=by simp[sx]
def Sx.app(h:Sx H is im iv c s):Sx (H++J) is im iv c s:=⟨h.c4,h.n1,h.n2,h.n3,vq h.h1,vq h.h2,vq h.h3⟩
def Sx.sw_app(h:Sx H is im iv c s):sx (H++J) is im iv c s'=sx H is im iv c s'++J:=by unfold sx;rw[aY _ _ (uR h.h3),aY _ _ (by simpa using uR h.h2),aY _ _ (by simpa using uR h.h1)]
def zPu(h1:is≠im)(h2:is≠iv)(h3:im≠iv):sx (sx H is im iv c s) is im iv c s'=sx H is im iv c s':=by
 refine aU λi=>?_;unfold sx;simp only[cM,ct]
 repeat' split
 all_goals first|rfl|omega|simp_all
def Sx.next(h:Sx H is im iv c s):Sx (sx H is im iv c s') is im iv c s':=by
 have l1:=uR h.h1;have l2:=uR h.h2;have l3:=uR h.h3;refine⟨h.c4,h.n1,h.n2,h.n3,?_,?_,?_⟩
 ·unfold sx;rw[ak (by simpa using l1)]
 ·unfold sx;rw[aj h.n1,ak (by simpa using l2)]
 ·unfold sx;rw[aj h.n2,aj h.n3,ak l3]
def Sx.self(h:Sx H is im iv c s):sx H is im iv c s=H:=by
 unfold sx;have e:∀(H:or) (i:Nat) (b:AB),H[i]?=some b→H.set i b=H:=λH i b hb=>by
  refine aU λj=>?_;by_cases hj:i=j
  ·subst hj;rw[ak (uR hb),hb]
  ·rw[aj hj]
 rw[e H iv _ h.h3,e H im _ h.h2,e H is _ h.h1]
def Sx.hsc(h:Sx H is im iv c s)(hs:HSc H):HSc (sx H is im iv c s'):=by
 have l2:=uR h.h2;have l3:=uR h.h3;have hc:(c.all (AV.ZH H.length))=true:=by have:=hs _ (dt h.h1);simp only[AB.sc,bl,ap]at this;exact this.1
 unfold sx;refine HSc.set (HSc.set (HSc.set hs (by simp only[AB.sc];exact Dg _ _)) (by simp only[AB.sc];exact zBA _ _)) ?_;simp only[AB.sc,bl,ct,hc,bE];simp[AV.ZH,AV.ZI];omega
end
def zPr{H:or}{is im iv:Nat}{c:List AV}{s s':List (IT × Raw)}(h1:is≠im)(h2:is≠iv)(h3:im≠iv)(hl:s.length=s'.length)(hk:kvW s 0=kvW s' 0):
  (sx H is im iv c s).set iv (.vec 55 5 s.length (tw s'))=sx H is im iv c s':=by
 refine aU λi=>?_;unfold sx;rw[hk,hl];simp only[cM,ct]
 repeat' split
 all_goals first|rfl|omega|simp_all
def zPt{H:or}{is im iv:Nat}{c:List AV}{s s':List (IT × Raw)}(h1:is≠im)(h2:is≠iv)(h3:im≠iv){a b d:AB}(ha:a=.map (kvW s' 0))(hb:b=.vec 55 5 s'.length (tw s'))(hd:d=.cells (c++[.map im,.ov iv s'.length])):
  (((sx H is im iv c s).set im a).set iv b).set is d=sx H is im iv c s':=by
 subst ha hb hd;refine aU λi=>?_;unfold sx;simp only[cM,ct]
 repeat' split
 all_goals first|rfl|omega|simp_all
def zDQ(l:List (IT × Raw))(hl:∀ p∈l,p.1.ZO≤1000∧Dig p.1)(H:or)(is im iv:Nat)(c:List AV)(s:List (IT × Raw))(hS:Sx H is im iv c s)(nW:(s.map Prod.fst).Nodup)(nX:∀ p∈s,Dig p.1)(fH:∀ j,∀ p∈uL s (l.take j),p.2.ok 400)(gR:∀ p∈l,p.2.ok 400)(fS:s.length+l.length≤100000)(K:Kt)(hK:K (.tup []) (sx H is im iv c (uL s l))):
  ge tP 42 [.ptr is 0,.sl (twS l) .none] H K:=by
 refine ge.out (yaX λhs=>?_);simp[X3,aa];have gN:∀j,((uL s (l.take j)).map Prod.fst).Nodup:=λj=>Ca _ _ nW;have rT:∀j,∀p∈uL s (l.take j),Dig p.1:=λj p hp=>by
  rcases FZ _ _ p hp with ⟨q,hq,he⟩|⟨q,hq,he⟩
  ·rw[←he];exact nX q hq
  ·rw[←he];exact(hl q (bq hq)).2
 have iC:∀j,(uL s (l.take j)).length≤s.length+l.length:=λj=>aC (FY _ _) (by simp[a7];omega);refine yaV (Inv:=λq t11 H'=>∃j:Nat,j≤l.length∧l.length-j=q∧t11=I6 j∧H'=sx H is im iv c (uL s (l.take j))) l.length ?_ ?_
 ·intro _;exact⟨0,by omega,rfl,rfl,by rw[List.take_zero,zAE,hS.self]⟩
 ·rintro q t11 H' ⟨j,hj,rfl,rfl,rfl⟩ fG fz fM Kb fB;by_cases fU:j<l.length
  ·have fN:uL s (l.take (j+1))=vr (uL s (l.take j)) l[j].1 l[j].2:=by rw[ag fU,zLf]
   have qz:=gN j;have o4:=rT j;have ta:=iC j;have hoj:=fH j;obtain⟨hn,hd⟩:=hl _ (ae fU);generalize hu:uL s (l.take j)=u at *;have mz:Sx (sx H is im iv c u) is im iv c u:=hS.next;obtain⟨x2,y2,gd,gf,lx⟩:=yb l[j].1;simp[P8,fU,xN,wX,wY,aa];refine⟨xN _,?_⟩;have hlen0:(sx H is im iv c u).length=H.length:=zPs;simp only[NC];have jz:∀J,(sx H is im iv c u++(AB.cells (twC l[j])::J))[H.length]?=some (.cells (twC l[j])):=λJ=>by simp[aR]
   simp[jz,wY,aa];obtain⟨txt,oG⟩:∃txt,txt=wj l[j].1:=⟨_,rfl⟩;have tp:=Tq l[j].1;have htne:txt≠[]:=by rw[oG];obtain⟨r,hr⟩:=To l[j].1 [];rw[aP]at hr;rw[hr];simp
   have nT:0<txt.length:=bV.2 htne;refine ge.ownB (id:=H.length+1) (t:=112) (p:=.nilp) 5 1 (by simp[aR]) ?_;have hX1:(sx H is im iv c u++[AB.cells (twC l[j]),.bld 112 [.nilp,.ZG]]).set (H.length+1) (.bld 112 [.nilp,.sl [] (.own (sx H is im iv c u++[AB.cells (twC l[j]),.bld 112 [.nilp,.ZG]]).length)])++[.perm 5 1 0] =
     sx H is im iv c u++[AB.cells (twC l[j]),.bld 112 [.nilp,.sl (bcs []) (.own (H.length+2))],.perm 5 1 0]:=by simp[au,bcs]
   rw[hX1];have hWb:Wb (sx H is im iv c u++[AB.cells (twC l[j]),.bld 112 [.nilp,.sl (bcs []) (.own (H.length+2))],.perm 5 1 0]) (H.length+1) (H.length+2) []:=⟨by omega,⟨.nilp,.inl rfl,by simp[aR]⟩,by simp[aR]⟩;refine ge.toFrz (ydO _ l[j].1 (af _) hn hd _ _ _ [] hWb (by simp;omega) _ ?_);rw[List.nil_append,←oG];refine⟨H.length+2,5,txt.length,nT,hWb.next.h2,?_⟩;have hX2:(wb (sx H is im iv c u++[AB.cells (twC l[j]),.bld 112 [.nilp,.sl (bcs []) (.own (H.length+2))],.perm 5 1 0]) (H.length+1) (H.length+2) txt).set (H.length+2) (.frz 5 1 txt.length) =
     sx H is im iv c u++[AB.cells (twC l[j]),.bld 112 [.ptr (H.length+1) 0,.sl (bcs txt) (.own (H.length+2))],.frz 5 1 txt.length]:=by simp[wb,au]
   rw[hX2];obtain⟨E,hE⟩:∃E,E=[AB.cells (twC l[j]),.bld 112 [.ptr (H.length+1) 0,.sl (bcs txt) (.own (H.length+2))],.frz 5 1 txt.length]:=⟨_,rfl⟩;rw[←hE];have hSE:∀J,Sx (sx H is im iv c u++(E++J)) is im iv c u:=λJ=>mz.app;have e1:∀J,(sx H is im iv c u++(E++J))[H.length]?=some (.cells (twC l[j])):=λJ=>by rw[hE];simp[aR]
   have e2:∀J,(sx H is im iv c u++(E++J))[H.length+1]?=some (.bld 112 [.ptr (H.length+1) 0,.sl (bcs txt) (.own (H.length+2))]):=λJ=>by rw[hE];simp[aR]
   have e3:∀J,(sx H is im iv c u++(E++J))[H.length+2]?=some (.frz 5 1 txt.length):=λJ=>by rw[hE];simp[aR]
   have kB:(c++[.map im,.ov iv u.length])[4]?=some (.map im):=by rw[aM (by rw[hS.c4];omega),hS.c4];rfl
   have rB:(c++[.map im,.ov iv u.length])[5]?=some (.ov iv u.length):=by rw[aM (by rw[hS.c4];omega),hS.c4];rfl
   have jp:=hSE [];rw[aP]at jp;have e10:=e1 [];rw[aP]at e10;have hstr:∀(J:or) (r:AV→or→Prop),r (.str txt) (sx H is im iv c u++(E++J))→ge tP 76 [.ptr (H.length+1) 0] (sx H is im iv c u++(E++J)) r:=λJ r h=>zJ5 htne (e2 J) (e3 J) h;simp[jp.h1,x6 _ kB];refine ur (.str txt) (λJ=>by rw[aB];exact hstr J _ ⟨rfl,rfl⟩) ?_;simp[jp.h2];have hdone:∀E:or,Kb (E5 (.ptr is 0) (.sl (twS l) .none) (I6 l.length) (I6 (j+1))) (sx H is im iv c (vr u l[j].1 l[j].2)++E):=λE=>
    fB _ _ ⟨l.length-(j+1),by omega,Back.at (J:=E) (H2:=sx H is im iv c (vr u l[j].1 l[j].2)) rfl (by simp) (hS.hsc hs) (by
     have:=uR hS.h1;simp[E5,ux,AV.sc,AV.ZH,AV.ZI,AV.ZJ];omega) ⟨_,rfl,j+1,by omega,rfl,rfl,by rw[fN]⟩⟩
   by_cases rd:∃k,∃h:k<u.length,u[k].1=l[j].1
   ·obtain⟨k,qa,hke⟩:=rd;have qs:=zBB hd u 0 k qa o4 qz hke;rw[aX,←oG]at qs;simp[qs,jp.h1,x6 _ rB,qa];have gJ:=hoj _ (ae qa);have gF:=gR _ (ae fU);have rC:vr u l[j].1 l[j].2=u.set k (u[k].1,ofR (u[k].2.val+l[j].2.val)):=zzU qa hke qz;have rA:∀ x∈(ofR (u[k].2.val+l[j].2.val)).cs,x.ZP=true:=aA.1 (Raw.cs_all _);simp[jp.h3,Ro qa,e10,xD];refine⟨by omega,?_⟩;refine ur (.agg (ofR (u[k].2.val+l[j].2.val)).cs) (λJ=>zJW _ _ gJ gF _ _ ⟨rfl,rfl⟩) ?_;have hst3:=zD7 qa (ofR (u[k].2.val+l[j].2.val));rw[aB]at hst3;simp[jp.h3,Jd,P7,wi j (by omega)];refine⟨by omega,?_⟩;rw[hst3,←rC];have gI:u.length=(vr u l[j].1 l[j].2).length:=by rw[rC];simp
    have sL:kvW u 0=kvW (vr u l[j].1 l[j].2) 0:=by rw[rC,zMl u qa]
    have fW:=zPr (H:=H) (c:=c) hS.n1 hS.n2 hS.n3 gI sL;have nF:(sx H is im iv c u++E).set iv (.vec 55 5 u.length (tw (vr u l[j].1 l[j].2)))=sx H is im iv c (vr u l[j].1 l[j].2)++E:=by rw[aY _ _ (by simpa using uR hS.h3),fW]
    rw[nF];exact hdone E
   ·have hnone:=zBz hd u 0 o4 (λp hp he=>by
     obtain⟨k,hk,rfl⟩:=bv hp;exact rd ⟨k,hk,he⟩)
    rw[←oG]at hnone;obtain⟨nN,nO⟩:=hnone;simp[nN,jp.h1,x6 _ kB];refine ur (.str txt) (λJ=>by rw[aB];exact hstr J _ ⟨rfl,rfl⟩) ?_;simp[jp.h1,x6 _ rB,jp.h2];have rC:vr u l[j].1 l[j].2=u++[l[j]]:=zzZ (λp hp he=>by
     obtain⟨k,hk,rfl⟩:=bv hp;exact rd ⟨k,hk,he⟩)
    have hmp:=nO l[j].2;rw[aX]at hmp;have oN:=uR hS.h2;have tD:=uR hS.h3;have tE:=uR hS.h1;obtain⟨M,hM⟩:∃M,M=AB.map (xx (kvW u 0) txt (I6 u.length)):=⟨_,rfl⟩;rw[←hM];have g1:((sx H is im iv c u++E).set im M)[is]?=some (.cells (c++[.map im,.ov iv u.length])):=by rw[aj hS.n1.symm];exact jp.h1
    have g2:((sx H is im iv c u++E).set im M)[iv]?=some (.vec 55 5 u.length (tw u)):=by rw[aj hS.n3];exact jp.h3
    have g3:((sx H is im iv c u++E).set im M)[H.length]?=some (.cells (twC l[j])):=by rw[aj (by omega)];exact e10
    have ib:plain ([I0,.ZG,.bool false,.ZG,.ZG]:List AV)=some [I0,.sl [] .none,.bool false,.sl [] .none,.sl [] .none]:=rfl;simp[g1,x6 _ rB,g3,wX,uk,uI,FW,ib];simp only[uj,uD,uy,g2];simp[g1];refine⟨by omega,?_⟩;have g4:(((sx H is im iv c u++E).set im M).set iv (.vec 55 5 (u.length+1) (tw u++twC l[j])))[is]?=some (.cells (c++[.map im,.ov iv u.length])):=by rw[aj hS.n2.symm];exact g1
    have pS:List.take 5 (c++[.map im,.ov iv u.length])=c++[.map im]:=by
     have:c++[.map im,.ov iv u.length]=(c++[.map im])++[.ov iv u.length]:=by simp
     rw[this,db (by simp[hS.c4]),am (by simp[hS.c4])]
    have pF:List.drop (5+1) (c++[.map im,.ov iv u.length])=[]:=aS (by simp[hS.c4]);rw[g4];simp only[zKo,pS,pF];simp[AV.ZP,hS.c4,Jd,P7,wi j (by omega)];have oZ:u.length+1=(u++[l[j]]).length:=by simp
    have fW:=zPt (H:=H) (c:=c) (s:=u) (s':=u++[l[j]]) hS.n1 hS.n2 hS.n3 (a:=M) (b:=.vec 55 5 (u.length+1) (tw u++twC l[j])) (d:=.cells (c++[.map im,.ov iv (u.length+1)]))
     (by rw[hM,hmp]) (by rw[oZ,Bz];simp[tw]) (by rw[oZ])
    have nF:(((sx H is im iv c u++E).set im M).set iv (.vec 55 5 (u.length+1) (tw u++twC l[j]))).set is (.cells (c++[.map im,.ov iv (u.length+1)]))=sx H is im iv c (vr u l[j].1 l[j].2)++E:=by rw[aY _ _ (by simpa using oN),aY _ _ (by simpa using tD),aY _ _ (by simpa using tE),fW,rC]
    rw[nF];exact hdone E
  ·obtain rfl:j=l.length:=by omega
   rw[az]at *;simp[P8];exact zD5 (J:=[]) (by simp) (by simp) (hS.hsc hs) hK
def zPJ{s:List (IT×Raw)}{k:Nat}(h:k<s.length):((tw s).drop (k*5)).take 5=twC s[k]:=by have h1:=Df h;have h2:=BA (bH h);rw[h1,d8,h2];simp[aS,h2]
def zzx{f:IT×Raw→List AV}{e size:Nat}{H1:or}{st:List (List (IT×Raw))}{i:Nat}{b:AB}(h:H1[i]?=some b)(J:or):(NX f e size H1 st++J)[i]?=some b:=by unfold NX;rw[aB];exact vq h
def zNO(p q:IT×Raw)(hp:p.1.ZO≤1000000)(H:or)(K:Kt)(hK:K (I6 (IT.cmp p.1 q.1)) H):ge tP 85 [.agg (twC p),.agg (twC q)] H K:=by refine ge.out (yep λhs=>?_);simp[Yd,wX,wY,aa];refine zL7 _ _ _ (af _) hp _ _ ?_;exact Out.int rfl (af _) hs hK
def zOH{H:or}{b:Nat}{l:List (IT×Raw)}(hb:H[b]?=some (.vec 55 5 l.length (tw l)))(hn:l.length≤1000000)(qE:∀x∈l,x.1.ZO≤1000000)(K:Kt)(hK:∀r:List (IT×Raw),r.Perm l→r.Pairwise (λp q=>¬IT.cmp q.1 p.1<0)→K (.tup []) (H.set b (.vec 55 5 l.length (tw r)))):ge tP 84 [.ov b l.length,.fn 85 []] H K:=by
 let d0:IT×Raw:=(.mk 0 [],⟨false,[],[]⟩)
 have pt:∀i,i<l.length→(twS l).getD i []=twC (l.getD i d0):=λi hi=>by simp[twS,aq,hi]
 have hgm:∀i,i<l.length→l.getD i d0∈l:=λi hi=>by simp[aq,hi]
 have cmp_self:∀a:IT,IT.cmp a a=0:=S5;refine ge.sortFuncK zP9 (k:=5) (by omega) Tryz.isAgg55 Tryz.sizeOf55 hb (by omega) (twS l) (λi j=>IT.cmp (l.getD i d0).1 (l.getD j d0).1) (by rw[KT];exact FX l) (by simp) (λr hr=>by
  obtain⟨x,_,rfl⟩:=aF.1 hr;simp) (λargs w=>rfl) (λi j hi hj=>?_) (λi hi=>?_) (λi j k hi hj hk h1 h2=>?_) (λi j k hi hj hk h1 h2=>?_) (λp hp hsort=>?_)
 ·rw[pt i hi,pt j hj];exact zNO _ _ (qE _ (hgm i hi)) _ _ rfl
 ·rw[cmp_self];omega
 ·exact zAA h1 (by omega)
 ·have:=IT.cmp_tri (l.getD k d0).1 (l.getD j d0).1 (l.getD i d0).1;have a1:=IT.ZN (l.getD i d0).1 (l.getD j d0).1;have a2:=IT.ZN (l.getD j d0).1 (l.getD k d0).1;have a3:=IT.ZN (l.getD i d0).1 (l.getD k d0).1;unfold Tri at this;omega
 ·have oY:∀ i∈p,i<l.length:=λi hi=>by simpa using hp.subset hi
  have kx:(List.range l.length).map (λi=>l.getD i d0)=l:=bU (by simp) λi h1 h2=>by simp[aq,h2]
  have fO:(p.map λi=>l.getD i d0).Perm l:=by have h1:=hp.map λi=>l.getD i d0;rwa [kx]at h1
  have gI:(p.map λi=>(twS l).getD i []).flatten=tw (p.map λi=>l.getD i d0):=by rw[tw,d5];congr 1;refine bN λi hi=>?_;exact pt i (oY i hi)
  rw[gI];refine hK _ fO ?_;rw[cX];intro a b ha hb gc;simp only[cS];exact hsort a b (by simpa using ha) (by simpa using hb) gc
def wF(eq:List Dat)(t:VT)(u L:List (IT×Raw))(k:Nat):List (List (IT×Raw)):=(List.range 7).map λd=>if d<k then ofW eq t L d else ofW eq t u d
@[simp] theorem TW(eq:List Dat)(t:VT)(u L:List (IT×Raw))(k:Nat):(wF eq t u L k).length=7:=by simp[wF]
def zDp(eq:List Dat)(t:VT)(u L:List (IT×Raw))(k:Nat){d:Nat}(h:d<7):(wF eq t u L k)[d]?=some (if d<k then ofW eq t L d else ofW eq t u d):=by simp[wF,h]
def zOy(eq:List Dat)(t:VT)(u L:List (IT×Raw)):(wF eq t u L 7).flatten=zbcq eq t L 7:=by unfold wF zbcq;rw[List.flatMap_def];refine congrArg List.flatten (bN λd hd=>?_);rw[aN (by simpa using hd)]
def zOA{eq:List Dat}{t:VT}{u L:List (IT×Raw)}{k:Nat}(h:k<7):(wF eq t u L k).set k (ofW eq t L k)=wF eq t u L (k+1):=by
 refine bU (by simp) λi h1 h2=>?_;rw[d7];simp only[wF,cS,cU];split
 ·rename_i e;subst e;rw[aN (by omega)]
 ·rename_i e;by_cases hi:i<k
  ·rw[aN hi,aN (by omega)]
  ·rw[aG hi,aG (by omega)]
def zJ2{H:or}{st:List (List (IT × Raw))}{k:Nat}{M r:List (IT × Raw)}(fJ:st[k]?=some M)(hl:r.length=M.length):
  (NX twC 55 5 H st).set (H.length+1+k) (.vec 55 5 M.length (tw r))=NX twC 55 5 H (st.set k r):=by
 obtain⟨hk,hM⟩:=ac.1 fJ;have h1:=zzz twC 55 5 H [] st hk r;have hv:vcs (H.length+1) (st.set k r)=vcs (H.length+1) st:=by
  rw[←TP,hl];refine aU λi=>?_;rw[cM];split
  ·rename_i h;subst h;rw[aN (by simpa using hk),TS _ fJ]
  ·rfl
 simp only[aP]at h1;rw[hv]at h1;rw[←h1,hl,tw,List.flatMap_def];have hc:=zzw twC 55 5 H st;have lZ:∀(X:or) (i:Nat) (b:AB),X[i]?=some b→X.set i b=X:=λX i b hb=>by
  refine aU λj=>?_;by_cases hj:i=j
  ·subst hj;rw[ak (uR hb),hb]
  ·rw[aj hj]
 exact(lZ _ _ _ (by rw[aj (by omega)];exact hc)).symm
def zOs(ls:List (List (IT × Raw)))(hp:0<ls.flatten.length)(hb:ls.flatten.length≤1000000)(hn:ls.length≤1000)(H0:or)(K:Kt)(hK:K (.sl (twS ls.flatten) .none) (NX twC 55 5 H0 ls)):
  ge tP 87 [.ms H0.length 0 ls.length ls.length] (NX twC 55 5 H0 ls) K:=by
 refine ge.out (zJr λhs=>?_);obtain⟨H,hH⟩:∃H,H=NX twC 55 5 H0 ls:=⟨_,rfl⟩;have gN:(vcs (H0.length+1) ls).length=ls.length:=zEr _ _;have hC:∀J,(H++J)[H0.length]?=some (.cells (vcs (H0.length+1) ls)):=λJ=>by rw[hH];exact TQ _ _ _ _ _ _
 have qF:H[H0.length]?=some (.cells (vcs (H0.length+1) ls)):=by have:=hC [];simpa using this
 have hV:∀J k (hk:k<ls.length),(H++J)[H0.length+1+k]?=some (.vec 55 5 ls[k].length (tw ls[k])):=λJ k hk=>by rw[hH,TR twC 55 5 H0 J ls hk,tw,List.flatMap_def]
 have hl:H0.length<H.length:=uR qF;have gI:∀i,(ls.take i).flatten.length≤ls.flatten.length:=λi=>by
  conv=>rhs;rw[←aJ i ls]
  rw[da,aH];omega
 have hsu:∀i (hi:i<ls.length),(ls.take (i+1)).flatten=(ls.take i).flatten++ls[i]:=λi hi=>by rw[ag hi,da];simp
 rw[←hH]at hs hK ⊢;simp[Tw];refine zJq (Inv:=λq t3 t11 H'=>∃i:Nat,i≤ls.length∧q=ls.length-i∧t11=I6 i∧t3=I6 ((ls.take i).flatten.length:Nat)∧H'=H) ls.length ?_ ?_
 ·intro _;exact⟨0,by omega,by omega,rfl,rfl,rfl⟩
 ·rintro q t3 t11 H' ⟨i,hi,rfl,rfl,rfl,rfl⟩ hsc fz fM Kb fB;by_cases fy:i<ls.length
  ·have h1:=gI i;have h2:=gI (i+1);have h3:=hsu i fy;have h4:=DD (H0.length+1) ls i;rw[aw fy]at h4;have h5:(ls.take (i+1)).flatten.length=(ls.take i).flatten.length+ls[i].length:=by rw[h3,aH]
   obtain⟨m,hm⟩:∃m,m=(ls.take i).flatten.length:=⟨_,rfl⟩;rw[←hm]at h1 h5 fM ⊢;have kr:¬((m:Int)+(ls[i].length:Int)<0):=by omega
   have w1:IntKind.i64.wrap ((m:Int)+(ls[i].length:Int))=(m:Int)+(ls[i].length:Int):=um (by omega) (by omega);simp[FP,fy,qF,x6 _ h4,w1,kr,wi i (by omega)];simp[Tv,Tu,wi i (by omega)];refine fB _ _ ⟨ls.length-(i+1),by omega,Back.at (J:=[]) (H2:=H') (by simp) (by omega) hsc ?_ ⟨_,_,rfl,i+1,by omega,rfl,rfl,by rw[h5];simp,rfl⟩⟩;simpa[FM,AV.sc,AV.ZJ,AV.ZH,AV.ZI]using hl
  ·obtain rfl:i=ls.length:=by omega
   rw[az];simp[FP];have hg:=zOw ls.flatten.length hp hb;simp at hg;refine hg _ _ ?_;refine zJp (Inv:=λq t6 t27 H2=>∃i:Nat,i≤ls.length∧q=ls.length-i∧t27=I6 i∧t6=.ov H'.length (ls.take i).flatten.length∧H2=H'++[.vec 55 5 (ls.take i).flatten.length (tw (ls.take i).flatten)]) ls.length ?_ ?_
   ·intro _;exact⟨0,by omega,by omega,rfl,rfl,rfl⟩
   ·rintro q t6 t27 H2 ⟨i,hi,rfl,rfl,rfl,rfl⟩ gw jj mi Kb2 gv;by_cases fy:i<ls.length
    ·have h1:=gI i;have h2:=gI (i+1);have h3:=hsu i fy;have h4:=DD (H0.length+1) ls i;rw[aw fy]at h4;obtain⟨u,hu⟩:∃ u,u=(ls.take i).flatten:=⟨_,rfl⟩;rw[←hu]at h1 h3 mi gw ⊢;have mY:=hV [.vec 55 5 u.length (tw u)] i fy;have hCi:=hC [.vec 55 5 u.length (tw u)];have gc:H0.length+1+i≠H'.length:=by have h9:=hV [] i fy;rw[aP]at h9;have:=uR h9;omega
     simp[FO,fy,hCi,x6 _ h4,wi i (by omega)];simp only[uj,mY,xY];simp[Rp,au];have hl3:u.length+ls[i].length=((ls.take (i+1)).flatten).length:=by rw[h3,aH]
     refine⟨⟨by omega,by omega⟩,?_⟩;have kN:tw u++tw ls[i]=tw ((ls.take (i+1)).flatten):=by rw[h3,Bz]
     rw[hl3,kN];refine gv _ _ ⟨ls.length-(i+1),by omega,Back.at (J:=[]) (H2:=H'++[.vec 55 5 (ls.take (i+1)).flatten.length (tw (ls.take (i+1)).flatten)]) (by simp) (by simp) (hs.append (by simp only[AB.sc,List.all_cons,List.all_nil,Dg];rfl)) ?_ ⟨_,_,rfl,i+1,by omega,rfl,rfl,rfl,rfl⟩⟩;simp[FN,AV.sc,AV.ZJ,AV.ZH,AV.ZI];omega
    ·obtain rfl:i=ls.length:=by omega
     rw[az]at *;simp[FO];have iR:=zM4 (J:=[.vec 55 5 ls.flatten.length (tw ls.flatten)]) ls.flatten H'.length (af _) (by simp) hs hK;simpa using iR
def zOv(H:or)(K:Kt)(hK:K .ZG H):ge tP 141 [.ZG,I0] H K:=by
 rintro B w G ⟨vs⟩ hR hv
 match vs,hv with
 |[v1,v2],⟨h1,h2,_⟩=>
 have h1:v1=.slice none 0 0:=h1;have h2:v2=Value.int .i64 0:=h2;subst h1 h2;refine(Go.Proofs.Any8.slices_Grow_room zEF none 0 0 0 w (af _) (by omega) (by omega) (by omega)).mono ?_;rintro e w' ⟨rfl,rfl⟩;exact⟨_,.ZG,H,G,rfl,Ext.refl _ _ _,hR,rfl,hK⟩
def zOt(ls:List (List (IT × Raw)))(hb:ls.flatten.length≤1000000)(hn:ls.length≤1000)(H0:or)(K:Kt)(hK:K (.sl (twS ls.flatten) .none) (NX twC 55 5 H0 ls)):
  ge tP 87 [.ms H0.length 0 ls.length ls.length] (NX twC 55 5 H0 ls) K:=by
 by_cases hp:0<ls.flatten.length
 ·exact zOs ls hp hb hn H0 K hK
 have jT:ls.flatten=[]:=aO (by omega);have fS:∀(i:Nat) (h:i<ls.length),ls[i]=[]:=λi h=>dO.1 jT _ (ae h);have sa:∀i,(ls.take i).flatten=[]:=λi=>dO.2 λl hl=>dO.1 jT l (bq hl);rw[jT]at hK;refine ge.out (zJr λhs=>?_);obtain⟨H,hH⟩:∃H,H=NX twC 55 5 H0 ls:=⟨_,rfl⟩;have qF:H[H0.length]?=some (.cells (vcs (H0.length+1) ls)):=by have:=TQ twC 55 5 H0 [] ls;rw[aP]at this;rw[hH];exact this
 have hV:∀k (hk:k<ls.length),H[H0.length+1+k]?=some (.vec 55 5 0 []):=λk hk=>by have:=TR twC 55 5 H0 [] ls hk;rw[aP,fS k hk]at this;rw[hH,this];rfl
 have hl:H0.length<H.length:=uR qF;rw[←hH]at hs hK ⊢;simp[Tw];refine zJq (Inv:=λq t3 t11 H'=>∃i:Nat,i≤ls.length∧q=ls.length-i∧t11=I6 i∧t3=I0∧H'=H) ls.length ?_ ?_
 ·intro _;exact⟨0,by omega,by omega,rfl,rfl,rfl⟩
 ·rintro q t3 t11 H' ⟨i,hi,rfl,rfl,rfl,rfl⟩ hsc fz fM Kb fB;by_cases fy:i<ls.length
  ·have h4:=DD (H0.length+1) ls i;rw[aw fy,fS i fy]at h4;have w1:IntKind.i64.wrap 0=0:=um (by omega) (by omega);simp[FP,fy,qF,x6 _ h4,w1,wi i (by omega)];simp[Tv,Tu,wi i (by omega)];refine fB _ _ ⟨ls.length-(i+1),by omega,Back.at (J:=[]) (H2:=H') (by simp) (by omega) hsc ?_ ⟨_,_,rfl,i+1,by omega,rfl,rfl,rfl,rfl⟩⟩;simpa[FM,AV.sc,AV.ZJ,AV.ZH,AV.ZI]using hl
  ·obtain rfl:i=ls.length:=by omega
   simp[FP];refine zOv _ _ ?_;refine zJp (Inv:=λq t6 t27 H2=>∃i:Nat,i≤ls.length∧q=ls.length-i∧t27=I6 i∧t6=.ZG∧H2=H') ls.length ?_ ?_
   ·intro _;exact⟨0,by omega,by omega,rfl,rfl,rfl⟩
   ·rintro q t6 t27 H2 ⟨i,hi,rfl,rfl,rfl,rfl⟩ gw jj mi Kb2 gv;by_cases fy:i<ls.length
    ·have h4:=DD (H0.length+1) ls i;rw[aw fy,fS i fy]at h4;have mY:=hV i fy;simp[FO,fy,qF,x6 _ h4,wi i (by omega)];simp only[uj,mY,xY];simp;refine gv _ _ ⟨ls.length-(i+1),by omega,Back.at (J:=[]) (H2:=H2) (by simp) (by omega) hs ?_ ⟨_,_,rfl,i+1,by omega,rfl,rfl,rfl,rfl⟩⟩;simp[FN,AV.sc,AV.ZJ,AV.ZH,AV.ZI];omega
    ·obtain rfl:i=ls.length:=by omega
     simp[FO];exact Out.one0 hs (.atom .ZG) rfl rfl hK
def cz(s:List (IT×Raw)):List (IT×Raw):=(s.filter λp=>decide (p.2.val≠0)).map λp=>(p.1,ofR p.2.val)
def zLq(a b:List (IT×Raw)):cz (a++b)=cz a++cz b:=by simp[cz]
def zAL(s:List (IT×Raw)):(cz s).length≤s.length:=by unfold cz;rw[cC];exact cT _ _
def zLr{s:List (IT×Raw)}{p:IT×Raw}(h:p∈cz s):∃q∈s,p.1=q.1∧p.2=ofR q.2.val∧q.2.val≠0:=by obtain⟨q,hq,rfl⟩:=aF.1 h;obtain⟨h1,h2⟩:=cx.1 hq;exact⟨q,h1,rfl,rfl,by simpa using h2⟩
def zLs{s:List (IT×Raw)}(h:(s.map Prod.fst).Nodup):((cz s).map Prod.fst).Nodup:=by unfold cz;rw[d5];exact h.sublist ((dB).map Prod.fst)
def zOz{eq:List Dat}{t:VT}{u L:List (IT×Raw)}{p:IT×Raw}{d:Nat}(hd:d<7)(hr:rdV eq p.1 t=(d:Int)):(wF eq t u L 0).set d (ofW eq t u d++[p])=wF eq t (u++[p]) L 0:=by
 refine bU (by simp) λi h1 h2=>?_;rw[d7];simp only[wF,cS,cU,Nat.not_lt_zero,ba];split
 ·rename_i e;subst e;simp[ofW,df,hr]
 ·rename_i e;have h4:(rdV eq p.1 t == (i:Int))=false:=by simp;omega
  simp[ofW,df,h4]
def Cb(s:List (IT×Raw)):Prop:=s.Pairwise λp q=>IT.cmp p.1 q.1<0
def zKL{r L:List (IT×Raw)}(hr:Cb r)(hL:Cb L)(hp:r.Perm L):r=L:=
 hp.eq_of_pairwise (λa b _ _ h1 h2=>by have:=IT.ZN a.1 b.1;omega) hr hL
def zKM{eq:List Dat}{t:VT}{d:Nat}{u r L:List (IT×Raw)}(hr:r.Perm (ofW eq t u d))(hso:r.Pairwise λp q=>¬IT.cmp q.1 p.1<0)(hn:(u.map Prod.fst).Nodup)(hL:Cb L)(hp:L.Perm u):r=ofW eq t L d:=by
 have tF:(r.map Prod.fst).Nodup:=((hr.map Prod.fst).nodup_iff).2 (hn.sublist ((dB).map _));have hasc:Cb r:=by
  unfold List.Nodup at tF;rw[dV]at tF;refine(hso.and tF).imp λ{p q} h=>?_;have h0:=IT.ZN p.1 q.1;by_cases h1:IT.cmp p.1 q.1=0
  ·exact absurd (Qg h1) h.2
  ·omega
 exact zKL hasc (hL.sublist dB) (hr.trans (hp.symm.filter _))
def zDS{eq:List Dat}(hk:vj eq)(t:VT)(ht:t.ZO≤1000)(hf:wC eq t=true)(H:or)(is im iv:Nat)(s L:List (IT×Raw))(hS:Sx H is im iv (.sl (eq.map Dat.cs) .none::t.cs) s)(hv:∀p∈s,p.1.ZO≤900∧p.2.ok 400∧0≤rdV eq p.1 t∧rdV eq p.1 t≤6)(hn:(s.map Prod.fst).Nodup)(hl:s.length≤100000)(hL:Cb L)(hLp:L.Perm (cz s))(K:Kt)(gA:1000<L.length→K (.tup [.sl [] .none,I6 9]) H)(hK:L.length≤1000→K (.tup [.sl (twS (zbcq eq t L 7)) .none,I0]) H):ge tP 44 [.ptr is 0] H K:=by
 refine ge.out (ybk λhs=>?_);obtain⟨T,hT⟩:∃T,T=(AV.sl (eq.map Dat.cs) .none::t.cs):=⟨_,rfl⟩;rw[←hT]at hS;have hT4:T.length=4:=hS.c4;have m6:=hS.h1;have gq:=uR m6;have kE:(T++[.map im,.ov iv s.length])[0]?=some (.sl (eq.map Dat.cs) .none):=by rw[hT];rfl
 have gM:List.take 3 (T++[AV.map im,AV.ov iv s.length]).tail=t.cs:=by rw[hT];obtain⟨t1,t2,t3⟩:=t;rfl
 have rB:(T++[.map im,.ov iv s.length])[5]?=some (.ov iv s.length):=by rw[aM (by omega),hT4];rfl
 have hrep:(List.replicate 7 [AV.ZG]).flatten=List.replicate 7 AV.ZG:=rfl;simp[X6,vo,hrep,vq m6,x6 _ rB,aa];unfold Jf;refine tM.nx twC 55 5 7 ?_;show Jf (.ptr is 0) (.ms H.length 0 7 7) I0 (.ov iv s.length) (I6 s.length) I0 (NX twC 55 5 H (List.replicate 7 [])) _;have hst0:List.replicate 7 []=wF eq t (cz (s.take 0)) L 0:=by simp[wF,ofW,cz,c5,List.replicate]
 rw[hst0];have qb:∀st,HSc (NX twC 55 5 H st):=λst=>zJ3 hs λx n=>by have:=Dg [x] n;simpa[tw]using this
 refine ybh (Inv:=λq t5 t17 H'=>∃j:Nat,j≤s.length∧s.length-j=q∧t17=I6 j∧t5=I6 ((cz (s.take j)).length:Nat)∧H'=NX twC 55 5 H (wF eq t (cz (s.take j)) L 0)) s.length ?_ ?_
 ·intro _;exact⟨0,by omega,rfl,rfl,rfl,rfl⟩
 ·rintro q t5 t17 H' ⟨j,hj,rfl,rfl,rfl,rfl⟩ fG fz fM Kb fB;by_cases fU:j<s.length
  ·obtain⟨v1,v2,v4,v5⟩:=hv _ (ae fU);obtain⟨d,hd⟩:∃ d:Nat,rdV eq s[j].1 t=d:=⟨(rdV eq s[j].1 t).toNat,by omega⟩;have hd7:d<7:=by omega
   have hczl:(cz (s.take j)).length≤100000:=aC (zAL _) (by simp;omega);have gj:cz (s.take (j+1))=cz (s.take j)++cz [s[j]]:=by rw[ag fU,zLq]
   obtain⟨u,hu⟩:∃u,u=cz (s.take j):=⟨_,rfl⟩;rw[←hu]at hczl gj fM fG ⊢;have fJ:=zDp eq t u L 0 hd7;simp only[Nat.not_lt_zero,ba]at fJ;have hol:(ofW eq t u d).length≤100000:=aC M1 hczl;have jG:=TW eq t u L 0;have jI:=zOz (eq:=eq) (t:=t) (u:=u) (L:=L) (p:=(s[j].1,ofR s[j].2.val)) hd7 hd;generalize hM:ofW eq t u d=M at *;generalize fN:wF eq t u L 0=st at *;have tD:=λJ=>zzx (f:=twC) (e:=55) (size:=5) (st:=st) hS.h3 J;have tE:=λJ=>zzx (f:=twC) (e:=55) (size:=5) (st:=st) hS.h1 J;have hiv0:=tD [];rw[aP]at hiv0;have h5:=zPJ fU;have hb5:j*5+5≤s.length*5:=by omega
   simp[Ji,fU,hiv0,h5,hb5,xN,aa];refine⟨xN _,?_⟩;rw[xD];refine Yp s[j].2 v2 _ _ ?_;have hNl:(NX twC 55 5 H st).length=H.length+8:=by rw[zB,jG]
   rw[hNl];by_cases hz:s[j].2.val=0
   ·have qc:cz [s[j]]=[]:=by simp[cz,hz]
    rw[qc,aP]at gj;have ml:sgR s[j].2.val=0:=by simp[sgR,hz]
    simp[ml,Jg,P9,wi j (by omega)];refine fB _ _ ⟨s.length-(j+1),by omega,Back.at (J:=[.cells (twC s[j])]) (H2:=NX twC 55 5 H st) rfl (by simp[zB];omega) (qb _) (by
     have h3:=uR hS.h3;simp[E6,ux,AV.sc,AV.ZH,AV.ZI,AV.ZJ,zB];omega) ⟨_,_,rfl,j+1,by omega,rfl,rfl,by rw[gj],by rw[gj,fN]⟩⟩
   have qc:cz [s[j]]=[(s[j].1,ofR s[j].2.val)]:=by simp[cz,hz]
   rw[qc]at gj;have ml:(sgR s[j].2.val == 0)=false:=by unfold sgR;rw[aG hz];split <;> rfl
   have hsg2:(sgR s[j].2.val != 0)=true:=by simp[bne,ml]
   have fR:∀J,(NX twC 55 5 H st++(AB.cells (twC s[j])::J))[H.length+8]?=some (.cells (twC s[j])):=λJ=>by rw[←hNl];simp
   have ot:=λJ=>TQ twC 55 5 H J st;have p8:=λJ=>zzv twC 55 5 H J fJ;have oe:=TS (H.length+1) fJ;simp[hsg2,tE,x6 _ kE,gM,fR,wY,xD,hT4];refine ur (I6 d) (λJ=>Dt eq hk t ht s[j].1 (by omega) _ _ ⟨by rw[←hd];unfold xU;rw[aN hf],rfl⟩) ?_;have hd7':(d:Int)<7:=by omega
   simp[hd7',tY,ot,x6 _ oe,fR,wY,xD];refine ur (.agg s[j].1.cs) (λJ=>yej _ s[j].1 (af _) (by omega) _ _ ⟨rfl,rfl⟩) ?_;try simp[fR,xD]
   refine ur (.agg (ofR s[j].2.val).cs) (λJ=>zJY s[j].2 v2 _ _ ⟨rfl,rfl⟩) ?_;have pF:List.drop 5 (s[j].1.cs++[AV.bool false,.ZG,.ZG])=[]:=aS (by simp);have lU:∀x∈s[j].1.cs,x.ZP=true:=aA.1 (IT.cs_known s[j].1);have rA:∀x∈(ofR s[j].2.val).cs,x.ZP=true:=aA.1 (Raw.cs_all _);have ib:plain ([I0,.ZG,.bool false,.ZG,.ZG]:List AV)=some [I0,.sl [] .none,.bool false,.sl [] .none,.sl [] .none]:=rfl;simp[ug,uv,pF];obtain⟨p,hp⟩:∃p:IT×Raw,p=(s[j].1,ofR s[j].2.val):=⟨_,rfl⟩;rw[show s[j].1.cs++(ofR s[j].2.val).cs=twC p by rw[hp];rfl];rw[←hp]at jI gj;simp[uk,uI,FW,ib];simp only[uj,uD,uy,p8];have jH:d<st.length:=by omega
   have fW:=zzz twC 55 5 H [AB.cells (twC s[j])] st jH (M++[p]);have mL:(M++[p]).length=M.length+1:=by simp
   have hfm:(M++[p]).flatMap twC=M.flatMap twC++twC p:=by simp
   rw[mL,hfm,←zPW _ _ jH,mL,jI]at fW;have hXc:=ot [AB.cells (twC s[j])];have hXb:=p8 [AB.cells (twC s[j])];generalize hX:NX twC 55 5 H st++[AB.cells (twC s[j])]=X at *;have iy:=uR hXb;have g2:∀v,(X.set (H.length+1+d) v)[H.length]?=some (.cells (vcs (H.length+1) st)):=λv=>by rw[aj (by omega)];exact hXc
   simp[g2];refine⟨⟨by omega,by omega⟩,by omega,?_⟩;rw[fW];simp[Jg,P9,wi j (by omega),wi u.length (by omega)];exact fB _ _ ⟨s.length-(j+1),by omega,Back.at (J:=[.cells (twC s[j])]) (H2:=NX twC 55 5 H (wF eq t (cz (s.take (j+1))) L 0)) (by rw[gj]) (by simp[zB]) (qb _) (by
    have h3:=uR hS.h3;simp[E6,ux,AV.sc,AV.ZH,AV.ZI,AV.ZJ,zB];omega) ⟨_,_,rfl,j+1,by omega,rfl,rfl,by rw[gj];simp,rfl⟩⟩
  ·obtain rfl:j=s.length:=by omega
   rw[az]at *;have hLl:=hLp.length_eq;have gN:=zAL s;have iC:=zLs hn;have sE:∀p∈cz s,p.1.ZO≤900∧0≤rdV eq p.1 t∧rdV eq p.1 t≤6:=λp hp=>by obtain⟨q,hq,e1,_,_⟩:=zLr hp;have:=hv q hq;rw[e1];exact⟨this.1,this.2.2⟩
   generalize hu:cz s=u at *;by_cases iV:1000<u.length
   ·have gO:(1000:Int)<(u.length:Int):=by omega
    simp[Ji,gO];obtain⟨J,hJ⟩:=zzy twC 55 5 H (wF eq t u L 0);rw[←hJ];exact⟨⟨rfl,rfl⟩,Out.tup (bs:=[.sl [] .none,I6 9]) hs (gA (by omega)) ⟨xd,uJ rfl rfl,trivial⟩⟩
   ·have gO:¬ (1000:Int)<(u.length:Int):=by omega
    simp[Ji,gO];refine ybg (Inv:=λq t59 H'=>∃k:Nat,k≤7∧7-k=q∧t59=I6 k∧H'=NX twC 55 5 H (wF eq t u L k)) 7 ?_ ?_
    ·intro _;exact⟨0,by omega,rfl,rfl,rfl⟩
    ·rintro q t59 H' ⟨k,hk7,rfl,rfl,rfl⟩ hsc14 hlen14 hsF14 Kb14 hKb14;by_cases fy:k<7
     ·have fK:(k:Int)<7:=by omega
      have fJ:=zDp eq t u L k fy;simp only[Nat.lt_irrefl,ba]at fJ;have fN:=zOA (eq:=eq) (t:=t) (u:=u) (L:=L) fy;have jG:=TW eq t u L k;obtain⟨M,hM⟩:∃M,M=ofW eq t u k:=⟨_,rfl⟩;obtain⟨st,jh⟩:∃st,st=wF eq t u L k:=⟨_,rfl⟩;rw[←hM]at fJ;rw[←jh]at fJ fN jG hsF14 hsc14 ⊢;have ot:=zzw twC 55 5 H st;have oe:=TS (H.length+1) fJ;have p8:=zzv twC 55 5 H [] fJ;rw[aP]at p8;have hMl:M.length≤100000:=by rw[hM];exact aC M1 (by omega)
      simp[Qa,fK,ot,x6 _ oe];refine zOH (b:=H.length+1+k) (l:=M) (by rw[p8,tw,List.flatMap_def]) (by omega) (λp hp=>by
       rw[hM]at hp;have:=sE p (cx.1 hp).1;omega) _ λr i9 ij=>?_
      have hre:r=ofW eq t L k:=zKM (by rw[←hM];exact i9) ij iC hL hLp;have lc:r.length=M.length:=i9.length_eq;rw[zJ2 fJ lc,hre,fN,wi k (by omega)];exact hKb14 _ _ ⟨7-(k+1),by omega,Back.at (J:=[]) (H2:=NX twC 55 5 H (wF eq t u L (k+1))) (by simp) (by simp[zB]) (qb _) (by simp[Jh,ux,AV.sc,AV.ZH,AV.ZI,AV.ZJ,zB];try omega) ⟨_,rfl,k+1,by omega,rfl,rfl,rfl⟩⟩
     ·obtain rfl:k=7:=by omega
      have jT:=zOy eq t u L;have iD:=zOt (wF eq t u L 7);simp[Qa];rw[TW,jT]at iD;have g8:=TU (eq:=eq) (t:=t) (s:=L) 7;refine iD (by omega) (by omega) H _ ?_;obtain⟨J,hJ⟩:=zzy twC 55 5 H (wF eq t u L 7);rw[←hJ];exact⟨⟨rfl,rfl⟩,Out.tup (bs:=[.sl (twS (zbcq eq t L 7)) .none,I0]) hs (hK (by omega)) ⟨uJ rfl rfl,uJ rfl rfl,trivial⟩⟩
def cf:List (IT×Rat)→IT→Rat
 |[],_=>0
 |p::l,i=>(if IT.same p.1 i then p.2 else 0)+cf l i
theorem DE:∀ (a b:List (IT × Rat)) (i:IT),cf (a++b) i=cf a i+cf b i
 |[],b,i=>by rw[List.nil_append,cf,cJ]
 |p::a,b,i=>by rw[List.cons_append,cf,cf,DE a b i,cI]
def zAv{l:List (IT×Rat)}{i:IT}(h:∀p∈l,p.1≠i):cf l i=0:=by
 induction l with
 |nil=>rfl
 |cons p l ih=>rw[cf,aG (λhe=>h p (by simp) (same_eq _ _ he)),cJ];exact ih λq hq=>h q (by simp[hq])
def zK8{l:List (IT×Rat)}{i:IT}(h:cf l i≠0):∃p∈l,p.1=i:=by refine eB λhn=>h (zAv λp hp he=>hn ⟨p,hp,he⟩)
def F3{l:List (IT×Rat)}(hn:(l.map Prod.fst).Nodup){p:IT×Rat}(hp:p∈l):cf l p.1=p.2:=by
 induction l with
 |nil=>simp at hp
 |cons x l ih=>
  rw[aL,dl]at hn;rcases aT.1 hp with rfl|hp
  ·rw[cf,aN (MC _),zAv (λq hq he=>hn.1 (by rw[←he];exact aF.2 ⟨q,hq,rfl⟩)),ce]
  ·rw[cf,aG (λhe=>hn.1 (by rw[same_eq _ _ he];exact aF.2 ⟨p,hp,rfl⟩)),cJ];exact ih hn.2 hp
def NzQ(l:List (IT×Rat)):Prop:=∀p∈l,p.2≠0
def zAw{a b:List (IT×Rat)}(ha:(a.map Prod.fst).Nodup)(hb:(b.map Prod.fst).Nodup)(na:NzQ a)(nb:NzQ b)(h:∀i,cf a i=cf b i):a.Perm b:=by
 have key:∀{a b:List (IT×Rat)},(a.map Prod.fst).Nodup→(b.map Prod.fst).Nodup→NzQ a→(∀i,cf a i=cf b i)→∀p∈a,p∈b:=by
  intro a b ha hb na h p hp;have h1:=F3 ha hp;have h2:cf b p.1≠0:=by rw[←h,h1];exact na p hp
  obtain⟨q,hq,he⟩:=zK8 h2;have h3:=F3 hb hq;rw[he,←h,h1]at h3;have:p=q:=Prod.ext he.symm h3;rw[this];exact hq
 have nd:∀{a:List (IT×Rat)},(a.map Prod.fst).Nodup→a.Nodup:=λ{a} h=>by unfold List.Nodup at h ⊢;rw[dV]at h;exact h.imp λ{p q} pC he=>pC (by rw[he])
 refine(List.perm_ext_iff_of_nodup (nd ha) (nd hb)).2 λp=>⟨key ha hb na h p,key hb ha nb (λi=>(h i).symm) p⟩
def AscQ(s:List (IT×Rat)):Prop:=s.Pairwise λp q=>IT.cmp p.1 q.1<0
def AscQ.nd{s:List (IT×Rat)}(h:AscQ s):(s.map Prod.fst).Nodup:=by unfold List.Nodup;rw[dV];refine h.imp λ{p q} pC he=>?_;rw[he,S5]at pC;omega
def zKK{r L:List (IT×Rat)}(hr:AscQ r)(hL:AscQ L)(hp:r.Perm L):r=L:=
 hp.eq_of_pairwise (λa b _ _ h1 h2=>by have:=IT.ZN a.1 b.1;omega) hr hL
theorem zzT{i:IT}{c:Rat}:∀ {s:List (IT × Rat)},AscQ s→NzQ s→AscQ (uO s i c)∧NzQ (uO s i c)∧∀ p∈uO s i c,p.1=i∨∃ q∈s,q.1=p.1
 |[],_,_=>by
  unfold uO;split
  ·exact⟨List.Pairwise.nil,λp hp=>by simp at hp,λp hp=>by simp at hp⟩
  ·rename_i h;exact⟨List.pairwise_singleton _ _,λp hp=>by simp at hp;rw[hp];exact h,λp hp=>by simp at hp;exact .inl (by rw[hp])⟩
 |x::s,h,hz=>by
  have h1:=dR.1 h;have js:NzQ s:=λp hp=>hz p (be _ hp);unfold uO;by_cases ha:IT.cmp x.1 i<0
  ·obtain⟨k1,k2,k3⟩:=zzT (i:=i) (c:=c) h1.2 js;rw[aN ha];refine⟨dR.2 ⟨λp hp=>?_,k1⟩,λp hp=>?_,λp hp=>?_⟩
   ·rcases k3 p hp with e | ⟨q,hq,e⟩
    ·rw[e];exact ha
    ·rw[←e];exact h1.1 q hq
   ·rcases aT.1 hp with rfl | hp
    ·exact hz _ bu
    ·exact k2 p hp
   ·rcases aT.1 hp with e | hp
    ·exact .inr ⟨x,bu,by rw[e]⟩
    ·rcases k3 p hp with e | ⟨q,hq,e⟩
     ·exact .inl e
     ·exact .inr ⟨q,be _ hq,e⟩
  ·rw[aG ha];by_cases h0:IT.cmp x.1 i=0
   ·rw[aN h0];split
    ·exact⟨h1.2,js,λp hp=>.inr ⟨p,be _ hp,rfl⟩⟩
    ·rename_i fI;refine⟨dR.2 ⟨h1.1,h1.2⟩,λp hp=>?_,λp hp=>?_⟩
     ·rcases aT.1 hp with rfl | hp
      ·exact fI
      ·exact js p hp
     ·rcases aT.1 hp with e | hp
      ·exact .inr ⟨x,bu,by rw[e]⟩
      ·exact .inr ⟨p,be _ hp,rfl⟩
   ·rw[aG h0];have r8:IT.cmp i x.1<0:=by have:=IT.ZN i x.1;omega
    split
    ·exact⟨h,hz,λp hp=>.inr ⟨p,hp,rfl⟩⟩
    ·rename_i fI;refine⟨dR.2 ⟨λp hp=>?_,h⟩,λp hp=>?_,λp hp=>?_⟩
     ·rcases aT.1 hp with e | hp
      ·rw[e];exact r8
      ·exact zAA r8 (by have:=h1.1 p hp;omega)
     ·rcases aT.1 hp with rfl | hp
      ·exact fI
      ·exact hz p hp
     ·rcases aT.1 hp with e | hp
      ·exact .inl (by rw[e])
      ·exact .inr ⟨p,hp,rfl⟩
def zDf{a b:IT}(h:IT.cmp a b=0):a=b:=Qg h
theorem zzR{i:IT}{c:Rat}(j:IT):∀ (s:List (IT × Rat)),cf (uO s i c) j=cf s j+(if IT.same i j then c else 0)
 |[]=>by
  unfold uO;split
  ·rename_i h;subst h;simp[cf,ce]
  ·simp[cf,ce,cJ]
 |x::s=>by
  unfold uO;split
  ·rw[cf,cf,zzR j s,cI]
  ·split
   ·rename_i h0;have hx:=zDf h0;subst hx;split
    ·rename_i hz;rw[cf];by_cases hj:IT.same x.1 j=true
     ·rw[aN hj,aN hj,eV x.2,cI,hz,ce]
     ·rw[aG hj,aG hj,cJ,ce]
    ·rw[cf,cf];by_cases hj:IT.same x.1 j=true
     ·simp only[hj,br];rw[cI,cI,eV c]
     ·simp only[hj,ba,aK];rw[ce]
   ·split
    ·rename_i hz;subst hz;simp[ce]
    ·rw[cf,eV]
def uA(s l:List (IT×Rat)):List (IT×Rat):=l.foldl (λs p=>uO s p.1 p.2) s
def zK2(s l:List (IT×Rat))(p:IT×Rat):uA s (l++[p])=uO (uA s l) p.1 p.2:=by simp[uA]
theorem Ag:∀ (l:List (IT × Rat)) {s:List (IT × Rat)},AscQ s→NzQ s→AscQ (uA s l)∧NzQ (uA s l)∧∀ p∈uA s l,(∃ q∈s,q.1=p.1)∨∃ q∈l,q.1=p.1
 |[],s,h1,h2=>⟨h1,h2,λp hp=>.inl ⟨p,hp,rfl⟩⟩
 |x::l,s,h1,h2=>by
  obtain⟨k1,k2,k3⟩:=zzT (i:=x.1) (c:=x.2) h1 h2;obtain⟨m1,m2,m3⟩:=Ag l k1 k2;refine⟨m1,m2,λp hp=>?_⟩;rcases m3 p hp with ⟨q,hq,e⟩|⟨q,hq,e⟩
  ·rcases k3 q hq with e2 | ⟨r,hr,e2⟩
   ·exact .inr ⟨x,by simp,by rw[←e,e2]⟩
   ·exact .inl ⟨r,hr,by rw[e2,e]⟩
  ·exact .inr ⟨q,by simp[hq],e⟩
theorem DF(j:IT):∀ (l s:List (IT × Rat)),cf (uA s l) j=cf s j+cf l j
 |[],s=>by rw[cf,ce];rfl
 |x::l,s=>by show cf (uA (uO s x.1 x.2) l) j=_;rw[DF j l,zzR,cf,cI]
def AU:AscQ []:=List.Pairwise.nil
def AW:NzQ []:=λp hp=>by simp at hp
def zK1{a b:List (IT×Rat)}(h:∀i,cf a i=cf b i):uA [] a=uA [] b:=by obtain⟨a1,a2,_⟩:=Ag a AU AW;obtain⟨b1,b2,_⟩:=Ag b AU AW;refine zKK a1 b1 (zAw a1.nd b1.nd a2 b2 λi=>?_);rw[DF,DF,h]
def vals(l:List (IT×Raw)):List (IT×Rat):=l.map λp=>(p.1,p.2.val)
@[simp] theorem TX(l:List (IT×Raw)):(vals l).length=l.length:=by simp[vals]
def zEo(a b:List (IT×Raw)):vals (a++b)=vals a++vals b:=by simp[vals]
def zEq(l:List (IT×Rat)):vals (up l)=l:=by
 simp only[vals,up,d5]
 conv=>rhs;rw[←List.map_id l]
 refine bN λp _=>?_;simp[wt]
def zEp(l:List (IT×Raw)):(vals l).map Prod.fst=l.map Prod.fst:=by simp[vals]
theorem zzV{i:IT}{c:Raw}(j:IT):∀ (s:List (IT × Raw)),cf (vals (vr s i c)) j=cf (vals s) j+(if IT.same i j then c.val else 0)
 |[]=>by simp[vr,vals,cf,ce,cJ]
 |x::s=>by
  unfold vr;split
  ·rename_i h;have hx:=same_eq _ _ h;subst hx;simp only[vals,aL,cf,wt];by_cases hj:IT.same x.1 j=true
   ·simp only[hj,br];rw[cI,cI,eV c.val]
   ·simp only[hj,ba,aK];rw[ce]
  ·have:=zzV (i:=i) (c:=c) j s;simp only[vals,aL,cf]at this ⊢;rw[this,cI]
theorem TY(j:IT):∀ (l s:List (IT × Raw)),cf (vals (uL s l)) j=cf (vals s) j+cf (vals l) j
 |[],s=>by simp[uL,vals,cf,ce]
 |x::l,s=>by show cf (vals (uL (vr s x.1 x.2) l)) j=_;rw[TY j l,zzV];simp only[vals,aL,cf];rw[cI]
def zLt(s:List (IT×Raw)):cz s=up ((vals s).filter λp=>decide (p.2≠0)):=by simp only[cz,up,vals,List.filter_map,d5];rfl
theorem zA1(j:IT):∀ (l:List (IT × Rat)),cf (l.filter λp=>decide (p.2≠0)) j=cf l j
 |[]=>rfl
 |p::l=>by
  rw[dz,cf,←zA1 j l];by_cases h:p.2=0
  ·simp[h,cJ]
  ·simp[h,cf]
def zAq(l:List (IT×Raw)):(up (uA [] (vals l))).Perm (cz (uL [] l)):=by
 obtain⟨a1,a2,_⟩:=Ag (vals l) AU AW;rw[zLt];refine List.Perm.map _ (zAw a1.nd ?_ a2 (λp hp=>?_) λi=>?_)
 ·have h1:((vals (uL [] l)).map Prod.fst).Nodup:=by rw[zEp];exact Ca _ _ (by simp)
  exact h1.sublist ((dB).map _)
 ·simpa using(cx.1 hp).2
 ·rw[zA1,DF,TY];rfl
def zAp(l:List (IT×Rat)):Cb (up (uA [] l)):=by obtain⟨a1,_,_⟩:=Ag l AU AW;unfold Cb up;rw[dV];exact a1
def Fit(D M:Nat)(q:Rat):Prop:=D≠0∧∃z:Int,q=mkRat z D∧z.natAbs≤M
def Fit.mono{D M N:Nat}{q:Rat}(h:Fit D M q)(hN:M≤N):Fit D N q:=by obtain⟨h0,z,h1,h2⟩:=h;exact⟨h0,z,h1,aC h2 hN⟩
def Fit.zero{D:Nat}(M:Nat)(h:D≠0):Fit D M 0:=⟨h,0,by rw[Rat.zero_mkRat],by simp⟩
def Fit.add{D M N:Nat}{q r:Rat}(h:Fit D M q)(k:Fit D N r):Fit D (M+N) (q+r):=by
 obtain⟨h0,z,h1,h2⟩:=h;obtain⟨_,w,k1,k2⟩:=k;refine⟨h0,z+w,?_,?_⟩
 ·rw[h1,k1,Rat.mkRat_add_mkRat _ _ h0 h0,←Int.add_mul,dC h0]
 ·exact aC (Int.natAbs_add_le z w) (Nat.add_le_add h2 k2)
def Fit.mul{D E M N:Nat}{q r:Rat}(h:Fit D M q)(k:Fit E N r):Fit (D*E) (M*N) (q*r):=by
 obtain⟨h0,z,h1,h2⟩:=h;obtain⟨k0,w,k1,k2⟩:=k;refine⟨cO h0 k0,z*w,?_,?_⟩
 ·rw[h1,k1,ef]
 ·rw[eZ];exact aZ h2 k2
def Fit.nat{D M:Nat}{q:Rat}(h:Fit D M q)(n:Nat):Fit D (n*M) ((n:Rat)*q):=by
 obtain⟨h0,z,h1,h2⟩:=h;refine⟨h0,n*z,?_,?_⟩
 ·rw[h1,show ((n:Rat))=mkRat (n:Int) 1 from ?_,ef,c9];rw[←Rat.intCast_natCast,dL]
 ·rw[eZ];exact aZ (by simp) h2
def Fit.scale{D M:Nat}{q:Rat}(h:Fit D M q){E:Nat}(hE:E≠0):Fit (E*D) (E*M) q:=by
 obtain⟨h0,z,h1,h2⟩:=h;refine⟨cO hE h0,E*z,?_,?_⟩
 ·rw[h1,eX,bh E D,dC hE]
 ·rw[eZ];exact aZ (by simp) h2
def Fit.lim{D M k:Nat}{q:Rat}(h:Fit D M q)(hD:D<1000000000 ^ k)(hM:M<1000000000 ^ k):Lim k q:=by
 obtain⟨h0,z,h1,h2⟩:=h;have e:q=frR (decide (z<0)) z.natAbs D:=by rw[frR,XR,h1]
 refine⟨?_,?_⟩
 ·rw[e,E0 h0,C5];exact wx (aI (aC (cy _ _) h2) hM)
 ·rw[e,I9 h0];exact wx (aI (cy _ _) hD)
def Raw.fit(r:Raw):Fit r.ld r.ln r.val:=⟨r.ld0,_,(r.lval_eq).symm,by rw[C5];exact af _⟩
def zBK{n k:Nat}(h:(lim n).length≤k):n<1000000000 ^ k:=by have:=wr (lim n) (uZ n);rw[uN]at this;exact bK this (bi (by decide) h)
def Raw.lt8{r:Raw}(h:r.ok 8):r.ln<1000000000 ^ 9∧r.ld<1000000000 ^ 9:=
 ⟨zBK (Raw.ln_len h),zBK (Raw.ld_len h)⟩
def Fits(D M:Nat)(l:List (IT×Rat)):Prop:=∀p∈l,Fit D M p.2
theorem Fits.cf{D M:Nat}(hD:D≠0)(i:IT):∀ {l:List (IT × Rat)},Fits D M l→Fit D (l.length*M) (cf l i)
 |[],_=>Fit.zero _ hD
 |p::l,h=>by
  rw[List.length_cons,bD,fh,Go.Proofs.YtdmamdnkcefmmaaGreatDoor.cf];refine Fit.add ?_ (Fits.cf hD i λq hq=>h q (by simp[hq]));split
  ·exact h p (by simp)
  ·exact Fit.zero _ hD
theorem M2:∀ {l:List (IT × Raw)},(∀ p∈l,p.2.ok 8)→∃ D,D≠0∧D≤(1000000000 ^ 9) ^ l.length∧Fits D ((1000000000 ^ 9) ^ l.length) (vals l)
 |[],_=>⟨1,by decide,by simp,λp hp=>by simp[vals]at hp⟩
 |x::l,h=>by
  obtain⟨D,h0,h1,h2⟩:=M2 (l:=l) λp hp=>h p (by simp[hp]);obtain⟨x1,x2⟩:=Raw.lt8 (h x (by simp));have hs:(1000000000 ^ 9) ^ (x::l).length=1000000000 ^ 9*(1000000000 ^ 9) ^ l.length:=by rw[List.length_cons,Nat.pow_succ,bh]
  rw[hs];generalize hB:1000000000 ^ 9=B at *;generalize hP:B ^ l.length=P at *;refine⟨x.2.ld*D,cO x.2.ld0 h0,aZ (bH x2) h1,λp hp=>?_⟩;simp only[vals,aL,aT]at hp;rcases hp with rfl|hp
  ·have:=(x.2.fit).scale h0;rw[bh x.2.ld D];exact this.mono (by rw[bh D];exact aZ (bH x1) h1)
  ·exact((h2 p hp).scale x.2.ld0).mono (aZ (bH x2) (af _))
theorem zzW{i:IT}{c:Raw}:∀ {s:List (IT × Raw)} {p:IT × Raw},p∈vr s i c→p∈s∨p=(i,c)∨p.2=ofR p.2.val
 |[],p,h=>by simp[vr]at h;exact .inr (.inl h)
 |x::s,p,h=>by
  unfold vr at h;split at h
  ·rcases aT.1 h with rfl | h
   ·exact .inr (.inr (by simp only[wt]))
   ·exact .inl (be _ h)
  ·rcases aT.1 h with rfl | h
   ·exact .inl bu
   ·rcases zzW h with h | h
    ·exact .inl (be _ h)
    ·exact .inr h
theorem zAD:∀ (l s:List (IT × Raw)) {p:IT × Raw},p∈uL s l→p∈s∨p∈l∨p.2=ofR p.2.val
 |[],s,p,h=>.inl h
 |x::l,s,p,h=>by
  rcases zAD l (vr s x.1 x.2) h with h|h|h
  ·rcases zzW h with h | h | h
   ·exact .inl h
   ·exact .inr (.inl (by rw[h];simp))
   ·exact .inr (.inr h)
  ·exact .inr (.inl (be _ h))
  ·exact .inr (.inr h)
def zAF{D M k:Nat}(hD:D≠0){l:List (IT×Raw)}(hl:∀p∈l,p.2.ok k)(hf:Fits D M (vals l))(h1:D<1000000000 ^ k)(h2:l.length*M<1000000000 ^ k):∀p∈uL [] l,p.2.ok k:=by
 intro p hp;rcases zAD l [] hp with h|h|h
 ·simp at h
 ·exact hl p h
 ·have hn:=Ca l [] (by simp);have hm:(p.1,p.2.val)∈vals (uL [] l):=aF.2 ⟨p,hp,rfl⟩;have hc:=F3 (by rw[zEp];exact hn) hm;rw[TY]at hc;have hF:=Fits.cf hD p.1 hf;rw[TX]at hF;rw[h];refine x7 (Fit.lim (D:=D) (M:=l.length*M) ?_ h1 h2);have:cf (vals []) p.1=0:=rfl;rw[this,cJ]at hc;rw[←show _=p.2.val from hc];exact hF
def Fits.sub{D M:Nat}{l m:List (IT×Rat)}(h:Fits D M l)(hm:∀p∈m,p∈l):Fits D M m:=λp hp=>h p (hm p hp)
def zAo{D M:Nat}(hD:D≠0){l:List (IT×Rat)}(hf:Fits D M l):Fits D (l.length*M) (uA [] l):=by intro p hp;obtain⟨a1,_,_⟩:=Ag l AU AW;have:=F3 a1.nd hp;rw[DF]at this;rw[←this];have:cf [] p.1=0:=rfl;rw[this,cJ];exact hf.cf hD _
theorem zzS(i:IT)(c:Rat):∀ s:List (IT × Rat),(uO s i c).length≤s.length+1
 |[]=>by unfold uO;split <;> simp
 |p::s=>by
  have:=zzS i c s;unfold uO
  repeat' split
  all_goals simp
  all_goals omega
theorem DG:∀ l s:List (IT × Rat),(uA s l).length≤s.length+l.length
 |[],s=>by simp[uA]
 |x::l,s=>by show (uA (uO s x.1 x.2) l).length≤_;have:=DG l (uO s x.1 x.2);have:=zzS x.1 x.2 s;simp;omega
section
variable (t0 t1 t3 t5 t8 t9 t10:AV) (H:or) (K:Kt) (Kb3:Lt)
def M3:Nat→List Bool|3=>rl false [3,1,1,1,2,3,15]|_=>[]
noncomputable def zyq:=bd Tryz.f62
def M4:=ux 3 (t3::ux 1 (t5::ux 2 (t8::t9::t10::ux 15 [])))
def ycD:=M3 3
noncomputable def ycB:=uc [1,1,0,1,0,0] zyq
def ycA:=ud tP M3 [1,1,0,1,0] zyq (uq tP Tryz.f62.results.toList K)
def M5:=tM tP ycB (ycA K) (M4 t3 t5 t8 t9 t10) H
def TZ:=gt .lss false t10 t9 λt11=>tO t11 (tW 5 t8 t10 λt12=>tL true 5 t12 H λt13=>un [I0,.ZG,(.bool false),.ZG,.ZG] H λt7 H=>ua 5 t7 t13 H λH=>apm H t5 λt14=>apu H (tN 0 t7) λt15=>apu H (tY true 2 t15 H) λt16=>apu H (tN 2 t7) λt17=>apu H (tY true 3 t17 H) λt18=>apu H (tY true 3 t3 H) λt19=>apc tP H 70 [t18,t19] λt20=>apu H (ug [I0,.ZG,(.bool false),.ZG,.ZG] [(0,2),(2,3)] [(0,t16),(1,t20)]) λt21=>apu H (uk 5 [I0,.ZG,(.bool false),.ZG,.ZG] 1 [(0,t21)]) λt22=>uj 55 5 88 t14 t22 H λt23 H=>apm H t23 λt5=>gt .add false t10 I1 λt24=>Kb3 (M4 t3 t5 t8 t9 t24) H) (K t5 H)
def zIP:=ul t1 H λt3 H=>tV 1 t0 λt9=>M5 t3 .ZG t0 t9 I0 H K
variable {t0 t1 t3 t5 t8 t9 t10} {H} {K} {Kb3}
def ycC:Lo2 (λt5 t10=>M4 t3 t5 t8 t9 t10) (λt5 t10 H Kb3=>TZ t3 t5 t8 t9 t10 H K Kb3) t5 t10 H (M5 t3 t5 t8 t9 t10 H K):=lq2 M3 ycD
def ycE(h:HSc H→zIP t0 t1 H K):ge tP 62 [t0,t1] H K:=
 acb M3 Tryz.func62 h
end
def T0(a:List (IT×Nat))(i:IT)(c:Nat):vi a++[i.cs++ue (c:Int)]=vi (a++[(i,c)]):=by simp[vi,tmC]
def zMy{eq:List Dat}(h8:∀D∈eq,D.cons.length≤8){f:Nat}(hQ:ML eq f)(hM:MM eq f):TE eq (f+1):=by
 intro t i j hf ky jn hi hj h6 hn H K hK;obtain⟨k,tn,tks⟩:=t;obtain⟨n,l⟩:=i;obtain⟨n',m⟩:=j;simp only[IT.ZO]at hf hn;refine ge.out (ybb λhs=>?_);have ip:(VT.mk k tn tks).cs=[I6 k,I6 tn,.sl (VT.css tks) .none]:=rfl;have kL:(IT.mk n l).cs=[I6 n,.sl (IT.css l) .none]:=rfl;have lJ:(IT.mk n' m).cs=[I6 n',.sl (IT.css m) .none]:=rfl;have kT:plain ([I0,.ZG,.bool false,.ZG,.ZG]:List AV)=some [I0,.sl [] .none,.bool false,.sl [] .none,.sl [] .none]:=rfl;have mr:(H++[AB.cells (VT.mk k tn tks).cs,.cells (IT.mk n l).cs,.cells (IT.mk n' m).cs]).length=H.length+3:=by simp
 have jM:∀c,HSc (H++[AB.cells (VT.mk k tn tks).cs,.cells (IT.mk n l).cs,.cells (IT.mk n' m).cs,.perm 55 5 c]):=λc=>hs.append (by simp[AB.sc,VT.cs,IT.cs,AV.ZH,AV.ZI]);by_cases k6:k=6
 ·subst k6;have ev:∀(n:Int) (l:List IT),0≤rdV eq (.mk n l) (.mk 6 tn tks)→n=0∧l.length=tks.length∧rdV eq (.mk n l) (.mk 6 tn tks)=rdA eq l tks 0:=λn l h=>by
   rw[rdV]at h ⊢;simp only[VT.kind,VT.kids,br]at h ⊢;by_cases hn:n=0
   ·by_cases hl:tks.length=l.length
    ·simp[hn,hl]
    ·simp[hn,hl]at h
   ·simp[hn]at h
  obtain⟨i1,i2,i3⟩:=ev n l hi;obtain⟨j1,j2,j3⟩:=ev n' m hj;rw[i3]at hi h6;rw[j3]at hj h6;have jV:=VT.ZQ tks;have gu:∀(ts:List VT) (x:VT),x∈ts→x.ZO≤VT.ZA ts:=by
   intro ts;induction ts with
   |nil=>intro x hx;simp at hx
   |cons t ts ih=>
    intro x hx;simp only[VT.ZA];rcases aT.1 hx with rfl|hx
    ·omega
    ·have:=ih x hx;omega
  have pW:∀x∈tks,x.ZO≤1000∧uW eq 0 x=true:=λx hx=>by have:=gu tks x hx;simp only[VT.ZO]at ky;exact⟨by omega,Si jn x hx⟩
  simp only[VT.ZO]at ky;obtain⟨R,hR⟩:∃R,R=xg eq f tks l m:=⟨_,rfl⟩;obtain⟨R1,R2,R3,R4⟩:=zAg h8 (f:=f) (ts:=tks) (l:=l) (m:=m) (by omega) i2 j2 hi hj h6;rw[←hR]at R1 R2 R3 R4;have jx:wg eq (f+1) (.mk 6 tn tks) (.mk n l) (.mk n' m)=R.map λr=>(.mk 0 r.1,r.2):=by rw[wg,hR];simp[VT.kind,VT.kids,uz]
  rw[jx]at hK;simp[FV,ip,kL,lJ,aa];refine hQ tks l m (by omega) i2 j2 (by omega) pW hi hj h6 (by omega) _ _ ?_;rw[←hR];simp;rw[←ip,←kL,←lJ];unfold MO;refine tM.own 9 55 5 rfl ?_;rw[mr,aB];show MO (.sl (vi ((R.take 0).map λr=>(IT.mk 0 r.1,r.2))) (.own (H.length+3))) _ _ _ (H++[AB.cells (VT.mk 6 tn tks).cs,.cells (IT.mk n l).cs,.cells (IT.mk n' m).cs,.perm 55 5 0]) _;refine ya7 (Inv:=λq t9 t36 H'=>∃q':Nat,q'≤R.length∧R.length-q'=q∧t36=I6 q'∧t9=.sl (vi ((R.take q').map λr=>(IT.mk 0 r.1,r.2))) (.own (H.length+3))∧H'=H++[AB.cells (VT.mk 6 tn tks).cs,.cells (IT.mk n l).cs,.cells (IT.mk n' m).cs,.perm 55 5 q']) R.length ?_ ?_
  ·intro _;exact⟨0,by omega,rfl,rfl,rfl,rfl⟩
  ·rintro q t9 t36 H' ⟨q',hq,rfl,rfl,rfl,rfl⟩ pX nB pY Kb6 kM;have iQ:min q' R.length=q':=by omega
   by_cases jw:q'<R.length
   ·have fN:(R.take (q'+1)).map (λr=>(IT.mk 0 r.1,r.2))=(R.take q').map (λr=>(IT.mk 0 r.1,r.2))++[(IT.mk 0 R[q'].1,R[q'].2)]:=by rw[ag jw];simp only[a6,aL,bI]
    simp[TG,jw,ug,uv,wi q' (by omega),AV.ZP,uk,uI,plain,AV.pd,xH,kT];simp only[uj,uD,uy];simp[iQ,au];refine⟨⟨by omega,by omega⟩,?_⟩;have rD:vi (List.take q' (List.map (λr=>(IT.mk 0 r.1,r.2)) R))++[I0::.sl (IT.css R[q'].1) .none::ue (R[q'].2:Int)]=vi ((R.take (q'+1)).map λr=>(IT.mk 0 r.1,r.2)):=by rw[fN,←T0,bT];rfl
    rw[rD];exact kM _ _ ⟨R.length-(q'+1),by omega,Back.at (J:=[.cells (.sl (IT.css R[q'].1) .none::ue (R[q'].2:Int))]) (H2:=H++[AB.cells (VT.mk 6 tn tks).cs,.cells (IT.mk n l).cs,.cells (IT.mk n' m).cs,.perm 55 5 (q'+1)]) (by simp) (by simp) (jM _) (by simp[MN,ux,AV.sc,AV.ZH,AV.ZI,AV.ZJ]) ⟨_,_,rfl,q'+1,by omega,rfl,rfl,rfl,rfl⟩⟩
   ·obtain rfl:q'=R.length:=by omega
    rw[az];simp[TG,B9,MP];exact Out.at (b:=.sl (vi (R.map λr=>(IT.mk 0 r.1,r.2))) .none) rfl (af _) hs (.atom (.sl _ _)) rfl rfl hK
 ·by_cases k7:k=7
  ·subst k7;have ev:∀(n:Int) (l:List IT),0≤rdV eq (.mk n l) (.mk 7 tn tks)→0≤n∧n≤6∧rdV eq (.mk n l) (.mk 7 tn tks)=n:=λn l h=>by
    rw[rdV]at h ⊢;simp only[VT.kind,k6,ba,br]at h ⊢;by_cases hc:0≤n∧n≤6∧l.length=0
    ·rw[aN hc];exact⟨hc.1,hc.2.1,rfl⟩
    ·rw[aG hc]at h;omega
   obtain⟨i1,i2,i3⟩:=ev n l hi;obtain⟨j1,j2,j3⟩:=ev n' m hj;rw[i3]at hi h6;rw[j3]at hj h6;obtain⟨a,rfl⟩:∃a:Nat,n=a:=⟨n.toNat,by omega⟩;obtain⟨b,rfl⟩:∃b:Nat,n'=b:=⟨n'.toNat,by omega⟩;have jx:wg eq (f+1) (.mk 7 tn tks) (.mk a l) (.mk b m)=(u9 a b).filter λp=>p.2 != 0:=by rw[wg];simp[VT.kind,uT]
   rw[jx]at hK;simp[FV,ip,kL,lJ,aa];refine yd3 a b (by omega) (by omega) _ _ ?_;simp;rw[←ip,←kL,←lJ];unfold MQ;refine tM.own 9 55 5 rfl ?_;rw[mr,aB];have gQ:(vV a b (a+b+1)).length=a+b+1:=by simp[vV]
   have ly:(u9 a b).length=a+b+1:=by simp[u9]
   show MQ (.sl (vi (((u9 a b).take 0).filter λp=>p.2 != 0)) (.own (H.length+3))) _ _ _ (H++[AB.cells (VT.mk 7 tn tks).cs,.cells (IT.mk a l).cs,.cells (IT.mk b m).cs,.perm 55 5 0]) _;refine ya5 (Inv:=λq t9 t62 H'=>∃q':Nat,q'≤a+b+1∧a+b+1-q'=q∧t62=I6 q'∧t9=.sl (vi (((u9 a b).take q').filter λp=>p.2 != 0)) (.own (H.length+3))∧H'=H++[AB.cells (VT.mk 7 tn tks).cs,.cells (IT.mk a l).cs,.cells (IT.mk b m).cs,.perm 55 5 (((u9 a b).take q').filter λp=>p.2 != 0).length]) (a+b+1) ?_ ?_
   ·intro _;exact⟨0,by omega,rfl,rfl,rfl,rfl⟩
   ·rintro q t9 t62 H' ⟨q',hq,rfl,rfl,rfl,rfl⟩ hsc13 hlen13 hsF13 Kb13 jZ;by_cases jw:q'<a+b+1
    ·have oF:q'<(u9 a b).length:=by omega
     have pZ:(q':Int)<(a:Int)+(b:Int)+1:=by omega
     have he:(u9 a b)[q']=(.mk (q':Int) [],pcf a b q'):=by simp[u9]
     have fN:((u9 a b).take (q'+1)).filter (λp=>p.2 != 0)=((u9 a b).take q').filter (λp=>p.2 != 0)++(if pcf a b q'=0 then [] else [(.mk (q':Int) [],pcf a b q')]):=by rw[ag oF,he,df];by_cases h0:pcf a b q'=0 <;> simp[h0]
     have gI:(((u9 a b).take q').filter λp=>p.2 != 0).length≤20:=aC (cT _ _) (by simp;omega);have oW:(ww (vV a b (a+b+1)))[q']?=some (ue (pcf a b q':Int)):=by simp[ww,vV,jw]
     obtain⟨s,gK⟩:∃s,s=((u9 a b).take q').filter λp=>p.2 != 0:=⟨_,rfl⟩;rw[←gK]at fN gI ⊢;have tx:uB (λ_=>1) (u9 a b)≤729:=by rw[u9,Dv];have:=SY a (by omega) b (by omega) (by omega);unfold Mn at this;refine aC (by simpa using this) (aC (bi (by omega) (show a+b≤6 by omega)) (by decide))
     have qe:pcf a b q'≤729:=by have hc:=Ab (ae oF);rw[he]at hc;exact aC hc tx
     have hsmp:pcf a b q'<1000000000 ^ 30:=aI qe (by decide);simp[TI,gQ,pZ,oW,zy];refine zNw (pcf a b q') (xf hsmp) _ _ ?_;by_cases h0:pcf a b q'=0
     ·rw[aN h0,aP]at fN;simp[h0,MR,TH,wi q' (by omega)];have jh:s=List.filter (λp=>p.2 != 0) ((u9 a b).take (q'+1)):=fN.symm;exact jZ _ _ ⟨a+b+1-(q'+1),by omega,Back.at (J:=[.cells (ue 0)]) (H2:=H++[AB.cells (VT.mk 7 tn tks).cs,.cells (IT.mk a l).cs,.cells (IT.mk b m).cs,.perm 55 5 s.length]) (by simp) (by simp) (jM _) (by simp[FU,ux,AV.sc,AV.ZH,AV.ZI,AV.ZJ]) ⟨_,_,by simp only[gQ];rfl,q'+1,by omega,rfl,rfl,by rw[←jh],by rw[←jh]⟩⟩
     ·rw[aG h0]at fN;simp[h0,ug,uv,uk,uI,plain,AV.pd,AV.ZP,xH,kT];simp only[uj,uD,uy];simp[au,MR,TH,wi q' (by omega)];refine⟨⟨by omega,by omega⟩,?_⟩;have rD:vi s++[I6 (q':Int)::.sl [] .none::ue (pcf a b q':Int)]=vi (((u9 a b).take (q'+1)).filter λp=>p.2 != 0):=by rw[fN,←T0];rfl
      have iF:s.length+1=(((u9 a b).take (q'+1)).filter λp=>p.2 != 0).length:=by rw[fN];simp
      rw[rD,iF];exact jZ _ _ ⟨a+b+1-(q'+1),by omega,Back.at (J:=[.cells (ue (pcf a b q':Int))]) (H2:=H++[AB.cells (VT.mk 7 tn tks).cs,.cells (IT.mk a l).cs,.cells (IT.mk b m).cs,.perm 55 5 (((u9 a b).take (q'+1)).filter λp=>p.2 != 0).length]) (by simp) (by simp) (jM _) (by simp[FU,ux,AV.sc,AV.ZH,AV.ZI,AV.ZJ]) ⟨_,_,by simp only[gQ];rfl,q'+1,by omega,rfl,rfl,rfl,rfl⟩⟩
    ·obtain rfl:q'=a+b+1:=by omega
     rw[am (by omega)];simp[TI,B9,MP,gQ];exact Out.at (b:=.sl (vi ((u9 a b).filter λp=>p.2 != 0)) .none) rfl (af _) hs (.atom (.sl _ _)) rfl rfl hK
  ·by_cases k5:k=5
   ·subst k5;have ev:∀(n:Int) (l:List IT),0≤rdV eq (.mk n l) (.mk 5 tn tks)→n=0∧l.length≤6∧rdV eq (.mk n l) (.mk 5 tn tks)=rdE eq l (.mk 5 tn tks) 0:=λn l h=>by
     rw[Fz]at h ⊢;by_cases hc:n=0∧l.length≤6
     ·rw[aN hc];exact⟨hc.1,hc.2,rfl⟩
     ·rw[aG hc]at h;omega
    obtain⟨i1,i2,i3⟩:=ev n l hi;obtain⟨j1,j2,j3⟩:=ev n' m hj;rw[i3]at hi h6;rw[j3]at hj h6;obtain⟨R,hR⟩:∃R,R=vu eq f (.mk 5 tn tks) l m:=⟨_,rfl⟩;obtain⟨R1,R2,R3,R4⟩:=Mx h8 (f:=f) (t:=.mk 5 tn tks) (l:=l) (m:=m) (by omega) hi hj h6;rw[←hR]at R1 R2 R3 R4;have jx:wg eq (f+1) (.mk 5 tn tks) (.mk n l) (.mk n' m)=R.map λr=>(.mk 0 r.1,r.2):=by rw[wg,hR];simp[VT.kind,uz]
    rw[jx]at hK;simp[FV,ip,kL,lJ,aa];rw[←ip];refine hM (.mk 5 tn tks) l m (by omega) ky jn rfl hi hj h6 (by omega) _ _ ?_;rw[←hR];simp;rw[←kL,←lJ];unfold MT;refine tM.own 9 55 5 rfl ?_;rw[mr,aB];show MT (.sl (vi ((R.take 0).map λr=>(IT.mk 0 r.1,r.2))) (.own (H.length+3))) _ _ _ (H++[AB.cells (VT.mk 5 tn tks).cs,.cells (IT.mk n l).cs,.cells (IT.mk n' m).cs,.perm 55 5 0]) _;refine ya6 (Inv:=λq t9 t36 H'=>∃q':Nat,q'≤R.length∧R.length-q'=q∧t36=I6 q'∧t9=.sl (vi ((R.take q').map λr=>(IT.mk 0 r.1,r.2))) (.own (H.length+3))∧H'=H++[AB.cells (VT.mk 5 tn tks).cs,.cells (IT.mk n l).cs,.cells (IT.mk n' m).cs,.perm 55 5 q']) R.length ?_ ?_
    ·intro _;exact⟨0,by omega,rfl,rfl,rfl,rfl⟩
    ·rintro q t9 t36 H' ⟨q',hq,rfl,rfl,rfl,rfl⟩ pX nB pY Kb6 kM;have iQ:min q' R.length=q':=by omega
     by_cases jw:q'<R.length
     ·have fN:(R.take (q'+1)).map (λr=>(IT.mk 0 r.1,r.2))=(R.take q').map (λr=>(IT.mk 0 r.1,r.2))++[(IT.mk 0 R[q'].1,R[q'].2)]:=by rw[ag jw];simp only[a6,aL,bI]
      simp[TJ,jw,ug,uv,wi q' (by omega),AV.ZP,uk,uI,plain,AV.pd,xH,kT];simp only[uj,uD,uy];simp[iQ,au];refine⟨⟨by omega,by omega⟩,?_⟩;have rD:vi (List.take q' (List.map (λr=>(IT.mk 0 r.1,r.2)) R))++[I0::.sl (IT.css R[q'].1) .none::ue (R[q'].2:Int)]=vi ((R.take (q'+1)).map λr=>(IT.mk 0 r.1,r.2)):=by rw[fN,←T0,bT];rfl
      rw[rD];exact kM _ _ ⟨R.length-(q'+1),by omega,Back.at (J:=[.cells (.sl (IT.css R[q'].1) .none::ue (R[q'].2:Int))]) (H2:=H++[AB.cells (VT.mk 5 tn tks).cs,.cells (IT.mk n l).cs,.cells (IT.mk n' m).cs,.perm 55 5 (q'+1)]) (by simp) (by simp) (jM _) (by simp[MS,ux,AV.sc,AV.ZH,AV.ZI,AV.ZJ]) ⟨_,_,rfl,q'+1,by omega,rfl,rfl,rfl,rfl⟩⟩
     ·obtain rfl:q'=R.length:=by omega
      rw[az];simp[TJ,B9,MP];exact Out.at (b:=.sl (vi (R.map λr=>(IT.mk 0 r.1,r.2))) .none) rfl (af _) hs (.atom (.sl _ _)) rfl rfl hK
   ·have jx:wg eq (f+1) (.mk k tn tks) (.mk n l) (.mk n' m)=[(.mk 0 [],1)]:=by rw[wg];simp[VT.kind,k6,k7,k5]
    rw[jx]at hK;have b6:(k == 6)=false:=by simpa using k6
    have b7:(k == 7)=false:=by simpa using k7
    have b5:(k == 5)=false:=by simpa using k5
    simp[FV,ip,kL,lJ,b6,b7,b5,ug,uv,AV.ZP,aa];refine Ad 1 (by omega) _ _ ?_;simp[ug,uv,uk,uI,plain,AV.pd,AV.ZP,xH,uj,uD,uy];exact Out.at (b:=.sl (vi [(IT.mk 0 [],1)]) .none) rfl (af _) hs (.atom (.sl _ _)) rfl rfl hK
theorem T1{eq:List Dat}(hk:vj eq)(h8:∀ D∈eq,D.cons.length≤8)(hD:vM eq=true):∀ f,TE eq f∧ML eq f∧MM eq f
 |0=>⟨λt i j h=>by have:=i.ZB;omega,λts l m h=>by omega,λt l m h=>by omega⟩
 |f+1=>by obtain⟨h1,h2,h3⟩:=T1 hk h8 hD f;exact⟨zMy h8 h2 h3,zNU h8 h1,zMu hk h8 hD h2 h3⟩
end Go.Proofs.YtdmamdnkcefmmaaGreatDoor

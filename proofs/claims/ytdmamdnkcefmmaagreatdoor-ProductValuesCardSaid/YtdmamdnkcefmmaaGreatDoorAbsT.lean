import Derived.Test.YtdmamdnkcefmmaaGreatDoorKP11
import Derived.Test.YtdmamdnkcefmmaaGreatDoorAbsV
import Derived.Shelf.SlSortCmp.NoneTotal
import Derived.Test.YtdmamdnkcefmmaaGreatDoorProg
import Derived.Test.YtdmamdnkcefmmaaGreatDoorKNum
import Derived.KernelRfl
import Derived.Test.YtdmamdnkcefmmaaGreatDoorKGR7
import Derived.Test.YtdmamdnkcefmmaaGreatDoorKN13
import Derived.Test.YtdmamdnkcefmmaaGreatDoorKI2
import Derived.Test.YtdmamdnkcefmmaaGreatDoorVO
import Derived.Deep.Slices
import Derived.DataReads
set_option linter.unusedSimpArgs false
set_option linter.unusedVariables false
set_option maxRecDepth 8000
namespace Go.Abs
open Go Go.RowKit
open Go.Sort (grow putRow putCells mapBlock onCells ahead SWO PermIn SortedIn Holds HoldsK flatK size_flatK get_flatK)
open Go.Proofs (sortWorld sortWorldK ltOf CmpLays)
variable {P:Program} {B:Nat} {w:World} {G:Gh} {H:zaa}
theorem zph {α:Type} {k:Nat}:∀ {l:List (List α)} (hk:∀ r∈l,r.length=k) {i j:Nat} (hj:j<k),l.flatten[i*k+j]?=(l[i]?).bind λr=>r[j]?
 | [],_,i,j,_=>by simp
 | r::l,hk,0,j,hj=>by have:=hk r (by simp);simp[List.getElem?_append_left (show j<r.length by omega)]
 | r::l,hk,i+1,j,hj=>by
  have h1:=hk r (by simp);have h2:r.length≤(i+1)*k+j:=by rw[Nat.add_mul];omega
  rw[List.flatten_cons,List.getElem?_append_right h2,show (i+1)*k+j-r.length=i*k+j by rw[Nat.add_mul];omega,zph (λx hx=>hk x (by simp[hx])) hj];rfl
theorem zw4 {α:Type} {k:Nat}:∀ {l:List (List α)} (hk:∀ r∈l,r.length=k),l.flatten.length=l.length*k
 | [],_=>by simp
 | r::l,hk=>by rw[List.flatten_cons,List.length_append,zw4 (λx hx=>hk x (by simp[hx])),hk r (by simp),List.length_cons,Nat.add_mul];omega
theorem zGm {α:Type} [Inhabited α] (enc:α→List Value) (k:Nat) (cH:0<k) (hk:∀ x,(enc x).length=k) (d:Array α):(flatK enc k d).toList=(d.toList.map enc).flatten:=by
 have hl:∀ r∈d.toList.map enc,r.length=k:=λr hr=>by obtain⟨x,_,rfl⟩:=List.mem_map.1 hr;exact hk x
 refine List.ext_getElem? λt=>?_;have ht:t=t / k*k+t % k:=by rw[Nat.mul_comm];exact (Nat.div_add_mod t k).symm
 have hm:t % k<k:=Nat.mod_lt _ cH;by_cases h:t<d.size*k
 ·have h1:t / k<d.size:=(Nat.div_lt_iff_lt_mul cH).2 h;rw[Array.getElem?_toList,Array.getElem?_eq_getElem (by simpa using h),←getElem!_pos (flatK enc k d) t (by simpa using h),get_flatK _ _ _ _ h]
  conv=>rhs;rw[ht,zph hl hm]
  rw[List.getElem?_map,Array.getElem?_toList,Array.getElem?_eq_getElem h1];simp only[Option.map_some,Option.bind_some];rw[getElem!_pos d _ h1,List.getElem?_eq_getElem (by rw[hk];exact hm),getElem!_pos (enc d[t / k]) _ (by rw[hk];exact hm)]
 ·rw[List.getElem?_eq_none (by simpa using h),List.getElem?_eq_none (by rw[zw4 hl];simpa using h)]
theorem zv9 {α β:Type} {R:α→β→Prop}:∀ {l:List (List α)} {m:List (List β)},All2 (λa b=>All2 R a b) l m→All2 R l.flatten m.flatten
 | [],[],_=>trivial
 | a::l,b::m,⟨h1,h2⟩=>by rw[List.flatten_cons,List.flatten_cons];exact All2.append h1 (zv9 h2)
theorem HRel.sortedK (h:HRel B w G H) {id e k n g cap:Nat} {cs cs':List AV} (hH:H[id]?=some (.vec e k n cs)) (hμ:G.μ[id]?=some (.own (.slice (some ⟨g,0,none⟩) n cap) k n))
  (d:Array Value) (hd:d.size=n*k) (hc:All2 (ARel w G) d.toList cs') (m:Nat) (os:Array Obj) :
  Ext B w G (sortWorld _root_.id w g 0 m d os) G∧HRel B (sortWorld _root_.id w g 0 m d os) G (H.set id (.vec e k n cs')):=by
 obtain⟨_,_,⟨xs,⟨cj,ho⟩,kX⟩,eQ⟩:=h.ok id _ _ hH hμ;rcases ho with ⟨h1,_⟩ | ⟨g',cap',cur,h1,hB,hw,aL,bF,aF,bm⟩
 ·cases h1
 cases h1;have aQ:d.size≤cur.size:=by rw[hd,aF];exact Nat.mul_le_mul_right _ aL
 have br:=zHL _root_.id d cur aQ;rw[hd]at br;simp only[List.map_id]at br;have h1:=h.storeV (cur':=putCells _root_.id 0 d cur) (xs':=d.toList) hH hμ hw hB aL bF (by simp[putCells,aF]) br (by simp[hd]) hc;obtain⟨fX,hR1⟩:=h1;have fw:=Ext.drew B (w.setRow g (putCells _root_.id 0 d cur)) G ((w.setRow g (putCells _root_.id 0 d cur)).drawn+m) (Nat.le_add_right _ _);have cE:=hR1.drew ((w.setRow g (putCells _root_.id 0 d cur)).drawn+m) (Nat.le_add_right _ _);obtain⟨kO,mI⟩:=HRel.grown os.toList cE;have heq:sortWorld _root_.id w g 0 m d os=grow { w.setRow g (putCells _root_.id 0 d cur) with drawn:=(w.setRow g (putCells _root_.id 0 d cur)).drawn+m } os.toList.toArray:=by
  have hh:w.heap.modify g (onCells (putCells _root_.id 0 d))=(w.setRow g (putCells _root_.id 0 d cur)).heap:=by
   unfold World.setRow;refine Array.ext_getElem? λi=>?_;simp only[Array.getElem?_modify];by_cases hi:g=i
   ·subst hi;simp[hw,onCells]
   ·simp[hi]
  have e:sortWorld _root_.id w g 0 m d os=grow { w with heap:=w.heap.modify g (onCells (putCells _root_.id 0 d)),drawn:=w.drawn+m } os:=rfl;rw[e,hh,Array.toArray_toList];rfl
 rw[heq];exact⟨(fX.trans fw).trans kO,mI⟩
theorem zIA (h:HRel B w G H) {n k g f:Nat} (fm:G.L g=0) {enc:Fin n→List Value} [Inhabited (Fin n)] {rows:Nat→List AV} {cf:Nat→Nat→Int} (hd:∀ i:Fin n,All2 (DRel w G.L) (enc i) (rows i))
  (fC:∀ i j,i<n→j<n→ACalls P f [.agg (rows i),.agg (rows j)] [] λr _=>r=.int .i64 (cf i j)):CmpLays P f #[] enc k (λi j=>cf i j) g 0 n w:=by
 intro m os dk hdk x y;show Calls P f _ (sortWorld _root_.id w g 0 m (flatK enc k dk) os) λe w'=>e=.returned (.int .i64 (cf x y))∧∃ q os',w'=grow ((sortWorld _root_.id w g 0 m (flatK enc k dk) os).drewN q) os';generalize hW:sortWorld _root_.id w g 0 m (flatK enc k dk) os=W;have aF:w.heap.size≤W.heap.size:=by rw[←hW];exact zIz _ _ _ _ _ _
 have aH:∀ a:Addr,a.block≠g→a.block<w.heap.size→W.cell? a=w.cell? a:=λa h1 h2=>by rw[←hW];exact zIy _ _ _ _ _ _ a h1 h2
 have hL:∀ b,W.heap.size≤b→G.L b=0:=λb hb=>h.fresh b (by omega);have ch:∀ {v:Value} {a:AV},DRel w G.L v a→DRel W G.L v a:=λhx=>hx.mono (λ_=>Nat.le_refl _) λb off ho=>by
  refine aH ⟨b,off,none⟩ ?_ ?_
  ·intro hb;have hb:b=g:=hb;rw[hb,fm]at ho;omega
  ·show b<w.heap.size;refine Nat.lt_of_not_le λhb=>?_;rw[h.fresh b hb]at ho;omega
 have harg:∀ i:Fin n,VRel W ⟨G.L,[]⟩ (.agg (enc i).toArray) (.agg (rows i)):=λi=>⟨_,rfl,by
  rw[List.toList_toArray];exact (hd i).mono λ_ _ hx=>zwX (G:=⟨G.L,[]⟩) (ch hx)⟩
 refine (fC x y x.2 y.2 W.heap.size W ⟨G.L,[]⟩ #[.agg (enc x).toArray,.agg (enc y).toArray]
  ⟨rfl,λ_ _ _ h=>by simp at h,λ_ _ _ _ _ h=>by simp at h,hL,λ_ _ _ h=>by simp at h,Nat.le_refl _⟩ ⟨harg x,harg y,trivial⟩).mono ?_
 rintro e w' ⟨v,r,H',G',rfl,h2,_,h4,rfl⟩;have h4:v=.int .i64 (cf x y):=h4;subst h4;exact⟨rfl,zGu h2.dr h2.below⟩
theorem ACalls.sortFuncK {ρ:Go.Shelf.Ren} (L:Go.Proofs.SlLaysF0.n6 P ρ) {id e k n f:Nat} (cH:0<k) (aE:∀ w,(isAgg (ρ.t 24)).run P w=.ok true w) (zE:∀ w,(Go.sizeOf (ρ.t 24)).run P w=.ok k w)
  {cs:List AV} (hH:H[id]?=some (.vec e k n cs)) (hn:n<4611686018427387904) (rows:List (List AV)) (cf:Nat→Nat→Int)
  (hp:plain cs=some rows.flatten) (dP:rows.length=n) (kT:∀ r∈rows,r.length=k) (eg:∀ args w,(callFunc f args).run P w=.ok (.enter f args) w)
  (fC:∀ i j,i<n→j<n→ACalls P f [.agg (rows.getD i []),.agg (rows.getD j [])] [] λr _=>r=.int .i64 (cf i j))
  (lR:∀ i,i<n→¬ cf i i<0) (lS:∀ i j k,i<n→j<n→k<n→cf i j<0→cf j k<0→cf i k<0) (lT:∀ i j k,i<n→j<n→k<n→¬ cf i j<0→¬ cf j k<0→¬ cf i k<0)
  {K:Kt} (hK:∀ p:List Nat,p.Perm (List.range n)→(∀ a b (ha:a<p.length) (hb:b<p.length),a<b→¬ cf p[b] p[a]<0)→K (.tup []) (H.set id (.vec e k n (p.map λi=>rows.getD i []).flatten))) :
  ACalls P (ρ.f 6) [.ov id n,.fn f []] H K:=by
 rintro B w G ⟨vs⟩ hR hv
 match vs,hv with
 | [v1,v2],⟨h1,h2,_⟩=>
 obtain⟨⟨a0,cap0,rfl,_⟩,v',s0,n',hμ,aQ,heq⟩:=h1;obtain⟨ws,rfl,iV⟩:=h2;have iV:ws=#[]:=by
  cases kQ:ws.toList with
  | nil=>exact Array.toList_inj.1 kQ
  | cons x l=>rw[kQ]at iV;exact iV.elim
 subst iV;obtain⟨rfl,rfl,⟨xs,au,aR⟩,eQ⟩:=hR.ok id _ _ hH hμ;obtain rfl:=heq rfl;have cj:=au.1;have bK:=zdz aR hp
 match n,cj,hH,hn,fC,lR,lS,lT,hK,hμ,au,dP with
 | 0,cj,hH,hn,fC,lR,lS,lT,hK,hμ,au,dP=>
  refine (Go.Proofs.AnyF.slices_SortFunc_none (P:=P) (ρ:=ρ) L a0 cap0 _ w).mono ?_;rintro e' w' ⟨rfl,rfl⟩;have hc:cs=[]:=by
   have bQ:=aR.length;cases cs with
   | nil=>rfl
   | cons x l=>simp at bQ;omega
  subst hc;have:=hK [] (by simp) (by simp);refine⟨_,.tup [],_,G,rfl,Ext.refl _ _ _,?_,⟨#[],rfl,trivial⟩,this⟩;have hs:H.set id (.vec e k 0 [])=H:=by
   refine List.ext_getElem? λi=>?_;rw[List.getElem?_set];split
   ·rename_i hi;subst hi;rw[if_pos (List.getElem?_eq_some_iff.1 hH).1,hH]
   ·rfl
  simpa[hs]using hR
 | n+1,cj,hH,hn,fC,lR,lS,lT,hK,hμ,au,dP=>
  obtain⟨_,ho⟩:=au;rcases ho with ⟨h1,h0⟩ | ⟨g,cap,cur,h1,hB,hw,aL,bF,aF,bm⟩
  ·omega
  cases h1;have fm:G.L g=0:=eQ g rfl;have kQ:g<w.heap.size:=(Array.getElem?_eq_some_iff.1 hw).1;have fW:∀ i,i<n+1→i*k+k≤(n+1)*k:=λi hi=>by have:=Nat.mul_le_mul_right k (show i+1≤n+1 from hi);rwa [Nat.add_mul,Nat.one_mul]at this
  let enc:Fin (n+1)→List Value:=λi=>(xs.drop (i.1*k)).take k
  have gD:∀ i,(enc i).length=k:=λi=>by have:=fW i.1 i.2;simp only[enc,List.length_take,List.length_drop];omega
  have aC:∀ (i:Fin (n+1)) (j:Nat),j<k→(enc i)[j]?=xs[i.1*k+j]?:=λi j hj=>by simp only[enc,List.getElem?_take,List.getElem?_drop,if_pos hj]
  have fd:∀ i:Fin (n+1),All2 (DRel w G.L) (enc i) (rows.getD i.1 []):=λi=>by
   have hi:i.1<rows.length:=by rw[dP];exact i.2
   have hri:rows.getD i.1 []=rows[i.1]:=by rw[List.getD_eq_getElem?_getD,List.getElem?_eq_getElem hi];rfl
   rw[hri];refine All2.of_get (by rw[gD,kT _ (List.getElem_mem hi)]) λj x y hx hy=>?_;have hj:j<k:=by rw[←kT _ (List.getElem_mem hi)];exact (List.getElem?_eq_some_iff.1 hy).1
   rw[aC i j hj]at hx;have bi:rows.flatten[i.1*k+j]?=some y:=by rw[zph kT hj,List.getElem?_eq_getElem hi];exact hy
   obtain⟨x',eS,hr⟩:=All2.get bK bi;rw[hx]at eS;cases eS;exact hr
  have bx:∀ i,∀ v∈enc i,v.oneCell'=true:=λi v hv=>by
   obtain⟨j,hj,rfl⟩:=List.mem_iff_getElem.1 hv;have hjr:j<(rows.getD i.1 []).length:=by rw[←(fd i).length];exact hj
   obtain⟨x,hx,hr⟩:=All2.get (fd i) (List.getElem?_eq_getElem hjr);rw[List.getElem?_eq_getElem hj]at hx;cases hx;generalize (rows.getD i.1 [])[j]=a at hr;generalize (enc i)[j]=v at hr;cases hr <;> rfl
  have hlays:=zIA (P:=P) (f:=f) (n:=n+1) (k:=k) (rows:=λi=>rows.getD i []) hR fm fd fC;let d:Array (Fin (n+1)):=Array.ofFn λi=>i
  have eU:d.size=n+1:=by simp[d]
  have iN:∀ j (hj:j<n+1),d[j]! = ⟨j,hj⟩:=λj hj=>by rw[getElem!_pos d j (by rw[eU];exact hj)];simp[d]
  have hholds:HoldsK enc k w g 0 d:=by
   intro t ht;rw[size_flatK,eU]at ht;have gZ:t / k<n+1:=(Nat.div_lt_iff_lt_mul cH).2 ht;have hm:t % k<k:=Nat.mod_lt _ cH;have htk2:t=t / k*k+t % k:=by rw[Nat.mul_comm];exact (Nat.div_add_mod t k).symm
   have htx:t<xs.length:=by rw[cj];exact ht
   have hc:cur[t]?=some xs[t]:=by have:xs[t]?=some xs[t]:=List.getElem?_eq_getElem _;rw[←this,←bm,List.getElem?_take,if_pos ht,Array.getElem?_toList]
   have hv:(flatK enc k d)[t]! = xs[t]:=by rw[get_flatK _ _ _ _ (by rw[eU];exact ht),iN _ gZ];have h3:=aC ⟨t / k,gZ⟩ (t % k) hm;simp only at h3;rw[←htk2,List.getElem?_eq_getElem htx,List.getElem?_eq_getElem (by rw[gD];exact hm)]at h3;rw[getElem!_pos (enc _) _ (by rw[gD];exact hm)];exact Option.some.inj h3
   refine⟨?_,?_⟩
   ·rw[Nat.zero_add,hv];simp[World.cell?,hw,hc]
   ·simp[World.frozen?,hw]
  have hO:SWO (ltOf λi j:Fin (n+1)=>cf i j):=⟨λx=>by simp only[ltOf,decide_eq_false_iff_not];exact lR x x.2,
   λx y z h1 h2=>by simp only[ltOf,decide_eq_true_eq]at *;exact lS x y z x.2 y.2 z.2 h1 h2,
   λx y z h1 h2=>by simp only[ltOf,decide_eq_false_iff_not]at *;exact lT x y z x.2 y.2 z.2 h1 h2⟩
  have cV:=Go.Proofs.AnyQ.slices_SortFunc (P:=P) (ρ:=ρ) L k aE zE enc gD bx (λi j=>cf i j) hO f #[] g 0 cap0 d w eg (by rw[eU];exact hlays) hholds kQ (by rw[eU];exact hn);rw[eU]at cV;refine cV.mono ?_;rintro e' w' ⟨rfl,d',m,os,lE,hsrt,rfl⟩;obtain⟨dI,_,mH⟩:=lE;have hds':d'.size=n+1:=dI.trans eU;have jX:(d'.toList.map Fin.val).Perm (List.range (n+1)):=by
   have h1:d'.toList.Perm d.toList:=by have e1:(d'.extract 0 (n+1))=d':=zw0 d' hds';have e2:(d.extract 0 (n+1))=d:=zw0 d eU;rwa [e1,e2]at mH
   exact (h1.map Fin.val).trans (List.Perm.of_eq (zHd _))
  have hS:=hR.sortedK hH hμ (flatK enc k d') (by rw[size_flatK,hds']) (cs':=((d'.toList.map Fin.val).map λi=>rows.getD i []).flatten) (by
   rw[zGm enc k cH gD,List.map_map];refine zv9 (All2.of_get (by simp) λi x y hx hy=>?_);simp only[List.getElem?_map,Option.map_eq_some_iff]at hx hy;obtain⟨a,ha,rfl⟩:=hx;obtain⟨b,hb,rfl⟩:=hy;rw[ha]at hb;cases hb;exact (fd a).mono λ_ _ h=>zwX h) m os
  refine⟨_,.tup [],_,G,rfl,hS.1,hS.2,⟨#[],rfl,trivial⟩,hK _ jX λa b ha hb a8=>?_⟩;simp only[List.length_map,Array.length_toList]at ha hb;have:=hsrt a b (Nat.zero_le _) a8 (by omega);rw[getElem!_pos d' a ha,getElem!_pos d' b hb]at this;simp only[ltOf,decide_eq_false_iff_not]at this;simpa using this
end Go.Abs
namespace Go.Proofs.YtdmamdnkcefmmaaGreatDoor
open Go Go.Shelf Go.Abs
def zJ0:Go.Shelf.Ren:=⟨λ| 6=>84 | 15=>137 | 14=>136 | 28=>185 | 29=>186 | 20=>177 | 21=>178 | 22=>179 | 23=>180 | 24=>181 | 25=>182 | 26=>183 | 27=>184 | 46=>217 | 47=>218 | 48=>219 | 49=>220 | 50=>221 | 57=>244 | n=>n,λ| 22=>31 | 24=>55 | 25=>127 | 3=>3 | 39=>184 | 0=>0 | 53=>88 | 55=>100 | 4=>4 | 46=>224 | 45=>223 | 50=>107 | 5=>5 | 9=>9 | 66=>260 | 70=>72 | 76=>288 | 77=>289 | n=>n,λ| n=>n⟩
theorem zJZ:Go.Proofs.SlLaysF0.n6 tP zJ0:={
 mixed:=by kernel_rfl
 f6:=⟨Tryz.f84.name,by decide,Tryz.func84.trans (congrArg some (by kernel_rfl))⟩
 f14:=⟨Tryz.f136.name,by decide,Tryz.func136.trans (congrArg some (by kernel_rfl))⟩
 f15:=Tryz.func137.trans (congrArg some (by kernel_rfl))
 f20:=⟨Tryz.f177.name,by decide,Tryz.func177.trans (congrArg some (by kernel_rfl))⟩
 f21:=⟨Tryz.f178.name,by decide,Tryz.func178.trans (congrArg some (by kernel_rfl))⟩
 f22:=⟨Tryz.f179.name,by decide,Tryz.func179.trans (congrArg some (by kernel_rfl))⟩
 f23:=⟨Tryz.f180.name,by decide,Tryz.func180.trans (congrArg some (by kernel_rfl))⟩
 f24:=⟨Tryz.f181.name,by decide,Tryz.func181.trans (congrArg some (by kernel_rfl))⟩
 f25:=⟨Tryz.f182.name,by decide,Tryz.func182.trans (congrArg some (by kernel_rfl))⟩
 f26:=⟨Tryz.f183.name,by decide,Tryz.func183.trans (congrArg some (by kernel_rfl))⟩
 f27:=⟨Tryz.f184.name,by decide,Tryz.func184.trans (congrArg some (by kernel_rfl))⟩
 f28:=Tryz.func185.trans (congrArg some (by kernel_rfl))
 f29:=Tryz.func186.trans (congrArg some (by kernel_rfl))
 f46:=⟨Tryz.f217.name,by decide,Tryz.func217.trans (congrArg some (by kernel_rfl))⟩
 f47:=Tryz.func218.trans (congrArg some (by kernel_rfl))
 f48:=Tryz.func219.trans (congrArg some (by kernel_rfl))
 f49:=⟨Tryz.f220.name,by decide,Tryz.func220.trans (congrArg some (by kernel_rfl))⟩
 f50:=⟨Tryz.f221.name,by decide,Tryz.func221.trans (congrArg some (by kernel_rfl))⟩
 f57:=⟨Tryz.f244.name,by decide,Tryz.func244.trans (congrArg some (by kernel_rfl))⟩
 t0:=Tryz.underlying0
 a0:=Tryz.isAgg0
 z0:=Tryz.sizeOf0
 v0:=Tryz.zeroValue0
 t3:=Tryz.underlying3
 a3:=Tryz.isAgg3
 z3:=Tryz.sizeOf3
 v3:=Tryz.zeroValue3
 t4:=Tryz.underlying4
 a4:=Tryz.isAgg4
 z4:=Tryz.sizeOf4
 v4:=Tryz.zeroValue4
 t5:=Tryz.underlying5
 a5:=Tryz.isAgg5
 z5:=Tryz.sizeOf5
 v5:=Tryz.zeroValue5
 t9:=Tryz.underlying9
 a9:=Tryz.isAgg9
 z9:=Tryz.sizeOf9
 v9:=Tryz.zeroValue9
 t22:=Tryz.underlying31
 a22:=Tryz.isAgg31
 z22:=Tryz.sizeOf31
 v22:=Tryz.zeroValue31
 t25:=Tryz.underlying127
 a25:=Tryz.isAgg127
 z25:=Tryz.sizeOf127
 v25:=Tryz.zeroValue127
 t39:=Tryz.underlying184
 a39:=Tryz.isAgg184
 z39:=Tryz.sizeOf184
 v39:=Tryz.zeroValue184
 t45:=Tryz.underlying223
 a45:=Tryz.isAgg223
 z45:=Tryz.sizeOf223
 v45:=Tryz.zeroValue223
 t46:=Tryz.underlying224
 a46:=Tryz.isAgg224
 z46:=Tryz.sizeOf224
 v46:=Tryz.zeroValue224
 t50:=Tryz.underlying107
 a50:=Tryz.isAgg107
 z50:=Tryz.sizeOf107
 v50:=Tryz.zeroValue107
 t53:=Tryz.underlying88
 a53:=Tryz.isAgg88
 z53:=Tryz.sizeOf88
 v53:=Tryz.zeroValue88
 t55:=Tryz.underlying100
 a55:=Tryz.isAgg100
 z55:=Tryz.sizeOf100
 v55:=Tryz.zeroValue100
 t66:=Tryz.underlying260
 a66:=Tryz.isAgg260
 z66:=Tryz.sizeOf260
 v66:=Tryz.zeroValue260
 t70:=Tryz.underlying72
 a70:=Tryz.isAgg72
 z70:=Tryz.sizeOf72
 v70:=Tryz.zeroValue72
 t76:=Tryz.underlying288
 a76:=Tryz.isAgg288
 z76:=Tryz.sizeOf288
 v76:=Tryz.zeroValue288
 t77:=Tryz.underlying289
 a77:=Tryz.isAgg289
 z77:=Tryz.sizeOf289
 v77:=Tryz.zeroValue289 }
end Go.Proofs.YtdmamdnkcefmmaaGreatDoor
namespace Go.Proofs.YtdmamdnkcefmmaaGreatDoor
open Go Go.Abs
theorem zJs {s:List (IT × Nat)} {k:Nat} (h:k<s.length):((tms s).drop (k*5)).take 5=tmC s[k]:=by have h1:=zrt h;have h2:=zru (Nat.le_of_lt h);rw[h1,List.drop_append,h2];simp[List.drop_of_length_le,h2]
theorem zvK {f:IT × Nat→List AV} {e size:Nat} {H1:zaa} {st:List (List (IT × Nat))} {i:Nat} {b:AB} (h:H1[i]?=some b) (J:zaa):(NX f e size H1 st++J)[i]?=some b:=by unfold NX;rw[List.append_assoc];exact zby h
theorem zHS (p q:IT × Nat) (hp:p.1.nodes≤1000000) (H:zaa) (K:Kt) (hK:K (.int .i64 (IT.cmp p.1 q.1)) H):ACalls tP zj3 [.agg (tmC p),.agg (tmC q)] H K:=by refine ACalls.out (zWz λhs=>?_);simp[zEs,ze7,zdF,Nat.add_assoc];refine zGA _ _ _ (Nat.le_refl _) hp _ _ ?_;exact Out.int rfl (Nat.le_refl _) hs hK
theorem zIB {H:zaa} {b:Nat} {l:List (IT × Nat)} (hb:H[b]?=some (.vec zaH 5 l.length (tms l))) (hn:l.length≤1000000) (kJ:∀ x∈l,x.1.nodes≤1000000) (K:Kt)
  (hK:∀ r:List (IT × Nat),r.Perm l→r.Pairwise (λp q=>¬ IT.cmp q.1 p.1<0)→K (.tup []) (H.set b (.vec zaH 5 l.length (tms r)))):ACalls tP zxW [.ov b l.length,.fn zj3 []] H K:=by
 let d0:IT × Nat:=(.mk 0 [],0)
 have jt:∀ i,i<l.length→(zaV l).getD i []=tmC (l.getD i d0):=λi hi=>by simp[zaV,List.getD_eq_getElem?_getD,hi]
 have hgm:∀ i,i<l.length→l.getD i d0∈l:=λi hi=>by simp[List.getD_eq_getElem?_getD,hi]
 have cmp_self:∀ a:IT,IT.cmp a a=0:=zgb;refine ACalls.sortFuncK zJZ (k:=5) (by omega) Tryz.isAgg55 Tryz.sizeOf55 hb (by omega) (zaV l) (λi j=>IT.cmp (l.getD i d0).1 (l.getD j d0).1) (by rw[zzv];exact zqL l) (by simp) (λr hr=>by
  obtain⟨x,_,rfl⟩:=List.mem_map.1 hr;simp) (λargs w=>rfl) (λi j hi hj=>?_) (λi hi=>?_) (λi j k hi hj hk h1 h2=>?_) (λi j k hi hj hk h1 h2=>?_) (λp hp hsort=>?_)
 ·rw[jt i hi,jt j hj];exact zHS _ _ (kJ _ (hgm i hi)) _ _ rfl
 ·rw[cmp_self];omega
 ·exact zwE h1 (by omega)
 ·have:=IT.cmp_tri (l.getD k d0).1 (l.getD j d0).1 (l.getD i d0).1;have a1:=IT.cmp_anti (l.getD i d0).1 (l.getD j d0).1;have a2:=IT.cmp_anti (l.getD j d0).1 (l.getD k d0).1;have a3:=IT.cmp_anti (l.getD i d0).1 (l.getD k d0).1;unfold Tri at this;omega
 ·have jX:∀ i∈p,i<l.length:=λi hi=>by simpa using hp.subset hi
  have dT:(List.range l.length).map (λi=>l.getD i d0)=l:=List.ext_getElem (by simp) λi h1 h2=>by simp[List.getD_eq_getElem?_getD,h2]
  have aI:(p.map λi=>l.getD i d0).Perm l:=by have h1:=hp.map λi=>l.getD i d0;rwa [dT]at h1
  have bi:(p.map λi=>(zaV l).getD i []).flatten=tms (p.map λi=>l.getD i d0):=by rw[tms,List.map_map];congr 1;refine List.map_congr_left λi hi=>?_;exact jt i (jX i hi)
  rw[bi];refine hK _ aI ?_;rw[List.pairwise_iff_getElem];intro a b ha hb a8;simp only[List.getElem_map];exact hsort a b (by simpa using ha) (by simpa using hb) a8
def zb3 (aa:List Dat) (t:VT) (u L:List (IT × Nat)) (k:Nat):List (List (IT × Nat)):=(List.range 7).map λd=>if d<k then ofD aa t L d else ofD aa t u d
@[simp] theorem zrd (aa:List Dat) (t:VT) (u L:List (IT × Nat)) (k:Nat):(zb3 aa t u L k).length=7:=by simp[zb3]
theorem zy0 (aa:List Dat) (t:VT) (u L:List (IT × Nat)) (k:Nat) {d:Nat} (h:d<7):(zb3 aa t u L k)[d]?=some (if d<k then ofD aa t L d else ofD aa t u d):=by simp[zb3,h]
theorem zIs (aa:List Dat) (t:VT) (u L:List (IT × Nat)):(zb3 aa t u L 7).flatten=zcc aa t L 7:=by unfold zb3 zcc;rw[List.flatMap_def];refine congrArg List.flatten (List.map_congr_left λd hd=>?_);rw[if_pos (by simpa using hd)]
theorem zIu {aa:List Dat} {t:VT} {u L:List (IT × Nat)} {k:Nat} (h:k<7):(zb3 aa t u L k).set k (ofD aa t L k)=zb3 aa t u L (k+1):=by
 refine List.ext_getElem (by simp) λi h1 h2=>?_;rw[List.getElem_set];simp only[zb3,List.getElem_map,List.getElem_range];split
 ·rename_i e;subst e;rw[if_pos (by omega)]
 ·rename_i e;by_cases hi:i<k
  ·rw[if_pos hi,if_pos (by omega)]
  ·rw[if_neg hi,if_neg (by omega)]
theorem zIt {aa:List Dat} {t:VT} {s L:List (IT × Nat)} {j d:Nat} (hj:j<s.length) (hd:d<7) (hr:rdV aa s[j].1 t=(d:Int)):(zb3 aa t (s.take j) L 0).set d (ofD aa t (s.take j) d++[s[j]])=zb3 aa t (s.take (j+1)) L 0:=by
 refine List.ext_getElem (by simp) λi h1 h2=>?_;rw[List.getElem_set];simp only[zb3,List.getElem_map,List.getElem_range,Nat.not_lt_zero,if_false];have aT:=zHc (aa:=aa) (t:=t) (d:=i) hj;split
 ·rename_i e;subst e;rw[aT,if_pos hr]
 ·rename_i e;rw[aT,if_neg (by omega),List.append_nil]
theorem zE1 {H:zaa} {st:List (List (IT × Nat))} {k:Nat} {M r:List (IT × Nat)} (aC:st[k]?=some M) (hl:r.length=M.length) :
  (NX tmC zaH 5 H st).set (H.length+1+k) (.vec zaH 5 M.length (tms r))=NX tmC zaH 5 H (st.set k r):=by
 obtain⟨hk,hM⟩:=List.getElem?_eq_some_iff.1 aC;have h1:=zvM tmC zaH 5 H [] st hk r;have hv:vcs (H.length+1) (st.set k r)=vcs (H.length+1) st:=by
  rw[←zrF,hl];refine List.ext_getElem? λi=>?_;rw[List.getElem?_set];split
  ·rename_i h;subst h;rw[if_pos (by simpa using hk),zrE _ aC]
  ·rfl
 simp only[List.append_nil]at h1;rw[hv]at h1;rw[←h1,hl,tms,List.flatMap_def];have hc:=zvJ tmC zaH 5 H st;have dv:∀ (X:zaa) (i:Nat) (b:AB),X[i]?=some b→X.set i b=X:=λX i b hb=>by
  refine List.ext_getElem? λj=>?_;by_cases hj:i=j
  ·subst hj;rw[List.getElem?_set_self (zbi hb),hb]
  ·rw[List.getElem?_set_ne hj]
 exact (dv _ _ _ (by rw[List.getElem?_set_ne (by omega)];exact hc)).symm
theorem zJk {aa:List Dat} (hk:zbb aa) (t:VT) (ht:t.nodes≤1000) (hf:zbx aa t=true) (H:zaa) (is im iv:Nat) (s L:List (IT × Nat)) (hS:Sw H is im iv (.sl (aa.map Dat.cs) .none::t.cs) s)
  (hv:∀ p∈s,p.1.nodes≤900∧0<p.2∧p.2<1000000000 ^ 20∧0≤rdV aa p.1 t∧rdV aa p.1 t≤6) (hn:(s.map Prod.fst).Nodup) (h0:0<s.length) (hl:s.length≤100000)
  (hL:Asc L) (hLl:L.length≤100000) (eQ:∀ p∈L,0<p.2) (d8:∀ g:IT→Nat,zaF g s=zaF g L) (K:Kt)
  (bD:1000<s.length→K (.tup [.sl [] .none,.int .i64 9]) H) (hK:s.length≤1000→K (.tup [.sl (zaV (zcc aa t L 7)) .none,.int .i64 0]) H):ACalls tP zqt [.ptr is 0] H K:=by
 refine ACalls.out (zT9 λhs=>?_);obtain⟨T,hT⟩:∃ T,T=(AV.sl (aa.map Dat.cs) .none::t.cs):=⟨_,rfl⟩;rw[←hT]at hS;have hT4:T.length=4:=hS.c4;have eY:=hS.h1;have bj:=zbi eY;have dW:(T++[.map im,.ov iv s.length])[0]?=some (.sl (aa.map Dat.cs) .none):=by rw[hT];rfl
 have bL:List.take 3 (T++[AV.map im,AV.ov iv s.length]).tail=t.cs:=by rw[hT];obtain⟨t1,t2,t3⟩:=t;rfl
 have kR:(T++[.map im,.ov iv s.length])[5]?=some (.ov iv s.length):=by rw[List.getElem?_append_right (by omega),hT4];rfl
 have hrep:(List.replicate 7 [AV.snil]).flatten=List.replicate 7 AV.snil:=rfl;simp[zDr,zba,hrep,zby eY,zdm _ kR,Nat.add_assoc];unfold znw;refine ALoop.nx tmC zaH 5 7 ?_;show znw (.ptr is 0) (.ms H.length 0 7 7) (.int .i64 0) (.ov iv s.length) (.int .i64 s.length) (.int .i64 0) (NX tmC zaH 5 H (List.replicate 7 [])) _;have hst0:List.replicate 7 []=zb3 aa t (s.take 0) L 0:=by simp[zb3,ofD,List.range_succ,List.replicate]
 rw[hst0];have hscN:∀ st,HSc (NX tmC zaH 5 H st):=λst=>zE2 hs λx n=>by have:=zrs [x] n;simpa[tms]using this
 refine zT6 (Inv:=λq t5 t17 H'=>∃ j:Nat,j≤s.length∧s.length-j=q∧t17=.int .i64 j∧t5=.int .i64 j∧H'=NX tmC zaH 5 H (zb3 aa t (s.take j) L 0)) s.length ?_ ?_
 ·intro _;exact⟨0,by omega,rfl,rfl,rfl,rfl⟩
 ·rintro q t5 t17 H' ⟨j,hj,rfl,rfl,rfl,rfl⟩ aM aq aO Kb aw;by_cases a6:j<s.length
  ·obtain⟨v1,v2,v3,v4,v5⟩:=hv _ (List.getElem_mem a6);obtain⟨d,hd⟩:∃ d:Nat,rdV aa s[j].1 t=d:=⟨(rdV aa s[j].1 t).toNat,by omega⟩;have hd7:d<7:=by omega
   have eC:=zIt (L:=L) a6 hd7 hd;have aC:=zy0 aa t (s.take j) L 0 hd7;simp only[Nat.not_lt_zero,if_false]at aC;have hol:(ofD aa t (s.take j) d).length≤100000:=Nat.le_trans zqC (by simp;omega);have eh:=zrd aa t (s.take j) L 0;generalize hM:ofD aa t (s.take j) d=M at *;generalize aT:zb3 aa t (s.take j) L 0=st at *;have mP:=λJ=>zvK (f:=tmC) (e:=zaH) (size:=5) (st:=st) hS.h3 J;have mQ:=λJ=>zvK (f:=tmC) (e:=zaH) (size:=5) (st:=st) hS.h1 J;have hiv0:=mP [];rw[List.append_nil]at hiv0;have h5:=zJs a6;have hb5:j*5+5≤s.length*5:=by omega
   simp[znt,a6,hiv0,h5,hb5,zeB,Nat.add_assoc];refine⟨zeB _,?_⟩;have iL:Sm (s[j].2:Int):=zdD (Nat.lt_of_lt_of_le v3 (by decide));rw[zdT];refine zEo s[j].2 iL _ _ ?_;have hne0:s[j].2≠0:=by omega
   have mD:(NX tmC zaH 5 H st).length=H.length+8:=by rw[zeH,eh]
   have aH:∀ J,(NX tmC zaH 5 H st++(AB.cells (tmC s[j])::J))[H.length+8]?=some (.cells (tmC s[j])):=λJ=>by rw[←mD];simp
   have jq:=λJ=>zvI tmC zaH 5 H J st;have jG:=λJ=>zvH tmC zaH 5 H J aC;have hY:=zrE (H.length+1) aC;rw[mD];simp[hne0,mQ,zdm _ dW,bL,aH,zdF,zdT,hT4];refine zaB (.int .i64 d) (λJ=>zuj aa hk t ht s[j].1 (by omega) _ _ ⟨by rw[←hd];unfold zbd;rw[if_pos hf],rfl⟩) ?_;have hd7':(d:Int)<7:=by omega
   simp[hd7',zal,jq,zdm _ hY,aH,zdF,zdT];refine zaB (.agg s[j].1.cs) (λJ=>zWs _ s[j].1 (Nat.le_refl _) (by omega) _ _ ⟨rfl,rfl⟩) ?_;try simp[aH,zdT]
   refine zaB (.agg (zai (s[j].2:Int))) (λJ=>zWw _ iL _ _ ⟨rfl,rfl⟩) ?_;have mR:List.drop 5 (s[j].1.cs++[AV.bool false,.snil,.snil])=[]:=List.drop_of_length_le (by simp);have fW:∀ x∈s[j].1.cs,x.known=true:=List.all_eq_true.1 (IT.cs_known s[j].1);have kT:∀ x∈zai (s[j].2:Int),x.known=true:=List.all_eq_true.1 (zh3 _);have dx:plain ([.int .i64 0,.snil,.bool false,.snil,.snil]:List AV)=some [.int .i64 0,.sl [] .none,.bool false,.sl [] .none,.sl [] .none]:=rfl;simp[zau,zaL,mR];rw[show s[j].1.cs++zai (s[j].2:Int)=tmC s[j] from rfl];simp[zaw,zaT,zqK,dx];simp only[zax,zaN,zaK,jG];have dp:d<st.length:=by omega
   have aX:=zvM tmC zaH 5 H [AB.cells (tmC s[j])] st dp (M++[s[j]]);have gV:(M++[s[j]]).length=M.length+1:=by simp
   have hfm:(M++[s[j]]).flatMap tmC=M.flatMap tmC++tmC s[j]:=by simp
   rw[gV,hfm,←zJN _ _ dp,gV,eC]at aX;have hXc:=jq [AB.cells (tmC s[j])];have hXb:=jG [AB.cells (tmC s[j])];generalize hX:NX tmC zaH 5 H st++[AB.cells (tmC s[j])]=X at *;have ck:=zbi hXb;have g2:∀ v,(X.set (H.length+1+d) v)[H.length]?=some (.cells (vcs (H.length+1) st)):=λv=>by rw[List.getElem?_set_ne (by omega)];exact hXc
   simp[g2];refine⟨⟨by omega,by omega⟩,by omega,?_⟩;rw[aX];simp[zut,zDs,wi j (by omega)];exact aw _ _ ⟨s.length-(j+1),by omega,Back.at (J:=[.cells (tmC s[j])]) (H2:=NX tmC zaH 5 H (zb3 aa t (s.take (j+1)) L 0)) rfl (by simp[zeH]) (hscN _) (by
    have h3:=zbi hS.h3;simp[znv,ux,AV.sc,AV.scA,AV.scB,AV.scV,zeH];omega) ⟨_,_,rfl,j+1,by omega,rfl,rfl,rfl,rfl⟩⟩
  ·obtain rfl:j=s.length:=by omega
   rw[List.take_length]at *;by_cases cq:1000<s.length
   ·have cW:(1000:Int)<(s.length:Int):=by omega
    simp[znt,cW];obtain⟨J,hJ⟩:=zvL tmC zaH 5 H (zb3 aa t s L 0);rw[←hJ];exact⟨⟨rfl,rfl⟩,Out.tup (bs:=[.sl [] .none,.int .i64 9]) hs (bD cq) ⟨zdS,zaU rfl rfl,trivial⟩⟩
   ·have cW:¬ (1000:Int)<(s.length:Int):=by omega
    simp[znt,cW];refine zT5 (Inv:=λq t59 H'=>∃ k:Nat,k≤7∧7-k=q∧t59=.int .i64 k∧H'=NX tmC zaH 5 H (zb3 aa t s L k)) 7 ?_ ?_
    ·intro _;exact⟨0,by omega,rfl,rfl,rfl⟩
    ·rintro q t59 H' ⟨k,hk7,rfl,rfl,rfl⟩ hsc14 hlen14 hsF14 Kb14 gq;by_cases ap:k<7
     ·have aS:(k:Int)<7:=by omega
      have aC:=zy0 aa t s L k ap;simp only[Nat.lt_irrefl,if_false]at aC;have aT:=zIu (aa:=aa) (t:=t) (u:=s) (L:=L) ap;have eh:=zrd aa t s L k;obtain⟨M,hM⟩:∃ M,M=ofD aa t s k:=⟨_,rfl⟩;obtain⟨st,cT⟩:∃ st,st=zb3 aa t s L k:=⟨_,rfl⟩;rw[←hM]at aC;rw[←cT]at aC aT eh hsF14 hsc14 ⊢;have jq:=zvJ tmC zaH 5 H st;have hY:=zrE (H.length+1) aC;have jG:=zvH tmC zaH 5 H [] aC;rw[List.append_nil]at jG;have hMl:M.length≤100000:=by rw[hM];exact Nat.le_trans zqC (by omega)
      simp[zus,aS,jq,zdm _ hY];refine zIB (b:=H.length+1+k) (l:=M) (by rw[jG,tms,List.flatMap_def]) (by omega) (λp hp=>by
       rw[hM]at hp;have:=hv p (List.mem_filter.1 hp).1;omega) _ λr f7 eZ=>?_
      have hre:r=ofD aa t L k:=zFz (by rw[←hM];exact f7) eZ hn (λp hp=>(hv p hp).2.1) hL eQ d8;have dP:r.length=M.length:=f7.length_eq;rw[zE1 aC dP,hre,aT,wi k (by omega)];exact gq _ _ ⟨7-(k+1),by omega,Back.at (J:=[]) (H2:=NX tmC zaH 5 H (zb3 aa t s L (k+1))) (by simp) (by simp[zeH]) (hscN _) (by simp[znu,ux,AV.sc,AV.scA,AV.scB,AV.scV,zeH];try omega) ⟨_,rfl,k+1,by omega,rfl,rfl,rfl⟩⟩
     ·obtain rfl:k=7:=by omega
      have eA:=zIs aa t s L;have bR:=zIo (zb3 aa t s L 7);simp[zus];rw[zrd,eA]at bR;have hrg:∀ p∈L,0≤rdV aa p.1 t∧rdV aa p.1 t≤6:=λp hp=>by obtain⟨q,hq,he⟩:=zep (λg=>(d8 g).symm) hp (eQ p hp);have:=hv q hq;rw[←he];omega
      have cD:=zqD (aa:=aa) (t:=t) (s:=L) 7;have bX:0<(zcc aa t L 7).length:=by
       have h1:=zyf hrg (λ_=>1);have h2:=d8 (λ_=>1);rw[zdi,zdi]at h1;cases ho:zcc aa t L 7 with
       | nil=>
        rw[ho,zrh]at h1;cases fP:s with
        | nil=>rw[fP]at h0;simp at h0
        | cons p s'=>have:=(hv p (by rw[fP];simp)).2.1;rw[fP,zbf]at h2;omega
       | cons p o=>simp
      refine bR bX (by omega) (by omega) H _ ?_;obtain⟨J,hJ⟩:=zvL tmC zaH 5 H (zb3 aa t s L 7);rw[←hJ];exact⟨⟨rfl,rfl⟩,Out.tup (bs:=[.sl (zaV (zcc aa t L 7)) .none,.int .i64 0]) hs (hK (by omega)) ⟨zaU rfl rfl,zaU rfl rfl,trivial⟩⟩
theorem zrr (a:List (IT × Nat)) (i:IT) (c:Nat):zaV a++[i.cs++zai (c:Int)]=zaV (a++[(i,c)]):=by simp[zaV,tmC]
theorem zG2 {aa:List Dat} (h8:∀ D∈aa,D.cons.length≤8) {f:Nat} (hQ:ziU aa f) (hM:ziT aa f):zoB aa (f+1):=by
 intro t i j hf gN dU hi hj h6 hn H K hK;obtain⟨k,tn,tks⟩:=t;obtain⟨n,l⟩:=i;obtain⟨n',m⟩:=j;simp only[IT.nodes]at hf hn;refine ACalls.out (zT0 λhs=>?_);have eu:(VT.mk k tn tks).cs=[.int .i64 k,.int .i64 tn,.sl (VT.css tks) .none]:=rfl;have iC:(IT.mk n l).cs=[.int .i64 n,.sl (IT.css l) .none]:=rfl;have jJ:(IT.mk n' m).cs=[.int .i64 n',.sl (IT.css m) .none]:=rfl;have dI:plain ([.int .i64 0,.snil,.bool false,.snil,.snil]:List AV)=some [.int .i64 0,.sl [] .none,.bool false,.sl [] .none,.sl [] .none]:=rfl;have iz:(H++[AB.cells (VT.mk k tn tks).cs,.cells (IT.mk n l).cs,.cells (IT.mk n' m).cs]).length=H.length+3:=by simp
 have dZ:∀ c,HSc (H++[AB.cells (VT.mk k tn tks).cs,.cells (IT.mk n l).cs,.cells (IT.mk n' m).cs,.perm zaH 5 c]):=λc=>hs.append (by simp[AB.sc,VT.cs,IT.cs,AV.scA,AV.scB]);by_cases k6:k=6
 ·subst k6;have ev:∀ (n:Int) (l:List IT),0≤rdV aa (.mk n l) (.mk 6 tn tks)→n=0∧l.length=tks.length∧rdV aa (.mk n l) (.mk 6 tn tks)=rdA aa l tks 0:=λn l h=>by
   rw[rdV]at h ⊢;simp only[VT.kind,VT.kids,if_true]at h ⊢;by_cases hn:n=0
   ·by_cases hl:tks.length=l.length
    ·simp[hn,hl]
    ·simp[hn,hl]at h
   ·simp[hn]at h
  obtain⟨i1,i2,i3⟩:=ev n l hi;obtain⟨j1,j2,j3⟩:=ev n' m hj;rw[i3]at hi h6;rw[j3]at hj h6;have cu:=VT.len_le tks;have bp:∀ (ts:List VT) (x:VT),x∈ts→x.nodes≤VT.nodesL ts:=by
   intro ts;induction ts with
   | nil=>intro x hx;simp at hx
   | cons t ts ih=>
    intro x hx;simp only[VT.nodesL];rcases List.mem_cons.1 hx with rfl | hx
    ·omega
    ·have:=ih x hx;omega
  have htks:∀ x∈tks,x.nodes≤1000∧zaZ aa 0 x=true:=λx hx=>by have:=bp tks x hx;simp only[VT.nodes]at gN;exact⟨by omega,zry dU x hx⟩
  simp only[VT.nodes]at gN;obtain⟨R,hR⟩:∃ R,R=zct aa f tks l m:=⟨_,rfl⟩;obtain⟨R1,R2,R3,R4⟩:=zwp h8 (f:=f) (ts:=tks) (l:=l) (m:=m) (by omega) i2 j2 hi hj h6;rw[←hR]at R1 R2 R3 R4;have iB:zbo aa (f+1) (.mk 6 tn tks) (.mk n l) (.mk n' m)=R.map λr=>(.mk 0 r.1,r.2):=by rw[zbo,hR];simp[VT.kind,VT.kids,zaz]
  rw[iB]at hK;simp[ziC,eu,iC,jJ,Nat.add_assoc];refine hQ tks l m (by omega) i2 j2 (by omega) htks hi hj h6 (by omega) _ _ ?_;rw[←hR];simp;rw[←eu,←iC,←jJ];unfold zns;refine ALoop.own 9 zaH 5 rfl ?_;rw[iz,List.append_assoc];show zns (.sl (zaV ((R.take 0).map λr=>(IT.mk 0 r.1,r.2))) (.own (H.length+3))) _ _ _ (H++[AB.cells (VT.mk 6 tn tks).cs,.cells (IT.mk n l).cs,.cells (IT.mk n' m).cs,.perm zaH 5 0]) _;refine zTW (Inv:=λq t9 t36 H'=>∃ q':Nat,q'≤R.length∧R.length-q'=q∧t36=.int .i64 q'∧t9=.sl (zaV ((R.take q').map λr=>(IT.mk 0 r.1,r.2))) (.own (H.length+3))∧H'=H++[AB.cells (VT.mk 6 tn tks).cs,.cells (IT.mk n l).cs,.cells (IT.mk n' m).cs,.perm zaH 5 q']) R.length ?_ ?_
  ·intro _;exact⟨0,by omega,rfl,rfl,rfl,rfl⟩
  ·rintro q t9 t36 H' ⟨q',hq,rfl,rfl,rfl,rfl⟩ hsc6 hlen6 hsF6 Kb6 jK;have dH:min q' R.length=q':=by omega
   by_cases iT:q'<R.length
   ·have aT:(R.take (q'+1)).map (λr=>(IT.mk 0 r.1,r.2))=(R.take q').map (λr=>(IT.mk 0 r.1,r.2))++[(IT.mk 0 R[q'].1,R[q'].2)]:=by rw[List.take_succ_eq_append_getElem iT];simp only[List.map_append,List.map_cons,List.map_nil]
    simp[zup,iT,zau,zaL,wi q' (by omega),AV.known,zaw,zaT,plain,AV.pd,zdf,dI];simp only[zax,zaN,zaK];simp[dH,List.set_append_right];refine⟨⟨by omega,by omega⟩,?_⟩;have kU:zaV (List.take q' (List.map (λr=>(IT.mk 0 r.1,r.2)) R))++[.int .i64 0::.sl (IT.css R[q'].1) .none::zai (R[q'].2:Int)]=zaV ((R.take (q'+1)).map λr=>(IT.mk 0 r.1,r.2)):=by rw[aT,←zrr,List.map_take];rfl
    rw[kU];exact jK _ _ ⟨R.length-(q'+1),by omega,Back.at (J:=[.cells (.sl (IT.css R[q'].1) .none::zai (R[q'].2:Int))]) (H2:=H++[AB.cells (VT.mk 6 tn tks).cs,.cells (IT.mk n l).cs,.cells (IT.mk n' m).cs,.perm zaH 5 (q'+1)]) (by simp) (by simp) (dZ _) (by simp[znn,ux,AV.sc,AV.scA,AV.scB,AV.scV]) ⟨_,_,rfl,q'+1,by omega,rfl,rfl,rfl,rfl⟩⟩
   ·obtain rfl:q'=R.length:=by omega
    rw[List.take_length];simp[zup,zfY,zno];exact Out.at (b:=.sl (zaV (R.map λr=>(IT.mk 0 r.1,r.2))) .none) rfl (Nat.le_refl _) hs (.atom (.sl _ _)) rfl rfl hK
 ·by_cases k7:k=7
  ·subst k7;have ev:∀ (n:Int) (l:List IT),0≤rdV aa (.mk n l) (.mk 7 tn tks)→0≤n∧n≤6∧rdV aa (.mk n l) (.mk 7 tn tks)=n:=λn l h=>by
    rw[rdV]at h ⊢;simp only[VT.kind,k6,if_false,if_true]at h ⊢;by_cases hc:0≤n∧n≤6∧l.length=0
    ·rw[if_pos hc];exact⟨hc.1,hc.2.1,rfl⟩
    ·rw[if_neg hc]at h;omega
   obtain⟨i1,i2,i3⟩:=ev n l hi;obtain⟨j1,j2,j3⟩:=ev n' m hj;rw[i3]at hi h6;rw[j3]at hj h6;obtain⟨a,rfl⟩:∃ a:Nat,n=a:=⟨n.toNat,by omega⟩;obtain⟨b,rfl⟩:∃ b:Nat,n'=b:=⟨n'.toNat,by omega⟩;have iB:zbo aa (f+1) (.mk 7 tn tks) (.mk a l) (.mk b m)=(zbG a b).filter λp=>p.2 != 0:=by rw[zbo];simp[VT.kind,zaJ]
   rw[iB]at hK;simp[ziC,eu,iC,jJ,Nat.add_assoc];refine zWc a b (by omega) (by omega) _ _ ?_;simp;rw[←eu,←iC,←jJ];unfold znq;refine ALoop.own 9 zaH 5 rfl ?_;rw[iz,List.append_assoc];have bW:(zc1 a b (a+b+1)).length=a+b+1:=by simp[zc1]
   have eH:(zbG a b).length=a+b+1:=by simp[zbG]
   show znq (.sl (zaV (((zbG a b).take 0).filter λp=>p.2 != 0)) (.own (H.length+3))) _ _ _ (H++[AB.cells (VT.mk 7 tn tks).cs,.cells (IT.mk a l).cs,.cells (IT.mk b m).cs,.perm zaH 5 0]) _;refine zTU (Inv:=λq t9 t62 H'=>∃ q':Nat,q'≤a+b+1∧a+b+1-q'=q∧t62=.int .i64 q'∧t9=.sl (zaV (((zbG a b).take q').filter λp=>p.2 != 0)) (.own (H.length+3))∧H'=H++[AB.cells (VT.mk 7 tn tks).cs,.cells (IT.mk a l).cs,.cells (IT.mk b m).cs,.perm zaH 5 (((zbG a b).take q').filter λp=>p.2 != 0).length]) (a+b+1) ?_ ?_
   ·intro _;exact⟨0,by omega,rfl,rfl,rfl,rfl⟩
   ·rintro q t9 t62 H' ⟨q',hq,rfl,rfl,rfl,rfl⟩ hsc13 hlen13 hsF13 Kb13 e5;by_cases iT:q'<a+b+1
    ·have hq':q'<(zbG a b).length:=by omega
     have hql':(q':Int)<(a:Int)+(b:Int)+1:=by omega
     have he:(zbG a b)[q']=(.mk (q':Int) [],pcf a b q'):=by simp[zbG]
     have aT:((zbG a b).take (q'+1)).filter (λp=>p.2 != 0)=((zbG a b).take q').filter (λp=>p.2 != 0)++(if pcf a b q'=0 then [] else [(.mk (q':Int) [],pcf a b q')]):=by rw[List.take_succ_eq_append_getElem hq',he,List.filter_append];by_cases h0:pcf a b q'=0 <;> simp[h0]
     have bi:(((zbG a b).take q').filter λp=>p.2 != 0).length≤20:=Nat.le_trans (List.length_filter_le _ _) (by simp;omega);have jV:(zcr (zc1 a b (a+b+1)))[q']?=some (zai (pcf a b q':Int)):=by simp[zcr,zc1,iT]
     obtain⟨s,fP⟩:∃ s,s=((zbG a b).take q').filter λp=>p.2 != 0:=⟨_,rfl⟩;rw[←fP]at aT bi ⊢;have hNa:zaG (λ_=>1) (zbG a b)≤729:=by rw[zbG,zgB];have:=zwe a (by omega) b (by omega) (by omega);unfold zb4 at this;refine Nat.le_trans (by simpa using this) (Nat.le_trans (Nat.pow_le_pow_right (by omega) (show a+b≤6 by omega)) (by decide))
     have hpc:pcf a b q'≤729:=by have hc:=zpA (List.getElem_mem hq');rw[he]at hc;exact Nat.le_trans hc hNa
     have hsmp:pcf a b q'<1000000000 ^ 30:=Nat.lt_of_le_of_lt hpc (by decide);simp[zun,bW,hql',jV,zcQ];refine zEo (pcf a b q') (zdD hsmp) _ _ ?_;by_cases h0:pcf a b q'=0
     ·rw[if_pos h0,List.append_nil]at aT;simp[h0,znp,zuq,wi q' (by omega)];have cT:s=List.filter (λp=>p.2 != 0) ((zbG a b).take (q'+1)):=aT.symm;exact e5 _ _ ⟨a+b+1-(q'+1),by omega,Back.at (J:=[.cells (zai 0)]) (H2:=H++[AB.cells (VT.mk 7 tn tks).cs,.cells (IT.mk a l).cs,.cells (IT.mk b m).cs,.perm zaH 5 s.length]) (by simp) (by simp) (dZ _) (by simp[ziD,ux,AV.sc,AV.scA,AV.scB,AV.scV]) ⟨_,_,by simp only[bW];rfl,q'+1,by omega,rfl,rfl,by rw[←cT],by rw[←cT]⟩⟩
     ·rw[if_neg h0]at aT;simp[h0,zau,zaL,zaw,zaT,plain,AV.pd,AV.known,zdf,dI];simp only[zax,zaN,zaK];simp[List.set_append_right,znp,zuq,wi q' (by omega)];refine⟨⟨by omega,by omega⟩,?_⟩;have kU:zaV s++[.int .i64 (q':Int)::.sl [] .none::zai (pcf a b q':Int)]=zaV (((zbG a b).take (q'+1)).filter λp=>p.2 != 0):=by rw[aT,←zrr];rfl
      have cS:s.length+1=(((zbG a b).take (q'+1)).filter λp=>p.2 != 0).length:=by rw[aT];simp
      rw[kU,cS];exact e5 _ _ ⟨a+b+1-(q'+1),by omega,Back.at (J:=[.cells (zai (pcf a b q':Int))]) (H2:=H++[AB.cells (VT.mk 7 tn tks).cs,.cells (IT.mk a l).cs,.cells (IT.mk b m).cs,.perm zaH 5 (((zbG a b).take (q'+1)).filter λp=>p.2 != 0).length]) (by simp) (by simp) (dZ _) (by simp[ziD,ux,AV.sc,AV.scA,AV.scB,AV.scV]) ⟨_,_,by simp only[bW];rfl,q'+1,by omega,rfl,rfl,rfl,rfl⟩⟩
    ·obtain rfl:q'=a+b+1:=by omega
     rw[List.take_of_length_le (by omega)];simp[zun,zfY,zno,bW];exact Out.at (b:=.sl (zaV ((zbG a b).filter λp=>p.2 != 0)) .none) rfl (Nat.le_refl _) hs (.atom (.sl _ _)) rfl rfl hK
  ·by_cases k5:k=5
   ·subst k5;have ev:∀ (n:Int) (l:List IT),0≤rdV aa (.mk n l) (.mk 5 tn tks)→n=0∧l.length≤6∧rdV aa (.mk n l) (.mk 5 tn tks)=rdE aa l (.mk 5 tn tks) 0:=λn l h=>by
     rw[zks]at h ⊢;by_cases hc:n=0∧l.length≤6
     ·rw[if_pos hc];exact⟨hc.1,hc.2,rfl⟩
     ·rw[if_neg hc]at h;omega
    obtain⟨i1,i2,i3⟩:=ev n l hi;obtain⟨j1,j2,j3⟩:=ev n' m hj;rw[i3]at hi h6;rw[j3]at hj h6;obtain⟨R,hR⟩:∃ R,R=za4 aa f (.mk 5 tn tks) l m:=⟨_,rfl⟩;obtain⟨R1,R2,R3,R4⟩:=zi4 h8 (f:=f) (t:=.mk 5 tn tks) (l:=l) (m:=m) (by omega) hi hj h6;rw[←hR]at R1 R2 R3 R4;have iB:zbo aa (f+1) (.mk 5 tn tks) (.mk n l) (.mk n' m)=R.map λr=>(.mk 0 r.1,r.2):=by rw[zbo,hR];simp[VT.kind,zaz]
    rw[iB]at hK;simp[ziC,eu,iC,jJ,Nat.add_assoc];rw[←eu];refine hM (.mk 5 tn tks) l m (by omega) gN dU rfl hi hj h6 (by omega) _ _ ?_;rw[←hR];simp;rw[←iC,←jJ];unfold znr;refine ALoop.own 9 zaH 5 rfl ?_;rw[iz,List.append_assoc];show znr (.sl (zaV ((R.take 0).map λr=>(IT.mk 0 r.1,r.2))) (.own (H.length+3))) _ _ _ (H++[AB.cells (VT.mk 5 tn tks).cs,.cells (IT.mk n l).cs,.cells (IT.mk n' m).cs,.perm zaH 5 0]) _;refine zTV (Inv:=λq t9 t36 H'=>∃ q':Nat,q'≤R.length∧R.length-q'=q∧t36=.int .i64 q'∧t9=.sl (zaV ((R.take q').map λr=>(IT.mk 0 r.1,r.2))) (.own (H.length+3))∧H'=H++[AB.cells (VT.mk 5 tn tks).cs,.cells (IT.mk n l).cs,.cells (IT.mk n' m).cs,.perm zaH 5 q']) R.length ?_ ?_
    ·intro _;exact⟨0,by omega,rfl,rfl,rfl,rfl⟩
    ·rintro q t9 t36 H' ⟨q',hq,rfl,rfl,rfl,rfl⟩ hsc6 hlen6 hsF6 Kb6 jK;have dH:min q' R.length=q':=by omega
     by_cases iT:q'<R.length
     ·have aT:(R.take (q'+1)).map (λr=>(IT.mk 0 r.1,r.2))=(R.take q').map (λr=>(IT.mk 0 r.1,r.2))++[(IT.mk 0 R[q'].1,R[q'].2)]:=by rw[List.take_succ_eq_append_getElem iT];simp only[List.map_append,List.map_cons,List.map_nil]
      simp[zuo,iT,zau,zaL,wi q' (by omega),AV.known,zaw,zaT,plain,AV.pd,zdf,dI];simp only[zax,zaN,zaK];simp[dH,List.set_append_right];refine⟨⟨by omega,by omega⟩,?_⟩;have kU:zaV (List.take q' (List.map (λr=>(IT.mk 0 r.1,r.2)) R))++[.int .i64 0::.sl (IT.css R[q'].1) .none::zai (R[q'].2:Int)]=zaV ((R.take (q'+1)).map λr=>(IT.mk 0 r.1,r.2)):=by rw[aT,←zrr,List.map_take];rfl
      rw[kU];exact jK _ _ ⟨R.length-(q'+1),by omega,Back.at (J:=[.cells (.sl (IT.css R[q'].1) .none::zai (R[q'].2:Int))]) (H2:=H++[AB.cells (VT.mk 5 tn tks).cs,.cells (IT.mk n l).cs,.cells (IT.mk n' m).cs,.perm zaH 5 (q'+1)]) (by simp) (by simp) (dZ _) (by simp[znm,ux,AV.sc,AV.scA,AV.scB,AV.scV]) ⟨_,_,rfl,q'+1,by omega,rfl,rfl,rfl,rfl⟩⟩
     ·obtain rfl:q'=R.length:=by omega
      rw[List.take_length];simp[zuo,zfY,zno];exact Out.at (b:=.sl (zaV (R.map λr=>(IT.mk 0 r.1,r.2))) .none) rfl (Nat.le_refl _) hs (.atom (.sl _ _)) rfl rfl hK
   ·have iB:zbo aa (f+1) (.mk k tn tks) (.mk n l) (.mk n' m)=[(.mk 0 [],1)]:=by rw[zbo];simp[VT.kind,k6,k7,k5]
    rw[iB]at hK;have b6:(k == 6)=false:=by simpa using k6
    have b7:(k == 7)=false:=by simpa using k7
    have b5:(k == 5)=false:=by simpa using k5
    simp[ziC,eu,iC,jJ,b6,b7,b5,zau,zaL,AV.known,Nat.add_assoc];refine zeF 1 (by omega) _ _ ?_;simp[zau,zaL,zaw,zaT,plain,AV.pd,AV.known,zdf,zax,zaN,zaK];exact Out.at (b:=.sl (zaV [(IT.mk 0 [],1)]) .none) rfl (Nat.le_refl _) hs (.atom (.sl _ _)) rfl rfl hK
theorem zxN {aa:List Dat} (hk:zbb aa) (h8:∀ D∈aa,D.cons.length≤8) (hD:zbn aa=true):∀ f,zoB aa f∧ziU aa f∧ziT aa f
 | 0=>⟨λt i j h=>by have:=i.nodes_pos;omega,λts l m h=>by omega,λt l m h=>by omega⟩
 | f+1=>by obtain⟨h1,h2,h3⟩:=zxN hk h8 hD f;exact⟨zG2 h8 h2 h3,zHZ h8 h1,zGV hk h8 hD h2 h3⟩
end Go.Proofs.YtdmamdnkcefmmaaGreatDoor
namespace Go.Proofs.YtdmamdnkcefmmaaGreatDoor
open Go Go.Abs
set_option maxRecDepth 100000
section
variable (t0 t1 t2 t3:AV) (H:zaa) (K:Kt)
def zK2 (_:Nat):List Bool:=[]
noncomputable def zK3:Code:=Tryz.f12.body.getD .skip
def zz6:Prop:=zaq t1 H λt5 H=>zaq t2 H λt6 H=>zaq t3 H λt7 H=>zab H (λK'=>K' t0 H) λt13=>zab H (λK'=>zal true 3 t5 H (K' · H)) λt14=>zab H (λK'=>zal true 2 t6 H (K' · H)) λt15=>zaC H (λH K'=>ACalls tP zhN [t13,t14,t15] H K') λt16=>zab H (λK'=>K' t0 H) λt17=>zab H (λK'=>zal true 3 t5 H (K' · H)) λt18=>zab H (λK'=>zal true 2 t7 H (K' · H)) λt19=>zaC H (λH K'=>ACalls tP zhN [t17,t18,t19] H K') λt20=>zab H (λK'=>K' t16 H) λt10=>zab H (λK'=>K' t20 H) λt11=>zac .lss false t10 (.int .i64 0) λt22=>zad t22 false H (λK'=>K' t11 H) λt24 H=>zad t22 false H (λK'=>zac .lss false t24 (.int .i64 0) (K' · H)) λt25 H=>zam t22 (.bool true) t25 λt26=>zag t26 (zaE [.snil,(.int .i64 1)] (K · H)) (zac .add false t10 t11 λt29=>zac .gtr false t29 (.int .i64 6) λt30=>zag t30 (zaE [.snil,(.int .i64 13)] (K · H)) (zae true 3 t5 H λt32=>ACalls tP zqr [t0,t32] H λt33 H=>zae true 3 t5 H λt36=>zae true 2 t6 H λt37=>zae true 2 t7 H λt38=>ACalls tP zjR [t0,t36,t37,t38] H λt39 H=>ACalls tP zqs [t33,t39] H λt40 H=>ACalls tP zqt [t33] H λt42 H=>zaA t42 0 λt43=>zaA t42 1 λt44=>zaE [t43,t44] (K · H)))
def zWM (_:Nat):List Bool:=[]
noncomputable def zWN:Code:=Tryz.f10.body.getD .skip
def zq8:Prop:=zaq t1 H λt3 H=>ACalls tP zqp [t0] H λt6 H=>zad t6 true H (λK'=>zae true 3 t3 H (K' · H)) λt8 H=>zad t6 true H (λK'=>ACalls tP zqq [t8] H K') λt9 H=>zam t6 t9 (.bool false) λt10=>K t10 H
def zMy (_:Nat):List Bool:=[]
noncomputable def zMz:Code:=Tryz.f15.body.getD .skip
def zAH:Prop:=zau [(.int .i64 0),(.int .i64 0),.snil] [(0,1),(1,1),(2,1)] [(0,(.int .i64 1))] λt4=>zaw 3 [(.int .i64 0),(.int .i64 0),.snil] 1 [(0,t4)] λt5=>zau [(.int .i64 0),(.int .i64 0),.snil] [(0,1),(1,1),(2,1)] [(0,(.int .i64 7)),(2,t5)] λt6=>zav [(.int .i64 0),(.int .i64 0),.snil] H λt1 H=>zan 3 t1 t6 H λH=>zae true 3 t1 H λt8=>zau [(.int .i64 0),.snil] [(0,1),(1,1)] [(0,(.int .i64 1))] λt9=>zau [(.int .i64 0),.snil] [(0,1),(1,1)] [(0,(.int .i64 1))] λt10=>ACalls tP zjf [.snil,t8,t9,t10] H λt11 H=>zaA t11 0 λt12=>zaA t11 1 λt13=>zab H (λK'=>K' t13 H) λt14=>zab H (λK'=>zac .eql false t14 (.int .i64 0) (K' · H)) λt15=>zab H (λK'=>K' t15 H) λt16=>zad t16 true H (λK'=>zab H (λK''=>K'' t12 H) (K' · H)) λt17 H=>zad t16 true H (λK'=>zab H (λK''=>zah 1 t17 (K'' · H)) (K' · H)) λt18 H=>zad t16 true H (λK'=>zab H (λK''=>zac .eql false t18 (.int .i64 2) (K'' · H)) (K' · H)) λt19 H=>zab H (λK'=>zam t16 t19 (.bool false) (K' · H)) λt20=>zab H (λK'=>K' t20 H) λt21=>zad t21 true H (λK'=>zab H (λK''=>K'' t12 H) (K' · H)) λt22 H=>zad t21 true H (λK'=>zab H (λK''=>zaj 5 t22 (.int .i64 1) (K'' · H)) (K' · H)) λt23 H=>zad t21 true H (λK'=>zab H (λK''=>zaf 0 t23 (K'' · H)) (K' · H)) λt24 H=>zad t21 true H (λK'=>zab H (λK''=>zaf 0 t24 (K'' · H)) (K' · H)) λt25 H=>zad t21 true H (λK'=>zab H (λK''=>zal false 1 t25 H (K'' · H)) (K' · H)) λt26 H=>zad t21 true H (λK'=>zab H (λK''=>zac .eql false t26 (.int .i64 2) (K'' · H)) (K' · H)) λt27 H=>zab H (λK'=>zam t21 t27 (.bool false) (K' · H)) λt28=>zab H (λK'=>K' t28 H) λt29=>zad t29 true H (λK'=>zab H (λK''=>K'' t12 H) (K' · H)) λt30 H=>zad t29 true H (λK'=>zab H (λK''=>zaj 5 t30 (.int .i64 1) (K'' · H)) (K' · H)) λt31 H=>zad t29 true H (λK'=>zab H (λK''=>zaf 2 t31 (K'' · H)) (K' · H)) λt32 H=>zad t29 true H (λK'=>zab H (λK''=>zal true 3 t32 H (K'' · H)) (K' · H)) λt33 H=>zad t29 true H (λK'=>zaC H (λH K''=>ACalls tP zcZ [(.int .i64 2)] H K'') (K' · H)) λt34 H=>zad t29 true H (λK'=>zaC H (λH K''=>ACalls tP zjD [t33,t34] H K'') (K' · H)) λt35 H=>zab H (λK'=>zam t29 t35 (.bool false) (K' · H)) λt36=>zab H (λK'=>K' t36 H) λt0=>K t0 H
variable {t0 t1 t2 t3} {H} {K}
theorem zK4 (h:HSc H→zz6 t0 t1 t2 t3 H K):ACalls tP zjf [t0,t1,t2,t3] H K:=
 acb zK2 Tryz.func12 zK3 (by kernel_rfl) (by kernel_rfl) h
theorem zWO (h:HSc H→zq8 t0 t1 H K):ACalls tP zqx [t0,t1] H K:=
 acb zWM Tryz.func10 zWN (by kernel_rfl) (by kernel_rfl) h
theorem zMA (h:HSc H→zAH H K):ACalls tP zjm [] H K:=
 acb zMy Tryz.func15 zMz (by kernel_rfl) (by kernel_rfl) h
end
end Go.Proofs.YtdmamdnkcefmmaaGreatDoor
namespace Go.Proofs.YtdmamdnkcefmmaaGreatDoor
open Go Go.Abs
theorem zxH {aa:List Dat}:∀ (f:Nat) (t:VT) (l m:List IT),IT.nodesL l+IT.nodesL m+1≤f→za4 aa f t l m≠[]
 | 0,_,_,_,h=>by omega
 | f+1,t,[],m,h=>by simp[za4]
 | f+1,t,a::l,[],h=>by simp[za4]
 | f+1,t,a::l,b::m,h=>by have na:=a.nodes_pos;simp only[IT.nodesL]at h;have:=zxH (aa:=aa) f t l (b::m) (by simp only[IT.nodesL];omega);rw[za4];simp[this]
theorem zHE:∀ a<7,∀ b<7,pcf a b (max a b)≠0:=by decide
theorem zyE {aa:List Dat} {f:Nat} {ts:List VT} {l m:List IT} (h:∀ k,k<ts.length→zbo aa f (ts.getD k tz) (l.getD k d0) (m.getD k d0)≠[]):∀ k,k≤ts.length→zcu aa f ts l m k≠[]
 | 0,_=>by simp[zqW]
 | k+1,hk=>by
  have h1:=zyE h k (by omega);have h2:=h k (by omega);rw[zkv];generalize zcu aa f ts l m k=out at *;generalize zbo aa f (ts.getD k tz) (l.getD k d0) (m.getD k d0)=ws at *;cases out with
  | nil=>exact absurd rfl h1
  | cons r out=>
   cases ws with
   | nil=>exact absurd rfl h2
   | cons w ws=>simp[zbX]
theorem zxO {aa:List Dat}:∀ (f:Nat) (t:VT) (i j:IT),i.nodes+j.nodes≤f→0≤rdV aa i t→0≤rdV aa j t→zbo aa f t i j≠[]
 | 0,t,i,j,h,_,_=>by have:=i.nodes_pos;omega
 | f+1,.mk k tn tks,.mk n l,.mk n' m,h,hi,hj=>by
  rw[zyz]at hi hj;simp only[IT.nodes]at h;rw[zbo];simp only[VT.kind,VT.kids,zaz,zaJ];by_cases h6:k=6
  ·subst h6;simp only[if_true]at hi hj ⊢;by_cases hn:n=0;case neg=>rw[if_neg hn]at hi;omega
   by_cases bB:n'=0;case neg=>rw[if_neg bB]at hj;omega
   rw[if_pos hn]at hi;rw[if_pos bB]at hj;by_cases hl:tks.length=l.length;case neg=>rw[if_neg hl]at hi;omega
   by_cases hm:tks.length=m.length;case neg=>rw[if_neg hm]at hj;omega
   rw[if_pos hl]at hi;rw[if_pos hm]at hj;have ii:=(zdA (aa:=aa) l tks 0 (by omega) hl.symm hi).1;have ij:=(zdA (aa:=aa) m tks 0 (by omega) hm.symm hj).1;cases f with
   | zero=>omega
   | succ f=>
    rw[zkw];have:=zyE (aa:=aa) (f:=f) (ts:=tks) (l:=l) (m:=m) (λk hk=>by
     have h1:k<l.length:=by omega
     have h2:k<m.length:=by omega
     have n1:=zdO h1;have n2:=zdO h2;have e1:tks.getD k tz=tks[k]:=by simp[List.getD_eq_getElem?_getD,hk]
     have e2:l.getD k d0=l[k]:=by simp[List.getD_eq_getElem?_getD,h1]
     have e3:m.getD k d0=m[k]:=by simp[List.getD_eq_getElem?_getD,h2]
     rw[e1,e2,e3];exact zxO f tks[k] l[k] m[k] (by omega) (ii k h1 hk) (ij k h2 hk)) tks.length (Nat.le_refl _)
    simp[this]
  ·simp only[h6,if_false]at hi hj ⊢;by_cases h7:k=7
   ·subst h7;simp only[if_true]at hi hj ⊢;by_cases hc:0≤n∧n≤6∧l.length=0;case neg=>rw[if_neg hc]at hi;omega
    by_cases fG:0≤n'∧n'≤6∧m.length=0;case neg=>rw[if_neg fG]at hj;omega
    have hp:=zHE n.toNat (by omega) n'.toNat (by omega);intro he;rw[List.filter_eq_nil_iff]at he;have:=he (.mk ((max n.toNat n'.toNat:Nat):Int) [],pcf n.toNat n'.toNat (max n.toNat n'.toNat)) (by
     unfold zbG;exact List.mem_map.2 ⟨max n.toNat n'.toNat,by simp;omega,rfl⟩)
    simp at this;exact hp this
   ·simp only[h7,if_false]at hi hj ⊢;by_cases h5:k=5
    ·subst h5;simp only[if_true]at hi hj ⊢;have:=zxH (aa:=aa) f (.mk 5 tn tks) l m (by omega);simp[this]
    ·simp[h5]
theorem zG1 {aa:List Dat} {t:VT} {i j:IT} {f:Nat} (h:i.nodes+j.nodes≤f) (hi:0≤rdV aa i t) (hj:0≤rdV aa j t):0<zaF (λ_=>1) (zbo aa f t i j):=by
 have h1:=zxO f t i j h hi hj;have h2:=(zgs aa f).1 t i j;generalize zbo aa f t i j=s at *;cases s with
 | nil=>exact absurd rfl h1
 | cons p s=>have:=h2 p (by simp);rw[zbf];omega
def zd3 (aa:List Dat) (t:VT) (i j:IT):AV:=
 if zbd aa t i<0∨zbd aa t j<0 then .tup [.sl [] .none,.int .i64 1] else if 6<zbd aa t i+zbd aa t j then .tup [.sl [] .none,.int .i64 13]
 else .tup [.sl (zaV (zcc aa t (zbz aa (i.nodes+j.nodes) t i j) 7)) .none,.int .i64 0]
theorem zpD {aa:List Dat} {t:VT} {i j:IT} (h:zbd aa t i<0∨zbd aa t j<0):zd3 aa t i j=.tup [.sl [] .none,.int .i64 1]:=if_pos h
theorem zd1 {aa:List Dat} {t:VT} (hf:zbx aa t=true) (i:IT):zbd aa t i=rdV aa i t:=by unfold zbd;rw[if_pos hf]
theorem zxM {aa:List Dat} {t:VT} {i j:IT} (hf:zbx aa t=true) (h1:0≤rdV aa i t) (h2:0≤rdV aa j t) (h6:rdV aa i t+rdV aa j t>6):zd3 aa t i j=.tup [.sl [] .none,.int .i64 13]:=by unfold zd3;rw[zd1 hf,zd1 hf,if_neg (by omega),if_pos (by omega)]
theorem zxL {aa:List Dat} {t:VT} {i j:IT} (hf:zbx aa t=true) (h1:0≤rdV aa i t) (h2:0≤rdV aa j t) (h6:rdV aa i t+rdV aa j t≤6):zd3 aa t i j=.tup [.sl (zaV (zcc aa t (zbz aa (i.nodes+j.nodes) t i j) 7)) .none,.int .i64 0]:=by unfold zd3;rw[zd1 hf,zd1 hf,if_neg (by omega),if_neg (by omega)]
theorem zTH (aa:List Dat) (T:VT) (H:zaa) (K:Kt) (hK:K (.ptr (H.length+2) 0) (H++[.cells T.cs,.map [],.cells (.sl (aa.map Dat.cs) .none::T.cs++[.map (H.length+1),.snil])])) :
  ACalls tP zqr [.sl (aa.map Dat.cs) .none,.agg T.cs] H K:=by
 refine zTG λhs=>?_;obtain⟨x,y,z,aB,hx,hy,hz⟩:=za2 T;simp[zDo,aB,zdY,zau,zaL,AV.known,Nat.add_assoc];rw[aB]at hK;simpa using hK
theorem zAp {aa:List Dat} (hk:zbb aa) (t:VT) (ht:t.nodes≤250) (i j:IT) (hi:i.nodes≤100) (hj:j.nodes≤100) (H:zaa) (K:Kt) (hK:K (zd3 aa t i j) H) :
  ACalls tP zjf [.sl (aa.map Dat.cs) .none,.agg t.cs,.agg i.cs,.agg j.cs] H K:=by
 refine ACalls.out (zK4 λhs=>?_);have hO:∀ (e:Int) J,zd3 aa t i j=.tup [.sl [] .none,.int .i64 e]→Out H.length K (.tup [.snil,.int .i64 e]) (H++J):=λe J he=>Out.tup (bs:=[.sl [] .none,.int .i64 e]) hs (by rw[←he];exact hK) ⟨zdS,zaU rfl rfl,trivial⟩;obtain⟨x,y,z,aB,hx,hy,hz⟩:=za2 t;obtain⟨x2,y2,aJ,bh,fa⟩:=zdw i;obtain⟨x3,y3,aY,bC,lD⟩:=zdw j;simp[zz6,aB,aJ,aY,Nat.add_assoc];rw[←aB,←aJ,←aY];refine zaB (.int .i64 (zbd aa t i)) (λJ=>zuj aa hk t (by omega) i (by omega) _ _ ⟨rfl,rfl⟩) ?_;refine zaB (.int .i64 (zbd aa t j)) (λJ=>zuj aa hk t (by omega) j (by omega) _ _ ⟨rfl,rfl⟩) ?_;by_cases h1:zbd aa t i<0
 ·simp[h1];exact⟨⟨rfl,rfl⟩,hO 1 _ (zpD (.inl h1))⟩
 ·by_cases h2:zbd aa t j<0
  ·simp[h1,h2];exact⟨⟨rfl,rfl⟩,hO 1 _ (zpD (.inr h2))⟩
  ·have hf:zbx aa t=true:=by
    unfold zbd at h1;by_cases h:zbx aa t=true
    ·exact h
    ·rw[if_neg h]at h1;omega
   have e1:=zd1 hf i;have e2:=zd1 hf j;rw[e1]at h1 ⊢;rw[e2]at h2 ⊢;have h8:=zfo hf;obtain⟨hD,dU⟩:zbn aa=true∧zaZ aa 0 t=true:=by unfold zbx at hf;simpa using hf
   have r1:=zqR (h8:=h8) i t;have r2:=zqR (h8:=h8) j t;have w:IntKind.i64.wrap (rdV aa i t+rdV aa j t)=rdV aa i t+rdV aa j t:=zat (by omega) (by omega);by_cases h6:rdV aa i t+rdV aa j t>6
   ·have eK:6<rdV aa i t+rdV aa j t:=h6;simp[h1,h2,w,eK];exact⟨⟨rfl,rfl⟩,hO 13 _ (zxM hf (by omega) (by omega) h6)⟩
   ·have eK:¬ (6<rdV aa i t+rdV aa j t):=h6;simp[h1,h2,w,eK,aB,aJ,aY,Nat.add_assoc];rw[←aB,←aJ,←aY];rw[zxL hf (by omega) (by omega) (by omega)]at hK;refine zTH aa t _ _ ?_;simp[aB,aJ,aY,Nat.add_assoc];rw[←aB,←aJ,←aY];refine (zxN hk h8 hD (i.nodes+j.nodes)).1 t i j (by omega) (by omega) dU (by omega) (by omega) (by omega) (by omega) _ _ ?_;obtain⟨W,hW⟩:∃ W,W=zbo aa (i.nodes+j.nodes) t i j:=⟨_,rfl⟩;obtain⟨P1,P2,P3,P4⟩:=zwo h8 (f:=i.nodes+j.nodes) (t:=t) (i:=i) (j:=j) (Nat.le_refl _) (by omega) (by omega) (by omega);have hWp:=zG1 (aa:=aa) (t:=t) (i:=i) (j:=j) (Nat.le_refl _) (by omega) (by omega);have lU:=(zgD aa (i.nodes+j.nodes)).1 t i j;obtain⟨L,hL⟩:∃ L,L=zbz aa (i.nodes+j.nodes) t i j:=⟨_,rfl⟩;obtain⟨R1,R2⟩:=(zem h8 (i.nodes+j.nodes)).1 t i j (by omega) (by omega) (by omega) (by omega);have hLa:=zGX aa (i.nodes+j.nodes) t i j;rw[←hW]at P1 P2 P3 P4 hWp lU ⊢;rw[←hL]at hK R1 R2 lU hLa
    replace R2:=Nat.le_trans R2 (ze2 (by omega))
    have Rl:=zxt λp hp=>(R1 p hp).1;have hg5:(H++[AB.cells t.cs,.cells i.cs,.cells j.cs,.cells t.cs,.map [],.cells [.sl (aa.map Dat.cs) .none,x,y,z,.map (H.length+4),.snil]])[H.length+5]?=some (.cells [.sl (aa.map Dat.cs) .none,x,y,z,.map (H.length+4),.snil]):=by simp[List.getElem?_append]
    refine ACalls.ovC (id:=H.length+5) (j:=5) zaH 5 hg5 rfl ?_;have hS0:Sw (H++[AB.cells t.cs,.cells i.cs,.cells j.cs,.cells t.cs,.map [],.cells [.sl (aa.map Dat.cs) .none,x,y,z,.map (H.length+4),.ov (H.length+6) 0],.vec zaH 5 0 []]) (H.length+5) (H.length+4) (H.length+6) (.sl (aa.map Dat.cs) .none::t.cs) []:=
     ⟨by rw[aB];rfl,by omega,by omega,by omega,by rw[aB];simp[List.getElem?_append],by simp[List.getElem?_append,kvS],by simp[List.getElem?_append,tms]⟩
    have ei:(H++[AB.cells t.cs,.cells i.cs,.cells j.cs,.cells t.cs,.map [],.cells [.sl (aa.map Dat.cs) .none,x,y,z,.map (H.length+4),.snil]]).set (H.length+5) (.cells ([AV.sl (aa.map Dat.cs) .none,x,y,z,.map (H.length+4),.snil].set 5 (.ov (H++[AB.cells t.cs,.cells i.cs,.cells j.cs,.cells t.cs,.map [],.cells [.sl (aa.map Dat.cs) .none,x,y,z,.map (H.length+4),.snil]]).length 0)))++[.vec zaH 5 0 []] =
     H++[AB.cells t.cs,.cells i.cs,.cells j.cs,.cells t.cs,.map [],.cells [.sl (aa.map Dat.cs) .none,x,y,z,.map (H.length+4),.ov (H.length+6) 0],.vec zaH 5 0 []]:=by simp[List.set_append_right]
    rw[ei];generalize dF:H++[AB.cells t.cs,.cells i.cs,.cells j.cs,.cells t.cs,.map [],.cells [.sl (aa.map Dat.cs) .none,x,y,z,.map (H.length+4),.ov (H.length+6) 0],.vec zaH 5 0 []]=H1 at *;refine zJj W (λp hp=>?_) H1 _ _ _ _ [] hS0 (by simp) (by simp) ?_ (by simp;omega) _ ?_
    ·obtain⟨p1,p2,p3,p4,p5,p6,p7⟩:=P1 p hp;exact⟨by omega,zGc h8 _ p.1 (Nat.le_refl _) t p3⟩
    ·have:zaG (λ_=>1) W≤729:=P3;refine Nat.lt_of_le_of_lt (show _≤729 by rw[zcG];omega) (by decide)
    ·have bF:=zwH W [] (by simp) (λq hq=>(P1 q hq).1);have aR:∀ g:IT→Nat,zaF g (zbv [] W)=zaF g L:=λg=>by rw[zo4,zrh,Nat.zero_add];exact lU g
     have bQ:=zo2 W [];refine zJk hk t (by omega) hf _ _ _ _ (zbv [] W) L hS0.next (λp hp=>?_) (zo3 _ _ (by simp)) ?_ (by simp at bQ;omega) hLa (by omega) (λp hp=>(R1 p hp).1) aR _ (λbD=>?_) (λ_=>?_)
     ·obtain⟨h1,h2⟩:=bF p hp;rcases h2 with ⟨q,hq,_⟩ | ⟨q,hq,he⟩
      ·simp at hq
      ·obtain⟨p1,p2,p3,p4,p5,p6,p7⟩:=P1 q hq;have hm:=zfu (λ_=>1) hp;rw[aR,Nat.mul_one]at hm;have cE:zaF (λ_=>1) L≤729:=R2;rw[←he];exact⟨by omega,h1,Nat.lt_of_le_of_lt (Nat.le_trans hm cE) (by decide),p3,by omega⟩
     ·have h1:=aR (λ_=>1);have h2:zaF (λ_=>1) W=zaF (λ_=>1) L:=lU (λ_=>1);cases hc:zbv [] W with
      | nil=>rw[hc,zrh]at h1;omega
      | cons p s=>simp
     ·simp at bQ;omega
     ·simp;obtain⟨J,hJ⟩:∃ J,sw H1 (H.length+5) (H.length+4) (H.length+6) (.sl (aa.map Dat.cs) .none::t.cs) (zbv [] W)=H++J:=⟨_,by
       rw[←dF];simp only[sw];rw[List.set_append_right _ _ (by omega),List.set_append_right _ _ (by omega),List.set_append_right _ _ (by omega)]⟩
      rw[hJ];exact⟨⟨rfl,rfl⟩,Out.tup (bs:=[.sl (zaV (zcc aa t L 7)) .none,.int .i64 0]) hs hK ⟨zaU rfl rfl,zaU rfl rfl,trivial⟩⟩
end Go.Proofs.YtdmamdnkcefmmaaGreatDoor
namespace Go.Proofs.YtdmamdnkcefmmaaGreatDoor
open Go Go.Abs
set_option maxRecDepth 100000
section


end
end Go.Proofs.YtdmamdnkcefmmaaGreatDoor
namespace Go.Proofs.YtdmamdnkcefmmaaGreatDoor
open Go Go.Abs
theorem zWP (aa:List Dat) (aq:aa.length≤9223372036854775807) (t:VT) (H:zaa) (K:Kt) (hK:∀ b,(b=true→zbb aa∧t.nodes≤250)→K (.bool b) H):ACalls tP zqx [.sl (aa.map Dat.cs) .none,.agg t.cs] H K:=by
 refine ACalls.out (zWO λhs=>?_);have hO:∀ b,(b=true→zbb aa∧t.nodes≤250)→∀ J,Out H.length K (.bool b) (H++J):=λb h J=>Out.bool rfl (Nat.le_refl _) hs (hK b h);obtain⟨x,y,z,aB,hx,hy,hz⟩:=za2 t;simp[zq8,aB,Nat.add_assoc];refine zTp aa _ _ aq λb1 bG=>?_;cases b1 with
 | false=>simp;exact hO _ (λh=>by cases h) _
 | true=>
  simp[Nat.add_assoc];rw[←aB];refine zTt t _ _ λb2 bz=>?_;try simp
  exact hO _ (λh=>⟨bG rfl,bz h⟩) _
def t17:VT:=.mk 7 0 [.mk 1 0 []]
def i17:IT:=.mk 1 []
theorem zGW:zd3 [] t17 i17 i17=.tup [.sl (zaV [(.mk 1 [],1),(.mk 2 [],2)]) .none,.int .i64 0]:=by kernel_rfl
theorem zwk (H:zaa) (K:Kt) (hK:K (.bool true) H):ACalls tP zjm [] H K:=by
 refine ACalls.out (zMA λhs=>?_);simp[zAH,zau,zaL,zaw,zaT,plain,AV.pd,AV.known,Nat.add_assoc];refine ACalls.wk (args':=[.sl [] .none,.agg t17.cs,.agg i17.cs,.agg i17.cs]) (zAp (aa:=[]) ⟨by simp,by simp⟩ t17 (by decide) i17 i17 (by decide) (by decide) _ _ ?_) ⟨.atom .snil,.agg ⟨.refl _,.refl _,.sl _ _,trivial⟩,.agg ⟨.refl _,.snil,trivial⟩,.agg ⟨.refl _,.snil,trivial⟩,trivial⟩;rw[zGW];have h0:(tmC (IT.mk 2 [],2))[0]?=some (.int .i64 2):=rfl;simp[zdF,zdT,ze7,Nat.add_assoc,zdm _ h0];refine zaB (.agg (zai 2)) (λJ=>zea 2 (by omega) _ _ ⟨rfl,rfl⟩) ?_;try simp[zdF,zdT,ze7]
 refine zaB (.bool true) (λJ=>zCD 2 (zdD (n:=2) (by decide)) _ _ ⟨rfl,rfl⟩) ?_;exact Out.bool rfl (Nat.le_refl _) hs hK
theorem zG0 (aa:List Dat) (hk:zbb aa) (t:VT) (i j:IT):(∃ e:Int,e≠0∧zd3 aa t i j=.tup [.sl [] .none,.int .i64 e]) ∨
  (zbx aa t=true∧0≤rdV aa i t∧0≤rdV aa j t∧rdV aa i t+rdV aa j t≤6∧zd3 aa t i j=.tup [.sl (zaV (zcc aa t (zbz aa (i.nodes+j.nodes) t i j) 7)) .none,.int .i64 0]):=by
 by_cases h1:zbd aa t i<0∨zbd aa t j<0
 ·exact .inl ⟨1,by omega,zpD h1⟩
 ·have hf:zbx aa t=true:=by
   by_cases h:zbx aa t=true
   ·exact h
   ·exact absurd (by unfold zbd;rw[if_neg h];omega:zbd aa t i<0) (λh=>h1 (.inl h))
  rw[zd1 hf,zd1 hf]at h1;by_cases h6:rdV aa i t+rdV aa j t>6
  ·exact .inl ⟨13,by omega,zxM hf (by omega) (by omega) h6⟩
  ·exact .inr ⟨hf,by omega,by omega,by omega,zxL hf (by omega) (by omega) (by omega)⟩
theorem zHq {aa:List Dat} {t:VT} {i j:IT} (hf:zbx aa t=true) (hi:0≤rdV aa i t) (hj:0≤rdV aa j t) (h6:rdV aa i t+rdV aa j t≤6) :
  (∀ p∈zcc aa t (zbz aa (i.nodes+j.nodes) t i j) 7,0<p.2∧p.2≤729∧rdV aa p.1 t≤rdV aa i t+rdV aa j t∧rdV aa i t≤rdV aa p.1 t∧rdV aa j t≤rdV aa p.1 t∧p.1.nodes≤i.nodes+j.nodes)∧(zcc aa t (zbz aa (i.nodes+j.nodes) t i j) 7).length≤7*729:=by
 have h8:=zfo hf;obtain⟨R1,R2⟩:=(zem h8 (i.nodes+j.nodes)).1 t i j (by omega) hi hj h6
 replace R2:=Nat.le_trans R2 (ze2 h6)
 have Rl:=zxt λp hp=>(R1 p hp).1;refine⟨λp hp=>?_,?_⟩
 ·have hm:=zHp p hp;have h1:=R1 p hm;have h2:=zpA hm;omega
 ·have:=zqD (aa:=aa) (t:=t) (s:=zbz aa (i.nodes+j.nodes) t i j) 7;omega
end Go.Proofs.YtdmamdnkcefmmaaGreatDoor
namespace Go.Proofs.YtdmamdnkcefmmaaGreatDoor
open Go Go.Abs
set_option maxRecDepth 100000
section
variable (t0 t1 t2 t3 t4 t5 t7 t8 t12 t20 t21 t22 t41 t42 t43:AV) (H:zaa) (K:Kt) (Kb4 Kb13:Lt)
def zfT:Nat→List Bool | 4=>rl false [0,1,1,1,2,1,1,2,11,3,37] | 13=>rl false [0,1,4,1,1,2,3,1,28,3,16] | _=>[]
noncomputable def ziw:Code:=Tryz.f20.body.getD .skip
noncomputable def zCk:List ResultVar:=Tryz.f20.results.toList
def zmG:List AV:=t0::ux 1 (t2::ux 2 (t5::ux 1 (t7::t8::ux 11 (t20::t21::t22::ux 37 []))))
def zQh:List Bool:=zfT 4
noncomputable def zQd:Code:=zar [1,1,0,1,0,0] ziw
def zQb:AExit→List AV→zaa→Prop:=zas tP zfT [1,1,0,1,0] ziw (zay tP zCk K)
def zCj:Prop:=ALoop tP zQd (zQb K) (zmG t0 t2 t5 t7 t8 t20 t21 t22) H
def zmF:List AV:=t0::ux 4 (t5::ux 1 (t7::t8::ux 3 (t12::ux 28 (t41::t42::t43::ux 16 []))))
def zQg:List Bool:=zfT 13
noncomputable def zQc:Code:=zar [1,1,1,1,1,0,1,0,0] ziw
def zQa:AExit→List AV→zaa→Prop:=zas tP zfT [1,1,1,1,1,0,1,0] ziw (zay tP zCk K)
def zCi:Prop:=ALoop tP zQc (zQa K) (zmF t0 t5 t7 t8 t12 t41 t42 t43) H
def ztq:Prop:=zac .lss false t43 t42 λt44=>zag t44 (zaj 5 t41 t43 λt45=>zae true 5 t45 H λt46=>zav [(.int .i64 0),.snil,(.bool false),.snil,.snil] H λt14 H=>zan 5 t14 t46 H λH=>zab H (λK'=>zal true 3 t12 H (K' · H)) λt47=>zab H (λK'=>zaf 2 t14 (K' · H)) λt48=>zab H (λK'=>zal true 3 t48 H (K' · H)) λt49=>zab H (λK'=>K' t0 H) λt50=>zab H (λK'=>zal true 3 t5 H (K' · H)) λt51=>zab H (λK'=>zaf 0 t14 (K' · H)) λt52=>zab H (λK'=>zal true 2 t52 H (K' · H)) λt53=>zab H (λK'=>zal true 3 t7 H (K' · H)) λt54=>zaC H (λH K'=>ACalls tP zfA [t50,t51,t53,t54] H K') λt55=>zaC H (λH K'=>ACalls tP zfx [t49,t55] H K') λt56=>zaC H (λH K'=>ACalls tP zhQ [t47,t56] H K') λt57=>zan 3 t12 t57 H λH=>zac .add false t43 (.int .i64 1) λt58=>Kb13 (zmF t0 t5 t7 t8 t12 t41 t42 t58) H) (zae true 3 t12 H λt59=>zan 3 t8 t59 H λH=>zae true 3 t8 H λr0=>zaE [r0,(.int .i64 0)] (K · H))
def ztr:Prop:=zac .lss false t22 t21 λt23=>zag t23 (zaj 5 t20 t22 λt24=>zae true 5 t24 H λt25=>zav [(.int .i64 0),.snil,(.bool false),.snil,.snil] H λt11 H=>zan 5 t11 t25 H λH=>zae true 3 t5 H λt27=>zaf 0 t11 λt28=>zae true 2 t28 H λt29=>ACalls tP zjP [t0,t27,t29] H λt30 H=>aUn .not t30 λt31=>zag t31 (zau [(.bool false),.snil,.snil] [(0,1),(1,1),(2,1)] [] λt32=>zan 3 t8 t32 H λH=>zae true 3 t8 H λr0=>zaE [r0,(.int .i64 1)] (K · H)) (zac .add false t22 (.int .i64 1) λt33=>Kb4 (zmG t0 t2 t5 t7 t8 t20 t21 t33) H)) (zae true 3 t7 H λt35=>zae true 3 t5 H λt36=>ACalls tP zhF [t0,t35,t36] H λt37 H=>aUn .not t37 λt38=>zag t38 (zau [(.bool false),.snil,.snil] [(0,1),(1,1),(2,1)] [] λt39=>zan 3 t8 t39 H λH=>zae true 3 t8 H λr0=>zaE [r0,(.int .i64 11)] (K · H)) (ACalls tP zcZ [(.int .i64 0)] H λt40 H=>zav [(.bool false),.snil,.snil] H λt12 H=>zan 3 t12 t40 H λH=>zah 1 t2 λt42=>zCi t0 t5 t7 t8 t12 t2 t42 (.int .i64 0) H K))
def zCc:Prop:=zaq t1 H λt5 H=>zaq t3 H λt7 H=>zav [(.bool false),.snil,.snil] H λt8 H=>zae true 3 t5 H λt16=>ACalls tP zjV [t0,t16] H λt17 H=>aUn .not t17 λt18=>zag t18 (zau [(.bool false),.snil,.snil] [(0,1),(1,1),(2,1)] [] λt19=>zan 3 t8 t19 H λH=>zae true 3 t8 H λr0=>zaE [r0,(.int .i64 1)] (K · H)) (zah 1 t2 λt21=>zCj t0 t2 t5 t7 t8 t2 t21 (.int .i64 0) H K)
def zTb (_:Nat):List Bool:=[]
noncomputable def zTc:Code:=Tryz.f4.body.getD .skip
def zq2:Prop:=zaq t1 H λt6 H=>zaq t2 H λt7 H=>zaq t3 H λt8 H=>zaq t4 H λt9 H=>zae true 3 t6 H λt20=>ACalls tP zqx [t0,t20] H λt21 H=>aUn .not t21 λt22=>zad t22 false H (λK'=>zae true 2 t7 H (K' · H)) λt24 H=>zad t22 false H (λK'=>ACalls tP zj4 [t24] H K') λt25 H=>zad t22 false H (λK'=>aUn .not t25 (K' · H)) λt26 H=>zam t22 (.bool true) t26 λt27=>zad t27 false H (λK'=>zae true 2 t8 H (K' · H)) λt29 H=>zad t27 false H (λK'=>ACalls tP zj4 [t29] H K') λt30 H=>zad t27 false H (λK'=>aUn .not t30 (K' · H)) λt31 H=>zam t27 (.bool true) t31 λt32=>zad t32 false H (λK'=>zae true 3 t9 H (K' · H)) λt34 H=>zad t32 false H (λK'=>ACalls tP zpS [t34] H K') λt35 H=>zad t32 false H (λK'=>aUn .not t35 (K' · H)) λt36 H=>zam t32 (.bool true) t36 λt37=>zad t37 false H (λK'=>zae true 3 t9 H (K' · H)) λt39 H=>zad t37 false H (λK'=>ACalls tP zjs [t39] H K') λt40 H=>zad t37 false H (λK'=>zac .gtr false t40 (.int .i64 80) (K' · H)) λt41 H=>zam t37 (.bool true) t41 λt42=>zad t42 false H (λK'=>K' t0 H) λt44 H=>zad t42 false H (λK'=>zae true 3 t9 H (K' · H)) λt45 H=>zad t42 false H (λK'=>zae true 3 t6 H (K' · H)) λt46 H=>zad t42 false H (λK'=>ACalls tP zhF [t44,t45,t46] H K') λt47 H=>zad t42 false H (λK'=>aUn .not t47 (K' · H)) λt48 H=>zam t42 (.bool true) t48 λt49=>zag t49 (K (.bool true) H) (zae true 3 t6 H λt52=>zae true 2 t7 H λt53=>zae true 2 t8 H λt54=>ACalls tP zjf [t0,t52,t53,t54] H λt55 H=>zaA t55 0 λt56=>zaA t55 1 λt57=>zac .neq false t57 (.int .i64 0) λt59=>zag t59 (ACalls tP zjm [] H λt60 H=>K t60 H) (zae true 3 t6 H λt63=>zae true 2 t7 H λt64=>zae true 3 t9 H λt65=>ACalls tP zjx [t0,t63,t64,t65] H λt66 H=>zaA t66 0 λt67=>zaA t66 1 λt68=>zav [(.bool false),.snil,.snil] H λt13 H=>zan 3 t13 t67 H λH=>zae true 3 t6 H λt71=>zae true 2 t8 H λt72=>zae true 3 t9 H λt73=>ACalls tP zjx [t0,t71,t72,t73] H λt74 H=>zaA t74 0 λt75=>zaA t74 1 λt76=>zav [(.bool false),.snil,.snil] H λt15 H=>zan 3 t15 t75 H λH=>zae true 3 t6 H λt79=>zae true 3 t9 H λt81=>ACalls tP zp6 [t0,t79,t56,t81] H λt82 H=>zaA t82 0 λt83=>zaA t82 1 λt84=>zav [(.bool false),.snil,.snil] H λt17 H=>zan 3 t17 t83 H λH=>zab H (λK'=>K' t68 H) λt85=>zab H (λK'=>zac .eql false t85 (.int .i64 0) (K' · H)) λt86=>zab H (λK'=>K' t86 H) λt87=>zad t87 true H (λK'=>zab H (λK''=>K'' t76 H) (K' · H)) λt88 H=>zad t87 true H (λK'=>zab H (λK''=>zac .eql false t88 (.int .i64 0) (K'' · H)) (K' · H)) λt89 H=>zab H (λK'=>zam t87 t89 (.bool false) (K' · H)) λt90=>zab H (λK'=>K' t90 H) λt91=>zad t91 true H (λK'=>zab H (λK''=>K'' t84 H) (K' · H)) λt92 H=>zad t91 true H (λK'=>zab H (λK''=>zac .eql false t92 (.int .i64 0) (K'' · H)) (K' · H)) λt93 H=>zab H (λK'=>zam t91 t93 (.bool false) (K' · H)) λt94=>zab H (λK'=>K' t94 H) λt95=>zad t95 true H (λK'=>zab H (λK''=>zal true 3 t17 H (K'' · H)) (K' · H)) λt96 H=>zad t95 true H (λK'=>zab H (λK''=>zal true 3 t13 H (K'' · H)) (K' · H)) λt97 H=>zad t95 true H (λK'=>zab H (λK''=>zal true 3 t15 H (K'' · H)) (K' · H)) λt98 H=>zad t95 true H (λK'=>zaC H (λH K''=>ACalls tP zfx [t97,t98] H K'') (K' · H)) λt99 H=>zad t95 true H (λK'=>zaC H (λH K''=>ACalls tP zjD [t96,t99] H K'') (K' · H)) λt100 H=>zab H (λK'=>zam t95 t100 (.bool false) (K' · H)) λt101=>zab H (λK'=>K' t101 H) λt102=>zad t102 true H (λK'=>zaC H (λH K''=>ACalls tP zjm [] H K'') (K' · H)) λt103 H=>zab H (λK'=>zam t102 t103 (.bool false) (K' · H)) λt104=>zab H (λK'=>K' t104 H) λt10=>K t10 H))
variable {t0 t1 t2 t3 t4 t5 t7 t8 t12 t20 t21 t22 t41 t42 t43} {H} {K} {Kb4 Kb13}
theorem zQe (Inv:Nat→AV→zaa→Prop) (n:Nat) (h0:HSc H→Inv n t43 H)
  (ac:Rd1 (λt43=>zmF t0 t5 t7 t8 t12 t41 t42 t43) (λt43=>λH Kb13=>ztq t0 t5 t7 t8 t12 t41 t42 t43 H K Kb13) H Inv):zCi t0 t5 t7 t8 t12 t41 t42 t43 H K:=
 lp1 (M:=zfT) zQg t43 (by kernel_rfl) Inv n h0 ac
theorem zQf (Inv:Nat→AV→zaa→Prop) (n:Nat) (h0:HSc H→Inv n t22 H)
  (ac:Rd1 (λt22=>zmG t0 t2 t5 t7 t8 t20 t21 t22) (λt22=>λH Kb4=>ztr t0 t2 t5 t7 t8 t20 t21 t22 H K Kb4) H Inv):zCj t0 t2 t5 t7 t8 t20 t21 t22 H K:=
 lp1 (M:=zfT) zQh t22 (by kernel_rfl) Inv n h0 ac
theorem zQi (h:HSc H→zCc t0 t1 t2 t3 H K):ACalls tP zp6 [t0,t1,t2,t3] H K:=
 acb zfT Tryz.func20 ziw (by kernel_rfl) (by kernel_rfl) h
theorem zTd (h:HSc H→zq2 t0 t1 t2 t3 t4 H K):ACalls tP zqb [t0,t1,t2,t3,t4] H K:=
 acb zTb Tryz.func4 zTc (by kernel_rfl) (by kernel_rfl) h
end
end Go.Proofs.YtdmamdnkcefmmaaGreatDoor
namespace Go.Proofs.YtdmamdnkcefmmaaGreatDoor
open Go Go.Abs
theorem zi2 {aa:List Dat} (hk:zbb aa) (hD:zbn aa=true) (h8:∀ D∈aa,D.cons.length≤8):∀ m,zgW aa m
 | 0=>λi hi=>by have:=IT.nodes_pos i;omega
 | m+1=>zFC hk h8 (zi2 hk hD h8 m) λi hi n tn ks tks v he hA H K hK=>by subst he;exact zFB hk hD h8 (zi2 hk hD h8 m) n tn ks tks v hi hA H K hK
def atR (aa:List Dat) (t:VT) (i:IT) (v:VT):AV:=
 if zbd aa t i<0 then .tup [.agg [.bool false,.sl [] .none,.sl [] .none],.int .i64 1] else if zdv aa v t=false then .tup [.agg [.bool false,.sl [] .none,.sl [] .none],.int .i64 11] else .tup [.agg (zai ((atV aa i t v:Nat):Int)),.int .i64 0]
theorem zCb {aa:List Dat} (hk:zbb aa) (t:VT) (ht:t.nodes≤1000) (i:IT) (hi:i.nodes≤900) (v:VT) (hv:v.nodes≤1000) (H:zaa) (K:Kt) (hK:K (atR aa t i v) H) :
  ACalls tP zjx [.sl (aa.map Dat.cs) .none,.agg t.cs,.agg i.cs,.agg v.cs] H K:=by
 refine ACalls.out (zPR λhs=>?_);obtain⟨x,y,z,aB,hx,hy,hz⟩:=za2 t;obtain⟨x2,y2,z2,aJ,bh,fa,kF⟩:=za2 v;obtain⟨x3,y3,aY,bC,lD⟩:=zdw i;simp[zB5,aB,aJ,aY,Nat.add_assoc];rw[←aB,←aY];refine zDb aa hk t ht i hi _ _ ?_;by_cases hd:zbd aa t i<0
 ·have ek:decide (0≤zbd aa t i)=false:=by simpa using hd
  unfold atR at hK;rw[if_pos hd]at hK;simp[ek,zau,zaL,zcE,Nat.add_assoc];refine⟨⟨rfl,rfl⟩,?_⟩;exact Out.tup (bs:=[.agg [.bool false,.sl [] .none,.sl [] .none],.int .i64 1]) hs hK ⟨⟨.agg ⟨.refl _,.snil,.snil,trivial⟩,rfl,rfl⟩,zaU rfl rfl,trivial⟩
 ·have ek:decide (0≤zbd aa t i)=true:=by simpa using hd
  unfold atR at hK;rw[if_neg hd]at hK;simp[ek,aB,aJ,aY,Nat.add_assoc];rw[←aB,←aJ];refine ztj aa hk v t (by omega) (by omega) _ _ ?_;cases hh:zdv aa v t with
  | false=>rw[if_pos hh]at hK;simp[zau,zaL,zcE,Nat.add_assoc];refine⟨⟨rfl,rfl⟩,?_⟩;exact Out.tup (bs:=[.agg [.bool false,.sl [] .none,.sl [] .none],.int .i64 11]) hs hK ⟨⟨.agg ⟨.refl _,.snil,.snil,trivial⟩,rfl,rfl⟩,zaU rfl rfl,trivial⟩
  | true=>
   rw[if_neg (by simp[hh])]at hK;obtain⟨hD,dU,cK⟩:=zpm hh;have hfine:zbx aa t=true:=by
    unfold zbd at hd;by_cases h:zbx aa t=true
    ·exact h
    ·rw[if_neg h]at hd;omega
   have h8:=zfo hfine;have dc:0≤rdV aa i t:=by unfold zbd at hd;rw[if_pos hfine]at hd;omega
   simp[aB,aJ,aY,Nat.add_assoc];rw[←aB,←aJ,←aY];refine zi2 hk hD h8 i.nodes i (Nat.le_refl _) t v ⟨ht,dU,dc,cK,hv,hi⟩ _ _ ?_;simp[Nat.add_assoc];refine⟨⟨rfl,rfl⟩,?_⟩;exact Out.tup (bs:=[.agg (zai ((atV aa i t v:Nat):Int)),.int .i64 0]) hs hK ⟨zaU rfl rfl,zaU rfl rfl,trivial⟩
theorem zOd:∀ (m:Nat) (v:VT),v.nodes≤m→v.nodes≤100000→∀ (H:zaa) (K:Kt),K (.int .i64 v.nodes) H→ACalls tP zjs [.agg v.cs] H K:=by
 intro m;induction m with
 | zero=>intro v h;have:=v.nodes_pos;omega
 | succ m ih=>
  intro v hm hb H K hK;obtain⟨k,n,ks⟩:=v;have cy:(VT.mk k n ks).nodes=VT.nodesL ks+1:=by simp[VT.nodes]
  have bq:=VT.len_le ks;refine ACalls.out (zOb λhs=>?_);simp[zA9,VT.cs,Nat.add_assoc];refine zN9 (Inv:=λq t3 t9 H'=>∃ i:Nat,i≤ks.length∧ks.length-i=q∧t9=.int .i64 i∧t3=.int .i64 ((VT.nodesL (ks.take i)+1:Nat):Int)∧H'=H++[.cells [.int .i64 k,.int .i64 n,.sl (VT.css ks) .none]]) ks.length ?_ ?_
  ·intro _;exact⟨0,by omega,rfl,rfl,by simp[VT.nodesL],rfl⟩
  ·rintro q t3 t9 H' ⟨i,hi,rfl,rfl,rfl,rfl⟩ aM aq aO Kb aw;have bm:=VT.nodesL_take_le ks i;by_cases ap:i<ks.length
   ·obtain⟨x,y,z,aB,hx,hy,hz⟩:=za2 ks[i];have dm:=VT.kid_lt (k:=k) (n:=n) ap;have hts:=VT.nodesL_take ap;have hts2:=VT.nodesL_take_le ks (i+1);simp[zsU,ap,aB,hx,hy,hz,wi i (by omega),Nat.add_assoc];rw[←aB];refine ih ks[i] (by omega) (by omega) _ _ ?_;have hw:IntKind.i64.wrap ((VT.nodesL (ks.take i):Int)+(1+(ks[i]).nodes))=((VT.nodesL (ks.take (i+1))+1:Nat):Int):=by rw[zat (by omega) (by omega)];omega
    have fL:IntKind.i64.wrap ((VT.nodesL (ks.take i):Int)+1+(ks[i]).nodes)=((VT.nodesL (ks.take (i+1))+1:Nat):Int):=by rw[zat (by omega) (by omega)];omega
    simp[hw,fL];exact aw _ _ ⟨ks.length-(i+1),by omega,Back.at (J:=[.cells (ks[i]).cs]) (H2:=H++[.cells [.int .i64 k,.int .i64 n,.sl (VT.css ks) .none]]) (by simp) (by simp) (hs.append (by simp[AB.sc,AV.scA,AV.scB])) (by simp[zme,ux,AV.sc,AV.scA,AV.scB,AV.scV]) ⟨_,_,rfl,i+1,by omega,rfl,rfl,rfl,rfl⟩⟩
   ·obtain rfl:i=ks.length:=by omega
    simp[zsU];refine Out.int (J:=_) rfl (Nat.le_refl _) hs ?_;rw[cy]at hK;simpa using hK
theorem zzi {f:IT→Nat} {M:Nat}:∀ {s:List (IT × Nat)},(∀ p∈s,p.2*f p.1≤M)→zaG f s≤s.length*M
 | [],_=>by simp
 | p::s,h=>by have h1:=h p (by simp);have h2:=zzi (f:=f) (M:=M) (s:=s) λq hq=>h q (by simp[hq]);rw[zco,List.length_cons,Nat.succ_mul];omega
theorem zQj {aa:List Dat} (hk:zbb aa) (t:VT) (ht:t.nodes≤250) (hf:zbx aa t=true) (v:VT) (hv:v.nodes≤80) (hh:zdv aa v t=true) (s:List (IT × Nat))
  (iA:∀ p∈s,p.1.nodes≤80∧0≤rdV aa p.1 t∧rdV aa p.1 t≤6∧p.2≤729) (hl:s.length≤10000) (H:zaa) (K:Kt) (hK:K (.tup [.agg (zai ((zaG (λx=>atV aa x t v) s:Nat):Int)),.int .i64 0]) H) :
  ACalls tP zp6 [.sl (aa.map Dat.cs) .none,.agg t.cs,.sl (zaV s) .none,.agg v.cs] H K:=by
 refine ACalls.out (zQi λhs=>?_);obtain⟨hD,dU,cK⟩:=zpm hh;have h8:=zfo hf;obtain⟨x,y,z,aB,hx,hy,hz⟩:=za2 t;obtain⟨x3,y3,z3,aY,bC,lD,hz3⟩:=za2 v;obtain⟨f,lV⟩:∃ f:IT→Nat,f=λx=>atV aa x t v:=⟨_,rfl⟩;rw[←lV]at hK;simp[zCc,aB,aY,Nat.add_assoc];rw[←aB,←aY];refine zDQ aa hk t (by omega) _ _ ?_;rw[hf];simp;have bJ:HSc (H++[.cells t.cs,.cells v.cs,.cells [.bool false,.snil,.snil]]):=hs.append (by
  obtain⟨t1,t2,t3⟩:=t;obtain⟨v1,v2,v3⟩:=v;simp[AB.sc,AV.scA,AV.scB,VT.cs])
 refine zQf (Inv:=λq t22 H'=>∃ k:Nat,k≤s.length∧s.length-k=q∧t22=.int .i64 k∧H'=H++[.cells t.cs,.cells v.cs,.cells [.bool false,.snil,.snil]]) s.length ?_ ?_
 ·intro _;exact⟨0,by omega,rfl,rfl,rfl⟩
 ·rintro q t22 H' ⟨k,cu,rfl,rfl,rfl⟩ hsc4 hlen4 hsF4 Kb4 jo;by_cases ap:k<s.length
  ·obtain⟨n1,n2,n3,n4⟩:=iA _ (List.getElem_mem ap);simp[ztr,ap,ze7,zdF,zeB,aB,Nat.add_assoc];rw[←aB];refine⟨zeB _,?_⟩;refine zDb aa hk t (by omega) s[k].1 (by omega) _ _ ?_;have hdec:decide (0≤zbd aa t s[k].1)=true:=by rw[zd1 hf];simpa using n2
   rw[hdec];simp[wi k (by omega)];exact jo _ _ ⟨s.length-(k+1),by omega,Back.at (J:=[.cells (tmC s[k])]) (H2:=H++[.cells t.cs,.cells v.cs,.cells [.bool false,.snil,.snil]]) (by simp) (by simp) bJ (by simp[zmG,ux,AV.sc,AV.scA,AV.scB,AV.scV]) ⟨_,rfl,k+1,by omega,rfl,rfl,rfl⟩⟩
  ·obtain rfl:k=s.length:=by omega
   simp[ztr,aB,aY,Nat.add_assoc];rw[←aB,←aY];refine ztj aa hk v t (by omega) (by omega) _ _ ?_;rw[hh];simp;refine zea 0 (by omega) _ _ ?_;simp[Nat.add_assoc,zcQ];have cN:∀ z2:Int,HSc (H++[.cells t.cs,.cells v.cs,.cells [.bool false,.snil,.snil],.cells (zai z2)]):=λz2=>hs.append (by
    obtain⟨t1,t2,t3⟩:=t;obtain⟨v1,v2,v3⟩:=v;simp[AB.sc,zai,AV.scA,AV.scB,VT.cs])
   have a7:∀ p∈s,AtOk aa p.1 t v:=λp hp=>by obtain⟨n1,n2,n3,n4⟩:=iA p hp;exact⟨by omega,dU,n2,cK,by omega,by omega⟩
   have hterm:∀ p∈s,p.2*f p.1≤1000 ^ 7:=λp hp=>by have:=AtOk.le h8 (a7 p hp);rw[lV];exact Nat.le_trans (Nat.mul_le_mul (iA p hp).2.2.2 this) (by decide)
   have hsb:∀ k,zaG f (s.take k)≤1000 ^ 10:=λk=>by have h1:=zzi (f:=f) (M:=1000 ^ 7) (s:=s.take k) λp hp=>hterm p (List.mem_of_mem_take hp);refine Nat.le_trans h1 (Nat.le_trans (Nat.mul_le_mul_right _ (show (s.take k).length≤10000 by simp;omega)) (by decide))
   refine zQe (Inv:=λq t43 H'=>∃ k:Nat,k≤s.length∧s.length-k=q∧t43=.int .i64 k∧H'=H++[.cells t.cs,.cells v.cs,.cells [.bool false,.snil,.snil],.cells (zai ((zaG f (s.take k):Nat):Int))]) s.length ?_ ?_
   ·intro _;exact⟨0,by omega,rfl,rfl,rfl⟩
   ·rintro q t43 H' ⟨k,cu,rfl,rfl,rfl⟩ hsc8 hlen8 hsF8 Kb8 jg;by_cases ap:k<s.length
    ·have hm:=List.getElem_mem ap;have ho:=a7 _ hm;have aQ:=AtOk.le h8 ho;have mT:=hterm _ hm;have be:=hsb k;have aP:zaG f (s.take (k+1))=zaG f (s.take k)+s[k].2*f s[k].1:=by rw[List.take_succ_eq_append_getElem ap,zgA,zco,zcG,Nat.add_zero]
     obtain⟨n1,n2,n3,n4⟩:=iA _ hm;have fk:f s[k].1=atV aa s[k].1 t v:=by rw[lV]
     rw[←fk]at aQ;simp[ztq,ap,ze7,zdF,zdT,zeB,aB,aY,Nat.add_assoc];rw[←aB,←aY];refine⟨zeB _,?_⟩;refine zaB (.agg (zai ((f s[k].1:Nat):Int))) (λJ=>zi2 hk hD h8 s[k].1.nodes s[k].1 (Nat.le_refl _) t v ho _ _ ⟨by rw[fk],rfl⟩) ?_;refine zaB (.agg (zai ((s[k].2*f s[k].1:Nat):Int))) (λJ=>ziy _ _ (zdh (k:=2) (by omega) (by omega)) (zdh aQ (by omega)) _ _ ⟨by rw[Int.natCast_mul],rfl⟩) ?_;refine zaB (.agg (zai ((zaG f (s.take (k+1)):Nat):Int))) (λJ=>zuQ _ _ (zdh be (by omega)) (zdh mT (by omega)) _ _ ⟨by rw[aP,Int.natCast_add],rfl⟩) ?_;simp[Nat.add_assoc,zcQ,wi k (by omega)];exact jg _ _ ⟨s.length-(k+1),by omega,Back.at (J:=[.cells (tmC s[k])]) (H2:=H++[.cells t.cs,.cells v.cs,.cells [.bool false,.snil,.snil],.cells (zai ((zaG f (s.take (k+1)):Nat):Int))]) (by simp) (by simp) (cN _) (by simp[zmF,ux,AV.sc,AV.scA,AV.scB,AV.scV]) ⟨_,rfl,k+1,by omega,rfl,rfl,rfl⟩⟩
    ·obtain rfl:k=s.length:=by omega
     rw[List.take_length];simp[ztq,Nat.add_assoc,zcQ];exact⟨⟨rfl,rfl⟩,Out.tup (bs:=[.agg (zai ((zaG f s:Nat):Int)),.int .i64 0]) hs hK ⟨zaU rfl rfl,zaU rfl rfl,trivial⟩⟩
theorem zwj {aa:List Dat} {t:VT} {i:IT} {v:VT} (hf:zbx aa t=true) (hi:0≤rdV aa i t) (hh:zdv aa v t=true):atR aa t i v=.tup [.agg (zai ((atV aa i t v:Nat):Int)),.int .i64 0]:=by unfold atR;rw[zd1 hf,if_neg (by omega),hh];rfl
theorem zE4 (aa:List Dat) (aq:aa.length≤9223372036854775807) (t:VT) (i j:IT) (v:VT) (H:zaa) (K:Kt) (hK:K (.bool true) H) :
  ACalls tP zqb [.sl (aa.map Dat.cs) .none,.agg t.cs,.agg i.cs,.agg j.cs,.agg v.cs] H K:=by
 refine ACalls.out (zTd λhs=>?_);have hO:∀ J,Out H.length K (.bool true) (H++J):=λJ=>Out.bool rfl (Nat.le_refl _) hs hK;obtain⟨x,y,z,aB,hx,hy,hz⟩:=za2 t;obtain⟨x2,y2,aJ,bh,fa⟩:=zdw i;obtain⟨x3,y3,aY,bC,lD⟩:=zdw j;obtain⟨x4,y4,z4,ci,hx4,hy4,hz4⟩:=za2 v;simp[zq2,aB,aJ,aY,ci,Nat.add_assoc];rw[←aB];refine zWP aa aq t _ _ λb0 bJ=>?_;cases b0 with
 | false=>simp;exact hO _
 | true=>
 obtain⟨hk,ht⟩:=bJ rfl;simp[Nat.add_assoc];rw[←aJ];refine zEU i _ _ λb1 bG=>?_;cases b1 with
 | false=>simp;exact hO _
 | true=>
 have hi:=bG rfl;simp[Nat.add_assoc];rw[←aY];refine zEU j _ _ λb2 bz=>?_;cases b2 with
 | false=>simp;exact hO _
 | true=>
 have hj:=bz rfl;simp[Nat.add_assoc];rw[←ci];refine zNv v _ _ λb3 ml=>?_;cases b3 with
 | false=>simp;exact hO _
 | true=>
 have hv:=ml rfl;simp[ci,Nat.add_assoc];rw[←ci];refine zOd v.nodes v (Nat.le_refl _) (by omega) _ _ ?_;by_cases h80:80<v.nodes
 ·have jL:decide ((80:Int)<(v.nodes:Int))=true:=by simp;omega
  simp[jL];exact hO _
 have jL:decide ((80:Int)<(v.nodes:Int))=false:=by simp;omega
 simp[jL,aB,aJ,aY,ci,Nat.add_assoc];rw[←aB,←ci];refine ztj aa hk v t (by omega) (by omega) _ _ ?_;cases hh:zdv aa v t with
 | false=>simp;exact hO _
 | true=>
 obtain⟨hD,dU,cK⟩:=zpm hh;simp[aB,aJ,aY,ci,Nat.add_assoc];rw[←aB,←aJ,←aY,←ci];refine zAp hk t ht i j (by omega) (by omega) _ _ ?_;rcases zG0 aa hk t i j with ⟨e,he,hr⟩ | ⟨hf,d1,d2,d6,hr⟩
 ·rw[hr];have kg:(e != 0)=true:=by simpa using he
  simp[kg,Nat.add_assoc];refine zwk _ _ ?_;exact hO _
 ·have h8:=zfo hf;obtain⟨L1,L2⟩:=zHq hf d1 d2 d6;obtain⟨R1,R2⟩:=(zem h8 (i.nodes+j.nodes)).1 t i j (by omega) d1 d2 d6;have bV:=(zzS h8 hk (i.nodes+j.nodes)).1 t i j v (by omega) cK d1 d2;rw[hr];obtain⟨R,hR⟩:∃ R,R=zbz aa (i.nodes+j.nodes) t i j:=⟨_,rfl⟩;rw[←hR]at R1 R2 bV L1 L2 ⊢;have R3:∀ p∈R,0≤rdV aa p.1 t∧rdV aa p.1 t≤6:=λp hp=>by have:=R1 p hp;omega
  rw[←zyf R3]at bV;obtain⟨L,hL⟩:∃ L,L=zcc aa t R 7:=⟨_,rfl⟩;rw[←hL]at bV L1 L2 ⊢;obtain⟨f,lV⟩:∃ f:IT→Nat,f=λx=>atV aa x t v:=⟨_,rfl⟩;have ai:=AtOk.le h8 (aa:=aa) (i:=i) (t:=t) (v:=v) ⟨by omega,dU,d1,cK,by omega,by omega⟩;have aj:=AtOk.le h8 (aa:=aa) (i:=j) (t:=t) (v:=v) ⟨by omega,dU,d2,cK,by omega,by omega⟩;obtain⟨a,ha⟩:∃ a,a=atV aa i t v:=⟨_,rfl⟩;obtain⟨b,hb⟩:∃ b,b=atV aa j t v:=⟨_,rfl⟩;rw[←ha]at ai bV;rw[←hb]at aj bV;simp[aB,aJ,aY,ci,Nat.add_assoc];rw[←aB,←aJ,←aY,←ci];refine zCb hk t (by omega) i (by omega) v (by omega) _ _ ?_;rw[zwj hf d1 hh,←ha];simp[aB,aJ,aY,ci,Nat.add_assoc,zcQ];rw[←aB,←aY,←ci];refine zCb hk t (by omega) j (by omega) v (by omega) _ _ ?_;rw[zwj hf d2 hh,←hb];simp[aB,aJ,aY,ci,Nat.add_assoc,zcQ];rw[←aB,←ci];refine zQj hk t ht hf v (by omega) hh L (λp hp=>by have:=L1 p hp;omega) (by omega) _ _ ?_;rw[bV];simp[Nat.add_assoc,zcQ];have a8:=Nat.mul_le_mul ai aj;have kf:Sm ((a*b:Nat):Int):=zdh (k:=12) (by omega) (by omega);refine zaB (.agg (zai ((a*b:Nat):Int))) (λJ=>ziy _ _ (zdh ai (by omega)) (zdh aj (by omega)) _ _ ⟨by rw[Int.natCast_mul],rfl⟩) ?_;have hab2:(a:Int)*(b:Int)=((a*b:Nat):Int):=by rw[Int.natCast_mul]
  rw[hab2];refine zaB (.bool true) (λJ=>zCD _ kf _ _ ⟨rfl,rfl⟩) ?_;simp;refine zaB (.bool true) (λJ=>zwk _ _ ⟨rfl,rfl⟩) ?_;exact hO _
end Go.Proofs.YtdmamdnkcefmmaaGreatDoor
namespace Go.Abs
open Go Go.RowKit

def zbE (P:Program):Nat→TypeId→List AV→Prop
 | 0,_,_=>False
 | n+1,t,asx=>match P.underlying t with
  | some .bool=>∃ b,asx=[.bool b]
  | some (.int k)=>∃ m,asx=[.int k m]∧(Lit.int k m).wf=true
  | some .string=>∃ s,asx=[.str s]∧s.length≤maxLen
  | some (.slice e)=>∃ es,asx=[.sl es .none]∧es.length≤maxLen∧∀ c∈es,zbE P n e c
  | some (.struct fs)=>asx.length=P.cellsOf t∧∀ f∈fs.toList,zbE P n f.type ((asx.drop f.offset).take (P.cellsOf f.type))
  | _=>False

def ze6 (P:Program):List Field→Nat→Nat→Bool
 | [],at_,n=>at_ == n
 | f::fs,at_,n=>f.offset == at_ && ze6 P fs (at_+P.cellsOf f.type) n
def zh1 (P:Program) (S:List TypeId):Bool:=
 S.all λt=>match P.underlying t with
  | some .bool | some (.int _) | some .string=>P.cellsOf t == 1
  | some (.slice e)=>S.contains e && decide (0<P.cellsOf e) && P.cellsOf t == 1
  | some (.struct fs)=>fs.toList.all (λf=>S.contains f.type) && ze6 P fs.toList 0 (P.cellsOf t)
  | _=>false

section
variable {Hh:Type} {enc:TypeId × Value→Hh} {P:Program} {w:World} {base:Nat} {spare:Nat→Bool} {gE:Bool}

theorem zzu {R:Value→AV→Prop} {cs:List Value}:∀ (fs:List Field) (at_ n:Nat) (T:Field→List AV→Prop),ze6 P fs at_ n=true→cs.length=n →
  (∀ f∈fs,∃ asx,All2 R ((cs.drop f.offset).take (P.cellsOf f.type)) asx∧T f asx)→at_≤n →
  ∃ asx,All2 R (cs.drop at_) asx∧∀ f∈fs,T f ((asx.drop (f.offset-at_)).take (P.cellsOf f.type))∧at_≤f.offset
 | [],at_,n,T,ht,hl,hf,aQ=>by simp[ze6]at ht;subst ht;refine⟨[],?_,by simp⟩;rw[List.drop_eq_nil_of_le (by omega)];trivial
 | f::fs,at_,n,T,ht,hl,hf,aQ=>by
  simp only[ze6,Bool.and_eq_true,beq_iff_eq]at ht;obtain⟨h1,h2⟩:=ht;have hbound:∀ (fs:List Field) (k n:Nat),ze6 P fs k n=true→k≤n:=by
   intro fs;induction fs with
   | nil=>intro k n h;simp[ze6]at h;omega
   | cons g gs ih=>intro k n h;simp only[ze6,Bool.and_eq_true]at h;have:=ih _ _ h.2;omega
  have hb:=hbound fs _ _ h2;obtain⟨as0,iq,hT0⟩:=hf f (by simp);obtain⟨as1,ha1,hT1⟩:=zzu fs (at_+P.cellsOf f.type) n T h2 hl (λg hg=>hf g (by simp[hg])) hb;have cM:as0.length=P.cellsOf f.type:=by have:=iq.length;rw[List.length_take,List.length_drop]at this;omega
  refine⟨as0++as1,?_,?_⟩
  ·have:cs.drop at_=(cs.drop f.offset).take (P.cellsOf f.type)++cs.drop (at_+P.cellsOf f.type):=by rw[h1,←List.drop_drop,List.take_append_drop]
   rw[this];exact iq.append ha1
  ·intro g hg;rcases List.mem_cons.1 hg with rfl | hg
   ·rw[h1,Nat.sub_self,List.drop_zero,←cM,List.take_left];exact⟨hT0,Nat.le_refl _⟩
   ·obtain⟨k1,k2⟩:=hT1 g hg;refine⟨?_,by omega⟩;have:(as0++as1).drop (g.offset-at_)=as1.drop (g.offset-(at_+P.cellsOf f.type)):=by rw[List.drop_append,List.drop_eq_nil_of_le (by omega),List.nil_append];congr 1;omega
    rw[this];exact k1

theorem zi5 {a:Addr} {n:Nat} {cs:List Value} (h:w.cells? base a n=some cs):cs.length=n∧∀ j v,cs[j]?=some v→w.cell? (a.add j)=some v:=by
 unfold World.cells? at h;split at h
 ·have h1:=mapM_some_length h;refine⟨by simpa using h1,λj v hj=>?_⟩;have mG:j<n:=by have:=(List.getElem?_eq_some_iff.1 hj).1;simp at h1;omega
  have:=mapM_some_get h j j (by simp[mG]);rw[this];exact hj
 ·cases h

theorem zGP {b o:Nat} {v:Value} (h:w.cell? ⟨b,o,none⟩=some v):o<zcz w b:=by
 unfold World.cell? at h;unfold zcz;split at h
 ·rename_i c t fr hb;simp only[hb];simp at h;exact (Array.getElem?_eq_some_iff.1 h).1
 ·cases h

theorem zzB {S:List TypeId} (hS:zh1 P S=true):∀ (n:Nat) (t:TypeId) (cs:List Value) (x:DataW Hh × List MemPlace),t∈S→DataW.trod enc P w base spare gE n t cs=some x →
  ∃ asx,All2 (DRel w (zcz w)) cs asx∧zbE P n t asx:=by
 intro n;induction n with
 | zero=>intro t cs x _ h;simp[DataW.trod]at h
 | succ n ih=>
  intro t cs x ht h;have hp:=List.all_eq_true.1 hS t ht;unfold zbE;cases hu:P.underlying t with
  | none=>simp[hu]at hp
  | some d=>
   rw[hu]at hp;cases d <;> simp only[]at hp <;> try (cases hp;done)
   case bool=>obtain⟨b,rfl,_⟩:=DataW.trod_bool hu h;exact⟨[.bool b],⟨.bool b,trivial⟩,b,rfl⟩
   case int k=>obtain⟨m,rfl,_,hw⟩:=DataW.trod_int hu h;exact⟨[.int k m],⟨.int k m,trivial⟩,m,rfl,hw⟩
   case string=>
    obtain⟨s,rfl,_,hw⟩:=DataW.trod_string hu h;have hs:(⟨s.data.toList.toArray⟩:ByteArray)=s:=by simp
    refine⟨[.str s.data.toList],⟨?_,trivial⟩,s.data.toList,rfl,by rw[Array.length_toList];exact hw⟩;have:=DRel.str (w:=w) (L:=zcz w) s.data.toList;rwa [hs]at this
   case slice e=>
    simp only[Bool.and_eq_true,decide_eq_true_eq]at hp;obtain⟨⟨he,bX⟩,_⟩:=hp;have he:e∈S:=by simpa using he
    rcases DataW.trod_slice hu h with ⟨rfl,_⟩ | ⟨a,len,cap,elems,rest,n',hn,rfl,_,hb,hl,hm,aq,cF,_⟩
    ·exact⟨[.sl [] .none],⟨.slE _ _,trivial⟩,[],rfl,by simp,by simp⟩
    ·obtain rfl:n=n':=by omega
     have a7:∀ i,i<len→∃ cs asx,w.cells? base (a.add (i*P.cellsOf e)) (P.cellsOf e)=some cs∧All2 (DRel w (zcz w)) cs asx∧zbE P n e asx:=by
      intro i hi;have h1:=cF i hi;rw[List.getElem?_eq_getElem (by omega)]at h1;cases hc:w.cells? base (a.add (i*P.cellsOf e)) (P.cellsOf e) with
      | none=>rw[hc]at h1;cases h1
      | some cs=>rw[hc]at h1;obtain⟨asx,h2,h3⟩:=ih e cs _ he h1;exact⟨cs,asx,rfl,h2,h3⟩
     by_cases h0:len=0
     ·subst h0;exact⟨[.sl [] .none],⟨.slE _ _,trivial⟩,[],rfl,by simp,by simp⟩
     ·-- the address is a plain one
      have hspot:a.spot=none:=by obtain⟨cs,asx,h1,h2,_⟩:=a7 0 (by omega);obtain⟨h3,h4⟩:=zi5 h1;have h5:=h4 0 cs[0] (by simp);have:=World.cell?_spot h5;simpa[Addr.add]using this
      obtain⟨b,off,sp⟩:=a;simp only at hspot;subst hspot;obtain⟨f,hf⟩:∃ f:Nat→List Value × List AV,∀ i,i<len→w.cells? base ((⟨b,off,none⟩:Addr).add (i*P.cellsOf e)) (P.cellsOf e)=some (f i).1∧All2 (DRel w (zcz w)) (f i).1 (f i).2∧zbE P n e (f i).2:=
       Deep.choose_lt (p:=λi (y:List Value × List AV)=>w.cells? base ((⟨b,off,none⟩:Addr).add (i*P.cellsOf e)) (P.cellsOf e)=some y.1∧All2 (DRel w (zcz w)) y.1 y.2∧zbE P n e y.2)
        (λi hi=>by obtain⟨cs,asx,h1,h2,h3⟩:=a7 i hi;exact⟨(cs,asx),h1,h2,h3⟩)
      have aH:∀ i,i<len→∀ j v,(f i).1[j]?=some v→w.cell? ⟨b,off+i*P.cellsOf e+j,none⟩=some v:=by intro i hi j v hj;have:=(zi5 (hf i hi).1).2 j v hj;rw[add_lit,add_lit]at this;exact this
      have d5:∀ i,i<len→(f i).2.length=P.cellsOf e:=λi hi=>by rw[←(hf i hi).2.1.length];exact (zi5 (hf i hi).1).1
      refine⟨[.sl ((List.range len).map λi=>(f i).2) .none],⟨?_,trivial⟩,_,rfl,by simp;omega,?_⟩
      ·have:=DRel.sl (w:=w) (L:=zcz w) b off cap (P.cellsOf e) ((List.range len).map λi=>(f i).2) (λi j=>(f i).1.getD j undef) (by simp;exact h0) (by simpa using hl) ?_ ?_ ?_ ?_
       ·simpa using this
       ·-- the last cell is there
        have hi:len-1<len:=by omega
        have hj:P.cellsOf e-1<(f (len-1)).1.length:=by rw[(zi5 (hf _ hi).1).1];omega
        have:=zGP (aH (len-1) hi (P.cellsOf e-1) _ (List.getElem?_eq_getElem hj));have ff:(len-1)*P.cellsOf e+P.cellsOf e=len*P.cellsOf e:=by rw[←Nat.succ_mul];congr 1;omega
        simp;omega
       ·intro i hi;simp at hi;simpa using d5 i hi
       ·intro i j hi hj;simp at hi hj;have a6:j<(f i).1.length:=by rw[(hf i hi).2.1.length];exact hj
        simp only[List.getD_eq_getElem?_getD,List.getElem?_eq_getElem a6,Option.getD_some];exact aH i hi j _ (List.getElem?_eq_getElem a6)
       ·intro i j hi hj;simp at hi hj;have a6:j<(f i).1.length:=by rw[(hf i hi).2.1.length];exact hj
        obtain⟨c,h1,h2⟩:=(hf i hi).2.1.get' (List.getElem?_eq_getElem a6);simp only[List.getD_eq_getElem?_getD,List.getElem?_eq_getElem a6,Option.getD_some,List.getElem_map,List.getElem_range];have:(f i).2[j]=c:=by rw[List.getElem?_eq_getElem hj]at h1;exact Option.some.inj h1
        rw[this];exact h2
      ·intro c hc;obtain⟨i,hi,rfl⟩:=List.mem_map.1 hc;exact (hf i (by simpa using hi)).2.2
   case struct fs=>
    simp only[Bool.and_eq_true]at hp;obtain⟨fO,htile⟩:=hp;obtain⟨xs,n',hn,_,bQ,cj,a7⟩:=DataW.trod_struct hu h;obtain rfl:n=n':=by omega
    obtain⟨asx,h1,h2⟩:=zzu (P:=P) (R:=DRel w (zcz w)) (cs:=cs) fs.toList 0 (P.cellsOf t) (λf asx=>zbE P n f.type asx) htile bQ (λf hf=>by
     obtain⟨i,hi⟩:=List.mem_iff_getElem?.1 hf;have df:fs[i]?=some f:=by simpa using hi
     have h3:=a7 i f df;have ap:i<xs.length:=by rw[cj];exact (Array.getElem?_eq_some_iff.1 df).1
     rw[List.getElem?_eq_getElem ap]at h3;exact ih f.type _ _ (by simpa using List.all_eq_true.1 fO f hf) h3) (Nat.zero_le _)
    rw[List.drop_zero]at h1;refine⟨asx,h1,by rw[←h1.length];exact bQ,λf hf=>?_⟩;simpa using (h2 f hf).1
end

theorem zkf {Hh:Type} {enc:TypeId × Value→Hh} {P:Program} {w:World} {base:Nat} {spare:Nat→Bool} {gE:Bool} {S:List TypeId} (hS:zh1 P S=true) {t:TypeId} (ht:t∈S) {cs:Array Value} {d:DataW Hh} {p:List MemPlace}
  (h:DataW.Trod enc P w base spare gE t (.agg cs) d p):∃ n asx,zbE P n t asx∧TRel w (G0 w) (.agg cs) (.agg asx):=by
 obtain⟨n,hn⟩:=h;obtain⟨asx,h1,h2⟩:=zzB hS n t _ _ ht hn;exact⟨n,asx,h2,cs,rfl,h1.mono λ_ _ hd=>ARel.of_b (DRel.toB (G:=G0 w) hd)⟩
theorem zHz {Hh:Type} {enc:TypeId × Value→Hh} {P:Program} {w:World} {base:Nat} {spare:Nat→Bool} {gE:Bool} {S:List TypeId} (hS:zh1 P S=true) {t:TypeId} (ht:t∈S) {v:Value} {d:DataW Hh} {p:List MemPlace} (hv:v.cells=#[v])
  (h:DataW.Trod enc P w base spare gE t v d p):∃ n a,zbE P n t [a]∧TRel w (G0 w) v a:=by
 obtain⟨n,hn⟩:=h;obtain⟨asx,h1,h2⟩:=zzB hS n t _ _ ht hn;rw[hv]at h1
 match asx,h1,h2 with
 | [a],h1,h2=>exact⟨n,a,h2,TRel.of_v (VRel.of_a (ARel.of_b (DRel.toB (G:=G0 w) h1.1)))⟩
section
variable {P:Program} {n:Nat} {t:TypeId} {l:List AV}
theorem zgG {k:IntKind} (hu:P.underlying t=some (.int k)) (h:zbE P n t l):∃ m,l=[.int k m]∧(Lit.int k m).wf=true:=by
 cases n with
 | zero=>exact h.elim
 | succ n=>unfold zbE at h;rw[hu]at h;exact h
theorem zzM (hu:P.underlying t=some .string) (h:zbE P n t l):∃ s,l=[.str s]∧s.length≤maxLen:=by
 cases n with
 | zero=>exact h.elim
 | succ n=>unfold zbE at h;rw[hu]at h;exact h
theorem zgH {e:TypeId} (hu:P.underlying t=some (.slice e)) (h:zbE P n t l):∃ es n',n'<n∧l=[.sl es .none]∧es.length≤maxLen∧∀ c∈es,zbE P n' e c:=by
 cases n with
 | zero=>exact h.elim
 | succ n=>unfold zbE at h;rw[hu]at h;obtain⟨es,h1,h2,h3⟩:=h;exact⟨es,n,by omega,h1,h2,h3⟩
theorem zid {fs:Array Field} (hu:P.underlying t=some (.struct fs)) (h:zbE P n t l):∃ n',n'<n∧l.length=P.cellsOf t∧∀ f∈fs.toList,zbE P n' f.type ((l.drop f.offset).take (P.cellsOf f.type)):=by
 cases n with
 | zero=>exact h.elim
 | succ n=>unfold zbE at h;rw[hu]at h;exact⟨n,by omega,h⟩
theorem zfs {α:Type} {cs:α→List AV}:∀ {es:List (List AV)},(∀ c∈es,∃ x,c=cs x)→∃ xs:List α,es=xs.map cs
 | [],_=>⟨[],rfl⟩
 | e::es,h=>by obtain⟨x,hx⟩:=h e (by simp);obtain⟨xs,fM⟩:=zfs (es:=es) (λc hc=>h c (by simp[hc]));exact⟨x::xs,by simp[hx,fM]⟩
end
end Go.Abs

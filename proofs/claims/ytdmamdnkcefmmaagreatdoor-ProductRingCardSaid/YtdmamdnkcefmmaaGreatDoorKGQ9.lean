import Derived.Test.YtdmamdnkcefmmaaGreatDoorKOJ
import Derived.Test.YtdmamdnkcefmmaaGreatDoorKLB
import Derived.Test.YtdmamdnkcefmmaaGreatDoorKQD
import Derived.Test.YtdmamdnkcefmmaaGreatDoorAbsQ1
import Derived.Test.YtdmamdnkcefmmaaGreatDoorRL2
import Derived.Shelf.SlSortCmp.NoneTotal
import Derived.Test.YtdmamdnkcefmmaaGreatDoorProg
import Derived.Test.YtdmamdnkcefmmaaGreatDoorKNum
import Derived.KernelRfl
import Derived.Test.YtdmamdnkcefmmaaGreatDoorKBd2
set_option linter.unusedSimpArgs false
set_option linter.unusedVariables false
set_option maxRecDepth 100000
namespace Go.Proofs.YtdmamdnkcefmmaaGreatDoor
section
open Go.RowKit
variable {P:Program} {B:Nat} {w:World} {G:Gh} {H:zaa}
theorem HRel.newRowV(h:HRel B w G H)(e size cap:Nat)(cur:Array Value)(hc:cap≤maxLen)(hs:cur.size=cap*size):
  Ext B w G (w.alloc (.cells cur e)) ⟨G.L,G.μ++[.own (.slice (some ⟨w.heap.size,0,none⟩) 0 cap) size 0]⟩∧HRel B (w.alloc (.cells cur e)) ⟨G.L,G.μ++[.own (.slice (some ⟨w.heap.size,0,none⟩) 0 cap) size 0]⟩ (H++[.vec e size 0 []]):=by
 have he:=Ext.alloc h (.cells cur e) G.L (λ_ _=>rfl) [.own (.slice (some ⟨w.heap.size,0,none⟩) 0 cap) size 0];have split:∀(id:Nat) gi,(G.μ++[GI.own (.slice (some ⟨w.heap.size,0,none⟩) 0 cap) size 0])[id]?=some gi→G.μ[id]?=some gi∨(id=G.μ.length∧gi=.own (.slice (some ⟨w.heap.size,0,none⟩) 0 cap) size 0):=by
  intro id gi hg;by_cases d7:id<G.μ.length
  ·rw[List.getElem?_append_left d7]at hg;exact .inl hg
  ·have eM:=(List.getElem?_eq_some_iff.1 hg).1;simp at eM;have:id=G.μ.length:=by omega
   subst this;simp at hg;exact .inr ⟨rfl,hg.symm⟩
 refine⟨he,by simp[h.len],?_,?_,λb hb=>?_,?_,?_⟩
 ·intro id ab gi h1 h2;rcases split id gi h2 with h2 | ⟨rfl,rfl⟩
  ·have d7:id<H.length:=by rw[←h.len];exact (List.getElem?_eq_some_iff.1 h2).1
   rw[List.getElem?_append_left d7]at h1;exact(h.ok id ab gi h1 h2).keep he (λb hb=>⟨zcI (h.lt id gi b h2 hb),rfl⟩)
  ·rw[h.len]at h1;simp at h1;subst h1;refine⟨rfl,rfl,⟨[],⟨by simp,.inr ⟨w.heap.size,cap,cur,rfl,h.base,zdq _,bu _,hc,hs,by simp⟩⟩,trivial⟩,λb hb=>?_⟩;simp[Value.ownBlock]at hb;subst hb;exact h.fresh _ (aa _)
 ·intro id id' gi gi' b h1 h2 h3 h4;rcases split id gi h1 with k1 | ⟨e1,e2⟩ <;> rcases split id' gi' h2 with k2 | ⟨e3,e4⟩
  ·exact h.dist id id' gi gi' b k1 k2 h3 h4
  ·rw[e4]at h4;simp[GI.block,Value.ownBlock]at h4;have:=h.lt id gi b k1 h3;omega
  ·rw[e2]at h3;simp[GI.block,Value.ownBlock]at h3;have:=h.lt id' gi' b k2 h4;omega
  ·rw[e1,e3]
 ·rw[zb7]at hb;exact h.fresh b (by omega)
 ·intro id gi b h1 h2;rw[zb7];rcases split id gi h1 with k1 | ⟨e1,e2⟩
  ·have:=h.lt id gi b k1 h2;omega
  ·rw[e2]at h2;simp[GI.block,Value.ownBlock]at h2;omega
 ·rw[zb7];have:=h.base;omega
end
theorem zIc(n:Nat)(hn:0<n)(jR:n≤1000000)(H:zaa)(K:Kt)(hK:K (.ov H.length 0) (H++[.vec zaC 5 0 []])):
  ACalls tP zxc [.snil,.int .i64 n] H K:=by
 rintro B w G ⟨vs⟩ hR hv
 match vs,hv with
 |[v1,v2],⟨h1,h2,_⟩=>
 have h1:v1=.slice none 0 0:=h1;have h2:v2=.int .i64 n:=h2;subst h1 h2;obtain⟨i0,jf,pG,lQ,fA⟩:∃i0,tP.info? 55=some i0∧i0.zero=some (.agg #[.int .i64 0,.slice none 0 0,.bool false,.slice none 0 0,.slice none 0 0])∧i0.size=5∧i0.bytes=88:=⟨_,rfl,rfl,rfl,rfl⟩;refine(Go.Proofs.Any8.slices_Grow_grow zJO i0 _ jf pG (by omega) none 0 0 n [] w (aa _) (by omega) (by rw[fA];omega) (by omega) (by simp) (λ_=>rfl) (λ_ h=>by cases h)).mono ?_;rintro e w' ⟨rfl,rfl⟩;have iT:=grownCap_ge w (0+n) 0 55;have fg:=grownCap_le_maxLen w (0+n) 0 55 (by simp only[maxLen];omega);obtain⟨z,hz⟩:∃z:Value,z=.agg #[.int .i64 0,.slice none 0 0,.bool false,.slice none 0 0,.slice none 0 0]:=⟨_,rfl⟩;rw[←hz];obtain⟨hE,hH⟩:=hR.drew (w.drawn+1) (bP _) |>.newRowV 55 5 (grownCap w (0+n) 0 55) (([]:List Value).toArray++Builtin.zeroCells z.cells (0+n-0)++Builtin.zeroCells z.cells (grownCap w (0+n) 0 55-(0+n))) fg (by
  simp only[cv,size_zeroCells,bR,List.length_nil];have:z.cells.size=5:=by rw[hz];rfl
  rw[this];omega)
 refine⟨_,_,_,_,rfl,(Ext.drew B w G (w.drawn+1) (bP _)).trans hE,hH,?_,hK⟩;refine⟨⟨_,_,rfl,λh=>by omega,bu _⟩,_,5,0,?_,aa _,λ_=>rfl⟩;rw[←hR.len];simp;rfl
theorem zIa(ls:List (List (IT × Nat)))(hp:0<ls.flatten.length)(hb:ls.flatten.length≤1000000)(hn:ls.length≤1000)(H0:zaa)(K:Kt)(hK:K (.sl (zaD ls.flatten) .none) (NX tmC zaC 5 H0 ls)):
  ACalls tP zqh [.ms H0.length 0 ls.length ls.length] (NX tmC zaC 5 H0 ls) K:=by
 refine ACalls.out (zVQ λhs=>?_);obtain⟨H,hH⟩:∃H,H=NX tmC zaC 5 H0 ls:=⟨_,rfl⟩;have fd:(vcs (H0.length+1) ls).length=ls.length:=zzp _ _;have hC:∀J,(H++J)[H0.length]?=some (.cells (vcs (H0.length+1) ls)):=λJ=>by rw[hH];exact zva _ _ _ _ _ _
 have hC0:H[H0.length]?=some (.cells (vcs (H0.length+1) ls)):=by have:=hC [];simpa using this
 have hV:∀J k (hk:k<ls.length),(H++J)[H0.length+1+k]?=some (.vec zaC 5 ls[k].length (tms ls[k])):=λJ k hk=>by rw[hH,zu8 tmC zaC 5 H0 J ls hk,tms,List.flatMap_def]
 have hl:H0.length<H.length:=zbk hC0;have eZ:∀i,(ls.take i).flatten.length≤ls.flatten.length:=λi=>by
  conv=>rhs;rw[←aT i ls]
  rw[cg,az];omega
 have hsu:∀i (hi:i<ls.length),(ls.take (i+1)).flatten=(ls.take i).flatten++ls[i]:=λi hi=>by rw[af hi,cg];simp
 rw[←hH]at hs hK ⊢;simp[zDG];refine zVN (Inv:=λq t3 t11 H'=>∃i:Nat,i≤ls.length∧q=ls.length-i∧t11=.int .i64 i∧t3=.int .i64 ((ls.take i).flatten.length:Nat)∧H'=H) ls.length ?_ ?_
 ·intro _;exact⟨0,by omega,by omega,rfl,rfl,rfl⟩
 ·rintro q t3 t11 H' ⟨i,hi,rfl,rfl,rfl,rfl⟩ hsc d8 eC Kb ee;by_cases d7:i<ls.length
  ·have h1:=eZ i;have h2:=eZ (i+1);have h3:=hsu i d7;have h4:=zkK (H0.length+1) ls i;rw[List.getElem?_eq_getElem d7]at h4;have h5:(ls.take (i+1)).flatten.length=(ls.take i).flatten.length+ls[i].length:=by rw[h3,az]
   obtain⟨m,hm⟩:∃m,m=(ls.take i).flatten.length:=⟨_,rfl⟩;rw[←hm]at h1 h5 eC ⊢;have ip:¬((m:Int)+(ls[i].length:Int)<0):=by omega
   have w1:IntKind.i64.wrap ((m:Int)+(ls[i].length:Int))=(m:Int)+(ls[i].length:Int):=zav (by omega) (by omega);simp[zuL,d7,hC0,zdm _ h4,w1,ip,wi i (by omega)];simp[zDH,zDI,wi i (by omega)];refine ee _ _ ⟨ls.length-(i+1),by omega,Back.at (J:=[]) (H2:=H') (by simp) (by omega) hsc ?_ ⟨_,_,rfl,i+1,by omega,rfl,rfl,by rw[h5];simp,rfl⟩⟩;simpa[zn3,AV.sc,AV.scV,AV.scA,AV.scB]using hl
  ·obtain rfl:i=ls.length:=by omega
   rw[aq];simp[zuL];have hg:=zIc ls.flatten.length hp hb;simp at hg;refine hg _ _ ?_;refine zVM (Inv:=λq t6 t27 H2=>∃i:Nat,i≤ls.length∧q=ls.length-i∧t27=.int .i64 i∧t6=.ov H'.length (ls.take i).flatten.length∧H2=H'++[.vec zaC 5 (ls.take i).flatten.length (tms (ls.take i).flatten)]) ls.length ?_ ?_
   ·intro _;exact⟨0,by omega,by omega,rfl,rfl,rfl⟩
   ·rintro q t6 t27 H2 ⟨i,hi,rfl,rfl,rfl,rfl⟩ fU iA lJ Kb2 fK;by_cases d7:i<ls.length
    ·have h1:=eZ i;have h2:=eZ (i+1);have h3:=hsu i d7;have h4:=zkK (H0.length+1) ls i;rw[List.getElem?_eq_getElem d7]at h4;obtain⟨u,hu⟩:∃ u,u=(ls.take i).flatten:=⟨_,rfl⟩;rw[←hu]at h1 h3 lJ fU ⊢;have hVi:=hV [.vec zaC 5 u.length (tms u)] i d7;have hCi:=hC [.vec zaC 5 u.length (tms u)];have eS:H0.length+1+i≠H'.length:=by have h9:=hV [] i d7;rw[aK]at h9;have:=zbk h9;omega
     simp[zuK,d7,hCi,zdm _ h4,wi i (by omega)];simp only[zax,hVi,zdV];simp[zJk,aj];have hl3:u.length+ls[i].length=((ls.take (i+1)).flatten).length:=by rw[h3,az]
     refine⟨⟨by omega,by omega⟩,?_⟩;have iC:tms u++tms ls[i]=tms ((ls.take (i+1)).flatten):=by rw[h3,zkD]
     rw[hl3,iC];refine fK _ _ ⟨ls.length-(i+1),by omega,Back.at (J:=[]) (H2:=H'++[.vec zaC 5 (ls.take (i+1)).flatten.length (tms (ls.take (i+1)).flatten)]) (by simp) (by simp) (hs.append (by simp only[AB.sc,List.all_cons,List.all_nil,zq4];rfl)) ?_ ⟨_,_,rfl,i+1,by omega,rfl,rfl,rfl,rfl⟩⟩;simp[zn2,AV.sc,AV.scV,AV.scA,AV.scB];omega
    ·obtain rfl:i=ls.length:=by omega
     rw[aq]at *;simp[zuK];have gb:=zG6 (J:=[.vec zaC 5 ls.flatten.length (tms ls.flatten)]) ls.flatten H'.length (aa _) (by simp) hs hK;simpa using gb
section
open Go.RowKit
variable {P:Program} {B:Nat} {w:World} {G:Gh} {H:zaa}
theorem zwn{v:Value}{a:AV}(h:DRel w G.L v a):ARel w G v a:=by
 cases h with
 |bool b=>rfl
 |int k n=>rfl
 |str s=>rfl
 |slE a cap=>exact .slE a cap
 |sl b off cap dY es vs en ey hL ep hc hd=>exact .sl b off cap dY es vs en ey hL ep hc hd
end
section
open Go.Proofs (sortWorld sortWorldK ltOf CmpLays)
open Go.RowKit
open Go.Sort (grow putRow putCells mapBlock onCells ahead SWO PermIn SortedIn Holds HoldsK flatK size_flatK get_flatK)
variable {P:Program} {B:Nat} {w:World} {G:Gh} {H:zaa}
theorem zoW{α:Type}{k:Nat}:∀ {l:List (List α)} (hk:∀ r∈l,r.length=k) {i j:Nat} (hj:j<k),l.flatten[i*k+j]?=(l[i]?).bind λr=>r[j]?
 |[],_,i,j,_=>by simp
 |r::l,hk,0,j,hj=>by have:=hk r (by simp);simp[List.getElem?_append_left (show j<r.length by omega)]
 |r::l,hk,i+1,j,hj=>by
  have h1:=hk r (by simp);have h2:r.length≤(i+1)*k+j:=by rw[aZ];omega
  rw[List.flatten_cons,List.getElem?_append_right h2,show (i+1)*k+j-r.length=i*k+j by rw[aZ];omega,zoW (λx hx=>hk x (by simp[hx])) hj];rfl
theorem zww{α:Type}{k:Nat}:∀ {l:List (List α)} (hk:∀ r∈l,r.length=k),l.flatten.length=l.length*k
 |[],_=>by simp
 |r::l,hk=>by rw[List.flatten_cons,az,zww (λx hx=>hk x (by simp[hx])),hk r (by simp),List.length_cons,aZ];omega
theorem zFO{α:Type}[Inhabited α](enc:α→List Value)(k:Nat)(gI:0<k)(hk:∀x,(enc x).length=k)(d:Array α):(flatK enc k d).toList=(d.toList.map enc).flatten:=by
 have hl:∀r∈d.toList.map enc,r.length=k:=λr hr=>by obtain⟨x,_,rfl⟩:=aC.1 hr;exact hk x
 refine aJ λt=>?_;have ht:t=t / k*k+t % k:=by rw[ba];exact(dh t k).symm
 have hm:t % k<k:=ck _ gI;by_cases h:t<d.size*k
 ·have h1:t / k<d.size:=(ct gI).2 h;rw[Array.getElem?_toList,Array.getElem?_eq_getElem (by simpa using h),←getElem!_pos (flatK enc k d) t (by simpa using h),get_flatK _ _ _ _ h]
  conv=>rhs;rw[ht,zoW hl hm]
  rw[List.getElem?_map,Array.getElem?_toList,Array.getElem?_eq_getElem h1];simp only[Option.map_some,Option.bind_some];rw[getElem!_pos d _ h1,List.getElem?_eq_getElem (by rw[hk];exact hm),getElem!_pos (enc d[t / k]) _ (by rw[hk];exact hm)]
 ·rw[List.getElem?_eq_none (by simpa using h),List.getElem?_eq_none (by rw[zww hl];simpa using h)]
theorem zvC{α β:Type}{R:α→β→Prop}:∀ {l:List (List α)} {m:List (List β)},All2 (λa b=>All2 R a b) l m→All2 R l.flatten m.flatten
 |[],[],_=>trivial
 |a::l,b::m,⟨h1,h2⟩=>by rw[List.flatten_cons,List.flatten_cons];exact All2.append h1 (zvC h2)
theorem HRel.sortedK(h:HRel B w G H){id e k n g cap:Nat}{cs cs':List AV}(hH:H[id]?=some (.vec e k n cs))(hμ:G.μ[id]?=some (.own (.slice (some ⟨g,0,none⟩) n cap) k n))(d:Array Value)(hd:d.size=n*k)(hc:All2 (ARel w G) d.toList cs')(m:Nat)(os:Array Obj):
  Ext B w G (sortWorld _root_.id w g 0 m d os) G∧HRel B (sortWorld _root_.id w g 0 m d os) G (H.set id (.vec e k n cs')):=by
 obtain⟨_,_,⟨xs,⟨fN,ho⟩,od⟩,jg⟩:=h.ok id _ _ hH hμ;rcases ho with ⟨h1,_⟩|⟨g',cap',cur,h1,hB,hw,ey,fg,ep,eX⟩
 ·cases h1
 cases h1;have eH:d.size≤cur.size:=by rw[hd,ep];exact au _ ey
 have fb:=zHo _root_.id d cur eH;rw[hd]at fb;simp only[List.map_id]at fb;have h1:=h.storeV (cur':=putCells _root_.id 0 d cur) (xs':=d.toList) hH hμ hw hB ey fg (by simp[putCells,ep]) fb (by simp[hd]) hc;obtain⟨kq,hR1⟩:=h1;have jG:=Ext.drew B (w.setRow g (putCells _root_.id 0 d cur)) G ((w.setRow g (putCells _root_.id 0 d cur)).drawn+m) (dF _ _);have ie:=hR1.drew ((w.setRow g (putCells _root_.id 0 d cur)).drawn+m) (dF _ _);obtain⟨nZ,hR3⟩:=HRel.grown os.toList ie;have heq:sortWorld _root_.id w g 0 m d os=grow { w.setRow g (putCells _root_.id 0 d cur) with drawn:=(w.setRow g (putCells _root_.id 0 d cur)).drawn+m } os.toList.toArray:=by
  have hh:w.heap.modify g (onCells (putCells _root_.id 0 d))=(w.setRow g (putCells _root_.id 0 d cur)).heap:=by
   unfold World.setRow;refine Array.ext_getElem? λi=>?_;simp only[Array.getElem?_modify];by_cases hi:g=i
   ·subst hi;simp[hw,onCells]
   ·simp[hi]
  have e:sortWorld _root_.id w g 0 m d os=grow { w with heap:=w.heap.modify g (onCells (putCells _root_.id 0 d)),drawn:=w.drawn+m } os:=rfl;rw[e,hh,Array.toArray_toList];rfl
 rw[heq];exact⟨(kq.trans jG).trans nZ,hR3⟩
theorem zIm(h:HRel B w G H){n k g f:Nat}(jA:G.L g=0){enc:Fin n→List Value}[Inhabited (Fin n)]{rows:Nat→List AV}{cf:Nat→Nat→Int}(hd:∀i:Fin n,All2 (DRel w G.L) (enc i) (rows i))(jN:∀i j,i<n→j<n→ACalls P f [.agg (rows i),.agg (rows j)] [] λr _=>r=.int .i64 (cf i j)):CmpLays P f #[] enc k (λi j=>cf i j) g 0 n w:=by
 intro m os dk hdk x y;show Calls P f _ (sortWorld _root_.id w g 0 m (flatK enc k dk) os) λe w'=>e=.returned (.int .i64 (cf x y))∧∃q os',w'=grow ((sortWorld _root_.id w g 0 m (flatK enc k dk) os).drewN q) os';generalize hW:sortWorld _root_.id w g 0 m (flatK enc k dk) os=W;have ep:w.heap.size≤W.heap.size:=by rw[←hW];exact zIl _ _ _ _ _ _
 have er:∀a:Addr,a.block≠g→a.block<w.heap.size→W.cell? a=w.cell? a:=λa h1 h2=>by rw[←hW];exact zIk _ _ _ _ _ _ a h1 h2
 have hL:∀b,W.heap.size≤b→G.L b=0:=λb hb=>h.fresh b (by omega);have fL:∀{v:Value} {a:AV},DRel w G.L v a→DRel W G.L v a:=λhx=>hx.mono (λ_=>aa _) λb off ho=>by
  refine er ⟨b,off,none⟩ ?_ ?_
  ·intro hb;have hb:b=g:=hb;rw[hb,jA]at ho;omega
  ·show b<w.heap.size;refine cj λhb=>?_;rw[h.fresh b hb]at ho;omega
 have harg:∀i:Fin n,VRel W ⟨G.L,[]⟩ (.agg (enc i).toArray) (.agg (rows i)):=λi=>⟨_,rfl,by
  rw[List.toList_toArray];exact(hd i).mono λ_ _ hx=>zwn (G:=⟨G.L,[]⟩) (fL hx)⟩
 refine (jN x y x.2 y.2 W.heap.size W ⟨G.L,[]⟩ #[.agg (enc x).toArray,.agg (enc y).toArray]
  ⟨rfl,λ_ _ _ h=>by simp at h,λ_ _ _ _ _ h=>by simp at h,hL,λ_ _ _ h=>by simp at h,aa _⟩ ⟨harg x,harg y,trivial⟩).mono ?_
 rintro e w' ⟨v,r,H',G',rfl,h2,_,h4,rfl⟩;have h4:v=.int .i64 (cf x y):=h4;subst h4;exact⟨rfl,zFW h2.dr h2.below⟩
theorem ACalls.sortFuncK{ρ:Go.Shelf.Ren}(L:Go.Proofs.SlLaysF0.n6 P ρ){id e k n f:Nat}(gI:0<k)(aE:∀ w,(isAgg (ρ.t 24)).run P w=.ok true w)(zE:∀ w,(Go.sizeOf (ρ.t 24)).run P w=.ok k w){cs:List AV}(hH:H[id]?=some (.vec e k n cs))(hn:n<4611686018427387904)(rows:List (List AV))(cf:Nat→Nat→Int)(hp:plain cs=some rows.flatten)(jB:rows.length=n)(m7:∀ r∈rows,r.length=k)(eg:∀ args w,(callFunc f args).run P w=.ok (.enter f args) w)(jN:∀ i j,i<n→j<n→ACalls P f [.agg (rows.getD i []),.agg (rows.getD j [])] [] λr _=>r=.int .i64 (cf i j))(oL:∀ i,i<n→¬ cf i i<0)(oM:∀ i j k,i<n→j<n→k<n→cf i j<0→cf j k<0→cf i k<0)(oN:∀ i j k,i<n→j<n→k<n→¬ cf i j<0→¬ cf j k<0→¬ cf i k<0){K:Kt}(hK:∀ p:List Nat,p.Perm (List.range n)→(∀ a b (ha:a<p.length) (hb:b<p.length),a<b→¬ cf p[b] p[a]<0)→K (.tup []) (H.set id (.vec e k n (p.map λi=>rows.getD i []).flatten))):
  ACalls P (ρ.f 6) [.ov id n,.fn f []] H K:=by
 rintro B w G ⟨vs⟩ hR hv
 match vs,hv with
 |[v1,v2],⟨h1,h2,_⟩=>
 obtain⟨⟨a0,cap0,rfl,_⟩,v',s0,n',hμ,eH,heq⟩:=h1;obtain⟨ws,rfl,mg⟩:=h2;have mg:ws=#[]:=by
  cases n7:ws.toList with
  |nil=>exact Array.toList_inj.1 n7
  |cons x l=>rw[n7]at mg;exact mg.elim
 subst mg;obtain⟨rfl,rfl,⟨xs,ed,ew⟩,jg⟩:=hR.ok id _ _ hH hμ;obtain rfl:=heq rfl;have fN:=ed.1;have fu:=zdx ew hp
 match n,fN,hH,hn,jN,oL,oM,oN,hK,hμ,ed,jB with
 |0,fN,hH,hn,jN,oL,oM,oN,hK,hμ,ed,jB=>
  refine(Go.Proofs.AnyF.slices_SortFunc_none (P:=P) (ρ:=ρ) L a0 cap0 _ w).mono ?_;rintro e' w' ⟨rfl,rfl⟩;have hc:cs=[]:=by
   have fd:=ew.length;cases cs with
   |nil=>rfl
   |cons x l=>simp at fd;omega
  subst hc;have:=hK [] (by simp) (by simp);refine⟨_,.tup [],_,G,rfl,Ext.refl _ _ _,?_,⟨#[],rfl,trivial⟩,this⟩;have hs:H.set id (.vec e k 0 [])=H:=by
   refine aJ λi=>?_;rw[List.getElem?_set];split
   ·rename_i hi;subst hi;rw[aA (List.getElem?_eq_some_iff.1 hH).1,hH]
   ·rfl
  simpa[hs]using hR
 |n+1,fN,hH,hn,jN,oL,oM,oN,hK,hμ,ed,jB=>
  obtain⟨_,ho⟩:=ed;rcases ho with ⟨h1,h0⟩|⟨g,cap,cur,h1,hB,hw,ey,fg,ep,eX⟩
  ·omega
  cases h1;have jA:G.L g=0:=jg g rfl;have n7:g<w.heap.size:=(Array.getElem?_eq_some_iff.1 hw).1;have lC:∀i,i<n+1→i*k+k≤(n+1)*k:=λi hi=>by have:=au k (show i+1≤n+1 from hi);rwa [aZ,cB]at this
  let enc:Fin (n+1)→List Value:=λi=>(xs.drop (i.1*k)).take k
  have kT:∀i,(enc i).length=k:=λi=>by have:=lC i.1 i.2;simp only[enc,aW,cX];omega
  have ek:∀(i:Fin (n+1)) (j:Nat),j<k→(enc i)[j]?=xs[i.1*k+j]?:=λi j hj=>by simp only[enc,List.getElem?_take,List.getElem?_drop,aA hj]
  have jw:∀i:Fin (n+1),All2 (DRel w G.L) (enc i) (rows.getD i.1 []):=λi=>by
   have hi:i.1<rows.length:=by rw[jB];exact i.2
   have hri:rows.getD i.1 []=rows[i.1]:=by rw[List.getD_eq_getElem?_getD,List.getElem?_eq_getElem hi];rfl
   rw[hri];refine All2.of_get (by rw[kT,m7 _ (ah hi)]) λj x y hx hy=>?_;have hj:j<k:=by rw[←m7 _ (ah hi)];exact(List.getElem?_eq_some_iff.1 hy).1
   rw[ek i j hj]at hx;have eZ:rows.flatten[i.1*k+j]?=some y:=by rw[zoW m7 hj,List.getElem?_eq_getElem hi];exact hy
   obtain⟨x',jQ,hr⟩:=All2.get fu eZ;rw[hx]at jQ;cases jQ;exact hr
  have fm:∀i,∀v∈enc i,v.oneCell'=true:=λi v hv=>by
   obtain⟨j,hj,rfl⟩:=c6.1 hv;have hjr:j<(rows.getD i.1 []).length:=by rw[←(jw i).length];exact hj
   obtain⟨x,hx,hr⟩:=All2.get (jw i) (List.getElem?_eq_getElem hjr);rw[List.getElem?_eq_getElem hj]at hx;cases hx;generalize (rows.getD i.1 [])[j]=a at hr;generalize (enc i)[j]=v at hr;cases hr <;> rfl
  have hlays:=zIm (P:=P) (f:=f) (n:=n+1) (k:=k) (rows:=λi=>rows.getD i []) hR jA jw jN;let d:Array (Fin (n+1)):=Array.ofFn λi=>i
  have ji:d.size=n+1:=by simp[d]
  have l9:∀j (hj:j<n+1),d[j]! = ⟨j,hj⟩:=λj hj=>by rw[getElem!_pos d j (by rw[ji];exact hj)];simp[d]
  have hholds:HoldsK enc k w g 0 d:=by
   intro t ht;rw[size_flatK,ji]at ht;have lw:t / k<n+1:=(ct gI).2 ht;have hm:t % k<k:=ck _ gI;have htk2:t=t / k*k+t % k:=by rw[ba];exact(dh t k).symm
   have htx:t<xs.length:=by rw[fN];exact ht
   have hc:cur[t]?=some xs[t]:=by have:xs[t]?=some xs[t]:=List.getElem?_eq_getElem _;rw[←this,←eX,List.getElem?_take,aA ht,Array.getElem?_toList]
   have hv:(flatK enc k d)[t]! = xs[t]:=by rw[get_flatK _ _ _ _ (by rw[ji];exact ht),l9 _ lw];have h3:=ek ⟨t / k,lw⟩ (t % k) hm;simp only at h3;rw[←htk2,List.getElem?_eq_getElem htx,List.getElem?_eq_getElem (by rw[kT];exact hm)]at h3;rw[getElem!_pos (enc _) _ (by rw[kT];exact hm)];exact dc h3
   refine⟨?_,?_⟩
   ·rw[aG,hv];simp[World.cell?,hw,hc]
   ·simp[World.frozen?,hw]
  have hO:SWO (ltOf λi j:Fin (n+1)=>cf i j):=⟨λx=>by simp only[ltOf,bC];exact oL x x.2,
   λx y z h1 h2=>by simp only[ltOf,aR]at *;exact oM x y z x.2 y.2 z.2 h1 h2,
   λx y z h1 h2=>by simp only[ltOf,bC]at *;exact oN x y z x.2 y.2 z.2 h1 h2⟩
  have jm:=Go.Proofs.AnyQ.slices_SortFunc (P:=P) (ρ:=ρ) L k aE zE enc kT fm (λi j=>cf i j) hO f #[] g 0 cap0 d w eg (by rw[ji];exact hlays) hholds n7 (by rw[ji];exact hn);rw[ji]at jm;refine jm.mono ?_;rintro e' w' ⟨rfl,d',m,os,hp',hsrt,rfl⟩;obtain⟨gZ,_,nA⟩:=hp';have hds':d'.size=n+1:=gZ.trans ji;have pM:(d'.toList.map Fin.val).Perm (List.range (n+1)):=by
   have h1:d'.toList.Perm d.toList:=by have e1:(d'.extract 0 (n+1))=d':=zwq d' hds';have e2:(d.extract 0 (n+1))=d:=zwq d ji;rwa [e1,e2]at nA
   exact(h1.map Fin.val).trans (List.Perm.of_eq (zGN _))
  have hS:=hR.sortedK hH hμ (flatK enc k d') (by rw[size_flatK,hds']) (cs':=((d'.toList.map Fin.val).map λi=>rows.getD i []).flatten) (by
   rw[zFO enc k gI kT,dt];refine zvC (All2.of_get (by simp) λi x y hx hy=>?_);simp only[List.getElem?_map,Option.map_eq_some_iff]at hx hy;obtain⟨a,ha,rfl⟩:=hx;obtain⟨b,hb,rfl⟩:=hy;rw[ha]at hb;cases hb;exact(jw a).mono λ_ _ h=>zwn h) m os
  refine⟨_,.tup [],_,G,rfl,hS.1,hS.2,⟨#[],rfl,trivial⟩,hK _ pM λa b ha hb eS=>?_⟩;simp only[cc,Array.length_toList]at ha hb;have:=hsrt a b (bu _) eS (by omega);rw[getElem!_pos d' a ha,getElem!_pos d' b hb]at this;simp only[ltOf,bC]at this;simpa using this
end
section
open Go.Shelf
def zJN:Go.Shelf.Ren:=⟨λ| 6=>84|15=>137|14=>136|28=>185|29=>186|20=>177|21=>178|22=>179|23=>180|24=>181|25=>182|26=>183|27=>184|46=>217|47=>218|48=>219|49=>220|50=>221|57=>244|n=>n,λ| 22=>31|24=>55|25=>127|3=>3|39=>184|0=>0|53=>88|55=>100|4=>4|46=>224|45=>223|50=>107|5=>5|9=>9|66=>260|70=>72|76=>288|77=>289|n=>n,λ| n=>n⟩
theorem zJM:Go.Proofs.SlLaysF0.n6 tP zJN:={
 mixed:=by kernel_rfl
 f6:=⟨Tryz.f84.name,by decide,Tryz.func84.trans (congrArg some (by kernel_rfl))⟩
 f14:=⟨Tryz.f136.name,by decide,Tryz.func136.trans (congrArg some (by kernel_rfl))⟩
 f15:=Tryz.func137.trans (congrArg some (by kernel_rfl))
 f20:=⟨Tryz.f177.name,by decide,Tryz.func177.trans (congrArg some (by kernel_rfl))⟩
 f21:=⟨Tryz.f178.name,by decide,Tryz.func178.trans (congrArg some (by kernel_rfl))⟩
 f22:=⟨Tryz.f179.name,by decide,Tryz.func179.trans (congrArg some (by kernel_rfl))⟩
 f23:=⟨Tryz.f180.name,by decide,Tryz.func180.trans (congrArg some (by kernel_rfl))⟩
 f24:=⟨Tryz.f181.name,by decide,Tryz.func181.trans (congrArg some (by kernel_rfl))⟩
 f25:=⟨Tryz.f182.name,by decide,Tryz.func182.trans (congrArg some (by kernel_rfl))⟩
 f26:=⟨Tryz.f183.name,by decide,Tryz.func183.trans (congrArg some (by kernel_rfl))⟩
 f27:=⟨Tryz.f184.name,by decide,Tryz.func184.trans (congrArg some (by kernel_rfl))⟩
 f28:=Tryz.func185.trans (congrArg some (by kernel_rfl))
 f29:=Tryz.func186.trans (congrArg some (by kernel_rfl))
 f46:=⟨Tryz.f217.name,by decide,Tryz.func217.trans (congrArg some (by kernel_rfl))⟩
 f47:=Tryz.func218.trans (congrArg some (by kernel_rfl))
 f48:=Tryz.func219.trans (congrArg some (by kernel_rfl))
 f49:=⟨Tryz.f220.name,by decide,Tryz.func220.trans (congrArg some (by kernel_rfl))⟩
 f50:=⟨Tryz.f221.name,by decide,Tryz.func221.trans (congrArg some (by kernel_rfl))⟩
 f57:=⟨Tryz.f244.name,by decide,Tryz.func244.trans (congrArg some (by kernel_rfl))⟩
 t0:=Tryz.underlying0
 a0:=Tryz.isAgg0
 z0:=Tryz.sizeOf0
 v0:=Tryz.zeroValue0
 t3:=Tryz.underlying3
 a3:=Tryz.isAgg3
 z3:=Tryz.sizeOf3
 v3:=Tryz.zeroValue3
 t4:=Tryz.underlying4
 a4:=Tryz.isAgg4
 z4:=Tryz.sizeOf4
 v4:=Tryz.zeroValue4
 t5:=Tryz.underlying5
 a5:=Tryz.isAgg5
 z5:=Tryz.sizeOf5
 v5:=Tryz.zeroValue5
 t9:=Tryz.underlying9
 a9:=Tryz.isAgg9
 z9:=Tryz.sizeOf9
 v9:=Tryz.zeroValue9
 t22:=Tryz.underlying31
 a22:=Tryz.isAgg31
 z22:=Tryz.sizeOf31
 v22:=Tryz.zeroValue31
 t25:=Tryz.underlying127
 a25:=Tryz.isAgg127
 z25:=Tryz.sizeOf127
 v25:=Tryz.zeroValue127
 t39:=Tryz.underlying184
 a39:=Tryz.isAgg184
 z39:=Tryz.sizeOf184
 v39:=Tryz.zeroValue184
 t45:=Tryz.underlying223
 a45:=Tryz.isAgg223
 z45:=Tryz.sizeOf223
 v45:=Tryz.zeroValue223
 t46:=Tryz.underlying224
 a46:=Tryz.isAgg224
 z46:=Tryz.sizeOf224
 v46:=Tryz.zeroValue224
 t50:=Tryz.underlying107
 a50:=Tryz.isAgg107
 z50:=Tryz.sizeOf107
 v50:=Tryz.zeroValue107
 t53:=Tryz.underlying88
 a53:=Tryz.isAgg88
 z53:=Tryz.sizeOf88
 v53:=Tryz.zeroValue88
 t55:=Tryz.underlying100
 a55:=Tryz.isAgg100
 z55:=Tryz.sizeOf100
 v55:=Tryz.zeroValue100
 t66:=Tryz.underlying260
 a66:=Tryz.isAgg260
 z66:=Tryz.sizeOf260
 v66:=Tryz.zeroValue260
 t70:=Tryz.underlying72
 a70:=Tryz.isAgg72
 z70:=Tryz.sizeOf72
 v70:=Tryz.zeroValue72
 t76:=Tryz.underlying288
 a76:=Tryz.isAgg288
 z76:=Tryz.sizeOf288
 v76:=Tryz.zeroValue288
 t77:=Tryz.underlying289
 a77:=Tryz.isAgg289
 z77:=Tryz.sizeOf289
 v77:=Tryz.zeroValue289 }
end
theorem zJj{s:List (IT×Nat)}{k:Nat}(h:k<s.length):((tms s).drop (k*5)).take 5=tmC s[k]:=by have h1:=zq5 h;have h2:=zq6 (bN h);rw[h1,cZ,h2];simp[a7,h2]
theorem zvc{f:IT×Nat→List AV}{e size:Nat}{H1:zaa}{st:List (List (IT×Nat))}{i:Nat}{b:AB}(h:H1[i]?=some b)(J:zaa):(NX f e size H1 st++J)[i]?=some b:=by unfold NX;rw[aw];exact zbj h
theorem zHx(p q:IT×Nat)(hp:p.1.nodes≤1000000)(H:zaa)(K:Kt)(hK:K (.int .i64 (IT.cmp p.1 q.1)) H):ACalls tP zj1 [.agg (tmC p),.agg (tmC q)] H K:=by refine ACalls.out (zVE λhs=>?_);simp[zDE,zcQ,zco,ae];refine zF4 _ _ _ (aa _) hp _ _ ?_;exact Out.int rfl (aa _) hs hK
theorem zIn{H:zaa}{b:Nat}{l:List (IT×Nat)}(hb:H[b]?=some (.vec zaC 5 l.length (tms l)))(hn:l.length≤1000000)(nY:∀x∈l,x.1.nodes≤1000000)(K:Kt)(hK:∀r:List (IT×Nat),r.Perm l→r.Pairwise (λp q=>¬IT.cmp q.1 p.1<0)→K (.tup []) (H.set b (.vec zaC 5 l.length (tms r)))):ACalls tP zxj [.ov b l.length,.fn zj1 []] H K:=by
 let d0:IT×Nat:=(.mk 0 [],0)
 have mS:∀i,i<l.length→(zaD l).getD i []=tmC (l.getD i d0):=λi hi=>by simp[zaD,List.getD_eq_getElem?_getD,hi]
 have hgm:∀i,i<l.length→l.getD i d0∈l:=λi hi=>by simp[List.getD_eq_getElem?_getD,hi]
 have cmp_self:∀a:IT,IT.cmp a a=0:=zf8;refine ACalls.sortFuncK zJM (k:=5) (by omega) Tryz.isAgg55 Tryz.sizeOf55 hb (by omega) (zaD l) (λi j=>IT.cmp (l.getD i d0).1 (l.getD j d0).1) (by rw[zyZ];exact zqs l) (by simp) (λr hr=>by
  obtain⟨x,_,rfl⟩:=aC.1 hr;simp) (λargs w=>rfl) (λi j hi hj=>?_) (λi hi=>?_) (λi j k hi hj hk h1 h2=>?_) (λi j k hi hj hk h1 h2=>?_) (λp hp hsort=>?_)
 ·rw[mS i hi,mS j hj];exact zHx _ _ (nY _ (hgm i hi)) _ _ rfl
 ·rw[cmp_self];omega
 ·exact zv6 h1 (by omega)
 ·have:=IT.cmp_tri (l.getD k d0).1 (l.getD j d0).1 (l.getD i d0).1;have a1:=IT.cmp_anti (l.getD i d0).1 (l.getD j d0).1;have a2:=IT.cmp_anti (l.getD j d0).1 (l.getD k d0).1;have a3:=IT.cmp_anti (l.getD i d0).1 (l.getD k d0).1;unfold Tri at this;omega
 ·have pM:∀ i∈p,i<l.length:=λi hi=>by simpa using hp.subset hi
  have jq:(List.range l.length).map (λi=>l.getD i d0)=l:=bA (by simp) λi h1 h2=>by simp[List.getD_eq_getElem?_getD,h2]
  have et:(p.map λi=>l.getD i d0).Perm l:=by have h1:=hp.map λi=>l.getD i d0;rwa [jq]at h1
  have eZ:(p.map λi=>(zaD l).getD i []).flatten=tms (p.map λi=>l.getD i d0):=by rw[tms,dt];congr 1;refine be λi hi=>?_;exact mS i (pM i hi)
  rw[eZ];refine hK _ et ?_;rw[cx];intro a b ha hb eS;simp only[bU];exact hsort a b (by simpa using ha) (by simpa using hb) eS
def zb1(dU:List Dat)(t:VT)(u L:List (IT×Nat))(k:Nat):List (List (IT×Nat)):=(List.range 7).map λd=>if d<k then ofD dU t L d else ofD dU t u d
@[simp] theorem zqP(dU:List Dat)(t:VT)(u L:List (IT×Nat))(k:Nat):(zb1 dU t u L k).length=7:=by simp[zb1]
theorem zyx(dU:List Dat)(t:VT)(u L:List (IT×Nat))(k:Nat){d:Nat}(h:d<7):(zb1 dU t u L k)[d]?=some (if d<k then ofD dU t L d else ofD dU t u d):=by simp[zb1,h]
theorem zIe(dU:List Dat)(t:VT)(u L:List (IT×Nat)):(zb1 dU t u L 7).flatten=zbJ dU t L 7:=by unfold zb1 zbJ;rw[List.flatMap_def];refine congrArg List.flatten (be λd hd=>?_);rw[aA (by simpa using hd)]
theorem zIg{dU:List Dat}{t:VT}{u L:List (IT×Nat)}{k:Nat}(h:k<7):(zb1 dU t u L k).set k (ofD dU t L k)=zb1 dU t u L (k+1):=by
 refine bA (by simp) λi h1 h2=>?_;rw[cY];simp only[zb1,bU,bV];split
 ·rename_i e;subst e;rw[aA (by omega)]
 ·rename_i e;by_cases hi:i<k
  ·rw[aA hi,aA (by omega)]
  ·rw[ap hi,ap (by omega)]
theorem zIf{dU:List Dat}{t:VT}{s L:List (IT×Nat)}{j d:Nat}(hj:j<s.length)(hd:d<7)(hr:rdV dU s[j].1 t=(d:Int)):(zb1 dU t (s.take j) L 0).set d (ofD dU t (s.take j) d++[s[j]])=zb1 dU t (s.take (j+1)) L 0:=by
 refine bA (by simp) λi h1 h2=>?_;rw[cY];simp only[zb1,bU,bV,Nat.not_lt_zero,aH];have eD:=zGM (dU:=dU) (t:=t) (d:=i) hj;split
 ·rename_i e;subst e;rw[eD,aA hr]
 ·rename_i e;rw[eD,ap (by omega),aK]
theorem zEa{H:zaa}{st:List (List (IT × Nat))}{k:Nat}{M r:List (IT × Nat)}(ek:st[k]?=some M)(hl:r.length=M.length):
  (NX tmC zaC 5 H st).set (H.length+1+k) (.vec zaC 5 M.length (tms r))=NX tmC zaC 5 H (st.set k r):=by
 obtain⟨hk,hM⟩:=List.getElem?_eq_some_iff.1 ek;have h1:=zve tmC zaC 5 H [] st hk r;have hv:vcs (H.length+1) (st.set k r)=vcs (H.length+1) st:=by
  rw[←zrh,hl];refine aJ λi=>?_;rw[List.getElem?_set];split
  ·rename_i h;subst h;rw[aA (by simpa using hk),zrg _ ek]
  ·rfl
 simp only[aK]at h1;rw[hv]at h1;rw[←h1,hl,tms,List.flatMap_def];have hc:=zvb tmC zaC 5 H st;have jt:∀(X:zaa) (i:Nat) (b:AB),X[i]?=some b→X.set i b=X:=λX i b hb=>by
  refine aJ λj=>?_;by_cases hj:i=j
  ·subst hj;rw[List.getElem?_set_self (zbk hb),hb]
  ·rw[List.getElem?_set_ne hj]
 exact(jt _ _ _ (by rw[List.getElem?_set_ne (by omega)];exact hc)).symm
theorem zqW{dU:List Dat}(hk:zbw dU)(t:VT)(ht:t.nodes≤1000)(hf:za8 dU t=true)(H:zaa)(is im iv:Nat)(s L:List (IT×Nat))(hS:Sw H is im iv (.sl (dU.map Dat.cs) .none::t.cs) s)(hv:∀p∈s,p.1.nodes≤900∧0<p.2∧p.2<1000000000 ^ 20∧0≤rdV dU p.1 t∧rdV dU p.1 t≤6)(hn:(s.map Prod.fst).Nodup)(h0:0<s.length)(hl:s.length≤100000)(hL:Asc L)(hLl:L.length≤100000)(jg:∀p∈L,0<p.2)(gy:∀g:IT→Nat,zah g s=zah g L)(K:Kt)(fa:1000<s.length→K (.tup [.sl [] .none,.int .i64 9]) H)(hK:s.length≤1000→K (.tup [.sl (zaD (zbJ dU t L 7)) .none,.int .i64 0]) H):ACalls tP zhW [.ptr is 0] H K:=by
 refine ACalls.out (zTp λhs=>?_);obtain⟨T,hT⟩:∃T,T=(AV.sl (dU.map Dat.cs) .none::t.cs):=⟨_,rfl⟩;rw[←hT]at hS;have hT4:T.length=4:=hS.c4;have ky:=hS.h1;have fe:=zbk ky;have iV:(T++[.map im,.ov iv s.length])[0]?=some (.sl (dU.map Dat.cs) .none):=by rw[hT];rfl
 have fE:List.take 3 (T++[AV.map im,AV.ov iv s.length]).tail=t.cs:=by rw[hT];obtain⟨t1,t2,t3⟩:=t;rfl
 have n8:(T++[.map im,.ov iv s.length])[5]?=some (.ov iv s.length):=by rw[List.getElem?_append_right (by omega),hT4];rfl
 have hrep:(List.replicate 7 [AV.snil]).flatten=List.replicate 7 AV.snil:=rfl;simp[zCP,zbu,hrep,zbj ky,zdm _ n8,ae];unfold zns;refine ALoop.nx tmC zaC 5 7 ?_;show zns (.ptr is 0) (.ms H.length 0 7 7) (.int .i64 0) (.ov iv s.length) (.int .i64 s.length) (.int .i64 0) (NX tmC zaC 5 H (List.replicate 7 [])) _;have hst0:List.replicate 7 []=zb1 dU t (s.take 0) L 0:=by simp[zb1,ofD,bO,List.replicate]
 rw[hst0];have hscN:∀st,HSc (NX tmC zaC 5 H st):=λst=>zEb hs λx n=>by have:=zq4 [x] n;simpa[tms]using this
 refine zTm (Inv:=λq t5 t17 H'=>∃j:Nat,j≤s.length∧s.length-j=q∧t17=.int .i64 j∧t5=.int .i64 j∧H'=NX tmC zaC 5 H (zb1 dU t (s.take j) L 0)) s.length ?_ ?_
 ·intro _;exact⟨0,by omega,rfl,rfl,rfl,rfl⟩
 ·rintro q t5 t17 H' ⟨j,hj,rfl,rfl,rfl,rfl⟩ eA d8 eC Kb ee;by_cases eN:j<s.length
  ·obtain⟨v1,v2,v3,v4,v5⟩:=hv _ (ah eN);obtain⟨d,hd⟩:∃ d:Nat,rdV dU s[j].1 t=d:=⟨(rdV dU s[j].1 t).toNat,by omega⟩;have hd7:d<7:=by omega
   have i4:=zIf (L:=L) eN hd7 hd;have ek:=zyx dU t (s.take j) L 0 hd7;simp only[Nat.not_lt_zero,aH]at ek;have hol:(ofD dU t (s.take j) d).length≤100000:=ar zqi (by simp;omega);have ia:=zqP dU t (s.take j) L 0;generalize hM:ofD dU t (s.take j) d=M at *;generalize eD:zb1 dU t (s.take j) L 0=st at *;have pK:=λJ=>zvc (f:=tmC) (e:=zaC) (size:=5) (st:=st) hS.h3 J;have pL:=λJ=>zvc (f:=tmC) (e:=zaC) (size:=5) (st:=st) hS.h1 J;have hiv0:=pK [];rw[aK]at hiv0;have h5:=zJj eN;have hb5:j*5+5≤s.length*5:=by omega
   simp[znp,eN,hiv0,h5,hb5,zea,ae];refine⟨zea _,?_⟩;have kE:Sm (s[j].2:Int):=zcP (bg v3 (by decide));rw[zcz];refine zDA s[j].2 kE _ _ ?_;have hne0:s[j].2≠0:=by omega
   have pz:(NX tmC zaC 5 H st).length=H.length+8:=by rw[zeK,ia]
   have er:∀J,(NX tmC zaC 5 H st++(AB.cells (tmC s[j])::J))[H.length+8]?=some (.cells (tmC s[j])):=λJ=>by rw[←pz];simp
   have mP:=λJ=>zva tmC zaC 5 H J st;have nd:=λJ=>zu9 tmC zaC 5 H J ek;have lE:=zrg (H.length+1) ek;rw[pz];simp[hne0,pL,zdm _ iV,fE,er,zco,zcz,hT4];refine zaH (.int .i64 d) (λJ=>zgU dU hk t ht s[j].1 (by omega) _ _ ⟨by rw[←hd];unfold zbq;rw[aA hf],rfl⟩) ?_;have hd7':(d:Int)<7:=by omega
   simp[hd7',zal,mP,zdm _ lE,er,zco,zcz];refine zaH (.agg s[j].1.cs) (λJ=>zVx _ s[j].1 (aa _) (by omega) _ _ ⟨rfl,rfl⟩) ?_;try simp[er,zcz]
   refine zaH (.agg (zam (s[j].2:Int))) (λJ=>zVB _ kE _ _ ⟨rfl,rfl⟩) ?_;have m6:List.drop 5 (s[j].1.cs++[AV.bool false,.snil,.snil])=[]:=a7 (by simp);have lC:∀x∈s[j].1.cs,x.known=true:=ak.1 (IT.cs_known s[j].1);have m7:∀x∈zam (s[j].2:Int),x.known=true:=ak.1 (zfC _);have f8:plain ([.int .i64 0,.snil,.bool false,.snil,.snil]:List AV)=some [.int .i64 0,.sl [] .none,.bool false,.sl [] .none,.sl [] .none]:=rfl;simp[zar,zaL,m6];rw[show s[j].1.cs++zam (s[j].2:Int)=tmC s[j] from rfl];simp[zau,zaU,zgw,f8];simp only[zax,zaO,zaK,nd];have gJ:d<st.length:=by omega
   have eI:=zve tmC zaC 5 H [AB.cells (tmC s[j])] st gJ (M++[s[j]]);have kj:(M++[s[j]]).length=M.length+1:=by simp
   have hfm:(M++[s[j]]).flatMap tmC=M.flatMap tmC++tmC s[j]:=by simp
   rw[kj,hfm,←zJB _ _ gJ,kj,i4]at eI;have hXc:=mP [AB.cells (tmC s[j])];have hXb:=nd [AB.cells (tmC s[j])];generalize hX:NX tmC zaC 5 H st++[AB.cells (tmC s[j])]=X at *;have gv:=zbk hXb;have g2:∀v,(X.set (H.length+1+d) v)[H.length]?=some (.cells (vcs (H.length+1) st)):=λv=>by rw[List.getElem?_set_ne (by omega)];exact hXc
   simp[g2];refine⟨⟨by omega,by omega⟩,by omega,?_⟩;rw[eI];simp[zt8,zCQ,wi j (by omega)];exact ee _ _ ⟨s.length-(j+1),by omega,Back.at (J:=[.cells (tmC s[j])]) (H2:=NX tmC zaC 5 H (zb1 dU t (s.take (j+1)) L 0)) rfl (by simp[zeK]) (hscN _) (by
    have h3:=zbk hS.h3;simp[znr,ux,AV.sc,AV.scA,AV.scB,AV.scV,zeK];omega) ⟨_,_,rfl,j+1,by omega,rfl,rfl,rfl,rfl⟩⟩
  ·obtain rfl:j=s.length:=by omega
   rw[aq]at *;by_cases gS:1000<s.length
   ·have gu:(1000:Int)<(s.length:Int):=by omega
    simp[znp,gu];obtain⟨J,hJ⟩:=zvd tmC zaC 5 H (zb1 dU t s L 0);rw[←hJ];exact⟨⟨rfl,rfl⟩,Out.tup (bs:=[.sl [] .none,.int .i64 9]) hs (fa gS) ⟨zdS,zaY rfl rfl,trivial⟩⟩
   ·have gu:¬ (1000:Int)<(s.length:Int):=by omega
    simp[znp,gu];refine zTl (Inv:=λq t59 H'=>∃k:Nat,k≤7∧7-k=q∧t59=.int .i64 k∧H'=NX tmC zaC 5 H (zb1 dU t s L k)) 7 ?_ ?_
    ·intro _;exact⟨0,by omega,rfl,rfl,rfl⟩
    ·rintro q t59 H' ⟨k,hk7,rfl,rfl,rfl⟩ hsc14 hlen14 hsF14 Kb14 hKb14;by_cases d7:k<7
     ·have eE:(k:Int)<7:=by omega
      have ek:=zyx dU t s L k d7;simp only[Nat.lt_irrefl,aH]at ek;have eD:=zIg (dU:=dU) (t:=t) (u:=s) (L:=L) d7;have ia:=zqP dU t s L k;obtain⟨M,hM⟩:∃M,M=ofD dU t s k:=⟨_,rfl⟩;obtain⟨st,gn⟩:∃st,st=zb1 dU t s L k:=⟨_,rfl⟩;rw[←hM]at ek;rw[←gn]at ek eD ia hsF14 hsc14 ⊢;have mP:=zvb tmC zaC 5 H st;have lE:=zrg (H.length+1) ek;have nd:=zu9 tmC zaC 5 H [] ek;rw[aK]at nd;have hMl:M.length≤100000:=by rw[hM];exact ar zqi (by omega)
      simp[zt7,eE,mP,zdm _ lE];refine zIn (b:=H.length+1+k) (l:=M) (by rw[nd,tms,List.flatMap_def]) (by omega) (λp hp=>by
       rw[hM]at hp;have:=hv p (cq.1 hp).1;omega) _ λr kz jn=>?_
      have hre:r=ofD dU t L k:=zER (by rw[←hM];exact kz) jn hn (λp hp=>(hv p hp).2.1) hL jg gy;have jB:r.length=M.length:=kz.length_eq;rw[zEa ek jB,hre,eD,wi k (by omega)];exact hKb14 _ _ ⟨7-(k+1),by omega,Back.at (J:=[]) (H2:=NX tmC zaC 5 H (zb1 dU t s L (k+1))) (by simp) (by simp[zeK]) (hscN _) (by simp[znq,ux,AV.sc,AV.scA,AV.scB,AV.scV,zeK];try omega) ⟨_,rfl,k+1,by omega,rfl,rfl,rfl⟩⟩
     ·obtain rfl:k=7:=by omega
      have iX:=zIe dU t s L;have fS:=zIa (zb1 dU t s L 7);simp[zt7];rw[zqP,iX]at fS;have hrg:∀p∈L,0≤rdV dU p.1 t∧rdV dU p.1 t≤6:=λp hp=>by obtain⟨q,hq,he⟩:=zer (λg=>(gy g).symm) hp (jg p hp);have:=hv q hq;rw[←he];omega
      have f7:=zqk (dU:=dU) (t:=t) (s:=L) 7;have ga:0<(zbJ dU t L 7).length:=by
       have h1:=zql hrg (λ_=>1);have h2:=gy (λ_=>1);rw[zbS,zbS]at h1;cases ho:zbJ dU t L 7 with
       |nil=>
        rw[ho,zc4]at h1;cases kg:s with
        |nil=>rw[kg]at h0;simp at h0
        |cons p s'=>have:=(hv p (by rw[kg];simp)).2.1;rw[kg,zaW]at h2;omega
       |cons p o=>simp
      refine fS ga (by omega) (by omega) H _ ?_;obtain⟨J,hJ⟩:=zvd tmC zaC 5 H (zb1 dU t s L 7);rw[←hJ];exact⟨⟨rfl,rfl⟩,Out.tup (bs:=[.sl (zaD (zbJ dU t L 7)) .none,.int .i64 0]) hs (hK (by omega)) ⟨zaY rfl rfl,zaY rfl rfl,trivial⟩⟩
section
variable (t0 t1 t2 t3 t12 t13:AV) (H:zaa) (K:Kt) (Kb4:Lt)
def zKz(_:Nat):List Bool:=[]
noncomputable def zKA:=Tryz.f12.body.getD .skip
def zzF:=zaw t1 H λt5 H=>zaw t2 H λt6 H=>zaw t3 H λt7 H=>apm H t0 λt13=>apu H (zal true 3 t5 H) λt14=>apu H (zal true 2 t6 H) λt15=>zaJ H (λH K'=>ACalls tP ze1 [t13,t14,t15] H K') λt16=>apm H t0 λt17=>apu H (zal true 3 t5 H) λt18=>apu H (zal true 2 t7 H) λt19=>zaJ H (λH K'=>ACalls tP ze1 [t17,t18,t19] H K') λt20=>apm H t16 λt10=>apm H t20 λt11=>zad .lss false t10 (.int .i64 0) λt22=>zac t22 false H (λK'=>K' t11 H) λt24 H=>zac t22 false H (λK'=>zad .lss false t24 (.int .i64 0) (K' · H)) λt25 H=>zak t22 (.bool true) t25 λt26=>zag t26 (zaG [.snil,(.int .i64 1)] (K · H)) (zad .add false t10 t11 λt29=>zad .gtr false t29 (.int .i64 6) λt30=>zag t30 (zaG [.snil,(.int .i64 13)] (K · H)) (zae true 3 t5 H λt32=>ACalls tP zhT [t0,t32] H λt33 H=>zae true 3 t5 H λt36=>zae true 2 t6 H λt37=>zae true 2 t7 H λt38=>ACalls tP zhV [t0,t36,t37,t38] H λt39 H=>ACalls tP zhU [t33,t39] H λt40 H=>ACalls tP zhW [t33] H λt42 H=>zay t42 0 λt43=>zay t42 1 λt44=>zaG [t43,t44] (K · H)))
def zVR(_:Nat):List Bool:=[]
noncomputable def zVS:=Tryz.f10.body.getD .skip
def zq8:=zaw t1 H λt3 H=>ACalls tP zp5 [t0] H λt6 H=>zac t6 true H (λK'=>zae true 3 t3 H (K' · H)) λt8 H=>zac t6 true H (λK'=>ACalls tP zp6 [t8] H K') λt9 H=>zak t6 t9 (.bool false) λt10=>K t10 H
def zMs(_:Nat):List Bool:=[]
noncomputable def zMt:=Tryz.f15.body.getD .skip
def zAg:=zar [(.int .i64 0),(.int .i64 0),.snil] [(0,1),(1,1),(2,1)] [(0,(.int .i64 1))] λt4=>zau 3 [(.int .i64 0),(.int .i64 0),.snil] 1 [(0,t4)] λt5=>zar [(.int .i64 0),(.int .i64 0),.snil] [(0,1),(1,1),(2,1)] [(0,(.int .i64 7)),(2,t5)] λt6=>zaz [(.int .i64 0),(.int .i64 0),.snil] H λt1 H=>zao 3 t1 t6 H λH=>zae true 3 t1 H λt8=>zar [(.int .i64 0),.snil] [(0,1),(1,1)] [(0,(.int .i64 1))] λt9=>zar [(.int .i64 0),.snil] [(0,1),(1,1)] [(0,(.int .i64 1))] λt10=>ACalls tP zeZ [.snil,t8,t9,t10] H λt11 H=>zay t11 0 λt12=>zay t11 1 λt13=>apm H t13 λt14=>apu H (zad .eql false t14 (.int .i64 0)) λt15=>apm H t15 λt16=>zac t16 true H (λK'=>zab H (λK''=>K'' t12 H) (K' · H)) λt17 H=>zac t16 true H (λK'=>zab H (λK''=>zai 1 t17 (K'' · H)) (K' · H)) λt18 H=>zac t16 true H (λK'=>zab H (λK''=>zad .eql false t18 (.int .i64 2) (K'' · H)) (K' · H)) λt19 H=>apu H (zak t16 t19 (.bool false)) λt20=>apm H t20 λt21=>zac t21 true H (λK'=>zab H (λK''=>K'' t12 H) (K' · H)) λt22 H=>zac t21 true H (λK'=>zab H (λK''=>zaj 5 t22 (.int .i64 1) (K'' · H)) (K' · H)) λt23 H=>zac t21 true H (λK'=>zab H (λK''=>zaf 0 t23 (K'' · H)) (K' · H)) λt24 H=>zac t21 true H (λK'=>zab H (λK''=>zaf 0 t24 (K'' · H)) (K' · H)) λt25 H=>zac t21 true H (λK'=>zab H (λK''=>zal false 1 t25 H (K'' · H)) (K' · H)) λt26 H=>zac t21 true H (λK'=>zab H (λK''=>zad .eql false t26 (.int .i64 2) (K'' · H)) (K' · H)) λt27 H=>apu H (zak t21 t27 (.bool false)) λt28=>apm H t28 λt29=>zac t29 true H (λK'=>zab H (λK''=>K'' t12 H) (K' · H)) λt30 H=>zac t29 true H (λK'=>zab H (λK''=>zaj 5 t30 (.int .i64 1) (K'' · H)) (K' · H)) λt31 H=>zac t29 true H (λK'=>zab H (λK''=>zaf 2 t31 (K'' · H)) (K' · H)) λt32 H=>zac t29 true H (λK'=>zab H (λK''=>zal true 3 t32 H (K'' · H)) (K' · H)) λt33 H=>zac t29 true H (λK'=>zaJ H (λH K''=>ACalls tP zjP [(.int .i64 2)] H K'') (K' · H)) λt34 H=>zac t29 true H (λK'=>zaJ H (λH K''=>ACalls tP zhL [t33,t34] H K'') (K' · H)) λt35 H=>apu H (zak t29 t35 (.bool false)) λt36=>apm H t36 λt0=>K t0 H
def zlk:Nat→List Bool|4=>rl false [0,2,10,2,29]|_=>[]
noncomputable def zrT:=Tryz.f14.body.getD .skip
noncomputable def zLN:=Tryz.f14.results.toList
def zll:=t0::t1::ux 10 (t12::t13::ux 29 [])
def zLL:=zlk 4
noncomputable def zLJ:=zas [1,1,0,1,0,0] zrT
def zLI:=zat tP zlk [1,1,0,1,0] zrT (zaB tP zLN K)
def zAf:=ALoop tP zLJ (zLI K) (zll t0 t1 t12 t13) H
def zrS:=zad .lss false t13 t12 λt14=>zag t14 (apm H t0 λt16=>apm H t13 λt17=>apu H (zaj 5 t16 t17) λt18=>apu H (zaf 0 t18) λt19=>apu H (zal true 2 t19 H) λt20=>apm H t1 λt21=>apm H t13 λt22=>apu H (zaj 5 t21 t22) λt23=>apu H (zaf 0 t23) λt24=>apu H (zal true 2 t24 H) λt25=>zaJ H (λH K'=>ACalls tP zgq [t20,t25] H K') λt26=>apu H (aUn .not t26) λt27=>apm H t27 λt28=>zac t28 false H (λK'=>zab H (λK''=>K'' t0 H) (K' · H)) λt29 H=>zac t28 false H (λK'=>zab H (λK''=>K'' t13 H) (K' · H)) λt30 H=>zac t28 false H (λK'=>zab H (λK''=>zaj 5 t29 t30 (K'' · H)) (K' · H)) λt31 H=>zac t28 false H (λK'=>zab H (λK''=>zaf 2 t31 (K'' · H)) (K' · H)) λt32 H=>zac t28 false H (λK'=>zab H (λK''=>zal true 3 t32 H (K'' · H)) (K' · H)) λt33 H=>zac t28 false H (λK'=>zab H (λK''=>K'' t1 H) (K' · H)) λt34 H=>zac t28 false H (λK'=>zab H (λK''=>K'' t13 H) (K' · H)) λt35 H=>zac t28 false H (λK'=>zab H (λK''=>zaj 5 t34 t35 (K'' · H)) (K' · H)) λt36 H=>zac t28 false H (λK'=>zab H (λK''=>zaf 2 t36 (K'' · H)) (K' · H)) λt37 H=>zac t28 false H (λK'=>zab H (λK''=>zal true 3 t37 H (K'' · H)) (K' · H)) λt38 H=>zac t28 false H (λK'=>zaJ H (λH K''=>ACalls tP zhL [t33,t38] H K'') (K' · H)) λt39 H=>zac t28 false H (λK'=>zab H (λK''=>aUn .not t39 (K'' · H)) (K' · H)) λt40 H=>apu H (zak t28 (.bool true) t40) λt41=>zag t41 (K (.bool false) H) (zad .add false t13 (.int .i64 1) λt42=>Kb4 (zll t0 t1 t12 t42) H)) (K (.bool true) H)
def zz4:=zai 1 t0 λt7=>zai 1 t1 λt9=>zad .neq false t7 t9 λt10=>zag t10 (K (.bool false) H) (zai 1 t0 λt12=>zAf t0 t1 t12 (.int .i64 0) H K)
variable {t0 t1 t2 t3 t12 t13} {H} {K} {Kb4}
theorem zKB(h:HSc H→zzF t0 t1 t2 t3 H K):ACalls tP zeZ [t0,t1,t2,t3] H K:=
 acb zKz Tryz.func12 zKA h
theorem zVT(h:HSc H→zq8 t0 t1 H K):ACalls tP zqf [t0,t1] H K:=
 acb zVR Tryz.func10 zVS h
theorem zMu(h:HSc H→zAg H K):ACalls tP zjq [] H K:=
 acb zMs Tryz.func15 zMt h
theorem zLK:Lo1 (λt13=>zll t0 t1 t12 t13) (λt13 H Kb4=>zrS t0 t1 t12 t13 H K Kb4) t13 H (zAf t0 t1 t12 t13 H K):=lq1 zlk zLL
theorem zLM(h:HSc H→zz4 t0 t1 H K):ACalls tP zhH [t0,t1] H K:=
 acb zlk Tryz.func14 zrT h
end
def zdf(dU:List Dat)(t:VT)(i j:IT):AV:=
 if zbq dU t i<0∨zbq dU t j<0 then .tup [.sl [] .none,.int .i64 1] else if 6<zbq dU t i+zbq dU t j then .tup [.sl [] .none,.int .i64 13]
 else .tup [.sl (zaD (zbJ dU t (zbE dU (i.nodes+j.nodes) t i j) 7)) .none,.int .i64 0]
theorem zw9{dU:List Dat}{t:VT}{i j:IT}(h:zbq dU t i<0∨zbq dU t j<0):zdf dU t i j=.tup [.sl [] .none,.int .i64 1]:=aA h
theorem zdb{dU:List Dat}{t:VT}(hf:za8 dU t=true)(i:IT):zbq dU t i=rdV dU i t:=by unfold zbq;rw[aA hf]
theorem zGv{dU:List Dat}{t:VT}{i j:IT}(hf:za8 dU t=true)(h1:0≤rdV dU i t)(h2:0≤rdV dU j t)(h6:rdV dU i t+rdV dU j t>6):zdf dU t i j=.tup [.sl [] .none,.int .i64 13]:=by unfold zdf;rw[zdb hf,zdb hf,ap (by omega),aA (by omega)]
theorem zhE{dU:List Dat}{t:VT}{i j:IT}(hf:za8 dU t=true)(h1:0≤rdV dU i t)(h2:0≤rdV dU j t)(h6:rdV dU i t+rdV dU j t≤6):zdf dU t i j=.tup [.sl (zaD (zbJ dU t (zbE dU (i.nodes+j.nodes) t i j) 7)) .none,.int .i64 0]:=by unfold zdf;rw[zdb hf,zdb hf,ap (by omega),ap (by omega)]
theorem ztY(dU:List Dat)(T:VT)(H:zaa)(K:Kt)(hK:K (.ptr (H.length+2) 0) (H++[.cells T.cs,.map [],.cells (.sl (dU.map Dat.cs) .none::T.cs++[.map (H.length+1),.snil])])):
  ACalls tP zhT [.sl (dU.map Dat.cs) .none,.agg T.cs] H K:=by
 refine zSX λhs=>?_;obtain⟨x,y,z,ei,hx,hy,hz⟩:=zbh T;simp[zCM,ei,zdY,zar,zaL,AV.known,ae];rw[ei]at hK;simpa using hK
theorem zzS{dU:List Dat}(hk:zbw dU)(t:VT)(ht:t.nodes≤250)(i j:IT)(ow:i.nodes+j.nodes≤300)(H:zaa)(K:Kt)(hK:K (zdf dU t i j) H):
  ACalls tP zeZ [.sl (dU.map Dat.cs) .none,.agg t.cs,.agg i.cs,.agg j.cs] H K:=by
 refine ACalls.out (zKB λhs=>?_);have hO:∀(e:Int) J,zdf dU t i j=.tup [.sl [] .none,.int .i64 e]→Out H.length K (.tup [.snil,.int .i64 e]) (H++J):=λe J he=>Out.tup (bs:=[.sl [] .none,.int .i64 e]) hs (by rw[←he];exact hK) ⟨zdS,zaY rfl rfl,trivial⟩;obtain⟨x,y,z,ei,hx,hy,hz⟩:=zbh t;obtain⟨x2,y2,eK,e8,kM⟩:=zde i;obtain⟨x3,y3,fM,fC,pN⟩:=zde j;simp[zzF,ei,eK,fM,ae];rw[←ei,←eK,←fM];refine zaH (.int .i64 (zbq dU t i)) (λJ=>zgU dU hk t (by omega) i (by omega) _ _ ⟨rfl,rfl⟩) ?_;refine zaH (.int .i64 (zbq dU t j)) (λJ=>zgU dU hk t (by omega) j (by omega) _ _ ⟨rfl,rfl⟩) ?_;by_cases h1:zbq dU t i<0
 ·simp[h1];exact⟨⟨rfl,rfl⟩,hO 1 _ (zw9 (.inl h1))⟩
 ·by_cases h2:zbq dU t j<0
  ·simp[h1,h2];exact⟨⟨rfl,rfl⟩,hO 1 _ (zw9 (.inr h2))⟩
  ·have hf:za8 dU t=true:=by
    unfold zbq at h1;by_cases h:za8 dU t=true
    ·exact h
    ·rw[ap h]at h1;omega
   have e1:=zdb hf i;have e2:=zdb hf j;rw[e1]at h1 ⊢;rw[e2]at h2 ⊢;have h8:=zcD hf;obtain⟨hD,jL⟩:zbB dU=true∧za3 dU 0 t=true:=by unfold za8 at hf;simpa using hf
   have r1:=zgA (h8:=h8) i t;have r2:=zgA (h8:=h8) j t;have w:IntKind.i64.wrap (rdV dU i t+rdV dU j t)=rdV dU i t+rdV dU j t:=zav (by omega) (by omega);by_cases h6:rdV dU i t+rdV dU j t>6
   ·have iz:6<rdV dU i t+rdV dU j t:=h6;simp[h1,h2,w,iz];exact⟨⟨rfl,rfl⟩,hO 13 _ (zGv hf (by omega) (by omega) h6)⟩
   ·have iz:¬ (6<rdV dU i t+rdV dU j t):=h6;simp[h1,h2,w,iz,ei,eK,fM,ae];rw[←ei,←eK,←fM];rw[zhE hf (by omega) (by omega) (by omega)]at hK;refine ztY dU t _ _ ?_;simp[ei,eK,fM,ae];rw[←ei,←eK,←fM];refine (zpn hk h8 hD (i.nodes+j.nodes)).1 t i j (by omega) (by omega) jL (by omega) (by omega) (by omega) (by omega) _ _ ?_;obtain⟨W,hW⟩:∃ W,W=zaA dU (i.nodes+j.nodes) t i j:=⟨_,rfl⟩;obtain⟨P1,P2,P3,P4⟩:=zem h8 (f:=i.nodes+j.nodes) (t:=t) (i:=i) (j:=j) (aa _) (by omega) (by omega) (by omega);have hWp:=zpo (dU:=dU) (t:=t) (i:=i) (j:=j) (aa _) (by omega) (by omega);have oO:=(zd8 dU (i.nodes+j.nodes)).1 t i j;obtain⟨L,hL⟩:∃ L,L=zbE dU (i.nodes+j.nodes) t i j:=⟨_,rfl⟩;obtain⟨R1,R2⟩:=(zep h8 (i.nodes+j.nodes)).1 t i j (by omega) (by omega) (by omega) (by omega);have hLa:=zji dU (i.nodes+j.nodes) t i j;rw[←hW]at P1 P2 P3 P4 hWp oO ⊢;rw[←hL]at hK R1 R2 oO hLa
    replace R2:=ar R2 (ze2 (by omega))
    have Rl:=zwQ λp hp=>(R1 p hp).1;have hg5:(H++[AB.cells t.cs,.cells i.cs,.cells j.cs,.cells t.cs,.map [],.cells [.sl (dU.map Dat.cs) .none,x,y,z,.map (H.length+4),.snil]])[H.length+5]?=some (.cells [.sl (dU.map Dat.cs) .none,x,y,z,.map (H.length+4),.snil]):=by simp[List.getElem?_append]
    refine ACalls.ovC (id:=H.length+5) (j:=5) zaC 5 hg5 rfl ?_;have oa:Sw (H++[AB.cells t.cs,.cells i.cs,.cells j.cs,.cells t.cs,.map [],.cells [.sl (dU.map Dat.cs) .none,x,y,z,.map (H.length+4),.ov (H.length+6) 0],.vec zaC 5 0 []]) (H.length+5) (H.length+4) (H.length+6) (.sl (dU.map Dat.cs) .none::t.cs) []:=
     ⟨by rw[ei];rfl,by omega,by omega,by omega,by rw[ei];simp[List.getElem?_append],by simp[List.getElem?_append,kvS],by simp[List.getElem?_append,tms]⟩
    have iL:(H++[AB.cells t.cs,.cells i.cs,.cells j.cs,.cells t.cs,.map [],.cells [.sl (dU.map Dat.cs) .none,x,y,z,.map (H.length+4),.snil]]).set (H.length+5) (.cells ([AV.sl (dU.map Dat.cs) .none,x,y,z,.map (H.length+4),.snil].set 5 (.ov (H++[AB.cells t.cs,.cells i.cs,.cells j.cs,.cells t.cs,.map [],.cells [.sl (dU.map Dat.cs) .none,x,y,z,.map (H.length+4),.snil]]).length 0)))++[.vec zaC 5 0 []] =
     H++[AB.cells t.cs,.cells i.cs,.cells j.cs,.cells t.cs,.map [],.cells [.sl (dU.map Dat.cs) .none,x,y,z,.map (H.length+4),.ov (H.length+6) 0],.vec zaC 5 0 []]:=by simp[aj]
    rw[iL];generalize gK:H++[AB.cells t.cs,.cells i.cs,.cells j.cs,.cells t.cs,.map [],.cells [.sl (dU.map Dat.cs) .none,x,y,z,.map (H.length+4),.ov (H.length+6) 0],.vec zaC 5 0 []]=H1 at *;refine zqU W (λp hp=>?_) H1 _ _ _ _ [] oa (by simp) (by simp) ?_ (by simp;omega) _ ?_
    ·obtain⟨p1,p2,p3,p4,p5,p6,p7⟩:=P1 p hp;exact⟨by omega,zjb h8 _ p.1 (aa _) t p3⟩
    ·have:zaM (λ_=>1) W≤729:=P3;refine aQ (show _≤729 by rw[zdD];omega) (by decide)
    ·have fg:=zi9 W [] (by simp) (λq hq=>(P1 q hq).1);have ew:∀ g:IT→Nat,zah g (zaN [] W)=zah g L:=λg=>by rw[zgb,zc4,aG];exact oO g
     have fd:=zf9 W [];refine zqW hk t (by omega) hf _ _ _ _ (zaN [] W) L oa.next (λp hp=>?_) (zga _ _ (by simp)) ?_ (by simp at fd;omega) hLa (by omega) (λp hp=>(R1 p hp).1) ew _ (λfa=>?_) (λ_=>?_)
     ·obtain⟨h1,h2⟩:=fg p hp;rcases h2 with ⟨q,hq,_⟩ | ⟨q,hq,he⟩
      ·simp at hq
      ·obtain⟨p1,p2,p3,p4,p5,p6,p7⟩:=P1 q hq;have hm:=zd4 (λ_=>1) hp;rw[ew,bv]at hm;have ie:zah (λ_=>1) L≤729:=R2;rw[←he];exact⟨by omega,h1,aQ (ar hm ie) (by decide),p3,by omega⟩
     ·have h1:=ew (λ_=>1);have h2:zah (λ_=>1) W=zah (λ_=>1) L:=oO (λ_=>1);cases hc:zaN [] W with
      |nil=>rw[hc,zc4]at h1;omega
      |cons p s=>simp
     ·simp at fd;omega
     ·simp;obtain⟨J,hJ⟩:∃J,sw H1 (H.length+5) (H.length+4) (H.length+6) (.sl (dU.map Dat.cs) .none::t.cs) (zaN [] W)=H++J:=⟨_,by
       rw[←gK];simp only[sw];rw[aj _ _ (by omega),aj _ _ (by omega),aj _ _ (by omega)]⟩
      rw[hJ];exact⟨⟨rfl,rfl⟩,Out.tup (bs:=[.sl (zaD (zbJ dU t L 7)) .none,.int .i64 0]) hs hK ⟨zaY rfl rfl,zaY rfl rfl,trivial⟩⟩
theorem zk5{dU:List Dat}(hk:zbw dU)(t:VT)(ht:t.nodes≤250)(i j:IT)(hi:i.nodes≤100)(hj:j.nodes≤100)(H:zaa)(K:Kt)(hK:K (zdf dU t i j) H):
  ACalls tP zeZ [.sl (dU.map Dat.cs) .none,.agg t.cs,.agg i.cs,.agg j.cs] H K:=zzS hk t ht i j (by omega) H K hK
def zxZ(dU:List Dat)(t:VT)(i:IT)(u:List (IT×Nat)):List (IT×Nat):=u.flatMap λw=>scl (zaA dU (w.1.nodes+i.nodes) t w.1 i) w.2
structure PowOk (dU:List Dat) (t:VT) (i:IT) (u:List (IT × Nat)):Prop where
 tm:∀p∈u,p.1.nodes+i.nodes≤300∧0≤rdV dU p.1 t∧rdV dU p.1 t+rdV dU i t≤6∧p.2<1000000000 ^ 20
 sm:zah (λ_=>1) (zxZ dU t i u)<1000000000 ^ 20
 ln:(zxZ dU t i u).length≤90000
 ul:u.length≤90000
def opH(H:zaa)(T:VT)(C:List AV):zaa:=H++[.cells T.cs,.map [],.cells (C++[AV.map (H.length+1),AV.ov (H.length+3) 0]),.vec zaC 5 0 []]
theorem zh7(H:zaa)(T:VT){C:List AV}(h4:C.length=4):Sw (opH H T C) (H.length+2) (H.length+1) (H.length+3) C []:=by unfold opH;exact⟨h4,by omega,by omega,by omega,by simp[List.getElem?_append],by simp[List.getElem?_append,kvS],by simp[List.getElem?_append,tms]⟩
theorem zxz(H:zaa)(T:VT){C:List AV}(h4:C.length=4):(H++[AB.cells T.cs,.map [],.cells (C++[AV.map (H.length+1),AV.snil])]).set (H.length+2) (.cells ((C++[AV.map (H.length+1),AV.snil]).set 5 (.ov (H++[AB.cells T.cs,.map [],.cells (C++[AV.map (H.length+1),AV.snil])]).length 0)))++[.vec zaC 5 0 []]=opH H T C:=by
 have eI:(C++[AV.map (H.length+1),AV.snil]).set 5 (.ov (H++[AB.cells T.cs,.map [],.cells (C++[AV.map (H.length+1),AV.snil])]).length 0)=C++[AV.map (H.length+1),AV.ov (H.length+3) 0]:=by rw[aj _ _ (by omega),h4];simp
 rw[eI];simp[opH,aj]
theorem zxA(H:zaa)(T:VT)(C:List AV):(H++[AB.cells T.cs,.map [],.cells (C++[AV.map (H.length+1),AV.snil])])[H.length+2]?=some (.cells (C++[AV.map (H.length+1),AV.snil])):=by simp[List.getElem?_append]
theorem zxy(H:zaa){C:List AV}(h4:C.length=4):(C++[AV.map (H.length+1),AV.snil])[5]?=some .snil:=by rw[List.getElem?_append_right (by omega),h4];rfl
theorem zqj(H:zaa)(T:VT)(C:List AV)(s:List (IT×Nat)):∃J,sw (opH H T C) (H.length+2) (H.length+1) (H.length+3) C s=H++J:=⟨_,by
 unfold opH;simp only[sw];rw[aj _ _ (by omega),aj _ _ (by omega),aj _ _ (by omega)]⟩
theorem zGS{H:zaa}{T:VT}{C:List AV}{s:List (IT×Nat)}{x:Nat}{b:AB}(h:H[x]?=some b):(sw (opH H T C) (H.length+2) (H.length+1) (H.length+3) C s)[x]?=some b:=by obtain⟨J,hJ⟩:=zqj H T C s;rw[hJ];exact zbj h
section
variable (t0 t1 t12 t13:AV) (H:zaa) (K:Kt) (Kb4:Lt)
def zSa(_:Nat):List Bool:=[]
noncomputable def zSb:=Tryz.f29.body.getD .skip
def zCr:=zaw t0 H λt2 H=>zaw t1 H λt3 H=>zaf 0 t2 λt5=>zae false 1 t5 H λt6=>zaf 0 t3 λt7=>zae false 1 t7 H λt8=>zad .eql false t6 t8 λt9=>zac t9 true H (λK'=>zaf 1 t2 (K' · H)) λt11 H=>zac t9 true H (λK'=>zae false 1 t11 H (K' · H)) λt12 H=>zac t9 true H (λK'=>zaf 1 t3 (K' · H)) λt13 H=>zac t9 true H (λK'=>zae false 1 t13 H (K' · H)) λt14 H=>zac t9 true H (λK'=>ACalls tP zqb [t12,t14] H K') λt15 H=>zak t9 t15 (.bool false) λt16=>K t16 H
def znI:Nat→List Bool|4=>rl false [0,2,10,2,13]|_=>[]
noncomputable def zuo:=Tryz.f64.body.getD .skip
noncomputable def zUm:=Tryz.f64.results.toList
def znJ:=t0::t1::ux 10 (t12::t13::ux 13 [])
def zUk:=znI 4
noncomputable def zUi:=zas [1,1,0,1,0,0] zuo
def zUh:=zat tP znI [1,1,0,1,0] zuo (zaB tP zUm K)
def zDc:=ALoop tP zUi (zUh K) (znJ t0 t1 t12 t13) H
def zun:=zad .lss false t13 t12 λt14=>zag t14 (apm H t0 λt16=>apm H t13 λt17=>apu H (zaj 2 t16 t17) λt18=>apu H (zal true 2 t18 H) λt19=>apm H t1 λt20=>apm H t13 λt21=>apu H (zaj 2 t20 t21) λt22=>apu H (zal true 2 t22 H) λt23=>zaJ H (λH K'=>ACalls tP zgq [t19,t23] H K') λt24=>apu H (aUn .not t24) λt25=>zag t25 (K (.bool false) H) (zad .add false t13 (.int .i64 1) λt26=>Kb4 (znJ t0 t1 t12 t26) H)) (K (.bool true) H)
def zDb:=zai 1 t0 λt7=>zai 1 t1 λt9=>zad .neq false t7 t9 λt10=>zag t10 (K (.bool false) H) (zai 1 t0 λt12=>zDc t0 t1 t12 (.int .i64 0) H K)
variable {t0 t1 t12 t13} {H} {K} {Kb4}
theorem zSc(h:HSc H→zCr t0 t1 H K):ACalls tP zgq [t0,t1] H K:=
 acb zSa Tryz.func29 zSb h
theorem zUj:Lo1 (λt13=>znJ t0 t1 t12 t13) (λt13 H Kb4=>zun t0 t1 t12 t13 H K Kb4) t13 H (zDc t0 t1 t12 t13 H K):=lq1 znI zUk
theorem zUl(h:HSc H→zDb t0 t1 H K):ACalls tP zqb [t0,t1] H K:=
 acb znI Tryz.func64 zuo h
end
end Go.Proofs.YtdmamdnkcefmmaaGreatDoor

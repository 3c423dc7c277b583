import Derived.Test.YtdmamdnkcefmmaaGreatDoorKOJ
import Derived.Test.YtdmamdnkcefmmaaGreatDoorKLB
import Derived.Test.YtdmamdnkcefmmaaGreatDoorKOD
import Derived.Test.YtdmamdnkcefmmaaGreatDoorAbsQ1
import Derived.Test.YtdmamdnkcefmmaaGreatDoorKME
import Derived.Shelf.SlSortCmp.NoneTotal
import Derived.Test.YtdmamdnkcefmmaaGreatDoorProg
import Derived.Test.YtdmamdnkcefmmaaGreatDoorKNum
import Derived.KernelRfl
set_option linter.unusedSimpArgs false
set_option linter.unusedVariables false
set_option maxRecDepth 8000
namespace Go.Abs
open Go Go.RowKit
variable {P:Program} {B:Nat} {w:World} {G:Gh} {H:zaa}
theorem HRel.newRowV (h:HRel B w G H) (e size cap:Nat) (cur:Array Value) (hc:cap≤maxLen) (hs:cur.size=cap*size) :
  Ext B w G (w.alloc (.cells cur e)) ⟨G.L,G.μ++[.own (.slice (some ⟨w.heap.size,0,none⟩) 0 cap) size 0]⟩∧HRel B (w.alloc (.cells cur e)) ⟨G.L,G.μ++[.own (.slice (some ⟨w.heap.size,0,none⟩) 0 cap) size 0]⟩ (H++[.vec e size 0 []]):=by
 have he:=Ext.alloc h (.cells cur e) G.L (fun _ _=>rfl) [.own (.slice (some ⟨w.heap.size,0,none⟩) 0 cap) size 0]
 have split:∀ (id:Nat) gi,(G.μ++[GI.own (.slice (some ⟨w.heap.size,0,none⟩) 0 cap) size 0])[id]?=some gi→G.μ[id]?=some gi∨(id=G.μ.length∧gi=.own (.slice (some ⟨w.heap.size,0,none⟩) 0 cap) size 0):=by
  intro id gi hg
  by_cases hlt:id<G.μ.length
  ·rw[List.getElem?_append_left hlt]at hg;exact .inl hg
  ·have hlt2:=(List.getElem?_eq_some_iff.1 hg).1
   simp at hlt2
   have:id=G.μ.length:=by omega
   subst this
   simp at hg
   exact .inr ⟨rfl,hg.symm⟩
 refine⟨he,by simp[h.len],?_,?_,fun b hb=>?_,?_,?_⟩
 ·intro id ab gi h1 h2
  rcases split id gi h2 with h2 | ⟨rfl,rfl⟩
  ·have hlt:id<H.length:=by rw[←h.len];exact (List.getElem?_eq_some_iff.1 h2).1
   rw[List.getElem?_append_left hlt]at h1
   exact (h.ok id ab gi h1 h2).keep he (fun b hb=>⟨zcy (h.lt id gi b h2 hb),rfl⟩)
  ·rw[h.len]at h1
   simp at h1
   subst h1
   refine⟨rfl,rfl,⟨[],⟨by simp,.inr ⟨w.heap.size,cap,cur,rfl,h.base,zda _,Nat.zero_le _,hc,hs,by simp⟩⟩,trivial⟩,fun b hb=>?_⟩
   simp[Value.ownBlock]at hb
   subst hb
   exact h.fresh _ (Nat.le_refl _)
 ·intro id id' gi gi' b h1 h2 h3 h4
  rcases split id gi h1 with k1 | ⟨e1,e2⟩ <;> rcases split id' gi' h2 with k2 | ⟨e3,e4⟩
  ·exact h.dist id id' gi gi' b k1 k2 h3 h4
  ·rw[e4]at h4;simp[GI.block,Value.ownBlock]at h4
   have:=h.lt id gi b k1 h3
   omega
  ·rw[e2]at h3;simp[GI.block,Value.ownBlock]at h3
   have:=h.lt id' gi' b k2 h4
   omega
  ·rw[e1,e3]
 ·rw[zbX]at hb
  exact h.fresh b (by omega)
 ·intro id gi b h1 h2
  rw[zbX]
  rcases split id gi h1 with k1 | ⟨e1,e2⟩
  ·have:=h.lt id gi b k1 h2;omega
  ·rw[e2]at h2;simp[GI.block,Value.ownBlock]at h2;omega
 ·rw[zbX];have:=h.base;omega
end Go.Abs
namespace Go.Proofs.YtdmamdnkcefmmaaGreatDoor
open Go Go.Abs
theorem zFf (n:Nat) (hn:0<n) (hn2:n≤1000000) (H:zaa) (K:Kt) (hK:K (.ov H.length 0) (H++[.vec zaB 5 0 []])) :
  ACalls tP zvm [.snil,.int .i64 n] H K:=by
 rintro B w G ⟨vs⟩ hR hv
 match vs,hv with
 | [v1,v2],⟨h1,h2,_⟩=>
 have h1:v1=.slice none 0 0:=h1
 have h2:v2=.int .i64 n:=h2
 subst h1 h2
 obtain⟨i0,hi0,hz0,hs0,hb0⟩:∃ i0,tP.info? 55=some i0∧i0.zero=some (.agg #[.int .i64 0,.slice none 0 0,.bool false,.slice none 0 0,.slice none 0 0])∧i0.size=5∧i0.bytes=88:=⟨_,rfl,rfl,rfl,rfl⟩
 refine (Go.Proofs.Any8.slices_Grow_grow zGN i0 _ hi0 hz0 (by omega) none 0 0 n [] w (Nat.le_refl _) (by omega) (by rw[hb0];omega) (by omega) (by simp) (fun _=>rfl) (fun _ h=>by cases h)).mono ?_
 rintro e w' ⟨rfl,rfl⟩
 have hge:=grownCap_ge w (0+n) 0 55
 have hcm:=grownCap_le_maxLen w (0+n) 0 55 (by simp only[maxLen];omega)
 obtain⟨z,hz⟩:∃ z:Value,z=.agg #[.int .i64 0,.slice none 0 0,.bool false,.slice none 0 0,.slice none 0 0]:=⟨_,rfl⟩
 rw[←hz]
 obtain⟨hE,hH⟩:=hR.drew (w.drawn+1) (Nat.le_succ _) |>.newRowV 55 5 (grownCap w (0+n) 0 55) (([]:List Value).toArray++Builtin.zeroCells z.cells (0+n-0)++Builtin.zeroCells z.cells (grownCap w (0+n) 0 55-(0+n))) hcm (by
  simp only[Array.size_append,size_zeroCells,List.size_toArray,List.length_nil]
  have:z.cells.size=5:=by rw[hz];rfl
  rw[this];omega)
 refine⟨_,_,_,_,rfl,(Ext.drew B w G (w.drawn+1) (Nat.le_succ _)).trans hE,hH,?_,hK⟩
 refine⟨⟨_,_,rfl,fun h=>by omega,Nat.zero_le _⟩,_,5,0,?_,Nat.le_refl _,fun _=>rfl⟩
 rw[←hR.len]
 simp
 rfl
theorem zFd (ls:List (List (IT × Nat))) (hp:0<ls.flatten.length) (hb:ls.flatten.length≤1000000) (hn:ls.length≤1000) (H0:zaa) (K:Kt) (hK:K (.sl (zaT ls.flatten) .none) (NX tmC zaB 5 H0 ls)) :
  ACalls tP zoP [.ms H0.length 0 ls.length ls.length] (NX tmC zaB 5 H0 ls) K:=by
 refine ACalls.out (zRV fun hs=>?_)
 obtain⟨H,hH⟩:∃ H,H=NX tmC zaB 5 H0 ls:=⟨_,rfl⟩
 have hcl:(vcs (H0.length+1) ls).length=ls.length:=zxo _ _
 have hC:∀ J,(H++J)[H0.length]?=some (.cells (vcs (H0.length+1) ls)):=fun J=>by rw[hH];exact ztj _ _ _ _ _ _
 have hC0:H[H0.length]?=some (.cells (vcs (H0.length+1) ls)):=by have:=hC [];simpa using this
 have hV:∀ J k (hk:k<ls.length),(H++J)[H0.length+1+k]?=some (.vec zaB 5 ls[k].length (tms ls[k])):=fun J k hk=>by
  rw[hH,zth tmC zaB 5 H0 J ls hk,tms,List.flatMap_def]
 have hl:H0.length<H.length:=zbj hC0
 have hfl:∀ i,(ls.take i).flatten.length≤ls.flatten.length:=fun i=>by
  conv=>rhs;rw[←List.take_append_drop i ls]
  rw[List.flatten_append,List.length_append];omega
 have hsu:∀ i (hi:i<ls.length),(ls.take (i+1)).flatten=(ls.take i).flatten++ls[i]:=fun i hi=>by
  rw[List.take_succ_eq_append_getElem hi,List.flatten_append];simp
 rw[←hH]at hs hK ⊢
 simp[zBj]
 refine zRS (Inv:=fun q t3 t11 H'=>∃ i:Nat,i≤ls.length∧q=ls.length-i∧t11=.int .i64 i∧t3=.int .i64 ((ls.take i).flatten.length:Nat)∧H'=H) ls.length ?_ ?_
 ·intro _;exact⟨0,by omega,by omega,rfl,rfl,rfl⟩
 ·rintro q t3 t11 H' ⟨i,hi,rfl,rfl,rfl,rfl⟩ hsc hlen hsF Kb hKb
  by_cases hlt:i<ls.length
  ·have h1:=hfl i
   have h2:=hfl (i+1)
   have h3:=hsu i hlt
   have h4:=zjJ (H0.length+1) ls i
   rw[List.getElem?_eq_getElem hlt]at h4
   have h5:(ls.take (i+1)).flatten.length=(ls.take i).flatten.length+ls[i].length:=by rw[h3,List.length_append]
   obtain⟨m,hm⟩:∃ m,m=(ls.take i).flatten.length:=⟨_,rfl⟩
   rw[←hm]at h1 h5 hsF ⊢
   have hnn:¬ ((m:Int)+(ls[i].length:Int)<0):=by omega
   have w1:IntKind.i64.wrap ((m:Int)+(ls[i].length:Int))=(m:Int)+(ls[i].length:Int):=zat (by omega) (by omega)
   simp[zsW,hlt,hC0,zc5 _ h4,w1,hnn,wi i (by omega)]
   simp[zBk,zBl,wi i (by omega)]
   refine hKb _ _ ⟨ls.length-(i+1),by omega,Back.at (J:=[]) (H2:=H') (by simp) (by omega) hsc ?_ ⟨_,_,rfl,i+1,by omega,rfl,rfl,by rw[h5];simp,rfl⟩⟩
   simpa[zmK,AV.sc,AV.scV,AV.scA,AV.scB]using hl
  ·obtain rfl:i=ls.length:=by omega
   rw[List.take_length]
   simp[zsW]
   have hg:=zFf ls.flatten.length hp hb
   simp at hg
   refine hg _ _ ?_
   refine zRR (Inv:=fun q t6 t27 H2=>∃ i:Nat,i≤ls.length∧q=ls.length-i∧t27=.int .i64 i∧t6=.ov H'.length (ls.take i).flatten.length∧H2=H'++[.vec zaB 5 (ls.take i).flatten.length (tms (ls.take i).flatten)]) ls.length ?_ ?_
   ·intro _;exact⟨0,by omega,by omega,rfl,rfl,rfl⟩
   ·rintro q t6 t27 H2 ⟨i,hi,rfl,rfl,rfl,rfl⟩ hsc2 hlen2 hsF2 Kb2 hKb2
    by_cases hlt:i<ls.length
    ·have h1:=hfl i
     have h2:=hfl (i+1)
     have h3:=hsu i hlt
     have h4:=zjJ (H0.length+1) ls i
     rw[List.getElem?_eq_getElem hlt]at h4
     obtain⟨u,hu⟩:∃ u,u=(ls.take i).flatten:=⟨_,rfl⟩
     rw[←hu]at h1 h3 hsF2 hsc2 ⊢
     have hVi:=hV [.vec zaB 5 u.length (tms u)] i hlt
     have hCi:=hC [.vec zaB 5 u.length (tms u)]
     have hab:H0.length+1+i≠H'.length:=by
      have h9:=hV [] i hlt
      rw[List.append_nil]at h9
      have:=zbj h9
      omega
     simp[zsV,hlt,hCi,zc5 _ h4,wi i (by omega)]
     simp only[zaw,hVi,zdC]
     simp[zGi,List.set_append_right]
     have hl3:u.length+ls[i].length=((ls.take (i+1)).flatten).length:=by rw[h3,List.length_append]
     refine⟨⟨by omega,by omega⟩,?_⟩
     have ht3:tms u++tms ls[i]=tms ((ls.take (i+1)).flatten):=by rw[h3,zjC]
     rw[hl3,ht3]
     refine hKb2 _ _ ⟨ls.length-(i+1),by omega,Back.at (J:=[]) (H2:=H'++[.vec zaB 5 (ls.take (i+1)).flatten.length (tms (ls.take (i+1)).flatten)]) (by simp) (by simp) (hs.append (by simp only[AB.sc,List.all_cons,List.all_nil,zpy];rfl)) ?_ ⟨_,_,rfl,i+1,by omega,rfl,rfl,rfl,rfl⟩⟩
     simp[zmJ,AV.sc,AV.scV,AV.scA,AV.scB]
     omega
    ·obtain rfl:i=ls.length:=by omega
     rw[List.take_length]at *
     simp[zsV]
     have hfin:=zEk (J:=[.vec zaB 5 ls.flatten.length (tms ls.flatten)]) ls.flatten H'.length (Nat.le_refl _) (by simp) hs hK
     simpa using hfin
end Go.Proofs.YtdmamdnkcefmmaaGreatDoor
namespace Go.Abs
open Go Go.RowKit
variable {P:Program} {B:Nat} {w:World} {G:Gh} {H:zaa}
theorem zuv {v:Value} {a:AV} (h:DRel w G.L v a):ARel w G v a:=by
 cases h with
 | bool b=>rfl
 | int k n=>rfl
 | str s=>rfl
 | slE a cap=>exact .slE a cap
 | sl b off cap esz es vs hne hcap hL hsz hc hd=>exact .sl b off cap esz es vs hne hcap hL hsz hc hd
end Go.Abs
namespace Go.Abs
open Go Go.RowKit
open Go.Sort (grow putRow putCells mapBlock onCells ahead SWO PermIn SortedIn Holds HoldsK flatK size_flatK get_flatK)
open Go.Proofs (sortWorld sortWorldK ltOf CmpLays)
variable {P:Program} {B:Nat} {w:World} {G:Gh} {H:zaa}
theorem znA {α:Type} {k:Nat}:∀ {l:List (List α)} (hk:∀ r∈l,r.length=k) {i j:Nat} (hj:j<k),l.flatten[i*k+j]?=(l[i]?).bind fun r=>r[j]?
 | [],_,i,j,_=>by simp
 | r::l,hk,0,j,hj=>by
  have:=hk r (by simp)
  simp[List.getElem?_append_left (show j<r.length by omega)]
 | r::l,hk,i+1,j,hj=>by
  have h1:=hk r (by simp)
  have h2:r.length≤(i+1)*k+j:=by rw[Nat.add_mul];omega
  rw[List.flatten_cons,List.getElem?_append_right h2,show (i+1)*k+j-r.length=i*k+j by rw[Nat.add_mul];omega,znA (fun x hx=>hk x (by simp[hx])) hj]
  rfl
theorem zuD {α:Type} {k:Nat}:∀ {l:List (List α)} (hk:∀ r∈l,r.length=k),l.flatten.length=l.length*k
 | [],_=>by simp
 | r::l,hk=>by
  rw[List.flatten_cons,List.length_append,zuD (fun x hx=>hk x (by simp[hx])),hk r (by simp),List.length_cons,Nat.add_mul];omega
theorem zC9 {α:Type} [Inhabited α] (enc:α→List Value) (k:Nat) (hk0:0<k) (hk:∀ x,(enc x).length=k) (d:Array α):(flatK enc k d).toList=(d.toList.map enc).flatten:=by
 have hl:∀ r∈d.toList.map enc,r.length=k:=fun r hr=>by obtain⟨x,_,rfl⟩:=List.mem_map.1 hr;exact hk x
 refine List.ext_getElem? fun t=>?_
 have ht:t=t / k*k+t % k:=by rw[Nat.mul_comm];exact (Nat.div_add_mod t k).symm
 have hm:t % k<k:=Nat.mod_lt _ hk0
 by_cases h:t<d.size*k
 ·have h1:t / k<d.size:=(Nat.div_lt_iff_lt_mul hk0).2 h
  rw[Array.getElem?_toList,Array.getElem?_eq_getElem (by simpa using h),←getElem!_pos (flatK enc k d) t (by simpa using h),get_flatK _ _ _ _ h]
  conv=>rhs;rw[ht,znA hl hm]
  rw[List.getElem?_map,Array.getElem?_toList,Array.getElem?_eq_getElem h1]
  simp only[Option.map_some,Option.bind_some]
  rw[getElem!_pos d _ h1,List.getElem?_eq_getElem (by rw[hk];exact hm),getElem!_pos (enc d[t / k]) _ (by rw[hk];exact hm)]
 ·rw[List.getElem?_eq_none (by simpa using h),List.getElem?_eq_none (by rw[zuD hl];simpa using h)]
theorem ztL {α β:Type} {R:α→β→Prop}:∀ {l:List (List α)} {m:List (List β)},All2 (fun a b=>All2 R a b) l m→All2 R l.flatten m.flatten
 | [],[],_=>trivial
 | a::l,b::m,⟨h1,h2⟩=>by
  rw[List.flatten_cons,List.flatten_cons]
  exact All2.append h1 (ztL h2)
theorem HRel.sortedK (h:HRel B w G H) {id e k n g cap:Nat} {cs cs':List AV} (hH:H[id]?=some (.vec e k n cs)) (hμ:G.μ[id]?=some (.own (.slice (some ⟨g,0,none⟩) n cap) k n))
  (d:Array Value) (hd:d.size=n*k) (hc:All2 (ARel w G) d.toList cs') (m:Nat) (os:Array Obj) :
  Ext B w G (sortWorld _root_.id w g 0 m d os) G∧HRel B (sortWorld _root_.id w g 0 m d os) G (H.set id (.vec e k n cs')):=by
 obtain⟨_,_,⟨xs,⟨hxl,ho⟩,hxc⟩,hL0⟩:=h.ok id _ _ hH hμ
 rcases ho with ⟨h1,_⟩ | ⟨g',cap',cur,h1,hB,hw,hcap,hcm,hsz,htk⟩
 ·cases h1
 cases h1
 have hle:d.size≤cur.size:=by rw[hd,hsz];exact Nat.mul_le_mul_right _ hcap
 have htake:=zEB _root_.id d cur hle
 rw[hd]at htake
 simp only[List.map_id]at htake
 have h1:=h.storeV (cur':=putCells _root_.id 0 d cur) (xs':=d.toList) hH hμ hw hB hcap hcm (by simp[putCells,hsz]) htake (by simp[hd]) hc
 obtain⟨hE1,hR1⟩:=h1
 have hE2:=Ext.drew B (w.setRow g (putCells _root_.id 0 d cur)) G ((w.setRow g (putCells _root_.id 0 d cur)).drawn+m) (Nat.le_add_right _ _)
 have hR2:=hR1.drew ((w.setRow g (putCells _root_.id 0 d cur)).drawn+m) (Nat.le_add_right _ _)
 obtain⟨hE3,hR3⟩:=HRel.grown os.toList hR2
 have heq:sortWorld _root_.id w g 0 m d os=grow { w.setRow g (putCells _root_.id 0 d cur) with drawn:=(w.setRow g (putCells _root_.id 0 d cur)).drawn+m } os.toList.toArray:=by
  have hh:w.heap.modify g (onCells (putCells _root_.id 0 d))=(w.setRow g (putCells _root_.id 0 d cur)).heap:=by
   unfold World.setRow
   refine Array.ext_getElem? fun i=>?_
   simp only[Array.getElem?_modify]
   by_cases hi:g=i
   ·subst hi
    simp[hw,onCells]
   ·simp[hi]
  have e:sortWorld _root_.id w g 0 m d os=grow { w with heap:=w.heap.modify g (onCells (putCells _root_.id 0 d)),drawn:=w.drawn+m } os:=rfl
  rw[e,hh,Array.toArray_toList]
  rfl
 rw[heq]
 exact⟨(hE1.trans hE2).trans hE3,hR3⟩
theorem zFp (h:HRel B w G H) {n k g f:Nat} (hLg:G.L g=0) {enc:Fin n→List Value} [Inhabited (Fin n)] {rows:Nat→List AV} {cf:Nat→Nat→Int} (hd:∀ i:Fin n,All2 (DRel w G.L) (enc i) (rows i))
  (hcmp:∀ i j,i<n→j<n→ACalls P f [.agg (rows i),.agg (rows j)] [] fun r _=>r=.int .i64 (cf i j)):CmpLays P f #[] enc k (fun i j=>cf i j) g 0 n w:=by
 intro m os dk hdk x y
 show Calls P f _ (sortWorld _root_.id w g 0 m (flatK enc k dk) os) fun e w'=>e=.returned (.int .i64 (cf x y))∧∃ q os',w'=grow ((sortWorld _root_.id w g 0 m (flatK enc k dk) os).drewN q) os'
 generalize hW:sortWorld _root_.id w g 0 m (flatK enc k dk) os=W
 have hsz:w.heap.size≤W.heap.size:=by rw[←hW];exact zFo _ _ _ _ _ _
 have hcell:∀ a:Addr,a.block≠g→a.block<w.heap.size→W.cell? a=w.cell? a:=fun a h1 h2=>by rw[←hW];exact zFn _ _ _ _ _ _ a h1 h2
 have hL:∀ b,W.heap.size≤b→G.L b=0:=fun b hb=>h.fresh b (by omega)
 have hmono:∀ {v:Value} {a:AV},DRel w G.L v a→DRel W G.L v a:=fun hx=>hx.mono (fun _=>Nat.le_refl _) fun b off ho=>by
  refine hcell ⟨b,off,none⟩ ?_ ?_
  ·intro hb
   have hb:b=g:=hb
   rw[hb,hLg]at ho
   omega
  ·show b<w.heap.size
   refine Nat.lt_of_not_le fun hb=>?_
   rw[h.fresh b hb]at ho
   omega
 have harg:∀ i:Fin n,VRel W ⟨G.L,[]⟩ (.agg (enc i).toArray) (.agg (rows i)):=fun i=>⟨_,rfl,by
  rw[List.toList_toArray]
  exact (hd i).mono fun _ _ hx=>zuv (G:=⟨G.L,[]⟩) (hmono hx)⟩
 refine (hcmp x y x.2 y.2 W.heap.size W ⟨G.L,[]⟩ #[.agg (enc x).toArray,.agg (enc y).toArray]
  ⟨rfl,fun _ _ _ h=>by simp at h,fun _ _ _ _ _ h=>by simp at h,hL,fun _ _ _ h=>by simp at h,Nat.le_refl _⟩ ⟨harg x,harg y,trivial⟩).mono ?_
 rintro e w' ⟨v,r,H',G',rfl,h2,_,h4,rfl⟩
 have h4:v=.int .i64 (cf x y):=h4
 subst h4
 exact⟨rfl,zDh h2.dr h2.below⟩
theorem ACalls.sortFuncK {ρ:Go.Shelf.Ren} (L:Go.Proofs.SlLaysF0.n6 P ρ) {id e k n f:Nat} (hk0:0<k) (aE:∀ w,(isAgg (ρ.t 24)).run P w=.ok true w) (zE:∀ w,(Go.sizeOf (ρ.t 24)).run P w=.ok k w)
  {cs:List AV} (hH:H[id]?=some (.vec e k n cs)) (hn:n<4611686018427387904) (rows:List (List AV)) (cf:Nat→Nat→Int)
  (hp:plain cs=some rows.flatten) (hrl:rows.length=n) (hrk:∀ r∈rows,r.length=k) (eg:∀ args w,(callFunc f args).run P w=.ok (.enter f args) w)
  (hcmp:∀ i j,i<n→j<n→ACalls P f [.agg (rows.getD i []),.agg (rows.getD j [])] [] fun r _=>r=.int .i64 (cf i j))
  (hO1:∀ i,i<n→¬ cf i i<0) (hO2:∀ i j k,i<n→j<n→k<n→cf i j<0→cf j k<0→cf i k<0) (hO3:∀ i j k,i<n→j<n→k<n→¬ cf i j<0→¬ cf j k<0→¬ cf i k<0)
  {K:Kt} (hK:∀ p:List Nat,p.Perm (List.range n)→(∀ a b (ha:a<p.length) (hb:b<p.length),a<b→¬ cf p[b] p[a]<0)→K (.tup []) (H.set id (.vec e k n (p.map fun i=>rows.getD i []).flatten))) :
  ACalls P (ρ.f 6) [.ov id n,.fn f []] H K:=by
 rintro B w G ⟨vs⟩ hR hv
 match vs,hv with
 | [v1,v2],⟨h1,h2,_⟩=>
 obtain⟨⟨a0,cap0,rfl,_⟩,v',s0,n',hμ,hle,heq⟩:=h1
 obtain⟨ws,rfl,hws⟩:=h2
 have hws:ws=#[]:=by
  cases hwl:ws.toList with
  | nil=>exact Array.toList_inj.1 hwl
  | cons x l=>rw[hwl]at hws;exact hws.elim
 subst hws
 obtain⟨rfl,rfl,⟨xs,hown,hcs⟩,hL0⟩:=hR.ok id _ _ hH hμ
 obtain rfl:=heq rfl
 have hxl:=hown.1
 have hdr:=zdh hcs hp
 match n,hxl,hH,hn,hcmp,hO1,hO2,hO3,hK,hμ,hown,hrl with
 | 0,hxl,hH,hn,hcmp,hO1,hO2,hO3,hK,hμ,hown,hrl=>
  refine (Go.Proofs.AnyF.slices_SortFunc_none (P:=P) (ρ:=ρ) L a0 cap0 _ w).mono ?_
  rintro e' w' ⟨rfl,rfl⟩
  have hc:cs=[]:=by
   have hcl:=hcs.length
   cases cs with
   | nil=>rfl
   | cons x l=>simp at hcl;omega
  subst hc
  have:=hK [] (by simp) (by simp)
  refine⟨_,.tup [],_,G,rfl,Ext.refl _ _ _,?_,⟨#[],rfl,trivial⟩,this⟩
  have hs:H.set id (.vec e k 0 [])=H:=by
   refine List.ext_getElem? fun i=>?_
   rw[List.getElem?_set]
   split
   ·rename_i hi;subst hi;rw[if_pos (List.getElem?_eq_some_iff.1 hH).1,hH]
   ·rfl
  simpa[hs]using hR
 | n+1,hxl,hH,hn,hcmp,hO1,hO2,hO3,hK,hμ,hown,hrl=>
  obtain⟨_,ho⟩:=hown
  rcases ho with ⟨h1,h0⟩ | ⟨g,cap,cur,h1,hB,hw,hcap,hcm,hsz,htk⟩
  ·omega
  cases h1
  have hLg:G.L g=0:=hL0 g rfl
  have hwl:g<w.heap.size:=(Array.getElem?_eq_some_iff.1 hw).1
  have hik:∀ i,i<n+1→i*k+k≤(n+1)*k:=fun i hi=>by
   have:=Nat.mul_le_mul_right k (show i+1≤n+1 from hi)
   rwa [Nat.add_mul,Nat.one_mul]at this
  let enc:Fin (n+1)→List Value:=fun i=>(xs.drop (i.1*k)).take k
  have henc:∀ i,(enc i).length=k:=fun i=>by
   have:=hik i.1 i.2
   simp only[enc,List.length_take,List.length_drop]
   omega
  have hget:∀ (i:Fin (n+1)) (j:Nat),j<k→(enc i)[j]?=xs[i.1*k+j]?:=fun i j hj=>by
   simp only[enc,List.getElem?_take,List.getElem?_drop,if_pos hj]
  have hencd:∀ i:Fin (n+1),All2 (DRel w G.L) (enc i) (rows.getD i.1 []):=fun i=>by
   have hi:i.1<rows.length:=by rw[hrl];exact i.2
   have hri:rows.getD i.1 []=rows[i.1]:=by rw[List.getD_eq_getElem?_getD,List.getElem?_eq_getElem hi];rfl
   rw[hri]
   refine All2.of_get (by rw[henc,hrk _ (List.getElem_mem hi)]) fun j x y hx hy=>?_
   have hj:j<k:=by rw[←hrk _ (List.getElem_mem hi)];exact (List.getElem?_eq_some_iff.1 hy).1
   rw[hget i j hj]at hx
   have hfl:rows.flatten[i.1*k+j]?=some y:=by rw[znA hrk hj,List.getElem?_eq_getElem hi];exact hy
   obtain⟨x',hx',hr⟩:=All2.get hdr hfl
   rw[hx]at hx'
   cases hx'
   exact hr
  have hone:∀ i,∀ v∈enc i,v.oneCell'=true:=fun i v hv=>by
   obtain⟨j,hj,rfl⟩:=List.mem_iff_getElem.1 hv
   have hjr:j<(rows.getD i.1 []).length:=by rw[←(hencd i).length];exact hj
   obtain⟨x,hx,hr⟩:=All2.get (hencd i) (List.getElem?_eq_getElem hjr)
   rw[List.getElem?_eq_getElem hj]at hx
   cases hx
   generalize (rows.getD i.1 [])[j]=a at hr
   generalize (enc i)[j]=v at hr
   cases hr <;> rfl
  have hlays:=zFp (P:=P) (f:=f) (n:=n+1) (k:=k) (rows:=fun i=>rows.getD i []) hR hLg hencd hcmp
  let d:Array (Fin (n+1)):=Array.ofFn fun i=>i
  have hds:d.size=n+1:=by simp[d]
  have hdj:∀ j (hj:j<n+1),d[j]! = ⟨j,hj⟩:=fun j hj=>by
   rw[getElem!_pos d j (by rw[hds];exact hj)]
   simp[d]
  have hholds:HoldsK enc k w g 0 d:=by
   intro t ht
   rw[size_flatK,hds]at ht
   have hd1:t / k<n+1:=(Nat.div_lt_iff_lt_mul hk0).2 ht
   have hm:t % k<k:=Nat.mod_lt _ hk0
   have htk2:t=t / k*k+t % k:=by rw[Nat.mul_comm];exact (Nat.div_add_mod t k).symm
   have htx:t<xs.length:=by rw[hxl];exact ht
   have hc:cur[t]?=some xs[t]:=by
    have:xs[t]?=some xs[t]:=List.getElem?_eq_getElem _
    rw[←this,←htk,List.getElem?_take,if_pos ht,Array.getElem?_toList]
   have hv:(flatK enc k d)[t]! = xs[t]:=by
    rw[get_flatK _ _ _ _ (by rw[hds];exact ht),hdj _ hd1]
    have h3:=hget ⟨t / k,hd1⟩ (t % k) hm
    simp only at h3
    rw[←htk2,List.getElem?_eq_getElem htx,List.getElem?_eq_getElem (by rw[henc];exact hm)]at h3
    rw[getElem!_pos (enc _) _ (by rw[henc];exact hm)]
    exact Option.some.inj h3
   refine⟨?_,?_⟩
   ·rw[Nat.zero_add,hv]
    simp[World.cell?,hw,hc]
   ·simp[World.frozen?,hw]
  have hO:SWO (ltOf fun i j:Fin (n+1)=>cf i j):=⟨fun x=>by simp only[ltOf,decide_eq_false_iff_not];exact hO1 x x.2,
   fun x y z h1 h2=>by simp only[ltOf,decide_eq_true_eq]at *;exact hO2 x y z x.2 y.2 z.2 h1 h2,
   fun x y z h1 h2=>by simp only[ltOf,decide_eq_false_iff_not]at *;exact hO3 x y z x.2 y.2 z.2 h1 h2⟩
  have hmain:=Go.Proofs.AnyQ.slices_SortFunc (P:=P) (ρ:=ρ) L k aE zE enc henc hone (fun i j=>cf i j) hO f #[] g 0 cap0 d w eg (by rw[hds];exact hlays) hholds hwl (by rw[hds];exact hn)
  rw[hds]at hmain
  refine hmain.mono ?_
  rintro e' w' ⟨rfl,d',m,os,hp',hsrt,rfl⟩
  obtain⟨hp1,_,hp3⟩:=hp'
  have hds':d'.size=n+1:=hp1.trans hds
  have hpm:(d'.toList.map Fin.val).Perm (List.range (n+1)):=by
   have h1:d'.toList.Perm d.toList:=by
    have e1:(d'.extract 0 (n+1))=d':=zuy d' hds'
    have e2:(d.extract 0 (n+1))=d:=zuy d hds
    rwa [e1,e2]at hp3
   exact (h1.map Fin.val).trans (List.Perm.of_eq (zD4 _))
  have hS:=hR.sortedK hH hμ (flatK enc k d') (by rw[size_flatK,hds']) (cs':=((d'.toList.map Fin.val).map fun i=>rows.getD i []).flatten) (by
   rw[zC9 enc k hk0 henc,List.map_map]
   refine ztL (All2.of_get (by simp) fun i x y hx hy=>?_)
   simp only[List.getElem?_map,Option.map_eq_some_iff]at hx hy
   obtain⟨a,ha,rfl⟩:=hx
   obtain⟨b,hb,rfl⟩:=hy
   rw[ha]at hb
   cases hb
   exact (hencd a).mono fun _ _ h=>zuv h) m os
  refine⟨_,.tup [],_,G,rfl,hS.1,hS.2,⟨#[],rfl,trivial⟩,hK _ hpm fun a b ha hb hab=>?_⟩
  simp only[List.length_map,Array.length_toList]at ha hb
  have:=hsrt a b (Nat.zero_le _) hab (by omega)
  rw[getElem!_pos d' a ha,getElem!_pos d' b hb]at this
  simp only[ltOf,decide_eq_false_iff_not]at this
  simpa using this
end Go.Abs
namespace Go.Proofs.YtdmamdnkcefmmaaGreatDoor
open Go Go.Shelf Go.Abs
def zGM:Go.Shelf.Ren:=⟨fun | 6=>84 | 15=>137 | 14=>136 | 28=>185 | 29=>186 | 20=>177 | 21=>178 | 22=>179 | 23=>180 | 24=>181 | 25=>182 | 26=>183 | 27=>184 | 46=>217 | 47=>218 | 48=>219 | 49=>220 | 50=>221 | 57=>244 | n=>n,fun | 22=>31 | 24=>55 | 25=>127 | 3=>3 | 39=>184 | 0=>0 | 53=>88 | 55=>100 | 4=>4 | 46=>224 | 45=>223 | 50=>107 | 5=>5 | 9=>9 | 66=>260 | 70=>72 | 76=>288 | 77=>289 | n=>n,fun | n=>n⟩
theorem zGL:Go.Proofs.SlLaysF0.n6 tP zGM:={
 mixed:=by kernel_rfl
 f6:=⟨Tryz.f84.name,by decide,Tryz.func84.trans (congrArg some (by kernel_rfl))⟩
 f14:=⟨Tryz.f136.name,by decide,Tryz.func136.trans (congrArg some (by kernel_rfl))⟩
 f15:=Tryz.func137.trans (congrArg some (by kernel_rfl))
 f20:=⟨Tryz.f177.name,by decide,Tryz.func177.trans (congrArg some (by kernel_rfl))⟩
 f21:=⟨Tryz.f178.name,by decide,Tryz.func178.trans (congrArg some (by kernel_rfl))⟩
 f22:=⟨Tryz.f179.name,by decide,Tryz.func179.trans (congrArg some (by kernel_rfl))⟩
 f23:=⟨Tryz.f180.name,by decide,Tryz.func180.trans (congrArg some (by kernel_rfl))⟩
 f24:=⟨Tryz.f181.name,by decide,Tryz.func181.trans (congrArg some (by kernel_rfl))⟩
 f25:=⟨Tryz.f182.name,by decide,Tryz.func182.trans (congrArg some (by kernel_rfl))⟩
 f26:=⟨Tryz.f183.name,by decide,Tryz.func183.trans (congrArg some (by kernel_rfl))⟩
 f27:=⟨Tryz.f184.name,by decide,Tryz.func184.trans (congrArg some (by kernel_rfl))⟩
 f28:=Tryz.func185.trans (congrArg some (by kernel_rfl))
 f29:=Tryz.func186.trans (congrArg some (by kernel_rfl))
 f46:=⟨Tryz.f217.name,by decide,Tryz.func217.trans (congrArg some (by kernel_rfl))⟩
 f47:=Tryz.func218.trans (congrArg some (by kernel_rfl))
 f48:=Tryz.func219.trans (congrArg some (by kernel_rfl))
 f49:=⟨Tryz.f220.name,by decide,Tryz.func220.trans (congrArg some (by kernel_rfl))⟩
 f50:=⟨Tryz.f221.name,by decide,Tryz.func221.trans (congrArg some (by kernel_rfl))⟩
 f57:=⟨Tryz.f244.name,by decide,Tryz.func244.trans (congrArg some (by kernel_rfl))⟩
 t0:=Tryz.underlying0
 a0:=Tryz.isAgg0
 z0:=Tryz.sizeOf0
 v0:=Tryz.zeroValue0
 t3:=Tryz.underlying3
 a3:=Tryz.isAgg3
 z3:=Tryz.sizeOf3
 v3:=Tryz.zeroValue3
 t4:=Tryz.underlying4
 a4:=Tryz.isAgg4
 z4:=Tryz.sizeOf4
 v4:=Tryz.zeroValue4
 t5:=Tryz.underlying5
 a5:=Tryz.isAgg5
 z5:=Tryz.sizeOf5
 v5:=Tryz.zeroValue5
 t9:=Tryz.underlying9
 a9:=Tryz.isAgg9
 z9:=Tryz.sizeOf9
 v9:=Tryz.zeroValue9
 t22:=Tryz.underlying31
 a22:=Tryz.isAgg31
 z22:=Tryz.sizeOf31
 v22:=Tryz.zeroValue31
 t25:=Tryz.underlying127
 a25:=Tryz.isAgg127
 z25:=Tryz.sizeOf127
 v25:=Tryz.zeroValue127
 t39:=Tryz.underlying184
 a39:=Tryz.isAgg184
 z39:=Tryz.sizeOf184
 v39:=Tryz.zeroValue184
 t45:=Tryz.underlying223
 a45:=Tryz.isAgg223
 z45:=Tryz.sizeOf223
 v45:=Tryz.zeroValue223
 t46:=Tryz.underlying224
 a46:=Tryz.isAgg224
 z46:=Tryz.sizeOf224
 v46:=Tryz.zeroValue224
 t50:=Tryz.underlying107
 a50:=Tryz.isAgg107
 z50:=Tryz.sizeOf107
 v50:=Tryz.zeroValue107
 t53:=Tryz.underlying88
 a53:=Tryz.isAgg88
 z53:=Tryz.sizeOf88
 v53:=Tryz.zeroValue88
 t55:=Tryz.underlying100
 a55:=Tryz.isAgg100
 z55:=Tryz.sizeOf100
 v55:=Tryz.zeroValue100
 t66:=Tryz.underlying260
 a66:=Tryz.isAgg260
 z66:=Tryz.sizeOf260
 v66:=Tryz.zeroValue260
 t70:=Tryz.underlying72
 a70:=Tryz.isAgg72
 z70:=Tryz.sizeOf72
 v70:=Tryz.zeroValue72
 t76:=Tryz.underlying288
 a76:=Tryz.isAgg288
 z76:=Tryz.sizeOf288
 v76:=Tryz.zeroValue288
 t77:=Tryz.underlying289
 a77:=Tryz.isAgg289
 z77:=Tryz.sizeOf289
 v77:=Tryz.zeroValue289 }
end Go.Proofs.YtdmamdnkcefmmaaGreatDoor
namespace Go.Proofs.YtdmamdnkcefmmaaGreatDoor
open Go Go.Abs
theorem zGh {s:List (IT × Nat)} {k:Nat} (h:k<s.length):((tms s).drop (k*5)).take 5=tmC s[k]:=by
 have h1:=zpz h
 have h2:=zpA (Nat.le_of_lt h)
 rw[h1,List.drop_append,h2]
 simp[List.drop_of_length_le,h2]
theorem ztl {f:IT × Nat→List AV} {e size:Nat} {H1:zaa} {st:List (List (IT × Nat))} {i:Nat} {b:AB} (h:H1[i]?=some b) (J:zaa):(NX f e size H1 st++J)[i]?=some b:=by
 unfold NX
 rw[List.append_assoc]
 exact zb2 h
theorem zEI (p q:IT × Nat) (hp:p.1.nodes≤1000000) (H:zaa) (K:Kt) (hK:K (.int .i64 (IT.cmp p.1 q.1)) H):ACalls tP zi1 [.agg (tmC p),.agg (tmC q)] H K:=by
 refine ACalls.out (zRJ fun hs=>?_)
 simp[zBh,zfm,zdA,Nat.add_assoc]
 refine zDp _ _ _ (Nat.le_refl _) hp _ _ ?_
 exact Out.int rfl (Nat.le_refl _) hs hK
theorem zFq {H:zaa} {b:Nat} {l:List (IT × Nat)} (hb:H[b]?=some (.vec zaB 5 l.length (tms l))) (hn:l.length≤1000000) (hnd:∀ x∈l,x.1.nodes≤1000000) (K:Kt)
  (hK:∀ r:List (IT × Nat),r.Perm l→r.Pairwise (fun p q=>¬ IT.cmp q.1 p.1<0)→K (.tup []) (H.set b (.vec zaB 5 l.length (tms r)))):ACalls tP zvs [.ov b l.length,.fn zi1 []] H K:=by
 let d0:IT × Nat:=(.mk 0 [],0)
 have hgd:∀ i,i<l.length→(zaT l).getD i []=tmC (l.getD i d0):=fun i hi=>by simp[zaT,List.getD_eq_getElem?_getD,hi]
 have hgm:∀ i,i<l.length→l.getD i d0∈l:=fun i hi=>by simp[List.getD_eq_getElem?_getD,hi]
 have cmp_self:∀ a:IT,IT.cmp a a=0:=zfJ
 refine ACalls.sortFuncK zGL (k:=5) (by omega) Tryz.isAgg55 Tryz.sizeOf55 hb (by omega) (zaT l) (fun i j=>IT.cmp (l.getD i d0).1 (l.getD j d0).1) (by rw[zwY];exact zo0 l) (by simp) (fun r hr=>by
  obtain⟨x,_,rfl⟩:=List.mem_map.1 hr;simp) (fun args w=>rfl) (fun i j hi hj=>?_) (fun i hi=>?_) (fun i j k hi hj hk h1 h2=>?_) (fun i j k hi hj hk h1 h2=>?_) (fun p hp hsort=>?_)
 ·rw[hgd i hi,hgd j hj]
  exact zEI _ _ (hnd _ (hgm i hi)) _ _ rfl
 ·rw[cmp_self];omega
 ·exact zuf h1 (by omega)
 ·have:=IT.cmp_tri (l.getD k d0).1 (l.getD j d0).1 (l.getD i d0).1
  have a1:=IT.cmp_anti (l.getD i d0).1 (l.getD j d0).1
  have a2:=IT.cmp_anti (l.getD j d0).1 (l.getD k d0).1
  have a3:=IT.cmp_anti (l.getD i d0).1 (l.getD k d0).1
  unfold Tri at this
  omega
 ·have hpm:∀ i∈p,i<l.length:=fun i hi=>by simpa using hp.subset hi
  have hl2:(List.range l.length).map (fun i=>l.getD i d0)=l:=List.ext_getElem (by simp) fun i h1 h2=>by simp[List.getD_eq_getElem?_getD,h2]
  have hperm:(p.map fun i=>l.getD i d0).Perm l:=by
   have h1:=hp.map fun i=>l.getD i d0
   rwa [hl2]at h1
  have hfl:(p.map fun i=>(zaT l).getD i []).flatten=tms (p.map fun i=>l.getD i d0):=by
   rw[tms,List.map_map]
   congr 1
   refine List.map_congr_left fun i hi=>?_
   exact hgd i (hpm i hi)
  rw[hfl]
  refine hK _ hperm ?_
  rw[List.pairwise_iff_getElem]
  intro a b ha hb hab
  simp only[List.getElem_map]
  exact hsort a b (by simpa using ha) (by simpa using hb) hab
def zbR (data:List Dat) (t:VT) (u L:List (IT × Nat)) (k:Nat):List (List (IT × Nat)):=(List.range 7).map fun d=>if d<k then ofD data t L d else ofD data t u d
@[simp] theorem zpl (data:List Dat) (t:VT) (u L:List (IT × Nat)) (k:Nat):(zbR data t u L k).length=7:=by simp[zbR]
theorem zwv (data:List Dat) (t:VT) (u L:List (IT × Nat)) (k:Nat) {d:Nat} (h:d<7):(zbR data t u L k)[d]?=some (if d<k then ofD data t L d else ofD data t u d):=by
 simp[zbR,h]
theorem zFh (data:List Dat) (t:VT) (u L:List (IT × Nat)):(zbR data t u L 7).flatten=zbQ data t L 7:=by
 unfold zbR zbQ
 rw[List.flatMap_def]
 refine congrArg List.flatten (List.map_congr_left fun d hd=>?_)
 rw[if_pos (by simpa using hd)]
theorem zFj {data:List Dat} {t:VT} {u L:List (IT × Nat)} {k:Nat} (h:k<7):(zbR data t u L k).set k (ofD data t L k)=zbR data t u L (k+1):=by
 refine List.ext_getElem (by simp) fun i h1 h2=>?_
 rw[List.getElem_set]
 simp only[zbR,List.getElem_map,List.getElem_range]
 split
 ·rename_i e;subst e;rw[if_pos (by omega)]
 ·rename_i e
  by_cases hi:i<k
  ·rw[if_pos hi,if_pos (by omega)]
  ·rw[if_neg hi,if_neg (by omega)]
theorem zFi {data:List Dat} {t:VT} {s L:List (IT × Nat)} {j d:Nat} (hj:j<s.length) (hd:d<7) (hr:rdV data s[j].1 t=(d:Int)):(zbR data t (s.take j) L 0).set d (ofD data t (s.take j) d++[s[j]])=zbR data t (s.take (j+1)) L 0:=by
 refine List.ext_getElem (by simp) fun i h1 h2=>?_
 rw[List.getElem_set]
 simp only[zbR,List.getElem_map,List.getElem_range,Nat.not_lt_zero,if_false]
 have hst:=zD3 (data:=data) (t:=t) (d:=i) hj
 split
 ·rename_i e;subst e;rw[hst,if_pos hr]
 ·rename_i e
  rw[hst,if_neg (by omega),List.append_nil]
theorem zBL {H:zaa} {st:List (List (IT × Nat))} {k:Nat} {M r:List (IT × Nat)} (hget:st[k]?=some M) (hl:r.length=M.length) :
  (NX tmC zaB 5 H st).set (H.length+1+k) (.vec zaB 5 M.length (tms r))=NX tmC zaB 5 H (st.set k r):=by
 obtain⟨hk,hM⟩:=List.getElem?_eq_some_iff.1 hget
 have h1:=ztn tmC zaB 5 H [] st hk r
 have hv:vcs (H.length+1) (st.set k r)=vcs (H.length+1) st:=by
  rw[←zpI,hl]
  refine List.ext_getElem? fun i=>?_
  rw[List.getElem?_set]
  split
  ·rename_i h;subst h
   rw[if_pos (by simpa using hk),zpH _ hget]
  ·rfl
 simp only[List.append_nil]at h1
 rw[hv]at h1
 rw[←h1,hl,tms,List.flatMap_def]
 have hc:=ztk tmC zaB 5 H st
 have hself:∀ (X:zaa) (i:Nat) (b:AB),X[i]?=some b→X.set i b=X:=fun X i b hb=>by
  refine List.ext_getElem? fun j=>?_
  by_cases hj:i=j
  ·subst hj;rw[List.getElem?_set_self (zbj hb),hb]
  ·rw[List.getElem?_set_ne hj]
 exact (hself _ _ _ (by rw[List.getElem?_set_ne (by omega)];exact hc)).symm
theorem zF9 {data:List Dat} (hk:zbG data) (t:VT) (ht:t.nodes≤1000) (hf:zbZ data t=true) (H:zaa) (is im iv:Nat) (s L:List (IT × Nat)) (hS:Sw H is im iv (.sl (data.map Dat.cs) .none::t.cs) s)
  (hv:∀ p∈s,p.1.nodes≤900∧0<p.2∧p.2<1000000000 ^ 20∧0≤rdV data p.1 t∧rdV data p.1 t≤6) (hn:(s.map Prod.fst).Nodup) (h0:0<s.length) (hl:s.length≤100000)
  (hL:Asc L) (hLl:L.length≤100000) (hL0:∀ p∈L,0<p.2) (hsum:∀ g:IT→Nat,zaA g s=zaA g L) (K:Kt)
  (hbad:1000<s.length→K (.tup [.sl [] .none,.int .i64 9]) H) (hK:s.length≤1000→K (.tup [.sl (zaT (zbQ data t L 7)) .none,.int .i64 0]) H):ACalls tP zoH [.ptr is 0] H K:=by
 refine ACalls.out (zPR fun hs=>?_)
 obtain⟨T,hT⟩:∃ T,T=(AV.sl (data.map Dat.cs) .none::t.cs):=⟨_,rfl⟩
 rw[←hT]at hS
 have hT4:T.length=4:=hS.c4
 have hg1:=hS.h1
 have hil:=zbj hg1
 have hc0:(T++[.map im,.ov iv s.length])[0]?=some (.sl (data.map Dat.cs) .none):=by rw[hT];rfl
 have hc1:List.take 3 (T++[AV.map im,AV.ov iv s.length]).tail=t.cs:=by
  rw[hT]
  obtain⟨t1,t2,t3⟩:=t
  rfl
 have hc5:(T++[.map im,.ov iv s.length])[5]?=some (.ov iv s.length):=by rw[List.getElem?_append_right (by omega),hT4];rfl
 have hrep:(List.replicate 7 [AV.snil]).flatten=List.replicate 7 AV.snil:=rfl
 simp[zAx,zbh,hrep,zb2 hg1,zc5 _ hc5,Nat.add_assoc]
 unfold zmd
 refine ALoop.nx tmC zaB 5 7 ?_
 show zmd (.ptr is 0) (.ms H.length 0 7 7) (.int .i64 0) (.ov iv s.length) (.int .i64 s.length) (.int .i64 0) (NX tmC zaB 5 H (List.replicate 7 [])) _
 have hst0:List.replicate 7 []=zbR data t (s.take 0) L 0:=by simp[zbR,ofD,List.range_succ,List.replicate]
 rw[hst0]
 have hscN:∀ st,HSc (NX tmC zaB 5 H st):=fun st=>zBM hs fun x n=>by
  have:=zpy [x] n
  simpa[tms]using this
 refine zPO (Inv:=fun q t5 t17 H'=>∃ j:Nat,j≤s.length∧s.length-j=q∧t17=.int .i64 j∧t5=.int .i64 j∧H'=NX tmC zaB 5 H (zbR data t (s.take j) L 0)) s.length ?_ ?_
 ·intro _;exact⟨0,by omega,rfl,rfl,rfl,rfl⟩
 ·rintro q t5 t17 H' ⟨j,hj,rfl,rfl,rfl,rfl⟩ hsc' hlen hsF Kb hKb
  by_cases hjl:j<s.length
  ·obtain⟨v1,v2,v3,v4,v5⟩:=hv _ (List.getElem_mem hjl)
   obtain⟨d,hd⟩:∃ d:Nat,rdV data s[j].1 t=d:=⟨(rdV data s[j].1 t).toNat,by omega⟩
   have hd7:d<7:=by omega
   have hput:=zFi (L:=L) hjl hd7 hd
   have hget:=zwv data t (s.take j) L 0 hd7
   simp only[Nat.not_lt_zero,if_false]at hget
   have hol:(ofD data t (s.take j) d).length≤100000:=Nat.le_trans zoQ (by simp;omega)
   have hsl:=zpl data t (s.take j) L 0
   generalize hM:ofD data t (s.take j) d=M at *
   generalize hst:zbR data t (s.take j) L 0=st at *
   have hiv:=fun J=>ztl (f:=tmC) (e:=zaB) (size:=5) (st:=st) hS.h3 J
   have his:=fun J=>ztl (f:=tmC) (e:=zaB) (size:=5) (st:=st) hS.h1 J
   have hiv0:=hiv []
   rw[List.append_nil]at hiv0
   have h5:=zGh hjl
   have hb5:j*5+5≤s.length*5:=by omega
   simp[zma,hjl,hiv0,h5,hb5,zfn,Nat.add_assoc]
   refine⟨zfn _,?_⟩
   have hsm:Sm (s[j].2:Int):=zdO (Nat.lt_of_lt_of_le v3 (by decide))
   rw[zc2]
   refine zBd s[j].2 hsm _ _ ?_
   have hne0:s[j].2≠0:=by omega
   have hNl:(NX tmC zaB 5 H st).length=H.length+8:=by rw[zen,hsl]
   have hcell:∀ J,(NX tmC zaB 5 H st++(AB.cells (tmC s[j])::J))[H.length+8]?=some (.cells (tmC s[j])):=fun J=>by rw[←hNl];simp
   have hck:=fun J=>ztj tmC zaB 5 H J st
   have hbk:=fun J=>zti tmC zaB 5 H J hget
   have hvk:=zpH (H.length+1) hget
   rw[hNl]
   simp[hne0,his,zc5 _ hc0,hc1,hcell,zdA,zc2,hT4]
   refine zaE (.int .i64 d) (fun J=>zsc data hk t ht s[j].1 (by omega) _ _ ⟨by rw[←hd];unfold zbv;rw[if_pos hf],rfl⟩) ?_
   have hd7':(d:Int)<7:=by omega
   simp[hd7',zal,hck,zc5 _ hvk,hcell,zdA,zc2]
   refine zaE (.agg s[j].1.cs) (fun J=>zRC _ s[j].1 (Nat.le_refl _) (by omega) _ _ ⟨rfl,rfl⟩) ?_
   try simp[hcell,zc2]
   refine zaE (.agg (zak (s[j].2:Int))) (fun J=>zRG _ hsm _ _ ⟨rfl,rfl⟩) ?_
   have hd5:List.drop 5 (s[j].1.cs++[AV.bool false,.snil,.snil])=[]:=List.drop_of_length_le (by simp)
   have hik:∀ x∈s[j].1.cs,x.known=true:=List.all_eq_true.1 (IT.cs_known s[j].1)
   have hrk:∀ x∈zak (s[j].2:Int),x.known=true:=List.all_eq_true.1 (zhl _)
   have hp0:plain ([.int .i64 0,.snil,.bool false,.snil,.snil]:List AV)=some [.int .i64 0,.sl [] .none,.bool false,.sl [] .none,.sl [] .none]:=rfl
   simp[zas,zaH,hd5]
   rw[show s[j].1.cs++zak (s[j].2:Int)=tmC s[j] from rfl]
   simp[zau,zaR,zoZ,hp0]
   simp only[zaw,zaK,zaG,hbk]
   have hdst:d<st.length:=by omega
   have hset:=ztn tmC zaB 5 H [AB.cells (tmC s[j])] st hdst (M++[s[j]])
   have hln:(M++[s[j]]).length=M.length+1:=by simp
   have hfm:(M++[s[j]]).flatMap tmC=M.flatMap tmC++tmC s[j]:=by simp
   rw[hln,hfm,←zGz _ _ hdst,hln,hput]at hset
   have hXc:=hck [AB.cells (tmC s[j])]
   have hXb:=hbk [AB.cells (tmC s[j])]
   generalize hX:NX tmC zaB 5 H st++[AB.cells (tmC s[j])]=X at *
   have hbl:=zbj hXb
   have g2:∀ v,(X.set (H.length+1+d) v)[H.length]?=some (.cells (vcs (H.length+1) st)):=fun v=>by rw[List.getElem?_set_ne (by omega)];exact hXc
   simp[g2]
   refine⟨⟨by omega,by omega⟩,by omega,?_⟩
   rw[hset]
   simp[zso,zAy,wi j (by omega)]
   exact hKb _ _ ⟨s.length-(j+1),by omega,Back.at (J:=[.cells (tmC s[j])]) (H2:=NX tmC zaB 5 H (zbR data t (s.take (j+1)) L 0)) rfl (by simp[zen]) (hscN _) (by
    have h3:=zbj hS.h3
    simp[zmc,ux,AV.sc,AV.scA,AV.scB,AV.scV,zen];omega) ⟨_,_,rfl,j+1,by omega,rfl,rfl,rfl,rfl⟩⟩
  ·obtain rfl:j=s.length:=by omega
   rw[List.take_length]at *
   by_cases hbig:1000<s.length
   ·have hbig':(1000:Int)<(s.length:Int):=by omega
    simp[zma,hbig']
    obtain⟨J,hJ⟩:=ztm tmC zaB 5 H (zbR data t s L 0)
    rw[←hJ]
    exact⟨⟨rfl,rfl⟩,Out.tup (bs:=[.sl [] .none,.int .i64 9]) hs (hbad hbig) ⟨zdy,za3 rfl rfl,trivial⟩⟩
   ·have hbig':¬ (1000:Int)<(s.length:Int):=by omega
    simp[zma,hbig']
    refine zPN (Inv:=fun q t59 H'=>∃ k:Nat,k≤7∧7-k=q∧t59=.int .i64 k∧H'=NX tmC zaB 5 H (zbR data t s L k)) 7 ?_ ?_
    ·intro _;exact⟨0,by omega,rfl,rfl,rfl⟩
    ·rintro q t59 H' ⟨k,hk7,rfl,rfl,rfl⟩ hsc14 hlen14 hsF14 Kb14 hKb14
     by_cases hlt:k<7
     ·have hlt':(k:Int)<7:=by omega
      have hget:=zwv data t s L k hlt
      simp only[Nat.lt_irrefl,if_false]at hget
      have hst:=zFj (data:=data) (t:=t) (u:=s) (L:=L) hlt
      have hsl:=zpl data t s L k
      obtain⟨M,hM⟩:∃ M,M=ofD data t s k:=⟨_,rfl⟩
      obtain⟨st,hst'⟩:∃ st,st=zbR data t s L k:=⟨_,rfl⟩
      rw[←hM]at hget
      rw[←hst']at hget hst hsl hsF14 hsc14 ⊢
      have hck:=ztk tmC zaB 5 H st
      have hvk:=zpH (H.length+1) hget
      have hbk:=zti tmC zaB 5 H [] hget
      rw[List.append_nil]at hbk
      have hMl:M.length≤100000:=by rw[hM];exact Nat.le_trans zoQ (by omega)
      simp[zsn,hlt',hck,zc5 _ hvk]
      refine zFq (b:=H.length+1+k) (l:=M) (by rw[hbk,tms,List.flatMap_def]) (by omega) (fun p hp=>by
       rw[hM]at hp
       have:=hv p (List.mem_filter.1 hp).1
       omega) _ fun r hr1 hr2=>?_
      have hre:r=ofD data t L k:=zCj (by rw[←hM];exact hr1) hr2 hn (fun p hp=>(hv p hp).2.1) hL hL0 hsum
      have hrl:r.length=M.length:=hr1.length_eq
      rw[zBL hget hrl,hre,hst,wi k (by omega)]
      exact hKb14 _ _ ⟨7-(k+1),by omega,Back.at (J:=[]) (H2:=NX tmC zaB 5 H (zbR data t s L (k+1))) (by simp) (by simp[zen]) (hscN _) (by simp[zmb,ux,AV.sc,AV.scA,AV.scB,AV.scV,zen];try omega) ⟨_,rfl,k+1,by omega,rfl,rfl,rfl⟩⟩
     ·obtain rfl:k=7:=by omega
      have hfe:=zFh data t s L
      have hcc:=zFd (zbR data t s L 7)
      simp[zsn]
      rw[zpl,hfe]at hcc
      have hrg:∀ p∈L,0≤rdV data p.1 t∧rdV data p.1 t≤6:=fun p hp=>by
       obtain⟨q,hq,he⟩:=zd6 (fun g=>(hsum g).symm) hp (hL0 p hp)
       have:=hv q hq
       rw[←he];omega
      have hlen1:=zoR (data:=data) (t:=t) (s:=L) 7
      have hpos:0<(zbQ data t L 7).length:=by
       have h1:=zvJ hrg (fun _=>1)
       have h2:=hsum (fun _=>1)
       rw[zc1,zc1]at h1
       cases ho:zbQ data t L 7 with
       | nil=>
        rw[ho,zpo]at h1
        cases hs':s with
        | nil=>rw[hs']at h0;simp at h0
        | cons p s'=>
         have:=(hv p (by rw[hs'];simp)).2.1
         rw[hs',za7]at h2
         omega
       | cons p o=>simp
      refine hcc hpos (by omega) (by omega) H _ ?_
      obtain⟨J,hJ⟩:=ztm tmC zaB 5 H (zbR data t s L 7)
      rw[←hJ]
      exact⟨⟨rfl,rfl⟩,Out.tup (bs:=[.sl (zaT (zbQ data t L 7)) .none,.int .i64 0]) hs (hK (by omega)) ⟨za3 rfl rfl,za3 rfl rfl,trivial⟩⟩
theorem zpx (a:List (IT × Nat)) (i:IT) (c:Nat):zaT a++[i.cs++zak (c:Int)]=zaT (a++[(i,c)]):=by simp[zaT,tmC]
theorem zDR {data:List Dat} (h8:∀ D∈data,D.cons.length≤8) {f:Nat} (hQ:zh4 data f) (hM:zh3 data f):zm2 data (f+1):=by
 intro t i j hf htn htv hi hj h6 hn H K hK
 obtain⟨k,tn,tks⟩:=t
 obtain⟨n,l⟩:=i
 obtain⟨n',m⟩:=j
 simp only[IT.nodes]at hf hn
 refine ACalls.out (zPI fun hs=>?_)
 have hTc:(VT.mk k tn tks).cs=[.int .i64 k,.int .i64 tn,.sl (VT.css tks) .none]:=rfl
 have hIc:(IT.mk n l).cs=[.int .i64 n,.sl (IT.css l) .none]:=rfl
 have hJc:(IT.mk n' m).cs=[.int .i64 n',.sl (IT.css m) .none]:=rfl
 have hp1:plain ([.int .i64 0,.snil,.bool false,.snil,.snil]:List AV)=some [.int .i64 0,.sl [] .none,.bool false,.sl [] .none,.sl [] .none]:=rfl
 have hH3:(H++[AB.cells (VT.mk k tn tks).cs,.cells (IT.mk n l).cs,.cells (IT.mk n' m).cs]).length=H.length+3:=by simp
 have hsc3:∀ c,HSc (H++[AB.cells (VT.mk k tn tks).cs,.cells (IT.mk n l).cs,.cells (IT.mk n' m).cs,.perm zaB 5 c]):=fun c=>hs.append (by simp[AB.sc,VT.cs,IT.cs,AV.scA,AV.scB])
 by_cases k6:k=6
 ·subst k6
  have ev:∀ (n:Int) (l:List IT),0≤rdV data (.mk n l) (.mk 6 tn tks)→n=0∧l.length=tks.length∧rdV data (.mk n l) (.mk 6 tn tks)=rdA data l tks 0:=fun n l h=>by
   rw[rdV]at h ⊢
   simp only[VT.kind,VT.kids,if_true]at h ⊢
   by_cases hn:n=0
   ·by_cases hl:tks.length=l.length
    ·simp[hn,hl]
    ·simp[hn,hl]at h
   ·simp[hn]at h
  obtain⟨i1,i2,i3⟩:=ev n l hi
  obtain⟨j1,j2,j3⟩:=ev n' m hj
  rw[i3]at hi h6
  rw[j3]at hj h6
  have hkl:=VT.len_le tks
  have hmem:∀ (ts:List VT) (x:VT),x∈ts→x.nodes≤VT.nodesL ts:=by
   intro ts
   induction ts with
   | nil=>intro x hx;simp at hx
   | cons t ts ih=>
    intro x hx
    simp only[VT.nodesL]
    rcases List.mem_cons.1 hx with rfl | hx
    ·omega
    ·have:=ih x hx;omega
  have htks:∀ x∈tks,x.nodes≤1000∧zaZ data 0 x=true:=fun x hx=>by
   have:=hmem tks x hx
   simp only[VT.nodes]at htn
   exact⟨by omega,zxd htv x hx⟩
  simp only[VT.nodes]at htn
  obtain⟨R,hR⟩:∃ R,R=zcg data f tks l m:=⟨_,rfl⟩
  obtain⟨R1,R2,R3,R4⟩:=zt0 h8 (f:=f) (ts:=tks) (l:=l) (m:=m) (by omega) i2 j2 hi hj h6
  rw[←hR]at R1 R2 R3 R4
  have hmf:za9 data (f+1) (.mk 6 tn tks) (.mk n l) (.mk n' m)=R.map fun r=>(.mk 0 r.1,r.2):=by
   rw[za9,hR];simp[VT.kind,VT.kids,zaD]
  rw[hmf]at hK
  simp[zhP,hTc,hIc,hJc,Nat.add_assoc]
  refine hQ tks l m (by omega) i2 j2 (by omega) htks hi hj h6 (by omega) _ _ ?_
  rw[←hR]
  simp
  rw[←hTc,←hIc,←hJc]
  unfold zl9
  refine ALoop.own 9 zaB 5 rfl ?_
  rw[hH3,List.append_assoc]
  show zl9 (.sl (zaT ((R.take 0).map fun r=>(IT.mk 0 r.1,r.2))) (.own (H.length+3))) _ _ _ (H++[AB.cells (VT.mk 6 tn tks).cs,.cells (IT.mk n l).cs,.cells (IT.mk n' m).cs,.perm zaB 5 0]) _
  refine zPE (Inv:=fun q t9 t36 H'=>∃ q':Nat,q'≤R.length∧R.length-q'=q∧t36=.int .i64 q'∧t9=.sl (zaT ((R.take q').map fun r=>(IT.mk 0 r.1,r.2))) (.own (H.length+3))∧H'=H++[AB.cells (VT.mk 6 tn tks).cs,.cells (IT.mk n l).cs,.cells (IT.mk n' m).cs,.perm zaB 5 q']) R.length ?_ ?_
  ·intro _;exact⟨0,by omega,rfl,rfl,rfl,rfl⟩
  ·rintro q t9 t36 H' ⟨q',hq,rfl,rfl,rfl,rfl⟩ hsc6 hlen6 hsF6 Kb6 hKb6
   have hmin:min q' R.length=q':=by omega
   by_cases hql:q'<R.length
   ·have hst:(R.take (q'+1)).map (fun r=>(IT.mk 0 r.1,r.2))=(R.take q').map (fun r=>(IT.mk 0 r.1,r.2))++[(IT.mk 0 R[q'].1,R[q'].2)]:=by
     rw[List.take_succ_eq_append_getElem hql];simp only[List.map_append,List.map_cons,List.map_nil]
    simp[zsk,hql,zas,zaH,wi q' (by omega),AV.known,zau,zaR,plain,AV.pd,zcZ,hp1]
    simp only[zaw,zaK,zaG]
    simp[hmin,List.set_append_right]
    refine⟨⟨by omega,by omega⟩,?_⟩
    have hrw:zaT (List.take q' (List.map (fun r=>(IT.mk 0 r.1,r.2)) R))++[.int .i64 0::.sl (IT.css R[q'].1) .none::zak (R[q'].2:Int)]=zaT ((R.take (q'+1)).map fun r=>(IT.mk 0 r.1,r.2)):=by
     rw[hst,←zpx,List.map_take];rfl
    rw[hrw]
    exact hKb6 _ _ ⟨R.length-(q'+1),by omega,Back.at (J:=[.cells (.sl (IT.css R[q'].1) .none::zak (R[q'].2:Int))]) (H2:=H++[AB.cells (VT.mk 6 tn tks).cs,.cells (IT.mk n l).cs,.cells (IT.mk n' m).cs,.perm zaB 5 (q'+1)]) (by simp) (by simp) (hsc3 _) (by simp[zl4,ux,AV.sc,AV.scA,AV.scB,AV.scV]) ⟨_,_,rfl,q'+1,by omega,rfl,rfl,rfl,rfl⟩⟩
   ·obtain rfl:q'=R.length:=by omega
    rw[List.take_length]
    simp[zsk,zfA,zl5]
    exact Out.at (b:=.sl (zaT (R.map fun r=>(IT.mk 0 r.1,r.2))) .none) rfl (Nat.le_refl _) hs (.atom (.sl _ _)) rfl rfl hK
 ·by_cases k7:k=7
  ·subst k7
   have ev:∀ (n:Int) (l:List IT),0≤rdV data (.mk n l) (.mk 7 tn tks)→0≤n∧n≤6∧rdV data (.mk n l) (.mk 7 tn tks)=n:=fun n l h=>by
    rw[rdV]at h ⊢
    simp only[VT.kind,k6,if_false,if_true]at h ⊢
    by_cases hc:0≤n∧n≤6∧l.length=0
    ·rw[if_pos hc];exact⟨hc.1,hc.2.1,rfl⟩
    ·rw[if_neg hc]at h;omega
   obtain⟨i1,i2,i3⟩:=ev n l hi
   obtain⟨j1,j2,j3⟩:=ev n' m hj
   rw[i3]at hi h6
   rw[j3]at hj h6
   obtain⟨a,rfl⟩:∃ a:Nat,n=a:=⟨n.toNat,by omega⟩
   obtain⟨b,rfl⟩:∃ b:Nat,n'=b:=⟨n'.toNat,by omega⟩
   have hmf:za9 data (f+1) (.mk 7 tn tks) (.mk a l) (.mk b m)=(zbH a b).filter fun p=>p.2 != 0:=by
    rw[za9];simp[VT.kind,zaQ]
   rw[hmf]at hK
   simp[zhP,hTc,hIc,hJc,Nat.add_assoc]
   refine zRm a b (by omega) (by omega) _ _ ?_
   simp
   rw[←hTc,←hIc,←hJc]
   unfold zl7
   refine ALoop.own 9 zaB 5 rfl ?_
   rw[hH3,List.append_assoc]
   have hpl:(zcN a b (a+b+1)).length=a+b+1:=by simp[zcN]
   have hal:(zbH a b).length=a+b+1:=by simp[zbH]
   show zl7 (.sl (zaT (((zbH a b).take 0).filter fun p=>p.2 != 0)) (.own (H.length+3))) _ _ _ (H++[AB.cells (VT.mk 7 tn tks).cs,.cells (IT.mk a l).cs,.cells (IT.mk b m).cs,.perm zaB 5 0]) _
   refine zPC (Inv:=fun q t9 t62 H'=>∃ q':Nat,q'≤a+b+1∧a+b+1-q'=q∧t62=.int .i64 q'∧t9=.sl (zaT (((zbH a b).take q').filter fun p=>p.2 != 0)) (.own (H.length+3))∧H'=H++[AB.cells (VT.mk 7 tn tks).cs,.cells (IT.mk a l).cs,.cells (IT.mk b m).cs,.perm zaB 5 (((zbH a b).take q').filter fun p=>p.2 != 0).length]) (a+b+1) ?_ ?_
   ·intro _;exact⟨0,by omega,rfl,rfl,rfl,rfl⟩
   ·rintro q t9 t62 H' ⟨q',hq,rfl,rfl,rfl,rfl⟩ hsc13 hlen13 hsF13 Kb13 hKb13
    by_cases hql:q'<a+b+1
    ·have hq':q'<(zbH a b).length:=by omega
     have hql':(q':Int)<(a:Int)+(b:Int)+1:=by omega
     have he:(zbH a b)[q']=(.mk (q':Int) [],pcf a b q'):=by simp[zbH]
     have hst:((zbH a b).take (q'+1)).filter (fun p=>p.2 != 0)=((zbH a b).take q').filter (fun p=>p.2 != 0)++(if pcf a b q'=0 then [] else [(.mk (q':Int) [],pcf a b q')]):=by
      rw[List.take_succ_eq_append_getElem hq',he,List.filter_append]
      by_cases h0:pcf a b q'=0 <;> simp[h0]
     have hfl:(((zbH a b).take q').filter fun p=>p.2 != 0).length≤20:=Nat.le_trans (List.length_filter_le _ _) (by simp;omega)
     have hg2:(zcd (zcN a b (a+b+1)))[q']?=some (zak (pcf a b q':Int)):=by simp[zcd,zcN,hql]
     obtain⟨s,hs'⟩:∃ s,s=((zbH a b).take q').filter fun p=>p.2 != 0:=⟨_,rfl⟩
     rw[←hs']at hst hfl ⊢
     have hNa:zaJ (fun _=>1) (zbH a b)≤729:=by
      rw[zbH,zjv]
      have:=ztQ a (by omega) b (by omega) (by omega)
      unfold zpp at this
      refine Nat.le_trans (by simpa using this) (Nat.le_trans (Nat.pow_le_pow_right (by omega) (show a+b≤6 by omega)) (by decide))
     have hpc:pcf a b q'≤729:=by
      have hc:=znS (List.getElem_mem hq')
      rw[he]at hc
      exact Nat.le_trans hc hNa
     have hsmp:pcf a b q'<1000000000 ^ 30:=Nat.lt_of_le_of_lt hpc (by decide)
     simp[zsi,hpl,hql',hg2,zeC]
     refine zBd (pcf a b q') (zdO hsmp) _ _ ?_
     by_cases h0:pcf a b q'=0
     ·rw[if_pos h0,List.append_nil]at hst
      simp[h0,zl6,zsl,wi q' (by omega)]
      have hst':s=List.filter (fun p=>p.2 != 0) ((zbH a b).take (q'+1)):=hst.symm
      exact hKb13 _ _ ⟨a+b+1-(q'+1),by omega,Back.at (J:=[.cells (zak 0)]) (H2:=H++[AB.cells (VT.mk 7 tn tks).cs,.cells (IT.mk a l).cs,.cells (IT.mk b m).cs,.perm zaB 5 s.length]) (by simp) (by simp) (hsc3 _) (by simp[zhQ,ux,AV.sc,AV.scA,AV.scB,AV.scV]) ⟨_,_,by simp only[hpl];rfl,q'+1,by omega,rfl,rfl,by rw[←hst'],by rw[←hst']⟩⟩
     ·rw[if_neg h0]at hst
      simp[h0,zas,zaH,zau,zaR,plain,AV.pd,AV.known,zcZ,hp1]
      simp only[zaw,zaK,zaG]
      simp[List.set_append_right,zl6,zsl,wi q' (by omega)]
      refine⟨⟨by omega,by omega⟩,?_⟩
      have hrw:zaT s++[.int .i64 (q':Int)::.sl [] .none::zak (pcf a b q':Int)]=zaT (((zbH a b).take (q'+1)).filter fun p=>p.2 != 0):=by
       rw[hst,←zpx];rfl
      have hlen':s.length+1=(((zbH a b).take (q'+1)).filter fun p=>p.2 != 0).length:=by rw[hst];simp
      rw[hrw,hlen']
      exact hKb13 _ _ ⟨a+b+1-(q'+1),by omega,Back.at (J:=[.cells (zak (pcf a b q':Int))]) (H2:=H++[AB.cells (VT.mk 7 tn tks).cs,.cells (IT.mk a l).cs,.cells (IT.mk b m).cs,.perm zaB 5 (((zbH a b).take (q'+1)).filter fun p=>p.2 != 0).length]) (by simp) (by simp) (hsc3 _) (by simp[zhQ,ux,AV.sc,AV.scA,AV.scB,AV.scV]) ⟨_,_,by simp only[hpl];rfl,q'+1,by omega,rfl,rfl,rfl,rfl⟩⟩
    ·obtain rfl:q'=a+b+1:=by omega
     rw[List.take_of_length_le (by omega)]
     simp[zsi,zfA,zl5,hpl]
     exact Out.at (b:=.sl (zaT ((zbH a b).filter fun p=>p.2 != 0)) .none) rfl (Nat.le_refl _) hs (.atom (.sl _ _)) rfl rfl hK
  ·by_cases k5:k=5
   ·subst k5
    have ev:∀ (n:Int) (l:List IT),0≤rdV data (.mk n l) (.mk 5 tn tks)→n=0∧l.length≤6∧rdV data (.mk n l) (.mk 5 tn tks)=rdE data l (.mk 5 tn tks) 0:=fun n l h=>by
     rw[zjm]at h ⊢
     by_cases hc:n=0∧l.length≤6
     ·rw[if_pos hc];exact⟨hc.1,hc.2,rfl⟩
     ·rw[if_neg hc]at h;omega
    obtain⟨i1,i2,i3⟩:=ev n l hi
    obtain⟨j1,j2,j3⟩:=ev n' m hj
    rw[i3]at hi h6
    rw[j3]at hj h6
    obtain⟨R,hR⟩:∃ R,R=zaX data f (.mk 5 tn tks) l m:=⟨_,rfl⟩
    obtain⟨R1,R2,R3,R4⟩:=zia h8 (f:=f) (t:=.mk 5 tn tks) (l:=l) (m:=m) (by omega) hi hj h6
    rw[←hR]at R1 R2 R3 R4
    have hmf:za9 data (f+1) (.mk 5 tn tks) (.mk n l) (.mk n' m)=R.map fun r=>(.mk 0 r.1,r.2):=by
     rw[za9,hR];simp[VT.kind,zaD]
    rw[hmf]at hK
    simp[zhP,hTc,hIc,hJc,Nat.add_assoc]
    rw[←hTc]
    refine hM (.mk 5 tn tks) l m (by omega) htn htv rfl hi hj h6 (by omega) _ _ ?_
    rw[←hR]
    simp
    rw[←hIc,←hJc]
    unfold zl8
    refine ALoop.own 9 zaB 5 rfl ?_
    rw[hH3,List.append_assoc]
    show zl8 (.sl (zaT ((R.take 0).map fun r=>(IT.mk 0 r.1,r.2))) (.own (H.length+3))) _ _ _ (H++[AB.cells (VT.mk 5 tn tks).cs,.cells (IT.mk n l).cs,.cells (IT.mk n' m).cs,.perm zaB 5 0]) _
    refine zPD (Inv:=fun q t9 t36 H'=>∃ q':Nat,q'≤R.length∧R.length-q'=q∧t36=.int .i64 q'∧t9=.sl (zaT ((R.take q').map fun r=>(IT.mk 0 r.1,r.2))) (.own (H.length+3))∧H'=H++[AB.cells (VT.mk 5 tn tks).cs,.cells (IT.mk n l).cs,.cells (IT.mk n' m).cs,.perm zaB 5 q']) R.length ?_ ?_
    ·intro _;exact⟨0,by omega,rfl,rfl,rfl,rfl⟩
    ·rintro q t9 t36 H' ⟨q',hq,rfl,rfl,rfl,rfl⟩ hsc6 hlen6 hsF6 Kb6 hKb6
     have hmin:min q' R.length=q':=by omega
     by_cases hql:q'<R.length
     ·have hst:(R.take (q'+1)).map (fun r=>(IT.mk 0 r.1,r.2))=(R.take q').map (fun r=>(IT.mk 0 r.1,r.2))++[(IT.mk 0 R[q'].1,R[q'].2)]:=by
       rw[List.take_succ_eq_append_getElem hql];simp only[List.map_append,List.map_cons,List.map_nil]
      simp[zsj,hql,zas,zaH,wi q' (by omega),AV.known,zau,zaR,plain,AV.pd,zcZ,hp1]
      simp only[zaw,zaK,zaG]
      simp[hmin,List.set_append_right]
      refine⟨⟨by omega,by omega⟩,?_⟩
      have hrw:zaT (List.take q' (List.map (fun r=>(IT.mk 0 r.1,r.2)) R))++[.int .i64 0::.sl (IT.css R[q'].1) .none::zak (R[q'].2:Int)]=zaT ((R.take (q'+1)).map fun r=>(IT.mk 0 r.1,r.2)):=by
       rw[hst,←zpx,List.map_take];rfl
      rw[hrw]
      exact hKb6 _ _ ⟨R.length-(q'+1),by omega,Back.at (J:=[.cells (.sl (IT.css R[q'].1) .none::zak (R[q'].2:Int))]) (H2:=H++[AB.cells (VT.mk 5 tn tks).cs,.cells (IT.mk n l).cs,.cells (IT.mk n' m).cs,.perm zaB 5 (q'+1)]) (by simp) (by simp) (hsc3 _) (by simp[zl3,ux,AV.sc,AV.scA,AV.scB,AV.scV]) ⟨_,_,rfl,q'+1,by omega,rfl,rfl,rfl,rfl⟩⟩
     ·obtain rfl:q'=R.length:=by omega
      rw[List.take_length]
      simp[zsj,zfA,zl5]
      exact Out.at (b:=.sl (zaT (R.map fun r=>(IT.mk 0 r.1,r.2))) .none) rfl (Nat.le_refl _) hs (.atom (.sl _ _)) rfl rfl hK
   ·have hmf:za9 data (f+1) (.mk k tn tks) (.mk n l) (.mk n' m)=[(.mk 0 [],1)]:=by
     rw[za9];simp[VT.kind,k6,k7,k5]
    rw[hmf]at hK
    have b6:(k == 6)=false:=by simpa using k6
    have b7:(k == 7)=false:=by simpa using k7
    have b5:(k == 5)=false:=by simpa using k5
    simp[zhP,hTc,hIc,hJc,b6,b7,b5,zas,zaH,AV.known,Nat.add_assoc]
    refine zel 1 (by omega) _ _ ?_
    simp[zas,zaH,zau,zaR,plain,AV.pd,AV.known,zcZ,zaw,zaK,zaG]
    exact Out.at (b:=.sl (zaT [(IT.mk 0 [],1)]) .none) rfl (Nat.le_refl _) hs (.atom (.sl _ _)) rfl rfl hK
theorem zvj {data:List Dat} (hk:zbG data) (h8:∀ D∈data,D.cons.length≤8) (hD:zbq data=true):∀ f,zm2 data f∧zh4 data f∧zh3 data f
 | 0=>⟨fun t i j h=>by have:=i.nodes_pos;omega,fun ts l m h=>by omega,fun t l m h=>by omega⟩
 | f+1=>by
  obtain⟨h1,h2,h3⟩:=zvj hk h8 hD f
  exact⟨zDR h8 h2 h3,zEP h8 h1,zDL hk h8 hD h2 h3⟩
end Go.Proofs.YtdmamdnkcefmmaaGreatDoor
namespace Go.Proofs.YtdmamdnkcefmmaaGreatDoor
open Go Go.Abs
set_option maxRecDepth 100000
def zHy (_:Nat):List Bool:=[]
noncomputable def zHz:Code:=Tryz.f12.body.getD .skip
def zxB (t0 t1 t2 t3:AV) (H:zaa) (K:Kt):Prop:=
 zav t1 H fun t5 H=>
 zav t2 H fun t6 H=>
 zav t3 H fun t7 H=>
 zad H (fun K'=>K' t0 H) fun t13=>
 zad H (fun K'=>zal true 3 t5 H (K' · H)) fun t14=>
 zad H (fun K'=>zal true 2 t6 H (K' · H)) fun t15=>
 zaF H (fun H K'=>ACalls tP zg7 [t13,t14,t15] H K') fun t16=>
 zad H (fun K'=>K' t0 H) fun t17=>
 zad H (fun K'=>zal true 3 t5 H (K' · H)) fun t18=>
 zad H (fun K'=>zal true 2 t7 H (K' · H)) fun t19=>
 zaF H (fun H K'=>ACalls tP zg7 [t17,t18,t19] H K') fun t20=>
 zad H (fun K'=>K' t16 H) fun t10=>
 zad H (fun K'=>K' t20 H) fun t11=>
 zab .lss false t10 (.int .i64 0) fun t22=>
 zac t22 false H (fun K'=>K' t11 H) fun t24 H=>
 zac t22 false H (fun K'=>zab .lss false t24 (.int .i64 0) (K' · H)) fun t25 H=>
 zaj t22 (.bool true) t25 fun t26=>
 zag t26
 (zaC [.snil,(.int .i64 1)] (K · H))
 (zab .add false t10 t11 fun t29=>
 zab .gtr false t29 (.int .i64 6) fun t30=>
 zag t30
 (zaC [.snil,(.int .i64 13)] (K · H))
 (zae true 3 t5 H fun t32=>
 ACalls tP zoF [t0,t32] H fun t33 H=>
 zae true 3 t5 H fun t36=>
 zae true 2 t6 H fun t37=>
 zae true 2 t7 H fun t38=>
 ACalls tP ziQ [t0,t36,t37,t38] H fun t39 H=>
 ACalls tP zoG [t33,t39] H fun t40 H=>
 ACalls tP zoH [t33] H fun t42 H=>
 zaz t42 0 fun t43=>
 zaz t42 1 fun t44=>
 zaC [t43,t44] (K · H)))
theorem zHA {t0 t1 t2 t3:AV} {H:zaa} {K:Kt} (h:HSc H→zxB t0 t1 t2 t3 H K):ACalls tP zim [t0,t1,t2,t3] H K:=
 zao (M:=zHy) Tryz.func12 (c:=zHz) (by kernel_rfl) (fun hs=>Eq.mpr (by kernel_rfl) (h hs))
def zRW (_:Nat):List Bool:=[]
noncomputable def zRX:Code:=Tryz.f10.body.getD .skip
def zq8 (t0 t1:AV) (H:zaa) (K:Kt):Prop:=
 zav t1 H fun t3 H=>
 ACalls tP zoD [t0] H fun t6 H=>
 zac t6 true H (fun K'=>zae true 3 t3 H (K' · H)) fun t8 H=>
 zac t6 true H (fun K'=>ACalls tP zoE [t8] H K') fun t9 H=>
 zaj t6 t9 (.bool false) fun t10=>
 K t10 H
theorem zRY {t0 t1:AV} {H:zaa} {K:Kt} (h:HSc H→zq8 t0 t1 H K):ACalls tP zoN [t0,t1] H K:=
 zao (M:=zRW) Tryz.func10 (c:=zRX) (by kernel_rfl) (fun hs=>Eq.mpr (by kernel_rfl) (h hs))
def zI4 (_:Nat):List Bool:=[]
noncomputable def zI5:Code:=Tryz.f15.body.getD .skip
def zx6 (H:zaa) (K:Kt):Prop:=
 zas [(.int .i64 0),(.int .i64 0),.snil] [(0,1),(1,1),(2,1)] [(0,(.int .i64 1))] fun t4=>
 zau 3 [(.int .i64 0),(.int .i64 0),.snil] 1 [(0,t4)] fun t5=>
 zas [(.int .i64 0),(.int .i64 0),.snil] [(0,1),(1,1),(2,1)] [(0,(.int .i64 7)),(2,t5)] fun t6=>
 zay [(.int .i64 0),(.int .i64 0),.snil] H fun t1 H=>
 zan 3 t1 t6 H fun H=>
 zae true 3 t1 H fun t8=>
 zas [(.int .i64 0),.snil] [(0,1),(1,1)] [(0,(.int .i64 1))] fun t9=>
 zas [(.int .i64 0),.snil] [(0,1),(1,1)] [(0,(.int .i64 1))] fun t10=>
 ACalls tP zim [.snil,t8,t9,t10] H fun t11 H=>
 zaz t11 0 fun t12=>
 zaz t11 1 fun t13=>
 zad H (fun K'=>K' t13 H) fun t14=>
 zad H (fun K'=>zab .eql false t14 (.int .i64 0) (K' · H)) fun t15=>
 zad H (fun K'=>K' t15 H) fun t16=>
 zac t16 true H (fun K'=>zad H (fun K''=>K'' t12 H) (K' · H)) fun t17 H=>
 zac t16 true H (fun K'=>zad H (fun K''=>zah 1 t17 (K'' · H)) (K' · H)) fun t18 H=>
 zac t16 true H (fun K'=>zad H (fun K''=>zab .eql false t18 (.int .i64 2) (K'' · H)) (K' · H)) fun t19 H=>
 zad H (fun K'=>zaj t16 t19 (.bool false) (K' · H)) fun t20=>
 zad H (fun K'=>K' t20 H) fun t21=>
 zac t21 true H (fun K'=>zad H (fun K''=>K'' t12 H) (K' · H)) fun t22 H=>
 zac t21 true H (fun K'=>zad H (fun K''=>zai 5 t22 (.int .i64 1) (K'' · H)) (K' · H)) fun t23 H=>
 zac t21 true H (fun K'=>zad H (fun K''=>zaf 0 t23 (K'' · H)) (K' · H)) fun t24 H=>
 zac t21 true H (fun K'=>zad H (fun K''=>zaf 0 t24 (K'' · H)) (K' · H)) fun t25 H=>
 zac t21 true H (fun K'=>zad H (fun K''=>zal false 1 t25 H (K'' · H)) (K' · H)) fun t26 H=>
 zac t21 true H (fun K'=>zad H (fun K''=>zab .eql false t26 (.int .i64 2) (K'' · H)) (K' · H)) fun t27 H=>
 zad H (fun K'=>zaj t21 t27 (.bool false) (K' · H)) fun t28=>
 zad H (fun K'=>K' t28 H) fun t29=>
 zac t29 true H (fun K'=>zad H (fun K''=>K'' t12 H) (K' · H)) fun t30 H=>
 zac t29 true H (fun K'=>zad H (fun K''=>zai 5 t30 (.int .i64 1) (K'' · H)) (K' · H)) fun t31 H=>
 zac t29 true H (fun K'=>zad H (fun K''=>zaf 2 t31 (K'' · H)) (K' · H)) fun t32 H=>
 zac t29 true H (fun K'=>zad H (fun K''=>zal true 3 t32 H (K'' · H)) (K' · H)) fun t33 H=>
 zac t29 true H (fun K'=>zaF H (fun H K''=>ACalls tP zoC [(.int .i64 2)] H K'') (K' · H)) fun t34 H=>
 zac t29 true H (fun K'=>zaF H (fun H K''=>ACalls tP zol [t33,t34] H K'') (K' · H)) fun t35 H=>
 zad H (fun K'=>zaj t29 t35 (.bool false) (K' · H)) fun t36=>
 zad H (fun K'=>K' t36 H) fun t0=>
 K t0 H
theorem zI6 {H:zaa} {K:Kt} (h:HSc H→zx6 H K):ACalls tP zir [] H K:=
 zao (M:=zI4) Tryz.func15 (c:=zI5) (by kernel_rfl) (fun hs=>Eq.mpr (by kernel_rfl) (h hs))
def zlZ:Nat→List Bool
 | 8=>rl false [0,1,4,1,3,1,1,2,36,3,39]
 | _=>[]
noncomputable def zse:Code:=Tryz.f5.body.getD .skip
noncomputable def zPp:List ResultVar:=Tryz.f5.results.toList
def zl0 (t0 t5 t9 t11 t12 t49 t50 t51:AV):List AV:=t0::ux 4 (t5::ux 3 (t9::ux 1 (t11::t12::ux 36 (t49::t50::t51::ux 39 []))))
def zPn:List Bool:=zlZ 8
noncomputable def zPl:Code:=zaq [1,1,1,1,1,0,1,0,0] zse
def zPk (K:Kt):AExit→List AV→zaa→Prop:=zar tP zlZ [1,1,1,1,1,0,1,0] zse (zax tP zPp K)
def zAu (t0 t5 t9 t11 t12 t49 t50 t51:AV) (H:zaa) (K:Kt):Prop:=ALoop tP zPl (zPk K) (zl0 t0 t5 t9 t11 t12 t49 t50 t51) H
def zsd (t0 t5 t9 t11 t12 t49 t50 t51:AV) (H:zaa) (K:Kt) (Kb8:Lt):Prop:=
 zab .lss false t51 t50 fun t52=>
 zag t52
 (zai 5 t49 t51 fun t53=>
 zae true 5 t53 H fun t54=>
 zay [(.int .i64 0),.snil,(.bool false),.snil,.snil] H fun t14 H=>
 zan 5 t14 t54 H fun H=>
 zae true 3 t5 H fun t56=>
 zaf 0 t14 fun t57=>
 zae true 2 t57 H fun t58=>
 ACalls tP zg2 [t0,t56,t58] H fun t59 H=>
 zeO t11 t12 fun t63=>
 zab .lss false t59 t63 fun t64=>
 zac t64 false H (fun K'=>K' t59 H) fun t66 H=>
 zac t64 false H (fun K'=>K' t11 H) fun t67 H=>
 zac t64 false H (fun K'=>K' t12 H) fun t68 H=>
 zac t64 false H (fun K'=>zab .add false t67 t68 (K' · H)) fun t69 H=>
 zac t64 false H (fun K'=>zab .gtr false t66 t69 (K' · H)) fun t70 H=>
 zaj t64 (.bool true) t70 fun t71=>
 zac t71 false H (fun K'=>zaf 2 t14 (K' · H)) fun t73 H=>
 zac t71 false H (fun K'=>zae true 3 t73 H (K' · H)) fun t74 H=>
 zac t71 false H (fun K'=>ACalls tP zor [t74] H K') fun t75 H=>
 zac t71 false H (fun K'=>zab .leq false t75 (.int .i64 0) (K' · H)) fun t76 H=>
 zaj t71 (.bool true) t76 fun t77=>
 zac t77 false H (fun K'=>zaf 2 t14 (K' · H)) fun t79 H=>
 zac t77 false H (fun K'=>zae true 3 t79 H (K' · H)) fun t80 H=>
 zac t77 false H (fun K'=>ACalls tP zov [t80] H K') fun t81 H=>
 zac t77 false H (fun K'=>aUn .not t81 (K' · H)) fun t82 H=>
 zaj t77 (.bool true) t82 fun t83=>
 zag t83
 (K (.bool false) H)
 (zab .add false t51 (.int .i64 1) fun t84=>
 Kb8 (zl0 t0 t5 t9 t11 t12 t49 t50 t84) H))
 (zah 1 t9 fun t86=>
 zab .gtr false t86 (.int .i64 0) fun t87=>
 zac t87 true H (fun K'=>ACalls tP zir [] H K') fun t89 H=>
 zaj t87 t89 (.bool false) fun t90=>
 K t90 H)
def zq3 (t0 t1 t2 t3:AV) (H:zaa) (K:Kt):Prop:=
 zav t1 H fun t5 H=>
 zav t2 H fun t6 H=>
 zav t3 H fun t7 H=>
 zae true 3 t5 H fun t17=>
 ACalls tP zoN [t0,t17] H fun t18 H=>
 aUn .not t18 fun t19=>
 zac t19 false H (fun K'=>zae true 2 t6 H (K' · H)) fun t21 H=>
 zac t19 false H (fun K'=>ACalls tP zi2 [t21] H K') fun t22 H=>
 zac t19 false H (fun K'=>aUn .not t22 (K' · H)) fun t23 H=>
 zaj t19 (.bool true) t23 fun t24=>
 zac t24 false H (fun K'=>zae true 2 t7 H (K' · H)) fun t26 H=>
 zac t24 false H (fun K'=>ACalls tP zi2 [t26] H K') fun t27 H=>
 zac t24 false H (fun K'=>aUn .not t27 (K' · H)) fun t28 H=>
 zaj t24 (.bool true) t28 fun t29=>
 zag t29
 (K (.bool true) H)
 (zae true 3 t5 H fun t32=>
 zae true 2 t6 H fun t33=>
 zae true 2 t7 H fun t34=>
 ACalls tP zim [t0,t32,t33,t34] H fun t35 H=>
 zaz t35 0 fun t36=>
 zaz t35 1 fun t37=>
 zab .neq false t37 (.int .i64 0) fun t39=>
 zag t39
 (ACalls tP zir [] H fun t40 H=>
 K t40 H)
 (zad H (fun K'=>K' t0 H) fun t41=>
 zad H (fun K'=>zal true 3 t5 H (K' · H)) fun t42=>
 zad H (fun K'=>zal true 2 t6 H (K' · H)) fun t43=>
 zaF H (fun H K'=>ACalls tP zg2 [t41,t42,t43] H K') fun t44=>
 zad H (fun K'=>K' t0 H) fun t45=>
 zad H (fun K'=>zal true 3 t5 H (K' · H)) fun t46=>
 zad H (fun K'=>zal true 2 t7 H (K' · H)) fun t47=>
 zaF H (fun H K'=>ACalls tP zg2 [t45,t46,t47] H K') fun t48=>
 zad H (fun K'=>K' t44 H) fun t11=>
 zad H (fun K'=>K' t48 H) fun t12=>
 zah 1 t36 fun t50=>
 zAu t0 t5 t36 t11 t12 t36 t50 (.int .i64 0) H K))
theorem zPm {t0 t5 t9 t11 t12 t49 t50 t51:AV} {H:zaa} {K:Kt} (Inv:Nat→AV→zaa→Prop) (n:Nat) (h0:HSc H→Inv n t51 H)
  (round:Rd1 (fun t51=>zl0 t0 t5 t9 t11 t12 t49 t50 t51) (fun t51=>fun H Kb8=>zsd t0 t5 t9 t11 t12 t49 t50 t51 H K Kb8) H Inv):zAu t0 t5 t9 t11 t12 t49 t50 t51 H K:=
 lp1 (M:=zlZ) zPn t51 (by kernel_rfl) Inv n h0 round
theorem zPo {t0 t1 t2 t3:AV} {H:zaa} {K:Kt} (h:HSc H→zq3 t0 t1 t2 t3 H K):ACalls tP zoB [t0,t1,t2,t3] H K:=
 zao (M:=zlZ) Tryz.func5 (c:=zse) (by kernel_rfl) (fun hs=>Eq.mpr (by kernel_rfl) (h hs))
def zN7 (_:Nat):List Bool:=[]
noncomputable def zN8:Code:=Tryz.f25.body.getD .skip
def zz4 (t0:AV) (H:zaa) (K:Kt):Prop:=
 zav t0 H fun t1 H=>
 zae true 3 t1 H fun t3=>
 ACalls tP ziU [t3] H fun t4 H=>
 zan 3 t1 t4 H fun H=>
 zaf 2 t1 fun t5=>
 zae false 1 t5 H fun t6=>
 zah 1 t6 fun t7=>
 zab .eql false t7 (.int .i64 1) fun t8=>
 zac t8 true H (fun K'=>zaf 2 t1 (K' · H)) fun t10 H=>
 zac t8 true H (fun K'=>zae false 1 t10 H (K' · H)) fun t11 H=>
 zac t8 true H (fun K'=>zai 1 t11 (.int .i64 0) (K' · H)) fun t12 H=>
 zac t8 true H (fun K'=>zae false 1 t12 H (K' · H)) fun t13 H=>
 zac t8 true H (fun K'=>zab .eql false t13 (.int .u32 1) (K' · H)) fun t14 H=>
 zaj t8 t14 (.bool false) fun t15=>
 K t15 H
theorem zN9 {t0:AV} {H:zaa} {K:Kt} (h:HSc H→zz4 t0 H K):ACalls tP zov [t0] H K:=
 zao (M:=zN7) Tryz.func25 (c:=zN8) (by kernel_rfl) (fun hs=>Eq.mpr (by kernel_rfl) (h hs))
end Go.Proofs.YtdmamdnkcefmmaaGreatDoor
namespace Go.Proofs.YtdmamdnkcefmmaaGreatDoor
open Go Go.Abs
theorem zve {data:List Dat}:∀ (f:Nat) (t:VT) (l m:List IT),IT.nodesL l+IT.nodesL m+1≤f→zaX data f t l m≠[]
 | 0,_,_,_,h=>by omega
 | f+1,t,[],m,h=>by simp[zaX]
 | f+1,t,a::l,[],h=>by simp[zaX]
 | f+1,t,a::l,b::m,h=>by
  have na:=a.nodes_pos
  simp only[IT.nodesL]at h
  have:=zve (data:=data) f t l (b::m) (by simp only[IT.nodesL];omega)
  rw[zaX]
  simp[this]
theorem zEu:∀ a<7,∀ b<7,pcf a b (max a b)≠0:=by decide
theorem zwb {data:List Dat} {f:Nat} {ts:List VT} {l m:List IT} (h:∀ k,k<ts.length→za9 data f (ts.getD k tz) (l.getD k d0) (m.getD k d0)≠[]):∀ k,k≤ts.length→zch data f ts l m k≠[]
 | 0,_=>by simp[zpb]
 | k+1,hk=>by
  have h1:=zwb h k (by omega)
  have h2:=h k (by omega)
  rw[zjo]
  generalize zch data f ts l m k=out at *
  generalize za9 data f (ts.getD k tz) (l.getD k d0) (m.getD k d0)=ws at *
  cases out with
  | nil=>exact absurd rfl h1
  | cons r out=>
   cases ws with
   | nil=>exact absurd rfl h2
   | cons w ws=>simp[zbM]
theorem zvk {data:List Dat}:∀ (f:Nat) (t:VT) (i j:IT),i.nodes+j.nodes≤f→0≤rdV data i t→0≤rdV data j t→za9 data f t i j≠[]
 | 0,t,i,j,h,_,_=>by have:=i.nodes_pos;omega
 | f+1,.mk k tn tks,.mk n l,.mk n' m,h,hi,hj=>by
  rw[zv5]at hi hj
  simp only[IT.nodes]at h
  rw[za9]
  simp only[VT.kind,VT.kids,zaD,zaQ]
  by_cases h6:k=6
  ·subst h6
   simp only[if_true]at hi hj ⊢
   by_cases hn:n=0
   case neg=>rw[if_neg hn]at hi;omega
   by_cases hn':n'=0
   case neg=>rw[if_neg hn']at hj;omega
   rw[if_pos hn]at hi
   rw[if_pos hn']at hj
   by_cases hl:tks.length=l.length
   case neg=>rw[if_neg hl]at hi;omega
   by_cases hm:tks.length=m.length
   case neg=>rw[if_neg hm]at hj;omega
   rw[if_pos hl]at hi
   rw[if_pos hm]at hj
   have ii:=(zf1 (data:=data) l tks 0 (by omega) hl.symm hi).1
   have ij:=(zf1 (data:=data) m tks 0 (by omega) hm.symm hj).1
   cases f with
   | zero=>omega
   | succ f=>
    rw[zjp]
    have:=zwb (data:=data) (f:=f) (ts:=tks) (l:=l) (m:=m) (fun k hk=>by
     have h1:k<l.length:=by omega
     have h2:k<m.length:=by omega
     have n1:=zd8 h1
     have n2:=zd8 h2
     have e1:tks.getD k tz=tks[k]:=by simp[List.getD_eq_getElem?_getD,hk]
     have e2:l.getD k d0=l[k]:=by simp[List.getD_eq_getElem?_getD,h1]
     have e3:m.getD k d0=m[k]:=by simp[List.getD_eq_getElem?_getD,h2]
     rw[e1,e2,e3]
     exact zvk f tks[k] l[k] m[k] (by omega) (ii k h1 hk) (ij k h2 hk)) tks.length (Nat.le_refl _)
    simp[this]
  ·simp only[h6,if_false]at hi hj ⊢
   by_cases h7:k=7
   ·subst h7
    simp only[if_true]at hi hj ⊢
    by_cases hc:0≤n∧n≤6∧l.length=0
    case neg=>rw[if_neg hc]at hi;omega
    by_cases hc':0≤n'∧n'≤6∧m.length=0
    case neg=>rw[if_neg hc']at hj;omega
    have hp:=zEu n.toNat (by omega) n'.toNat (by omega)
    intro he
    rw[List.filter_eq_nil_iff]at he
    have:=he (.mk ((max n.toNat n'.toNat:Nat):Int) [],pcf n.toNat n'.toNat (max n.toNat n'.toNat)) (by
     unfold zbH
     exact List.mem_map.2 ⟨max n.toNat n'.toNat,by simp;omega,rfl⟩)
    simp at this
    exact hp this
   ·simp only[h7,if_false]at hi hj ⊢
    by_cases h5:k=5
    ·subst h5
     simp only[if_true]at hi hj ⊢
     have:=zve (data:=data) f (.mk 5 tn tks) l m (by omega)
     simp[this]
    ·simp[h5]
theorem zvl {data:List Dat} {t:VT} {i j:IT} {f:Nat} (h:i.nodes+j.nodes≤f) (hi:0≤rdV data i t) (hj:0≤rdV data j t):0<zaA (fun _=>1) (za9 data f t i j):=by
 have h1:=zvk f t i j h hi hj
 have h2:=(zf0 data f).1 t i j
 generalize za9 data f t i j=s at *
 cases s with
 | nil=>exact absurd rfl h1
 | cons p s=>
  have:=h2 p (by simp)
  rw[za7]
  omega
end Go.Proofs.YtdmamdnkcefmmaaGreatDoor

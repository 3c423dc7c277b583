import Derived.Test.YtdmamdnkcefmmaaGreatDoorKBi
import Derived.Test.YtdmamdnkcefmmaaGreatDoorVO
import Derived.Test.YtdmamdnkcefmmaaGreatDoorKZ2
import Derived.Test.YtdmamdnkcefmmaaGreatDoorKMI
import Derived.Test.YtdmamdnkcefmmaaGreatDoorAbsQ1
import Derived.Shelf.SlSortCmp.NoneTotal
import Derived.Test.YtdmamdnkcefmmaaGreatDoorProg
import Derived.Test.YtdmamdnkcefmmaaGreatDoorKNum
import Derived.KernelRfl
import Derived.Test.YtdmamdnkcefmmaaGreatDoorKGI
import Derived.Deep.Slices
import Derived.DataReads
set_option linter.unusedSimpArgs false
set_option linter.unusedVariables false
set_option maxRecDepth 8000
namespace Go.Abs
open Go Go.RowKit
variable {P:Program} {B:Nat} {w:World} {G:Gh} {H:zaa}
theorem HRel.toFrz (h:HRel B w G H) {id e n:Nat} (hn:0<n) (hH:H[id]?=some (.perm e 1 n)):HRel B w G (H.set id (.frz e 1 n)):=by
 refine⟨by simp[h.len],?_,h.dist,h.fresh,h.lt,h.base⟩;intro i ab gi h1 h2;by_cases hi:i=id
 ·subst hi;rw[List.getElem?_set_self (List.getElem?_eq_some_iff.1 hH).1]at h1;cases h1;have aw:=h.ok i _ _ hH h2;cases gi with
  | blk b=>exact aw.elim
  | gap=>exact aw.elim
  | own v s n'=>
   obtain⟨rfl,rfl,⟨xs,bS,hx⟩,hL⟩:=aw;rcases hx with ⟨_,h0⟩ | ⟨g,cap,cur,rfl,eF,hg,bH,cX,dE,eh⟩
   ·omega
   ·exact⟨g,cap,cur,_,rfl,rfl,rfl,hg,eF,hL g rfl,bH,cX,dE⟩
 ·rw[List.getElem?_set_ne (λh=>hi h.symm)]at h1;exact h.ok i ab gi h1 h2
theorem ACalls.toFrz {f:FuncId} {args:List AV} {K:Kt} (h:ACalls P f args H λr H'=>∃ id e n,0<n∧H'[id]?=some (.perm e 1 n)∧K r (H'.set id (.frz e 1 n))):ACalls P f args H K:=by intro B w G vs hH hv;refine (h B w G vs hH hv).mono λex w' ⟨v,r,H',G',h1,h2,h3,h4,h5⟩=>?_;obtain⟨id,e,n,hn,ap,hk⟩:=h5;exact⟨v,r,_,G',h1,h2,h3.toFrz hn ap,h4,hk⟩
end Go.Abs
namespace Go.Proofs.YtdmamdnkcefmmaaGreatDoor
open Go Go.RowKit Go.Abs
theorem zC3 {H:zaa} {id id2:Nat} {l:List UInt8} {p:AV} (h0:l≠[]) (h1:H[id]?=some (.bld 112 [p,.sl (bcs l) (.own id2)])) (h2:H[id2]?=some (.frz 5 1 l.length)) {K:AV→zaa→Prop}
  (hK:K (.str l) H):ACalls tP zhq [.ptr id 0] H K:=by
 intro B w G ⟨vs⟩ hH hv
 match vs,hv with
 | [v0],⟨⟨b,hμ,da⟩,_⟩=>
  subst da;obtain⟨hB,hL,⟨us⟩,hw,hc⟩:=hH.ok id _ _ h1 hμ
  match us,hc with
  | [vp,v],⟨jk,⟨hd,v',size,n',hμ2,aS,heq⟩,_⟩=>
   obtain⟨g,cap,cur,fr,bJ,ep,bL,k2,k3,k4,k5,k6,k7⟩:=hH.ok id2 _ _ h2 hμ2;subst bJ ep;obtain⟨rfl,aL⟩:=heq (zd6 l);have bv:=Ext.drew B w G (w.drawn+1) (Nat.le_succ _);have hHd:=hH.drew (w.drawn+1) (Nat.le_succ _);have aB:bcs l≠[]:=λh=>h0 (by simpa[bcs]using h);obtain⟨b',off,cap',zs,ik,ek,jv,jf,_⟩:=hd.flat aB (zeZ l);rw[bL]at ik;simp only[Value.slice.injEq,Option.some.injEq,Addr.mk.injEq]at ik;obtain⟨⟨rfl,rfl,_⟩,_,rfl⟩:=ik;have ff:zs=l.map λb=>Value.int .u8 b.toNat:=zuZ jv;subst bL;refine (zHo b g cap l.length vp cur l w h0 hw k2 k5 k6 (by omega) ?_).mono ?_
   ·intro j x hj;have:=jf j (.int .u8 x.toNat) (by rw[ff,List.getElem?_map,hj];rfl);by_cases h0j:j=0
    ·subst h0j;simpa[Addr.add]using this
    ·simpa[Addr.add,h0j]using this
   ·rintro e w' ⟨rfl,rfl⟩;obtain⟨fw,cQ⟩:=hHd.freezeG h2 hμ2 l.length;exact⟨_,(.str l),_,G,rfl,bv.trans fw,cQ,rfl,hK⟩
end Go.Proofs.YtdmamdnkcefmmaaGreatDoor
namespace Go.Abs
open Go Go.RowKit
theorem wpList_append_any {P:Program} {w:World} {aj:Array Oper} {rest:List Oper} {o:Oper} {a:Act} {Q:Exit→Act→World→Prop} (iC:o.guard=none) (sl x:Operand) (t u:TypeId)
  (ho:o.op=.call { callee:=.builtin .append,args:=#[sl,x],argTypes:=#[t,u] }) {v v' xv:Value} {w':World} (hs:a.eval sl=v) (hx:a.eval x=xv)
  (hr:∀ ty,(Builtin.append_ #[t,u] ty #[v,xv]).run P w=.ok v' w') (h:wpList P aj Q rest (a.put o.dst v') w'):wpList P aj Q (o::rest) a w:=by
 refine wpList_plain iC λK hK=>?_;unfold Oper.wp execOp;simp only[ho,resolve,invoke,builtin,Sem.run_bind,Sem.run_pure,Result.andThen_ok,List.map_toArray,List.map_cons,List.map_nil,hs,hx,hr];exact hK _ _ h
end Go.Abs
namespace Go.Proofs.YtdmamdnkcefmmaaGreatDoor
open Go Go.RowKit Go.Abs
set_option maxHeartbeats 2000000 in
set_option maxRecDepth 100000 in
theorem zHY (b:Nat) (c:UInt8) (v v':Value) (w w1 w2:World)
  (bX:Calls tP zhe #[.pointer (some ⟨b,0,none⟩)] w λe w'=>e=.returned (.tuple #[])∧w'=w1)
  (bC:w1.heap[b]?=some (.cells #[.pointer (some ⟨b,0,none⟩),v] 112 (0,0)))
  (hr:∀ ty,(Builtin.append_ #[110,110] ty #[v,.slice (some ⟨w1.heap.size,0,none⟩) 1 1]).run tP (w1.alloc (.cells #[.int .u8 c.toNat] 5))=.ok v' w2)
  (bD:w2.heap[b]?=some (.cells #[.pointer (some ⟨b,0,none⟩),v] 112 (0,0))) (bL:∃ ao n cap,v'=.slice ao n cap) :
  Calls tP zfZ #[.pointer (some ⟨b,0,none⟩),.int .u8 c.toNat] w λe w'=>e=.returned .nilIface∧w'=w2.setCell ⟨b,1,none⟩ v':=by
 obtain⟨ao,n',cap,rfl⟩:=bL;have c1:w1.cell? ⟨b,1,none⟩=some v:=by rw[Lib.cell_of_heap bC];rfl
 have d1:w2.cell? ⟨b,1,none⟩=some v:=by rw[Lib.cell_of_heap bD];rfl
 have f1:w2.frozen? ⟨b,1,none⟩=false:=Lib.frozen_of_heap bD 1
 go_enter Tryz.func128,Tryz.ntmps128
 go_wp2_with (go_at_call 169;refine bX.mono ?_)
 rintro e w1' ⟨rfl,rfl⟩
 go_wp2_with (at_builtin;refine Go.Abs.wpList_append_any rfl _ _ 110 110 rfl rfl rfl hr ?_)
 go_wp2
 go_ret
 exact⟨rfl,rfl⟩
theorem zC6 {H:zaa} {id id2:Nat} {l:List UInt8} {c:UInt8} {p:AV} (hp:p=.nilp∨p=.ptr id 0) (h1:H[id]?=some (.bld 112 [p,.sl (bcs l) (.own id2)])) (h2:H[id2]?=some (.perm 5 1 l.length))
  (hn:l.length+1≤140737488355328) {K:AV→zaa→Prop}
  (hK:K .nili ((H.set id2 (.perm 5 1 (l.length+1))).set id (.bld 112 [.ptr id 0,.sl (bcs (l++[c])) (.own id2)]))) :
  ACalls tP zfZ [.ptr id 0,.int .u8 c.toNat] H K:=by
 intro B w G ⟨vs⟩ hH hv
 match vs,hv with
 | [v0,v1],⟨⟨b,hμ,da⟩,fd,_⟩=>
  have fd:v1=.int .u8 c.toNat:=fd;subst da fd;obtain⟨w1,v,bX,fw,cQ,ju,hva0⟩:=zvh hH hp h1 hμ;obtain⟨lU,jR⟩:=cQ.other (.cells #[.int .u8 c.toNat] 5);have kH:=lU.arel hva0;obtain⟨W,hW⟩:∃ W,W=w1.alloc (.cells #[.int .u8 c.toNat] 5):=⟨_,rfl⟩;rw[←hW]at lU jR kH;obtain⟨hd,v',size,n',hμ2,aS,heq⟩:=kH;have aB:id≠id2:=by rintro rfl;rw[h1]at h2;cases h2
  have i6:(H.set id (.bld 112 [.ptr id 0,.sl (bcs l) (.own id2)]))[id2]?=some (.perm 5 1 l.length):=by rw[List.getElem?_set_ne aB];exact h2
  have aw:=jR.ok id2 _ _ i6 hμ2;obtain⟨bJ,ep,⟨xs,aq⟩,hL2⟩:=aw;subst bJ ep;obtain⟨rfl,aL⟩:=heq (zd6 l);have i7:v.ownBlock≠some b:=λh=>aB (cQ.dist id id2 _ _ b hμ hμ2 rfl h);have fP:b<W.heap.size:=jR.lt id _ b hμ rfl;have dp:W.heap[b]?=w1.heap[b]?:=by rw[hW];exact zcD (cQ.lt id _ b hμ rfl)
  obtain⟨i,hi,hz,aC,bp⟩:=zu4;have kB:maxLen=9223372036854775807:=rfl;have key:∃ v' w2 G2,(∀ ty,(Builtin.append_ #[110,110] ty #[v,.slice (some ⟨w1.heap.size,0,none⟩) 1 1]).run tP W=.ok v' w2)∧Ext B W G w2 G2 ∧
    HRel B w2 G2 ((H.set id (.bld 112 [.ptr id 0,.sl (bcs l) (.own id2)])).set id2 (.perm 5 1 (l.length+1)))∧ARel w2 G2 v' (.sl (bcs (l++[c])) (.own id2))∧w2.heap[b]?=W.heap[b]?:=by
   have hown0:W.ownsRow B 5 i.size v l.length xs:=by rw[aC];exact aq
   obtain⟨v',w2,au,aQ,aD⟩:=zjC (P:=tP) (ty:=110) (t:=110) (B:=B) Tryz.underlying110 hi hz (by rw[aC];rfl) hown0 ⟨w1.heap.size,0,none⟩ 1 1 [.int .u8 c.toNat] (by rw[aC];rfl) (λj u hu=>by
    have hj:j=0:=by have:=(List.getElem?_eq_some_iff.1 hu).1;simp at this;omega
    subst hj;simp at hu;subst hu;rw[hW];show (match (w1.alloc (.cells #[.int .u8 c.toNat] 5)).heap[w1.heap.size]? with | some (.cells c _ _)=>c[0]? | _=>none)=_;rw[zdh];rfl) (λu hu=>by simp at hu;subst hu;rfl) (by omega) (by omega) (by rw[bp];omega) jR.base
   rw[aC]at aQ;have hx:All2 (DRel W G.L) xs (bcs l).flatten:=zqA aq hd (zd6 l) (zeZ l);obtain⟨G2,eN,cn,hT⟩:=zjD jR i6 hμ2 aq aQ aD (ys:=bcs [c]) (zd6 [c]) (by omega) (zd6 l) (zeZ l) (zeZ [c]) hx ⟨.int _ _,trivial⟩;refine⟨v',w2,G2,λty=>au,eN,cn,by rw[←zuY];exact hT,?_⟩;rcases aD with ⟨g,k1,_,k3⟩ | ⟨_,k3⟩
   ·exact k3.block b fP (λh=>i7 (by rw[k1,h]))
   ·exact k3.block b fP (by simp)
  obtain⟨v',w2,G2,au,eN,cn,fQ,bD⟩:=key;have f5:=bD.trans (dp.trans ju);have hμ':=(eN.blk hμ);obtain⟨jQ,gG⟩:=cn.storeB (id:=id) (cs':=[.ptr id 0,.sl (bcs (l++[c])) (.own id2)]) (vs':=#[.pointer (some ⟨b,0,none⟩),v']) (by rw[List.getElem?_set_ne (λh=>aB h.symm)];exact List.getElem?_set_self (List.getElem?_eq_some_iff.1 h1).1) hμ' f5 ⟨⟨b,hμ',rfl⟩,fQ,trivial⟩;rw[hW]at au;refine (zHY b c v v' w w1 w2 bX ju au f5 ?_).mono ?_
  ·obtain⟨dK,_⟩:=fQ;generalize bcs (l++[c])=cs at dK;cases dK with
   | slE a c=>exact⟨_,_,_,rfl⟩
   | sl=>exact⟨_,_,_,rfl⟩
  ·rintro e w' ⟨rfl,rfl⟩;have aU:w2.setCell ⟨b,1,none⟩ v'=w2.setRow b #[.pointer (some ⟨b,0,none⟩),v']:=by rw[setCell_eq_setRow w2 b 1 _ _ _ _ f5];rfl
   rw[aU];refine⟨_,_,_,G2,rfl,((fw.trans lU).trans eN).trans jQ,?_,?_,hK⟩
   ·rw[List.set_comm _ _ aB,List.set_set]at gG;exact gG
   ·rfl
theorem Wy {H:zaa} {id id2:Nat} {l:List UInt8} {c:UInt8} (h:Wb H id id2 l) (hn:l.length+1≤1000000000) {K:AV→zaa→Prop} (hK:K .nili (wb H id id2 (l++[c]))) :
  ACalls tP zfZ [.ptr id 0,.int .u8 c.toNat] H K:=by
 obtain⟨p,hp,h1⟩:=h.h1;refine zC6 hp h1 h.h2 (by omega) ?_;unfold wb at hK;rwa [List.length_append]at hK
end Go.Proofs.YtdmamdnkcefmmaaGreatDoor
namespace Go.Proofs.YtdmamdnkcefmmaaGreatDoor
open Go Go.Abs
theorem zx7 {n:Nat} {H2 J H':zaa} {K:Kt} (he:H'=H2++J) (hn:n≤H2.length) (hs:HSc H2) (h:K (.tup []) H2):Out n K (.tup []) H':=by subst he;exact⟨.tup [],H2,J,rfl,hn,hs,.tup trivial,h⟩
theorem zyx:∀ (ks:List IT) (k:IT),zbi (ks++[k])=zbi ks++wrI k++[44]
 | [],k=>by simp[zbi]
 | x::ks,k=>by have:=zyx ks k;simp[zbi,this]
theorem zwt:∀ (ks:List IT) (k:IT),IT.nodesL (ks++[k])=IT.nodesL ks+k.nodes
 | [],k=>by simp[IT.nodesL]
 | x::ks,k=>by have:=zwt ks k;simp only[List.cons_append,IT.nodesL,this];omega
theorem zGG (n:Nat) (h:n≤9):small n=[UInt8.ofNat (48+n)]:=by
 have:∀ n≤9,small n=[UInt8.ofNat (48+n)]:=by decide
 exact this n h
theorem zS0:∀ (m:Nat) (i:IT),i.nodes≤m→i.nodes≤1000→Dig i→∀ (H:zaa) (id id2:Nat) (l:List UInt8),Wb H id id2 l→l.length+4*i.nodes≤1000000→∀ K:Kt,K (.tup []) (wb H id id2 (l++wrI i))→ACalls tP zjn [.ptr id 0,.agg i.cs] H K:=by
 intro m;induction m with
 | zero=>intro i h;have:=i.nodes_pos;omega
 | succ m ih=>
  intro i hm hn hd H id id2 l hB hl K hK;obtain⟨n,ks⟩:=i;rw[Dig]at hd;obtain⟨dc,hd9,hdk⟩:=hd;obtain⟨a,rfl⟩:∃ a:Nat,n=a:=⟨n.toNat,by omega⟩;have bY:IT.nodesL ks+1≤m+1:=by simpa[IT.nodes]using hm
  have dv:IT.nodesL ks+1≤1000:=by simpa[IT.nodes]using hn
  have eJ:l.length+4*(IT.nodesL ks+1)≤1000000:=by simpa[IT.nodes]using hl
  have dL:=IT.len_le ks;refine ACalls.out (zSY λhs=>?_);have gF:(IT.mk (a:Int) ks).cs=[.int .i64 a,.sl (IT.css ks) .none]:=rfl;rw[wrI,Int.toNat_natCast]at hK;obtain⟨dg,i9⟩:∃ dg,dg=UInt8.ofNat (48+a):=⟨_,rfl⟩;have fC:=zGG a (by omega);rw[←i9]at hK fC;have hO:∀ r J,r=l++(dg::if ks.length=0 then [] else 40::(zbi ks++[41]))→Out H.length K (.tup []) (wb H id id2 r++J):=λr J h=>zx7 rfl (by simp) (hB.hsc hs) (by rw[h];exact hK);simp[zCf,gF,Nat.add_assoc];refine zCW a (by omega) _ _ ?_;rw[fC];refine Ws hB.app (by simp;omega) ?_;rw[hB.wb_app];by_cases aB:ks.length=0
  ·obtain rfl:=List.eq_nil_of_length_eq_zero aB;simp[IT.css];exact hO _ _ (by simp)
  ·have bU:0<ks.length:=by omega
   simp[bU];have ku:Wb (wb H id id2 (l++[dg])) id id2 (l++[dg]):=hB.next;refine Wy (c:=40) ku.app (by simp;omega) ?_;rw[ku.wb_app,zka hB.ne];simp;obtain⟨p,hp⟩:∃ p,p=l++[dg,40]:=⟨_,rfl⟩;have cq:p.length=l.length+2:=by rw[hp];simp
   rw[←hp];have kI:∀ q,Wb (wb H id id2 (p++q)) id id2 (p++q):=λq=>hB.next;refine zSW (Inv:=λq t20 H'=>∃ j:Nat,j≤ks.length∧ks.length-j=q∧t20=.int .i64 j∧H'=wb H id id2 (p++zbi (ks.take j))++[.cells [.int .i64 a,.sl (IT.css ks) .none]]) ks.length ?_ ?_
   ·intro _;exact⟨0,by omega,rfl,rfl,by simp[zbi]⟩
   ·rintro q t20 H' ⟨j,hj,rfl,rfl,rfl⟩ aM am aP Kb ar;have jS:=zkb (ks.take j);have htl:=IT.nodesL_take_le ks j;by_cases aV:j<ks.length
    ·have fX:=zdB aV;have gY:=zud hdk _ (List.getElem_mem aV);have hts:=IT.nodesL_take_le ks (j+1);have aN:zbi (ks.take (j+1))=zbi (ks.take j)++wrI ks[j]++[44]:=by rw[List.take_succ_eq_append_getElem aV,zyx]
     have hwl1:=zkb (ks.take (j+1));have kb:IT.nodesL (ks.take (j+1))=IT.nodesL (ks.take j)+ks[j].nodes:=by rw[List.take_succ_eq_append_getElem aV,zwt]
     obtain⟨x2,y2,aF,bh,eW⟩:=zc5 ks[j];have ju:=zqz ks[j];simp[ztJ,aV,aF,bh,eW];rw[←aF];refine ih ks[j] (by omega) (by omega) gY _ id id2 _ ((kI (zbi (ks.take j))).app) (by simp;omega) _ ?_;rw[(kI (zbi (ks.take j))).wb_app,zka hB.ne];have jL:Wb (wb H id id2 (p++zbi (ks.take j)++wrI ks[j])) id id2 (p++zbi (ks.take j)++wrI ks[j]):=hB.next;refine Wy (c:=44) jL.app (by simp;omega) ?_;rw[jL.wb_app,zka hB.ne];have hst2:p++zbi (ks.take j)++wrI ks[j]++[44]=p++zbi (ks.take (j+1)):=by rw[aN];simp
     rw[hst2,wi j (by omega)];exact ar _ _ ⟨ks.length-(j+1),by omega,Back.at (J:=[.cells ks[j].cs]) (H2:=wb H id id2 (p++zbi (ks.take (j+1)))++[.cells [.int .i64 a,.sl (IT.css ks) .none]]) (by simp) (by simp) ((hB.hsc hs).append (by simp[AB.sc,AV.scA,AV.scB])) (by
      have:=hB.lt1;simp[znf,ux,AV.sc,AV.scA,AV.scB,AV.scV];omega) ⟨_,rfl,j+1,by omega,rfl,rfl,rfl⟩⟩
    ·obtain rfl:j=ks.length:=by omega
     rw[List.take_length]at *;simp[ztJ];refine Wy (c:=41) (kI _).app (by simp;omega) ?_;rw[(kI _).wb_app,zka hB.ne];simp;exact hO _ _ (by rw[hp,if_neg aB];simp)
def sw (H:zaa) (is im iv:Nat) (c:List AV) (s:List (IT × Nat)):zaa:=
 ((H.set iv (.vec zaB 5 s.length (tms s))).set im (.map (kvS s 0))).set is (.cells (c++[.map im,.ov iv s.length]))
structure Sw (H:zaa) (is im iv:Nat) (c:List AV) (s:List (IT × Nat)):Prop where
 c4:c.length=4
 n1:is≠im
 n2:is≠iv
 n3:im≠iv
 h1:H[is]?=some (.cells (c++[.map im,.ov iv s.length]))
 h2:H[im]?=some (.map (kvS s 0))
 h3:H[iv]?=some (.vec zaB 5 s.length (tms s))
section
variable {H J:zaa} {is im iv:Nat} {c:List AV} {s s':List (IT × Nat)}
@[simp] theorem zHu:(sw H is im iv c s).length=H.length:=by simp[sw]
theorem Sw.app (h:Sw H is im iv c s):Sw (H++J) is im iv c s:=⟨h.c4,h.n1,h.n2,h.n3,zbF h.h1,zbF h.h2,zbF h.h3⟩
theorem Sw.sw_app (h:Sw H is im iv c s):sw (H++J) is im iv c s'=sw H is im iv c s'++J:=by unfold sw;rw[List.set_append_left _ _ (zbc h.h3),List.set_append_left _ _ (by simpa using zbc h.h2),List.set_append_left _ _ (by simpa using zbc h.h1)]
theorem zHw (h1:is≠im) (h2:is≠iv) (h3:im≠iv):sw (sw H is im iv c s) is im iv c s'=sw H is im iv c s':=by
 refine List.ext_getElem? λi=>?_;unfold sw;simp only[List.getElem?_set,List.length_set]
 repeat' split
 all_goals first | rfl | omega | simp_all
theorem Sw.next (h:Sw H is im iv c s):Sw (sw H is im iv c s') is im iv c s':=by
 have l1:=zbc h.h1;have l2:=zbc h.h2;have l3:=zbc h.h3;refine⟨h.c4,h.n1,h.n2,h.n3,?_,?_,?_⟩
 ·unfold sw;rw[List.getElem?_set_self (by simpa using l1)]
 ·unfold sw;rw[List.getElem?_set_ne h.n1,List.getElem?_set_self (by simpa using l2)]
 ·unfold sw;rw[List.getElem?_set_ne h.n2,List.getElem?_set_ne h.n3,List.getElem?_set_self l3]
theorem Sw.self (h:Sw H is im iv c s):sw H is im iv c s=H:=by
 unfold sw;have e:∀ (H:zaa) (i:Nat) (b:AB),H[i]?=some b→H.set i b=H:=λH i b hb=>by
  refine List.ext_getElem? λj=>?_;by_cases hj:i=j
  ·subst hj;rw[List.getElem?_set_self (zbc hb),hb]
  ·rw[List.getElem?_set_ne hj]
 rw[e H iv _ h.h3,e H im _ h.h2,e H is _ h.h1]
theorem Sw.hsc (h:Sw H is im iv c s) (hs:HSc H):HSc (sw H is im iv c s'):=by
 have l2:=zbc h.h2;have l3:=zbc h.h3;have hc:(c.all (AV.scA H.length))=true:=by have:=hs _ (List.mem_of_getElem? h.h1);simp only[AB.sc,List.all_append,Bool.and_eq_true]at this;exact this.1
 unfold sw;refine HSc.set (HSc.set (HSc.set hs (by simp only[AB.sc];exact zqk _ _)) (by simp only[AB.sc];exact zvU _ _)) ?_;simp only[AB.sc,List.all_append,List.length_set,hc,Bool.true_and];simp[AV.scA,AV.scB];omega
end
theorem zHt {H:zaa} {is im iv:Nat} {c:List AV} {s s':List (IT × Nat)} (h1:is≠im) (h2:is≠iv) (h3:im≠iv) (hl:s.length=s'.length) (hk:kvS s 0=kvS s' 0) :
  (sw H is im iv c s).set iv (.vec zaB 5 s.length (tms s'))=sw H is im iv c s':=by
 refine List.ext_getElem? λi=>?_;unfold sw;rw[hk,hl];simp only[List.getElem?_set,List.length_set]
 repeat' split
 all_goals first | rfl | omega | simp_all
theorem zHv {H:zaa} {is im iv:Nat} {c:List AV} {s s':List (IT × Nat)} (h1:is≠im) (h2:is≠iv) (h3:im≠iv) {a b d:AB} (ha:a=.map (kvS s' 0)) (hb:b=.vec zaB 5 s'.length (tms s')) (hd:d=.cells (c++[.map im,.ov iv s'.length])) :
  (((sw H is im iv c s).set im a).set iv b).set is d=sw H is im iv c s':=by
 subst ha hb hd;refine List.ext_getElem? λi=>?_;unfold sw;simp only[List.getElem?_set,List.length_set]
 repeat' split
 all_goals first | rfl | omega | simp_all
theorem zuG (i:IT) (c:Nat):∀ s:List (IT × Nat),(za6 s i c).length≤s.length+1
 | []=>by simp[za6]
 | p::s=>by have:=zuG i c s;unfold za6;split <;> simp <;> omega
theorem zgM:∀ (l s:List (IT × Nat)),(zaP s l).length≤s.length+l.length
 | [],s=>by simp[zaP]
 | p::l,s=>by have h1:=zgM l (za6 s p.1 p.2);have h2:=zuG p.1 p.2 s;have e:zaP s (p::l)=zaP (za6 s p.1 p.2) l:=rfl;rw[e,List.length_cons];omega
theorem zn4:∀ (l s:List (IT × Nat)),∀ p∈zaP s l,(∃ q∈s,q.1=p.1)∨∃ q∈l,q.1=p.1
 | [],s,p,hp=>.inl ⟨p,hp,rfl⟩
 | x::l,s,p,hp=>by
  have e:zaP s (x::l)=zaP (za6 s x.1 x.2) l:=rfl;rw[e]at hp;rcases zn4 l _ p hp with ⟨q,hq,h⟩ | ⟨q,hq,h⟩
  ·rcases zgE hq with ⟨h1,_⟩ | h1
   ·exact .inr ⟨x,by simp,by rw[←h,h1]⟩
   ·exact .inl ⟨q,h1,h⟩
  ·exact .inr ⟨q,by simp[hq],h⟩
theorem zqb (l:List (IT × Nat)) (hl:∀ p∈l,p.1.nodes≤1000∧Dig p.1) (H:zaa) (is im iv:Nat) (c:List AV) (s:List (IT × Nat)) (hS:Sw H is im iv c s) (hsn:(s.map Prod.fst).Nodup) (hsd:∀ p∈s,Dig p.1)
  (hb:zaM (λ_=>1) s+zaM (λ_=>1) l<1000000000 ^ 20) (aS:s.length+l.length≤100000) (K:Kt) (hK:K (.tup []) (sw H is im iv c (zaP s l))) :
  ACalls tP zhm [.ptr is 0,.sl (zaH l) .none] H K:=by
 refine ACalls.out (zQ7 λhs=>?_);simp[zBG,Nat.add_assoc];have bo:∀ j,((zaP s (l.take j)).map Prod.fst).Nodup:=λj=>zgN _ _ hsn;have hcd:∀ j,∀ p∈zaP s (l.take j),Dig p.1:=λj p hp=>by
  rcases zn4 _ _ p hp with ⟨q,hq,he⟩ | ⟨q,hq,he⟩
  ·rw[←he];exact hsd q hq
  ·rw[←he];exact (hl q (List.mem_of_mem_take hq)).2
 have cc:∀ j,(zaP s (l.take j)).length≤s.length+l.length:=λj=>Nat.le_trans (zgM _ _) (by simp[List.length_take];omega);refine zQ5 (Inv:=λq t11 H'=>∃ j:Nat,j≤l.length∧l.length-j=q∧t11=.int .i64 j∧H'=sw H is im iv c (zaP s (l.take j))) l.length ?_ ?_
 ·intro _;exact⟨0,by omega,rfl,rfl,by rw[List.take_zero,zvg,hS.self]⟩
 ·rintro q t11 H' ⟨j,hj,rfl,rfl,rfl⟩ aM am aP Kb ar;by_cases aV:j<l.length
  ·have aN:zaP s (l.take (j+1))=za6 (zaP s (l.take j)) l[j].1 l[j].2:=by rw[List.take_succ_eq_append_getElem aV,zDX]
   have jr:=bo j;have gY:=hcd j;have lG:=cc j;have cS:zaM (λ_=>1) (zaP s (l.take j))+l[j].2≤zaM (λ_=>1) s+zaM (λ_=>1) l:=by have h1:=zgO (λ_=>1) (l.take (j+1)) s;rw[aN,znR]at h1;have h2:=zHr (λ_=>1) l (j+1);rw[zcJ]at h2 ⊢;simp only[zcJ,Nat.mul_one]at h1 h2 ⊢;omega
   obtain⟨hn,hd⟩:=hl _ (List.getElem_mem aV);generalize hu:zaP s (l.take j)=u at *;have fc:Sw (sw H is im iv c u) is im iv c u:=hS.next;obtain⟨x2,y2,aF,bh,eW⟩:=zc5 l[j].1;simp[ztc,aV,zeN,zda,zcn,Nat.add_assoc];refine⟨zeN _,?_⟩;have hlen0:(sw H is im iv c u).length=H.length:=zHu;simp only[znN];have dl:∀ J,(sw H is im iv c u++(AB.cells (tmC l[j])::J))[H.length]?=some (.cells (tmC l[j])):=λJ=>by simp[List.getElem?_append]
   simp[dl,zcn,Nat.add_assoc];obtain⟨txt,gH⟩:∃ txt,txt=wrI l[j].1:=⟨_,rfl⟩;have htl:=zqz l[j].1;have htne:txt≠[]:=by rw[gH];obtain⟨r,hr⟩:=zqy l[j].1 [];rw[List.append_nil]at hr;rw[hr];simp
   have htp:0<txt.length:=List.length_pos_iff.2 htne;refine ACalls.ownB (id:=H.length+1) (t:=112) (p:=.nilp) 5 1 (by simp[List.getElem?_append]) ?_;have hX1:(sw H is im iv c u++[AB.cells (tmC l[j]),.bld 112 [.nilp,.snil]]).set (H.length+1) (.bld 112 [.nilp,.sl [] (.own (sw H is im iv c u++[AB.cells (tmC l[j]),.bld 112 [.nilp,.snil]]).length)])++[.perm 5 1 0] =
     sw H is im iv c u++[AB.cells (tmC l[j]),.bld 112 [.nilp,.sl (bcs []) (.own (H.length+2))],.perm 5 1 0]:=by simp[List.set_append_right,bcs]
   rw[hX1];have hWb:Wb (sw H is im iv c u++[AB.cells (tmC l[j]),.bld 112 [.nilp,.sl (bcs []) (.own (H.length+2))],.perm 5 1 0]) (H.length+1) (H.length+2) []:=⟨by omega,⟨.nilp,.inl rfl,by simp[List.getElem?_append]⟩,by simp[List.getElem?_append]⟩;refine ACalls.toFrz (zS0 _ l[j].1 (Nat.le_refl _) hn hd _ _ _ [] hWb (by simp;omega) _ ?_);rw[List.nil_append,←gH];refine⟨H.length+2,5,txt.length,htp,hWb.next.h2,?_⟩;have hX2:(wb (sw H is im iv c u++[AB.cells (tmC l[j]),.bld 112 [.nilp,.sl (bcs []) (.own (H.length+2))],.perm 5 1 0]) (H.length+1) (H.length+2) txt).set (H.length+2) (.frz 5 1 txt.length) =
     sw H is im iv c u++[AB.cells (tmC l[j]),.bld 112 [.ptr (H.length+1) 0,.sl (bcs txt) (.own (H.length+2))],.frz 5 1 txt.length]:=by simp[wb,List.set_append_right]
   rw[hX2];obtain⟨E,hE⟩:∃ E,E=[AB.cells (tmC l[j]),.bld 112 [.ptr (H.length+1) 0,.sl (bcs txt) (.own (H.length+2))],.frz 5 1 txt.length]:=⟨_,rfl⟩;rw[←hE];have hSE:∀ J,Sw (sw H is im iv c u++(E++J)) is im iv c u:=λJ=>fc.app;have e1:∀ J,(sw H is im iv c u++(E++J))[H.length]?=some (.cells (tmC l[j])):=λJ=>by rw[hE];simp[List.getElem?_append]
   have e2:∀ J,(sw H is im iv c u++(E++J))[H.length+1]?=some (.bld 112 [.ptr (H.length+1) 0,.sl (bcs txt) (.own (H.length+2))]):=λJ=>by rw[hE];simp[List.getElem?_append]
   have e3:∀ J,(sw H is im iv c u++(E++J))[H.length+2]?=some (.frz 5 1 txt.length):=λJ=>by rw[hE];simp[List.getElem?_append]
   have eh:(c++[.map im,.ov iv u.length])[4]?=some (.map im):=by rw[List.getElem?_append_right (by rw[hS.c4];omega),hS.c4];rfl
   have g9:(c++[.map im,.ov iv u.length])[5]?=some (.ov iv u.length):=by rw[List.getElem?_append_right (by rw[hS.c4];omega),hS.c4];rfl
   have cF:=hSE [];rw[List.append_nil]at cF;have e10:=e1 [];rw[List.append_nil]at e10;have hstr:∀ (J:zaa) (r:AV→zaa→Prop),r (.str txt) (sw H is im iv c u++(E++J))→ACalls tP zhq [.ptr (H.length+1) 0] (sw H is im iv c u++(E++J)) r:=λJ r h=>zC3 htne (e2 J) (e3 J) h;simp[cF.h1,zc0 _ eh];refine zaC (.str txt) (λJ=>by rw[List.append_assoc];exact hstr J _ ⟨rfl,rfl⟩) ?_;simp[cF.h2];have hdone:∀ E:zaa,Kb (zia (.ptr is 0) (.sl (zaH l) .none) (.int .i64 l.length) (.int .i64 (j+1))) (sw H is im iv c (za6 u l[j].1 l[j].2)++E):=λE=>
    ar _ _ ⟨l.length-(j+1),by omega,Back.at (J:=E) (H2:=sw H is im iv c (za6 u l[j].1 l[j].2)) rfl (by simp) (hS.hsc hs) (by
     have:=zbc hS.h1;simp[zia,ux,AV.sc,AV.scA,AV.scB,AV.scV];omega) ⟨_,rfl,j+1,by omega,rfl,rfl,by rw[aN]⟩⟩
   by_cases lV:∃ k,∃ h:k<u.length,u[k].1=l[j].1
   ·obtain⟨k,ja,hke⟩:=lV;have jn:=zvV hd u 0 k ja gY jr hke;rw[Nat.zero_add,←gH]at jn;simp[jn,cF.h1,zc0 _ g9,ja];have hku2:=zoz (List.getElem_mem ja);have e5:zaM (λ_=>1) s+zaM (λ_=>1) l<1000000000 ^ 30:=Nat.lt_of_lt_of_le hb (by decide);have bC:u[k].2<1000000000 ^ 30:=by omega
    have bD:l[j].2<1000000000 ^ 30:=by omega
    have jT:za6 u l[j].1 l[j].2=u.set k (u[k].1,u[k].2+l[j].2):=zuF ja hke jr;have i5:∀ x∈zal ((u[k].2+l[j].2:Nat):Int),x.known=true:=List.all_eq_true.1 (zfj _);simp[cF.h3,zHB ja,e10,zcd];refine⟨by omega,?_⟩;refine zaC (.agg (zal ((u[k].2+l[j].2:Nat):Int))) (λJ=>zS4 _ _ bC bD _ _ ⟨rfl,rfl⟩) ?_;have jb:=zHD ja (u[k].2+l[j].2);rw[List.append_assoc]at jb;simp[cF.h3,zmE,zte,wi j (by omega)];refine⟨by omega,?_⟩;rw[Int.natCast_add]at jb;rw[jb,←jT];have bi:u.length=(za6 u l[j].1 l[j].2).length:=by rw[jT];simp
    have hkk:kvS u 0=kvS (za6 u l[j].1 l[j].2) 0:=by rw[jT,zEP u ja]
    have aU:=zHt (H:=H) (c:=c) hS.n1 hS.n2 hS.n3 bi hkk;have fR:(sw H is im iv c u++E).set iv (.vec zaB 5 u.length (tms (za6 u l[j].1 l[j].2)))=sw H is im iv c (za6 u l[j].1 l[j].2)++E:=by rw[List.set_append_left _ _ (by simpa using zbc hS.h3),aU]
    rw[fR];exact hdone E
   ·have hnone:=zvT hd u 0 gY (λp hp he=>by
     obtain⟨k,hk,rfl⟩:=List.getElem_of_mem hp;exact lV ⟨k,hk,he⟩)
    rw[←gH]at hnone;obtain⟨fX,gk⟩:=hnone;simp[fX,cF.h1,zc0 _ eh];refine zaC (.str txt) (λJ=>by rw[List.append_assoc];exact hstr J _ ⟨rfl,rfl⟩) ?_;simp[cF.h1,zc0 _ g9,cF.h2];have jT:za6 u l[j].1 l[j].2=u++[l[j]]:=zuI (λp hp he=>by
     obtain⟨k,hk,rfl⟩:=List.getElem_of_mem hp;exact lV ⟨k,hk,he⟩)
    have hmp:=gk l[j].2;rw[Nat.zero_add]at hmp;have gP:=zbc hS.h2;have kJ:=zbc hS.h3;have lW:=zbc hS.h1;obtain⟨M,hM⟩:∃ M,M=AB.map (zcz (kvS u 0) txt (.int .i64 u.length)):=⟨_,rfl⟩;rw[←hM];have g1:((sw H is im iv c u++E).set im M)[is]?=some (.cells (c++[.map im,.ov iv u.length])):=by rw[List.getElem?_set_ne hS.n1.symm];exact cF.h1
    have g2:((sw H is im iv c u++E).set im M)[iv]?=some (.vec zaB 5 u.length (tms u)):=by rw[List.getElem?_set_ne hS.n3];exact cF.h3
    have g3:((sw H is im iv c u++E).set im M)[H.length]?=some (.cells (tmC l[j])):=by rw[List.getElem?_set_ne (by omega)];exact e10
    have cp:plain ([.int .i64 0,.snil,.bool false,.snil,.snil]:List AV)=some [.int .i64 0,.sl [] .none,.bool false,.sl [] .none,.sl [] .none]:=rfl;simp[g1,zc0 _ g9,g3,zda,zau,zaV,zhC,cp];simp only[zaw,zaL,zaI,g2];simp[g1];refine⟨by omega,?_⟩;have g4:(((sw H is im iv c u++E).set im M).set iv (.vec zaB 5 (u.length+1) (tms u++tmC l[j])))[is]?=some (.cells (c++[.map im,.ov iv u.length])):=by rw[List.getElem?_set_ne hS.n2.symm];exact g1
    have kF:List.take 5 (c++[.map im,.ov iv u.length])=c++[.map im]:=by
     have:c++[.map im,.ov iv u.length]=(c++[.map im])++[.ov iv u.length]:=by simp
     rw[this,List.take_append_of_le_length (by simp[hS.c4]),List.take_of_length_le (by simp[hS.c4])]
    have i4:List.drop (5+1) (c++[.map im,.ov iv u.length])=[]:=List.drop_of_length_le (by simp[hS.c4]);rw[g4];simp only[zDj,kF,i4];simp[AV.known,hS.c4,zmE,zte,wi j (by omega)];have hlu:u.length+1=(u++[l[j]]).length:=by simp
    have aU:=zHv (H:=H) (c:=c) (s:=u) (s':=u++[l[j]]) hS.n1 hS.n2 hS.n3 (a:=M) (b:=.vec zaB 5 (u.length+1) (tms u++tmC l[j])) (d:=.cells (c++[.map im,.ov iv (u.length+1)]))
     (by rw[hM,hmp]) (by rw[hlu,zj2];simp[tms]) (by rw[hlu])
    have fR:(((sw H is im iv c u++E).set im M).set iv (.vec zaB 5 (u.length+1) (tms u++tmC l[j]))).set is (.cells (c++[.map im,.ov iv (u.length+1)]))=sw H is im iv c (za6 u l[j].1 l[j].2)++E:=by rw[List.set_append_left _ _ (by simpa using gP),List.set_append_left _ _ (by simpa using kJ),List.set_append_left _ _ (by simpa using lW),aU,jT]
    rw[fR];exact hdone E
  ·obtain rfl:j=l.length:=by omega
   rw[List.take_length]at *;simp[ztc];exact zx7 (J:=[]) (by simp) (by simp) (hS.hsc hs) hK
end Go.Proofs.YtdmamdnkcefmmaaGreatDoor
namespace Go.Abs
open Go Go.RowKit
variable {P:Program} {B:Nat} {w:World} {G:Gh} {H:zaa}
inductive OutX (H:zaa) (n:Nat):AV→AV→Prop
 | two {a b:AV} (h:OutW H n a b):OutX H n a b
 | msr (id len:Nat) (cs:List AV) (rs:List (List (List AV))) (ap:n≤id) (hH:H[id]?=some (.cells cs)) (hm:rs.length=len)
   (aL:All2 (OutV H n) cs (rs.map λr=>.sl r .none)):OutX H n (.ms id 0 len len) (.sl (rs.map λr=>[.sl r .none]) .none)
theorem OutX.vrel (hH:HRel B w G H) {n:Nat} {v:Value} {a b:AV} (h:OutX H n a b) (hr:TRel w G v a):VRel w (G.cut w n) v b:=by
 cases h with
 | two h=>exact h.vrel hH hr
 | msr id len cs rs ap cr hm aL=>
  obtain⟨b,hμ,rfl⟩:=hr;obtain⟨hB,hL,vs,e,hw,aK⟩:=hH.ok id _ _ cr hμ;subst hm;show DRel w (G.cut w n).L _ _;by_cases aB:rs=[]
  ·subst aB;exact .slE _ _
  ·have hd:All2 (DRel w (G.cut w n).L) vs.toList (rs.map λr=>AV.sl r .none):=All2.of_get (aK.length.trans aL.length) λi x y hx hy=>by
    obtain⟨a,ha,fy⟩:=All2.get' aK hx;obtain⟨y',dq,gu⟩:=All2.get' aL ha;rw[hy]at dq;cases dq;obtain⟨r,hr,rfl⟩:∃ r,rs[i]?=some r∧AV.sl r .none=y:=by simpa using hy
    exact gu.vrel hH (TRel.of_v (VRel.of_a fy))
   have bi:∀ l:List (List (List AV)),(l.map λr=>[AV.sl r .none]).flatten=l.map λr=>AV.sl r .none:=by
    intro l;induction l with
    | nil=>rfl
    | cons r l ih=>simp[ih]
   have jj:=aK.length;have dz:=aL.length;have:=DRel.of_flat_at (w:=w) (L:=(G.cut w n).L) (g:=b) (off:=0) (size:=1) (cap:=rs.length) (es:=rs.map λr=>[AV.sl r .none]) (zs:=vs.toList) (by simp) (by simpa using aB) (by simp) ?_ (by rw[bi rs];exact hd) ?_
   ·simpa using this
   ·have:(G.cut w n).L b=vs.size:=by simp only[Gh.cut];rw[if_pos (cut_dropped.2 ⟨id,_,ap,hμ,rfl⟩),hw]
    rw[this];simp at jj dz ⊢;omega
   ·intro j u hj;rw[Nat.zero_add];simp only[World.cell?,hw];simpa using hj
inductive OutT3 (H:zaa) (n:Nat):AV→AV→Prop
 | one {a b:AV} (h:OutX H n a b):OutT3 H n a b
 | tup {asx bs:List AV} (h:All2 (OutX H n) asx bs):OutT3 H n (.tup asx) (.tup bs)
/- Slots that are appended to: a block of their own for each. -/
theorem ALoop.ovC {c:Code} {Q:AExit→List AV→zaa→Prop} {F:List AV} {id j:Nat} {cs:List AV} (e size:Nat) (ap:H[id]?=some (.cells cs)) (hj:cs[j]?=some .snil)
  (h:ALoop P c Q F (H.set id (.cells (cs.set j (.ov H.length 0)))++[.vec e size 0 []])):ALoop P c Q F H:=by
 intro B w G a hH hF hd;obtain⟨G',hE,aT⟩:=hH.ovCell e size ap hj;refine wp_mono (h B w G' a aT (hF.ext hE) hd) λe a' w' hp=>?_;obtain⟨F'',H'',G'',e'',rfl,k1,k2,k3,k4,k5⟩:=hp;exact⟨F'',H'',G'',e'',rfl,hE.trans k1,k2,k3,k4,k5⟩
section
variable {α:Type}
def vcs:Nat→List (List α)→List AV
 | _,[]=>[]
 | b,l::ls=>.ov b l.length::vcs (b+1) ls
def vbs (f:α→List AV) (e size:Nat) (ls:List (List α)):List AB:=ls.map λl=>.vec e size l.length (l.flatMap f)
@[simp] theorem zyq:∀ (b:Nat) (ls:List (List α)),(vcs b ls).length=ls.length
 | _,[]=>rfl
 | b,l::ls=>by simp[vcs,zyq (b+1) ls]
@[simp] theorem zYA (f:α→List AV) (e size:Nat) (ls:List (List α)):(vbs f e size ls).length=ls.length:=by simp[vbs]
theorem zj9:∀ (b:Nat) (ls:List (List α)) (k:Nat),(vcs b ls)[k]?=ls[k]?.map λl=>.ov (b+k) l.length
 | _,[],k=>by simp[vcs]
 | b,l::ls,0=>by simp[vcs]
 | b,l::ls,k+1=>by simp[vcs,zj9 (b+1) ls k];cases ls[k]? <;> simp;omega
theorem zHQ (f:α→List AV) (e size:Nat) (ls:List (List α)) (k:Nat):(vbs f e size ls)[k]?=ls[k]?.map λl=>.vec e size l.length (l.flatMap f):=by simp[vbs]
theorem zqu:∀ (b:Nat) (ls:List (List α)) (k:Nat) (l:List α),(vcs b ls).set k (.ov (b+k) l.length)=vcs b (ls.set k l)
 | _,[],k,l=>by simp[vcs]
 | b,x::ls,0,l=>by simp[vcs]
 | b,x::ls,k+1,l=>by have:=zqu (b+1) ls k l;rw[show b+1+k=b+(k+1) by omega]at this;simp[vcs,this]
theorem zHR (f:α→List AV) (e size:Nat) (ls:List (List α)) (k:Nat) (l:List α):(vbs f e size ls).set k (.vec e size l.length (l.flatMap f))=vbs f e size (ls.set k l):=by simp[vbs,List.map_set]
theorem zHS:∀ (b n:Nat),vcs b (List.replicate (n+1) ([]:List α))=.ov b 0::vcs (b+1) (List.replicate n ([]:List α))
 | b,n=>rfl
theorem ALoop.ovCs {c:Code} {Q:AExit→List AV→zaa→Prop} {F:List AV} (α:Type) (f:α→List AV) {id:Nat} (e size:Nat):∀ (n:Nat) (pre:List AV) (H:zaa),H[id]?=some (.cells (pre++List.replicate n .snil)) →
  ALoop P c Q F (H.set id (.cells (pre++vcs H.length (List.replicate n ([]:List α))))++vbs f e size (List.replicate n ([]:List α)))→ALoop P c Q F H
 | 0,pre,H,ap,h=>by
  have hs:H.set id (.cells (pre++vcs H.length (List.replicate 0 ([]:List α))))=H:=by
   refine List.ext_getElem? λi=>?_;rw[List.getElem?_set];split
   ·rename_i hi;subst hi;rw[if_pos (List.getElem?_eq_some_iff.1 ap).1,ap];simp[vcs]
   ·rfl
  rw[hs]at h;simpa[vbs]using h
 | n+1,pre,H,ap,h=>by
  refine ALoop.ovC e size ap (j:=pre.length) (by simp) ?_;have ak:=(List.getElem?_eq_some_iff.1 ap).1;have h1:(pre++List.replicate (n+1) AV.snil).set pre.length (.ov H.length 0)=(pre++[.ov H.length 0])++List.replicate n .snil:=by rw[List.set_append_right _ _ (Nat.le_refl _)];simp[List.replicate_succ]
  rw[h1];refine ALoop.ovCs α f e size n (pre++[.ov H.length 0]) _ (by rw[List.getElem?_append_left (by simpa using ak),List.getElem?_set_self ak]) ?_;have h2:(H.set id (.cells (pre++[AV.ov H.length 0]++List.replicate n AV.snil))++[AB.vec e size 0 []]).set id (.cells (pre++[AV.ov H.length 0]++vcs (H.set id (.cells (pre++[AV.ov H.length 0]++List.replicate n AV.snil))++[AB.vec e size 0 []]).length (List.replicate n ([]:List α))))++vbs f e size (List.replicate n ([]:List α))
    = H.set id (.cells (pre++vcs H.length (List.replicate (n+1) ([]:List α))))++vbs f e size (List.replicate (n+1) ([]:List α)):=by
   rw[List.set_append_left _ _ (by simpa using ak),List.set_set,List.append_assoc];simp[zHS,vbs,List.replicate_succ,vcs]
  rw[h2];exact h
def RdC (H:zaa) (lo:Nat) (f:α→List AV) (e size:Nat) (c:AV) (l:List α):Prop:=
 (l=[]∧c=.snil)∨∃ b,lo≤b∧c=.ov b l.length∧H[b]?=some (.vec e size l.length (l.flatMap f))
def RdL (H:zaa) (lo:Nat) (f:α→List AV) (e size:Nat) (a:AV) (ls:List (List α)):Prop:=
 ∃ id cs,lo≤id∧a=.ms id 0 ls.length ls.length∧H[id]?=some (.cells cs)∧All2 (RdC H lo f e size) cs ls
theorem RdC.pre {H H':zaa} {lo lo':Nat} {f:α→List AV} {e size:Nat} {c:AV} {l:List α} (h:RdC H lo f e size c l) (hp:H <+: H') (hl:lo'≤lo):RdC H' lo' f e size c l:=by
 rcases h with h | ⟨b,h1,h2,h3⟩
 ·exact .inl h
 ·obtain⟨J,rfl⟩:=hp;exact .inr ⟨b,by omega,h2,by rw[List.getElem?_append_left (List.getElem?_eq_some_iff.1 h3).1];exact h3⟩
theorem RdL.pre {H H':zaa} {lo lo':Nat} {f:α→List AV} {e size:Nat} {a:AV} {ls:List (List α)} (h:RdL H lo f e size a ls) (hp:H <+: H') (hl:lo'≤lo):RdL H' lo' f e size a ls:=by obtain⟨id,cs,h1,h2,h3,h4⟩:=h;refine⟨id,cs,by omega,h2,?_,h4.mono λ_ _ hc=>hc.pre hp hl⟩;obtain⟨J,rfl⟩:=hp;rw[List.getElem?_append_left (List.getElem?_eq_some_iff.1 h3).1];exact h3
theorem RdL.get {H:zaa} {lo:Nat} {f:α→List AV} {e size:Nat} {a:AV} {ls:List (List α)} (h:RdL H lo f e size a ls):∃ id cs,a=.ms id 0 ls.length ls.length∧H[id]?=some (.cells cs)∧cs.length=ls.length∧∀ k (hk:k<ls.length),∃ c,cs[k]?=some c∧RdC H lo f e size c ls[k]:=by obtain⟨id,cs,h1,h2,h3,h4⟩:=h;refine⟨id,cs,h2,h3,h4.length,λk hk=>?_⟩;exact All2.get h4 (List.getElem?_eq_getElem hk)
theorem zjG:∀ {a b a' b':List AV},plain a=some a'→plain b=some b'→plain (a++b)=some (a'++b')
 | [],b,a',b',h1,h2=>by simp[plain]at h1;subst h1;simpa using h2
 | x::a,b,a',b',h1,h2=>by
  simp only[plain]at h1;cases hx:x.pd with
  | none=>rw[hx]at h1;simp at h1
  | some d=>
   cases ha:plain a with
   | none=>rw[hx,ha]at h1;simp at h1
   | some ds=>rw[hx,ha]at h1;simp at h1;subst h1;simp[plain,hx,zjG ha h2]
theorem RdC.out {H:zaa} {lo:Nat} {f g:α→List AV} {e size:Nat} {c:AV} {l:List α} (h:RdC H lo f e size c l) (hp:∀ x∈l,plain (f x)=some (g x)) (hs:∀ x,(g x).length=size):OutV H lo c (.sl (l.map g) .none):=by
 rcases h with ⟨rfl,rfl⟩ | ⟨b,h1,rfl,h3⟩
 ·exact .wk (.atom .snil) rfl rfl
 ·refine .vfz b e size l.length _ _ h1 h3 ?_ (by simp) λc hc=>by obtain⟨x,_,rfl⟩:=List.mem_map.1 hc;exact hs x
  clear h3;induction l with
  | nil=>rfl
  | cons x l ih=>rw[List.flatMap_cons,List.map_cons,List.flatten_cons];exact zjG (hp x (by simp)) (ih λy hy=>hp y (by simp[hy]))
theorem RdL.out {H:zaa} {lo:Nat} {f g:α→List AV} {e size:Nat} {a:AV} {ls:List (List α)} (h:RdL H lo f e size a ls) (hp:∀ l∈ls,∀ x∈l,plain (f x)=some (g x)) (hs:∀ x,(g x).length=size):OutX H lo a (.sl (ls.map λl=>[.sl (l.map g) .none]) .none):=by
 obtain⟨id,cs,h1,rfl,h3,h4⟩:=h;have:=OutX.msr (H:=H) (n:=lo) id ls.length cs (ls.map λl=>l.map g) h1 h3 (by simp) (All2.of_get (by simpa using h4.length) λi x y hx hy=>by
  obtain⟨l,hl,hc⟩:=All2.get' h4 hx;simp only[List.map_map,List.getElem?_map,hl,Option.map_some,Function.comp_apply,Option.some.injEq]at hy;subst hy;exact hc.out (hp l (List.mem_of_getElem? hl)) hs)
 rw[List.map_map]at this;exact this
def NX (f:α→List AV) (e size:Nat) (H1:zaa) (st:List (List α)):zaa:=H1++(.cells (vcs (H1.length+1) st)::vbs f e size st)
theorem zes (f:α→List AV) (e size:Nat) (H1:zaa) (st:List (List α)):(NX f e size H1 st).length=H1.length+1+st.length:=by simp[NX];omega
theorem zum (f:α→List AV) (e size:Nat) (H1:zaa) (st:List (List α)):H1 <+: NX f e size H1 st:=⟨_,rfl⟩
theorem zuj (f:α→List AV) (e size:Nat) (H1 J:zaa) (st:List (List α)):(NX f e size H1 st++J)[H1.length]?=some (.cells (vcs (H1.length+1) st)):=by simp[NX]
theorem zuk (f:α→List AV) (e size:Nat) (H1:zaa) (st:List (List α)):(NX f e size H1 st)[H1.length]?=some (.cells (vcs (H1.length+1) st)):=by simp[NX]
theorem zuh (f:α→List AV) (e size:Nat) (H1 J:zaa) (st:List (List α)) {k:Nat} (hk:k<st.length):(NX f e size H1 st++J)[H1.length+1+k]?=some (.vec e size st[k].length (st[k].flatMap f)):=by rw[List.getElem?_append_left (by rw[zes];omega),NX,List.getElem?_append_right (by omega),show H1.length+1+k-H1.length=k+1 by omega,List.getElem?_cons_succ,zHQ,List.getElem?_eq_getElem hk];rfl
theorem zui (f:α→List AV) (e size:Nat) (H1 J:zaa) {st:List (List α)} {k:Nat} {l:List α} (h:st[k]?=some l):(NX f e size H1 st++J)[H1.length+1+k]?=some (.vec e size l.length (l.flatMap f)):=by obtain⟨hk,rfl⟩:=List.getElem?_eq_some_iff.1 h;exact zuh f e size H1 J st hk
theorem zqt (b:Nat) {st:List (List α)} {k:Nat} {l:List α} (h:st[k]?=some l):(vcs b st)[k]?=some (.ov (b+k) l.length):=by rw[zj9,h];rfl
theorem zun (f:α→List AV) (e size:Nat) (H1 J:zaa) (st:List (List α)) {k:Nat} (hk:k<st.length) (l:List α):((NX f e size H1 st++J).set (H1.length+1+k) (.vec e size l.length (l.flatMap f))).set H1.length (.cells (vcs (H1.length+1) (st.set k l)))=NX f e size H1 (st.set k l)++J:=by rw[List.set_append_left _ _ (by rw[zes];omega),List.set_append_left _ _ (by simp[zes];omega)];congr 1;unfold NX;rw[List.set_append_right _ _ (by omega),List.set_append_right _ _ (by omega),show H1.length+1+k-H1.length=k+1 by omega,List.set_cons_succ,Nat.sub_self,List.set_cons_zero,zHR]
theorem zHT (b:Nat) (ls:List (List α)) {k:Nat} (hk:k<ls.length) (l:List α):(vcs b ls).take k++.ov (b+k) l.length::(vcs b ls).drop (k+1)=vcs b (ls.set k l):=by rw[←zqu,List.set_eq_take_append_cons_drop,if_pos (by simpa using hk)]
theorem zyr {n:Nat}:∀ (b:Nat) (ls:List (List α)),b+ls.length≤n→(vcs b ls).all (AV.scA n)=true
 | _,[],_=>rfl
 | b,l::ls,h=>by
  simp only[List.length_cons]at h;have ih:=zyr (n:=n) (b+1) ls (by omega);have hb:b<n:=by omega
  rw[vcs,List.all_cons,ih,Bool.and_true];simpa[AV.scA,AV.scB]using hb
theorem zCZ {f:α→List AV} {e size:Nat} {H1:zaa} {st:List (List α)} (hs:HSc H1) (hf:∀ x n,(f x).all (AV.scA n)=true):HSc (NX f e size H1 st):=by
 refine hs.append ?_;rw[List.all_eq_true];intro b hb;rcases List.mem_cons.1 hb with rfl | hb
 ·simp only[AB.sc];exact zyr _ _ (by simp;omega)
 ·obtain⟨l,_,rfl⟩:=List.mem_map.1 hb;simp only[AB.sc,List.all_flatMap,hf];simp
theorem ALoop.nx {c:Code} {Q:AExit→List AV→zaa→Prop} {F:List AV} (f:α→List AV) (e size n:Nat) (h:ALoop P c Q F (NX f e size H (List.replicate n []))):ALoop P c Q F (H++[.cells (List.replicate n .snil)]):=by
 refine ALoop.ovCs α f (id:=H.length) e size n [] _ (by simp) ?_;have:(H++[AB.cells (List.replicate n AV.snil)]).set H.length (.cells ([]++vcs (H++[AB.cells (List.replicate n AV.snil)]).length (List.replicate n ([]:List α))))++vbs f e size (List.replicate n ([]:List α))=NX f e size H (List.replicate n []):=by simp[NX,List.set_append_right]
 rw[this];exact h
theorem HRel.reVec (h:HRel B w G H) {id e size n:Nat} {cs cs':List AV} (ap:H[id]?=some (.vec e size n cs)) (hc:All2 WkA cs cs'):HRel B w G (H.set id (.vec e size n cs')):=by
 refine⟨by simp[h.len],?_,h.dist,h.fresh,h.lt,h.base⟩;intro i ab gi h1 h2;by_cases hi:i=id
 ·subst hi;rw[List.getElem?_set_self (List.getElem?_eq_some_iff.1 ap).1]at h1;cases h1;have aw:=h.ok i _ _ ap h2;cases gi with
  | blk b=>exact aw.elim
  | own v s n=>obtain⟨k1,k2,⟨xs,k3,k4⟩,k5⟩:=aw;exact⟨k1,k2,⟨xs,k3,zqw (vs:=[]) hc k4⟩,k5⟩
  | gap=>exact aw.elim
 ·rw[List.getElem?_set_ne (λh=>hi h.symm)]at h1;exact h.ok i ab gi h1 h2
theorem ALoop.reVec {c:Code} {Q:AExit→List AV→zaa→Prop} {F:List AV} {id e size n:Nat} {cs cs':List AV} (ap:H[id]?=some (.vec e size n cs)) (hw:All2 WkA cs cs') (h:ALoop P c Q F (H.set id (.vec e size n cs'))):ALoop P c Q F H:=by intro B w G a hH hF hd;exact h B w G a (hH.reVec ap hw) hF hd
theorem ACalls.reVec {f:FuncId} {args:List AV} {K:Kt} (h:ACalls P f args H λr H'=>K r H'∨∃ id e size n cs cs',H'[id]?=some (.vec e size n cs)∧All2 WkA cs cs'∧K r (H'.set id (.vec e size n cs'))):ACalls P f args H K:=by
 intro B w G vs hH hv;refine (h B w G vs hH hv).mono λex w' ⟨v,r,H',G',h1,h2,h3,h4,h5⟩=>?_;rcases h5 with hk | ⟨id,e,size,n,cs,cs',ap,hw,hk⟩
 ·exact⟨v,r,H',G',h1,h2,h3,h4,hk⟩
 ·exact⟨v,r,_,G',h1,h2,h3.reVec ap hw,h4,hk⟩
end
end Go.Abs
namespace Go.Abs
open Go Go.RowKit
variable {P:Program} {B:Nat} {w:World} {G:Gh} {H:zaa}
theorem HRel.newRowV (h:HRel B w G H) (e size cap:Nat) (cur:Array Value) (hc:cap≤maxLen) (hs:cur.size=cap*size) :
  Ext B w G (w.alloc (.cells cur e)) ⟨G.L,G.μ++[.own (.slice (some ⟨w.heap.size,0,none⟩) 0 cap) size 0]⟩∧HRel B (w.alloc (.cells cur e)) ⟨G.L,G.μ++[.own (.slice (some ⟨w.heap.size,0,none⟩) 0 cap) size 0]⟩ (H++[.vec e size 0 []]):=by
 have he:=Ext.alloc h (.cells cur e) G.L (λ_ _=>rfl) [.own (.slice (some ⟨w.heap.size,0,none⟩) 0 cap) size 0];have split:∀ (id:Nat) gi,(G.μ++[GI.own (.slice (some ⟨w.heap.size,0,none⟩) 0 cap) size 0])[id]?=some gi→G.μ[id]?=some gi∨(id=G.μ.length∧gi=.own (.slice (some ⟨w.heap.size,0,none⟩) 0 cap) size 0):=by
  intro id gi hg;by_cases ak:id<G.μ.length
  ·rw[List.getElem?_append_left ak]at hg;exact .inl hg
  ·have aZ:=(List.getElem?_eq_some_iff.1 hg).1;simp at aZ;have:id=G.μ.length:=by omega
   subst this;simp at hg;exact .inr ⟨rfl,hg.symm⟩
 refine⟨he,by simp[h.len],?_,?_,λb hb=>?_,?_,?_⟩
 ·intro id ab gi h1 h2;rcases split id gi h2 with h2 | ⟨rfl,rfl⟩
  ·have ak:id<H.length:=by rw[←h.len];exact (List.getElem?_eq_some_iff.1 h2).1
   rw[List.getElem?_append_left ak]at h1;exact (h.ok id ab gi h1 h2).keep he (λb hb=>⟨zcD (h.lt id gi b h2 hb),rfl⟩)
  ·rw[h.len]at h1;simp at h1;subst h1;refine⟨rfl,rfl,⟨[],⟨by simp,.inr ⟨w.heap.size,cap,cur,rfl,h.base,zdh _,Nat.zero_le _,hc,hs,by simp⟩⟩,trivial⟩,λb hb=>?_⟩;simp[Value.ownBlock]at hb;subst hb;exact h.fresh _ (Nat.le_refl _)
 ·intro id id' gi gi' b h1 h2 h3 h4;rcases split id gi h1 with k1 | ⟨e1,e2⟩ <;> rcases split id' gi' h2 with k2 | ⟨e3,e4⟩
  ·exact h.dist id id' gi gi' b k1 k2 h3 h4
  ·rw[e4]at h4;simp[GI.block,Value.ownBlock]at h4;have:=h.lt id gi b k1 h3;omega
  ·rw[e2]at h3;simp[GI.block,Value.ownBlock]at h3;have:=h.lt id' gi' b k2 h4;omega
  ·rw[e1,e3]
 ·rw[zb4]at hb;exact h.fresh b (by omega)
 ·intro id gi b h1 h2;rw[zb4];rcases split id gi h1 with k1 | ⟨e1,e2⟩
  ·have:=h.lt id gi b k1 h2;omega
  ·rw[e2]at h2;simp[GI.block,Value.ownBlock]at h2;omega
 ·rw[zb4];have:=h.base;omega
end Go.Abs
namespace Go.Proofs.YtdmamdnkcefmmaaGreatDoor
open Go Go.Abs
theorem zGA (n:Nat) (hn:0<n) (fV:n≤1000000) (H:zaa) (K:Kt) (hK:K (.ov H.length 0) (H++[.vec zaB 5 0 []])) :
  ACalls tP zwg [.snil,.int .i64 n] H K:=by
 rintro B w G ⟨vs⟩ hR hv
 match vs,hv with
 | [v1,v2],⟨h1,h2,_⟩=>
 have h1:v1=.slice none 0 0:=h1;have h2:v2=.int .i64 n:=h2;subst h1 h2;obtain⟨i0,lR,kC,gV,bE⟩:∃ i0,tP.info? 55=some i0∧i0.zero=some (.agg #[.int .i64 0,.slice none 0 0,.bool false,.slice none 0 0,.slice none 0 0])∧i0.size=5∧i0.bytes=88:=⟨_,rfl,rfl,rfl,rfl⟩;refine (Go.Proofs.Any8.slices_Grow_grow zH6 i0 _ lR kC (by omega) none 0 0 n [] w (Nat.le_refl _) (by omega) (by rw[bE];omega) (by omega) (by simp) (λ_=>rfl) (λ_ h=>by cases h)).mono ?_;rintro e w' ⟨rfl,rfl⟩;have dR:=grownCap_ge w (0+n) 0 55;have bB:=grownCap_le_maxLen w (0+n) 0 55 (by simp only[maxLen];omega);obtain⟨z,hz⟩:∃ z:Value,z=.agg #[.int .i64 0,.slice none 0 0,.bool false,.slice none 0 0,.slice none 0 0]:=⟨_,rfl⟩;rw[←hz];obtain⟨hE,hH⟩:=hR.drew (w.drawn+1) (Nat.le_succ _) |>.newRowV 55 5 (grownCap w (0+n) 0 55) (([]:List Value).toArray++Builtin.zeroCells z.cells (0+n-0)++Builtin.zeroCells z.cells (grownCap w (0+n) 0 55-(0+n))) bB (by
  simp only[Array.size_append,size_zeroCells,List.size_toArray,List.length_nil];have:z.cells.size=5:=by rw[hz];rfl
  rw[this];omega)
 refine⟨_,_,_,_,rfl,(Ext.drew B w G (w.drawn+1) (Nat.le_succ _)).trans hE,hH,?_,hK⟩;refine⟨⟨_,_,rfl,λh=>by omega,Nat.zero_le _⟩,_,5,0,?_,Nat.le_refl _,λ_=>rfl⟩;rw[←hR.len];simp;rfl
theorem zGy (ls:List (List (IT × Nat))) (hp:0<ls.flatten.length) (hb:ls.flatten.length≤1000000) (hn:ls.length≤1000) (H0:zaa) (K:Kt) (hK:K (.sl (zaH ls.flatten) .none) (NX tmC zaB 5 H0 ls)) :
  ACalls tP zpA [.ms H0.length 0 ls.length ls.length] (NX tmC zaB 5 H0 ls) K:=by
 refine ACalls.out (zTP λhs=>?_);obtain⟨H,hH⟩:∃ H,H=NX tmC zaB 5 H0 ls:=⟨_,rfl⟩;have bo:(vcs (H0.length+1) ls).length=ls.length:=zyq _ _;have hC:∀ J,(H++J)[H0.length]?=some (.cells (vcs (H0.length+1) ls)):=λJ=>by rw[hH];exact zuj _ _ _ _ _ _
 have hC0:H[H0.length]?=some (.cells (vcs (H0.length+1) ls)):=by have:=hC [];simpa using this
 have hV:∀ J k (hk:k<ls.length),(H++J)[H0.length+1+k]?=some (.vec zaB 5 ls[k].length (tms ls[k])):=λJ k hk=>by rw[hH,zuh tmC zaB 5 H0 J ls hk,tms,List.flatMap_def]
 have hl:H0.length<H.length:=zbc hC0;have bi:∀ i,(ls.take i).flatten.length≤ls.flatten.length:=λi=>by
  conv=>rhs;rw[←List.take_append_drop i ls]
  rw[List.flatten_append,List.length_append];omega
 have hsu:∀ i (hi:i<ls.length),(ls.take (i+1)).flatten=(ls.take i).flatten++ls[i]:=λi hi=>by rw[List.take_succ_eq_append_getElem hi,List.flatten_append];simp
 rw[←hH]at hs hK ⊢;simp[zCx];refine zTM (Inv:=λq t3 t11 H'=>∃ i:Nat,i≤ls.length∧q=ls.length-i∧t11=.int .i64 i∧t3=.int .i64 ((ls.take i).flatten.length:Nat)∧H'=H) ls.length ?_ ?_
 ·intro _;exact⟨0,by omega,by omega,rfl,rfl,rfl⟩
 ·rintro q t3 t11 H' ⟨i,hi,rfl,rfl,rfl,rfl⟩ hsc am aP Kb ar;by_cases ak:i<ls.length
  ·have h1:=bi i;have h2:=bi (i+1);have h3:=hsu i ak;have h4:=zj9 (H0.length+1) ls i;rw[List.getElem?_eq_getElem ak]at h4;have h5:(ls.take (i+1)).flatten.length=(ls.take i).flatten.length+ls[i].length:=by rw[h3,List.length_append]
   obtain⟨m,hm⟩:∃ m,m=(ls.take i).flatten.length:=⟨_,rfl⟩;rw[←hm]at h1 h5 aP ⊢;have dv:¬ ((m:Int)+(ls[i].length:Int)<0):=by omega
   have w1:IntKind.i64.wrap ((m:Int)+(ls[i].length:Int))=(m:Int)+(ls[i].length:Int):=zat (by omega) (by omega);simp[ztW,ak,hC0,zc0 _ h4,w1,dv,wi i (by omega)];simp[zCy,zCz,wi i (by omega)];refine ar _ _ ⟨ls.length-(i+1),by omega,Back.at (J:=[]) (H2:=H') (by simp) (by omega) hsc ?_ ⟨_,_,rfl,i+1,by omega,rfl,rfl,by rw[h5];simp,rfl⟩⟩;simpa[znq,AV.sc,AV.scV,AV.scA,AV.scB]using hl
  ·obtain rfl:i=ls.length:=by omega
   rw[List.take_length];simp[ztW];have hg:=zGA ls.flatten.length hp hb;simp at hg;refine hg _ _ ?_;refine zTL (Inv:=λq t6 t27 H2=>∃ i:Nat,i≤ls.length∧q=ls.length-i∧t27=.int .i64 i∧t6=.ov H'.length (ls.take i).flatten.length∧H2=H'++[.vec zaB 5 (ls.take i).flatten.length (tms (ls.take i).flatten)]) ls.length ?_ ?_
   ·intro _;exact⟨0,by omega,by omega,rfl,rfl,rfl⟩
   ·rintro q t6 t27 H2 ⟨i,hi,rfl,rfl,rfl,rfl⟩ bZ dy gx Kb2 bQ;by_cases ak:i<ls.length
    ·have h1:=bi i;have h2:=bi (i+1);have h3:=hsu i ak;have h4:=zj9 (H0.length+1) ls i;rw[List.getElem?_eq_getElem ak]at h4;obtain⟨u,hu⟩:∃ u,u=(ls.take i).flatten:=⟨_,rfl⟩;rw[←hu]at h1 h3 gx bZ ⊢;have hVi:=hV [.vec zaB 5 u.length (tms u)] i ak;have hCi:=hC [.vec zaB 5 u.length (tms u)];have bb:H0.length+1+i≠H'.length:=by have h9:=hV [] i ak;rw[List.append_nil]at h9;have:=zbc h9;omega
     simp[ztV,ak,hCi,zc0 _ h4,wi i (by omega)];simp only[zaw,hVi,zdJ];simp[zHC,List.set_append_right];have hl3:u.length+ls[i].length=((ls.take (i+1)).flatten).length:=by rw[h3,List.length_append]
     refine⟨⟨by omega,by omega⟩,?_⟩;have kK:tms u++tms ls[i]=tms ((ls.take (i+1)).flatten):=by rw[h3,zj2]
     rw[hl3,kK];refine bQ _ _ ⟨ls.length-(i+1),by omega,Back.at (J:=[]) (H2:=H'++[.vec zaB 5 (ls.take (i+1)).flatten.length (tms (ls.take (i+1)).flatten)]) (by simp) (by simp) (hs.append (by simp only[AB.sc,List.all_cons,List.all_nil,zqk];rfl)) ?_ ⟨_,_,rfl,i+1,by omega,rfl,rfl,rfl,rfl⟩⟩;simp[znp,AV.sc,AV.scV,AV.scA,AV.scB];omega
    ·obtain rfl:i=ls.length:=by omega
     rw[List.take_length]at *;simp[ztV];have ci:=zFB (J:=[.vec zaB 5 ls.flatten.length (tms ls.flatten)]) ls.flatten H'.length (Nat.le_refl _) (by simp) hs hK;simpa using ci
end Go.Proofs.YtdmamdnkcefmmaaGreatDoor
namespace Go.Abs
open Go Go.RowKit
variable {P:Program} {B:Nat} {w:World} {G:Gh} {H:zaa}
theorem zvt {v:Value} {a:AV} (h:DRel w G.L v a):ARel w G v a:=by
 cases h with
 | bool b=>rfl
 | int k n=>rfl
 | str s=>rfl
 | slE a cap=>exact .slE a cap
 | sl b off cap ag es vs aB aJ hL aC hc hd=>exact .sl b off cap ag es vs aB aJ hL aC hc hd
end Go.Abs
namespace Go.Abs
open Go Go.RowKit
open Go.Sort (grow putRow putCells mapBlock onCells ahead SWO PermIn SortedIn Holds HoldsK flatK size_flatK get_flatK)
open Go.Proofs (sortWorld sortWorldK ltOf CmpLays)
variable {P:Program} {B:Nat} {w:World} {G:Gh} {H:zaa}
theorem zog {α:Type} {k:Nat}:∀ {l:List (List α)} (hk:∀ r∈l,r.length=k) {i j:Nat} (hj:j<k),l.flatten[i*k+j]?=(l[i]?).bind λr=>r[j]?
 | [],_,i,j,_=>by simp
 | r::l,hk,0,j,hj=>by have:=hk r (by simp);simp[List.getElem?_append_left (show j<r.length by omega)]
 | r::l,hk,i+1,j,hj=>by
  have h1:=hk r (by simp);have h2:r.length≤(i+1)*k+j:=by rw[Nat.add_mul];omega
  rw[List.flatten_cons,List.getElem?_append_right h2,show (i+1)*k+j-r.length=i*k+j by rw[Nat.add_mul];omega,zog (λx hx=>hk x (by simp[hx])) hj];rfl
theorem zvC {α:Type} {k:Nat}:∀ {l:List (List α)} (hk:∀ r∈l,r.length=k),l.flatten.length=l.length*k
 | [],_=>by simp
 | r::l,hk=>by rw[List.flatten_cons,List.length_append,zvC (λx hx=>hk x (by simp[hx])),hk r (by simp),List.length_cons,Nat.add_mul];omega
theorem zEo {α:Type} [Inhabited α] (enc:α→List Value) (k:Nat) (cO:0<k) (hk:∀ x,(enc x).length=k) (d:Array α):(flatK enc k d).toList=(d.toList.map enc).flatten:=by
 have hl:∀ r∈d.toList.map enc,r.length=k:=λr hr=>by obtain⟨x,_,rfl⟩:=List.mem_map.1 hr;exact hk x
 refine List.ext_getElem? λt=>?_;have ht:t=t / k*k+t % k:=by rw[Nat.mul_comm];exact (Nat.div_add_mod t k).symm
 have hm:t % k<k:=Nat.mod_lt _ cO;by_cases h:t<d.size*k
 ·have h1:t / k<d.size:=(Nat.div_lt_iff_lt_mul cO).2 h;rw[Array.getElem?_toList,Array.getElem?_eq_getElem (by simpa using h),←getElem!_pos (flatK enc k d) t (by simpa using h),get_flatK _ _ _ _ h]
  conv=>rhs;rw[ht,zog hl hm]
  rw[List.getElem?_map,Array.getElem?_toList,Array.getElem?_eq_getElem h1];simp only[Option.map_some,Option.bind_some];rw[getElem!_pos d _ h1,List.getElem?_eq_getElem (by rw[hk];exact hm),getElem!_pos (enc d[t / k]) _ (by rw[hk];exact hm)]
 ·rw[List.getElem?_eq_none (by simpa using h),List.getElem?_eq_none (by rw[zvC hl];simpa using h)]
theorem zuM {α β:Type} {R:α→β→Prop}:∀ {l:List (List α)} {m:List (List β)},All2 (λa b=>All2 R a b) l m→All2 R l.flatten m.flatten
 | [],[],_=>trivial
 | a::l,b::m,⟨h1,h2⟩=>by rw[List.flatten_cons,List.flatten_cons];exact All2.append h1 (zuM h2)
theorem HRel.sortedK (h:HRel B w G H) {id e k n g cap:Nat} {cs cs':List AV} (hH:H[id]?=some (.vec e k n cs)) (hμ:G.μ[id]?=some (.own (.slice (some ⟨g,0,none⟩) n cap) k n))
  (d:Array Value) (hd:d.size=n*k) (hc:All2 (ARel w G) d.toList cs') (m:Nat) (os:Array Obj) :
  Ext B w G (sortWorld _root_.id w g 0 m d os) G∧HRel B (sortWorld _root_.id w g 0 m d os) G (H.set id (.vec e k n cs')):=by
 obtain⟨_,_,⟨xs,⟨bS,ho⟩,jY⟩,dB⟩:=h.ok id _ _ hH hμ;rcases ho with ⟨h1,_⟩ | ⟨g',cap',cur,h1,hB,hw,aJ,bB,aC,bf⟩
 ·cases h1
 cases h1;have aS:d.size≤cur.size:=by rw[hd,aC];exact Nat.mul_le_mul_right _ aJ
 have bl:=zFT _root_.id d cur aS;rw[hd]at bl;simp only[List.map_id]at bl;have h1:=h.storeV (cur':=putCells _root_.id 0 d cur) (xs':=d.toList) hH hμ hw hB aJ bB (by simp[putCells,aC]) bl (by simp[hd]) hc;obtain⟨fw,hR1⟩:=h1;have eN:=Ext.drew B (w.setRow g (putCells _root_.id 0 d cur)) G ((w.setRow g (putCells _root_.id 0 d cur)).drawn+m) (Nat.le_add_right _ _);have d5:=hR1.drew ((w.setRow g (putCells _root_.id 0 d cur)).drawn+m) (Nat.le_add_right _ _);obtain⟨jQ,hR3⟩:=HRel.grown os.toList d5;have heq:sortWorld _root_.id w g 0 m d os=grow { w.setRow g (putCells _root_.id 0 d cur) with drawn:=(w.setRow g (putCells _root_.id 0 d cur)).drawn+m } os.toList.toArray:=by
  have hh:w.heap.modify g (onCells (putCells _root_.id 0 d))=(w.setRow g (putCells _root_.id 0 d cur)).heap:=by
   unfold World.setRow;refine Array.ext_getElem? λi=>?_;simp only[Array.getElem?_modify];by_cases hi:g=i
   ·subst hi;simp[hw,onCells]
   ·simp[hi]
  have e:sortWorld _root_.id w g 0 m d os=grow { w with heap:=w.heap.modify g (onCells (putCells _root_.id 0 d)),drawn:=w.drawn+m } os:=rfl;rw[e,hh,Array.toArray_toList];rfl
 rw[heq];exact⟨(fw.trans eN).trans jQ,hR3⟩
theorem zGK (h:HRel B w G H) {n k g f:Nat} (eI:G.L g=0) {enc:Fin n→List Value} [Inhabited (Fin n)] {rows:Nat→List AV} {cf:Nat→Nat→Int} (hd:∀ i:Fin n,All2 (DRel w G.L) (enc i) (rows i))
  (eZ:∀ i j,i<n→j<n→ACalls P f [.agg (rows i),.agg (rows j)] [] λr _=>r=.int .i64 (cf i j)):CmpLays P f #[] enc k (λi j=>cf i j) g 0 n w:=by
 intro m os dk hdk x y;show Calls P f _ (sortWorld _root_.id w g 0 m (flatK enc k dk) os) λe w'=>e=.returned (.int .i64 (cf x y))∧∃ q os',w'=grow ((sortWorld _root_.id w g 0 m (flatK enc k dk) os).drewN q) os';generalize hW:sortWorld _root_.id w g 0 m (flatK enc k dk) os=W;have aC:w.heap.size≤W.heap.size:=by rw[←hW];exact zGJ _ _ _ _ _ _
 have aG:∀ a:Addr,a.block≠g→a.block<w.heap.size→W.cell? a=w.cell? a:=λa h1 h2=>by rw[←hW];exact zGI _ _ _ _ _ _ a h1 h2
 have hL:∀ b,W.heap.size≤b→G.L b=0:=λb hb=>h.fresh b (by omega);have bR:∀ {v:Value} {a:AV},DRel w G.L v a→DRel W G.L v a:=λhx=>hx.mono (λ_=>Nat.le_refl _) λb off ho=>by
  refine aG ⟨b,off,none⟩ ?_ ?_
  ·intro hb;have hb:b=g:=hb;rw[hb,eI]at ho;omega
  ·show b<w.heap.size;refine Nat.lt_of_not_le λhb=>?_;rw[h.fresh b hb]at ho;omega
 have harg:∀ i:Fin n,VRel W ⟨G.L,[]⟩ (.agg (enc i).toArray) (.agg (rows i)):=λi=>⟨_,rfl,by
  rw[List.toList_toArray];exact (hd i).mono λ_ _ hx=>zvt (G:=⟨G.L,[]⟩) (bR hx)⟩
 refine (eZ x y x.2 y.2 W.heap.size W ⟨G.L,[]⟩ #[.agg (enc x).toArray,.agg (enc y).toArray]
  ⟨rfl,λ_ _ _ h=>by simp at h,λ_ _ _ _ _ h=>by simp at h,hL,λ_ _ _ h=>by simp at h,Nat.le_refl _⟩ ⟨harg x,harg y,trivial⟩).mono ?_
 rintro e w' ⟨v,r,H',G',rfl,h2,_,h4,rfl⟩;have h4:v=.int .i64 (cf x y):=h4;subst h4;exact⟨rfl,zEw h2.dr h2.below⟩
theorem ACalls.sortFuncK {ρ:Go.Shelf.Ren} (L:Go.Proofs.SlLaysF0.n6 P ρ) {id e k n f:Nat} (cO:0<k) (aE:∀ w,(isAgg (ρ.t 24)).run P w=.ok true w) (zE:∀ w,(Go.sizeOf (ρ.t 24)).run P w=.ok k w)
  {cs:List AV} (hH:H[id]?=some (.vec e k n cs)) (hn:n<4611686018427387904) (rows:List (List AV)) (cf:Nat→Nat→Int)
  (hp:plain cs=some rows.flatten) (eK:rows.length=n) (i5:∀ r∈rows,r.length=k) (eg:∀ args w,(callFunc f args).run P w=.ok (.enter f args) w)
  (eZ:∀ i j,i<n→j<n→ACalls P f [.agg (rows.getD i []),.agg (rows.getD j [])] [] λr _=>r=.int .i64 (cf i j))
  (kL:∀ i,i<n→¬ cf i i<0) (kM:∀ i j k,i<n→j<n→k<n→cf i j<0→cf j k<0→cf i k<0) (kN:∀ i j k,i<n→j<n→k<n→¬ cf i j<0→¬ cf j k<0→¬ cf i k<0)
  {K:Kt} (hK:∀ p:List Nat,p.Perm (List.range n)→(∀ a b (ha:a<p.length) (hb:b<p.length),a<b→¬ cf p[b] p[a]<0)→K (.tup []) (H.set id (.vec e k n (p.map λi=>rows.getD i []).flatten))) :
  ACalls P (ρ.f 6) [.ov id n,.fn f []] H K:=by
 rintro B w G ⟨vs⟩ hR hv
 match vs,hv with
 | [v1,v2],⟨h1,h2,_⟩=>
 obtain⟨⟨a0,cap0,rfl,_⟩,v',s0,n',hμ,aS,heq⟩:=h1;obtain⟨ws,rfl,g8⟩:=h2;have g8:ws=#[]:=by
  cases jS:ws.toList with
  | nil=>exact Array.toList_inj.1 jS
  | cons x l=>rw[jS]at g8;exact g8.elim
 subst g8;obtain⟨rfl,rfl,⟨xs,aq,aK⟩,dB⟩:=hR.ok id _ _ hH hμ;obtain rfl:=heq rfl;have bS:=aq.1;have bv:=zdm aK hp
 match n,bS,hH,hn,eZ,kL,kM,kN,hK,hμ,aq,eK with
 | 0,bS,hH,hn,eZ,kL,kM,kN,hK,hμ,aq,eK=>
  refine (Go.Proofs.AnyF.slices_SortFunc_none (P:=P) (ρ:=ρ) L a0 cap0 _ w).mono ?_;rintro e' w' ⟨rfl,rfl⟩;have hc:cs=[]:=by
   have bo:=aK.length;cases cs with
   | nil=>rfl
   | cons x l=>simp at bo;omega
  subst hc;have:=hK [] (by simp) (by simp);refine⟨_,.tup [],_,G,rfl,Ext.refl _ _ _,?_,⟨#[],rfl,trivial⟩,this⟩;have hs:H.set id (.vec e k 0 [])=H:=by
   refine List.ext_getElem? λi=>?_;rw[List.getElem?_set];split
   ·rename_i hi;subst hi;rw[if_pos (List.getElem?_eq_some_iff.1 hH).1,hH]
   ·rfl
  simpa[hs]using hR
 | n+1,bS,hH,hn,eZ,kL,kM,kN,hK,hμ,aq,eK=>
  obtain⟨_,ho⟩:=aq;rcases ho with ⟨h1,h0⟩ | ⟨g,cap,cur,h1,hB,hw,aJ,bB,aC,bf⟩
  ·omega
  cases h1;have eI:G.L g=0:=dB g rfl;have jS:g<w.heap.size:=(Array.getElem?_eq_some_iff.1 hw).1;have gm:∀ i,i<n+1→i*k+k≤(n+1)*k:=λi hi=>by have:=Nat.mul_le_mul_right k (show i+1≤n+1 from hi);rwa [Nat.add_mul,Nat.one_mul]at this
  let enc:Fin (n+1)→List Value:=λi=>(xs.drop (i.1*k)).take k
  have fS:∀ i,(enc i).length=k:=λi=>by have:=gm i.1 i.2;simp only[enc,List.length_take,List.length_drop];omega
  have aA:∀ (i:Fin (n+1)) (j:Nat),j<k→(enc i)[j]?=xs[i.1*k+j]?:=λi j hj=>by simp only[enc,List.getElem?_take,List.getElem?_drop,if_pos hj]
  have eE:∀ i:Fin (n+1),All2 (DRel w G.L) (enc i) (rows.getD i.1 []):=λi=>by
   have hi:i.1<rows.length:=by rw[eK];exact i.2
   have hri:rows.getD i.1 []=rows[i.1]:=by rw[List.getD_eq_getElem?_getD,List.getElem?_eq_getElem hi];rfl
   rw[hri];refine All2.of_get (by rw[fS,i5 _ (List.getElem_mem hi)]) λj x y hx hy=>?_;have hj:j<k:=by rw[←i5 _ (List.getElem_mem hi)];exact (List.getElem?_eq_some_iff.1 hy).1
   rw[aA i j hj]at hx;have bi:rows.flatten[i.1*k+j]?=some y:=by rw[zog i5 hj,List.getElem?_eq_getElem hi];exact hy
   obtain⟨x',e8,hr⟩:=All2.get bv bi;rw[hx]at e8;cases e8;exact hr
  have br:∀ i,∀ v∈enc i,v.oneCell'=true:=λi v hv=>by
   obtain⟨j,hj,rfl⟩:=List.mem_iff_getElem.1 hv;have hjr:j<(rows.getD i.1 []).length:=by rw[←(eE i).length];exact hj
   obtain⟨x,hx,hr⟩:=All2.get (eE i) (List.getElem?_eq_getElem hjr);rw[List.getElem?_eq_getElem hj]at hx;cases hx;generalize (rows.getD i.1 [])[j]=a at hr;generalize (enc i)[j]=v at hr;cases hr <;> rfl
  have hlays:=zGK (P:=P) (f:=f) (n:=n+1) (k:=k) (rows:=λi=>rows.getD i []) hR eI eE eZ;let d:Array (Fin (n+1)):=Array.ofFn λi=>i
  have ei:d.size=n+1:=by simp[d]
  have gY:∀ j (hj:j<n+1),d[j]! = ⟨j,hj⟩:=λj hj=>by rw[getElem!_pos d j (by rw[ei];exact hj)];simp[d]
  have hholds:HoldsK enc k w g 0 d:=by
   intro t ht;rw[size_flatK,ei]at ht;have gg:t / k<n+1:=(Nat.div_lt_iff_lt_mul cO).2 ht;have hm:t % k<k:=Nat.mod_lt _ cO;have htk2:t=t / k*k+t % k:=by rw[Nat.mul_comm];exact (Nat.div_add_mod t k).symm
   have htx:t<xs.length:=by rw[bS];exact ht
   have hc:cur[t]?=some xs[t]:=by have:xs[t]?=some xs[t]:=List.getElem?_eq_getElem _;rw[←this,←bf,List.getElem?_take,if_pos ht,Array.getElem?_toList]
   have hv:(flatK enc k d)[t]! = xs[t]:=by rw[get_flatK _ _ _ _ (by rw[ei];exact ht),gY _ gg];have h3:=aA ⟨t / k,gg⟩ (t % k) hm;simp only at h3;rw[←htk2,List.getElem?_eq_getElem htx,List.getElem?_eq_getElem (by rw[fS];exact hm)]at h3;rw[getElem!_pos (enc _) _ (by rw[fS];exact hm)];exact Option.some.inj h3
   refine⟨?_,?_⟩
   ·rw[Nat.zero_add,hv];simp[World.cell?,hw,hc]
   ·simp[World.frozen?,hw]
  have hO:SWO (ltOf λi j:Fin (n+1)=>cf i j):=⟨λx=>by simp only[ltOf,decide_eq_false_iff_not];exact kL x x.2,
   λx y z h1 h2=>by simp only[ltOf,decide_eq_true_eq]at *;exact kM x y z x.2 y.2 z.2 h1 h2,
   λx y z h1 h2=>by simp only[ltOf,decide_eq_false_iff_not]at *;exact kN x y z x.2 y.2 z.2 h1 h2⟩
  have ew:=Go.Proofs.AnyQ.slices_SortFunc (P:=P) (ρ:=ρ) L k aE zE enc fS br (λi j=>cf i j) hO f #[] g 0 cap0 d w eg (by rw[ei];exact hlays) hholds jS (by rw[ei];exact hn);rw[ei]at ew;refine ew.mono ?_;rintro e' w' ⟨rfl,d',m,os,hp',hsrt,rfl⟩;obtain⟨cW,_,lT⟩:=hp';have hds':d'.size=n+1:=cW.trans ei;have lX:(d'.toList.map Fin.val).Perm (List.range (n+1)):=by
   have h1:d'.toList.Perm d.toList:=by have e1:(d'.extract 0 (n+1))=d':=zvw d' hds';have e2:(d.extract 0 (n+1))=d:=zvw d ei;rwa [e1,e2]at lT
   exact (h1.map Fin.val).trans (List.Perm.of_eq (zFj _))
  have hS:=hR.sortedK hH hμ (flatK enc k d') (by rw[size_flatK,hds']) (cs':=((d'.toList.map Fin.val).map λi=>rows.getD i []).flatten) (by
   rw[zEo enc k cO fS,List.map_map];refine zuM (All2.of_get (by simp) λi x y hx hy=>?_);simp only[List.getElem?_map,Option.map_eq_some_iff]at hx hy;obtain⟨a,ha,rfl⟩:=hx;obtain⟨b,hb,rfl⟩:=hy;rw[ha]at hb;cases hb;exact (eE a).mono λ_ _ h=>zvt h) m os
  refine⟨_,.tup [],_,G,rfl,hS.1,hS.2,⟨#[],rfl,trivial⟩,hK _ lX λa b ha hb bb=>?_⟩;simp only[List.length_map,Array.length_toList]at ha hb;have:=hsrt a b (Nat.zero_le _) bb (by omega);rw[getElem!_pos d' a ha,getElem!_pos d' b hb]at this;simp only[ltOf,decide_eq_false_iff_not]at this;simpa using this
end Go.Abs
namespace Go.Proofs.YtdmamdnkcefmmaaGreatDoor
open Go Go.Shelf Go.Abs
def zH5:Go.Shelf.Ren:=⟨λ| 6=>84 | 15=>137 | 14=>136 | 28=>185 | 29=>186 | 20=>177 | 21=>178 | 22=>179 | 23=>180 | 24=>181 | 25=>182 | 26=>183 | 27=>184 | 46=>217 | 47=>218 | 48=>219 | 49=>220 | 50=>221 | 57=>244 | n=>n,λ| 22=>31 | 24=>55 | 25=>127 | 3=>3 | 39=>184 | 0=>0 | 53=>88 | 55=>100 | 4=>4 | 46=>224 | 45=>223 | 50=>107 | 5=>5 | 9=>9 | 66=>260 | 70=>72 | 76=>288 | 77=>289 | n=>n,λ| n=>n⟩
theorem zH4:Go.Proofs.SlLaysF0.n6 tP zH5:={
 mixed:=by kernel_rfl
 f6:=⟨Tryz.f84.name,by decide,Tryz.func84.trans (congrArg some (by kernel_rfl))⟩
 f14:=⟨Tryz.f136.name,by decide,Tryz.func136.trans (congrArg some (by kernel_rfl))⟩
 f15:=Tryz.func137.trans (congrArg some (by kernel_rfl))
 f20:=⟨Tryz.f177.name,by decide,Tryz.func177.trans (congrArg some (by kernel_rfl))⟩
 f21:=⟨Tryz.f178.name,by decide,Tryz.func178.trans (congrArg some (by kernel_rfl))⟩
 f22:=⟨Tryz.f179.name,by decide,Tryz.func179.trans (congrArg some (by kernel_rfl))⟩
 f23:=⟨Tryz.f180.name,by decide,Tryz.func180.trans (congrArg some (by kernel_rfl))⟩
 f24:=⟨Tryz.f181.name,by decide,Tryz.func181.trans (congrArg some (by kernel_rfl))⟩
 f25:=⟨Tryz.f182.name,by decide,Tryz.func182.trans (congrArg some (by kernel_rfl))⟩
 f26:=⟨Tryz.f183.name,by decide,Tryz.func183.trans (congrArg some (by kernel_rfl))⟩
 f27:=⟨Tryz.f184.name,by decide,Tryz.func184.trans (congrArg some (by kernel_rfl))⟩
 f28:=Tryz.func185.trans (congrArg some (by kernel_rfl))
 f29:=Tryz.func186.trans (congrArg some (by kernel_rfl))
 f46:=⟨Tryz.f217.name,by decide,Tryz.func217.trans (congrArg some (by kernel_rfl))⟩
 f47:=Tryz.func218.trans (congrArg some (by kernel_rfl))
 f48:=Tryz.func219.trans (congrArg some (by kernel_rfl))
 f49:=⟨Tryz.f220.name,by decide,Tryz.func220.trans (congrArg some (by kernel_rfl))⟩
 f50:=⟨Tryz.f221.name,by decide,Tryz.func221.trans (congrArg some (by kernel_rfl))⟩
 f57:=⟨Tryz.f244.name,by decide,Tryz.func244.trans (congrArg some (by kernel_rfl))⟩
 t0:=Tryz.underlying0
 a0:=Tryz.isAgg0
 z0:=Tryz.sizeOf0
 v0:=Tryz.zeroValue0
 t3:=Tryz.underlying3
 a3:=Tryz.isAgg3
 z3:=Tryz.sizeOf3
 v3:=Tryz.zeroValue3
 t4:=Tryz.underlying4
 a4:=Tryz.isAgg4
 z4:=Tryz.sizeOf4
 v4:=Tryz.zeroValue4
 t5:=Tryz.underlying5
 a5:=Tryz.isAgg5
 z5:=Tryz.sizeOf5
 v5:=Tryz.zeroValue5
 t9:=Tryz.underlying9
 a9:=Tryz.isAgg9
 z9:=Tryz.sizeOf9
 v9:=Tryz.zeroValue9
 t22:=Tryz.underlying31
 a22:=Tryz.isAgg31
 z22:=Tryz.sizeOf31
 v22:=Tryz.zeroValue31
 t25:=Tryz.underlying127
 a25:=Tryz.isAgg127
 z25:=Tryz.sizeOf127
 v25:=Tryz.zeroValue127
 t39:=Tryz.underlying184
 a39:=Tryz.isAgg184
 z39:=Tryz.sizeOf184
 v39:=Tryz.zeroValue184
 t45:=Tryz.underlying223
 a45:=Tryz.isAgg223
 z45:=Tryz.sizeOf223
 v45:=Tryz.zeroValue223
 t46:=Tryz.underlying224
 a46:=Tryz.isAgg224
 z46:=Tryz.sizeOf224
 v46:=Tryz.zeroValue224
 t50:=Tryz.underlying107
 a50:=Tryz.isAgg107
 z50:=Tryz.sizeOf107
 v50:=Tryz.zeroValue107
 t53:=Tryz.underlying88
 a53:=Tryz.isAgg88
 z53:=Tryz.sizeOf88
 v53:=Tryz.zeroValue88
 t55:=Tryz.underlying100
 a55:=Tryz.isAgg100
 z55:=Tryz.sizeOf100
 v55:=Tryz.zeroValue100
 t66:=Tryz.underlying260
 a66:=Tryz.isAgg260
 z66:=Tryz.sizeOf260
 v66:=Tryz.zeroValue260
 t70:=Tryz.underlying72
 a70:=Tryz.isAgg72
 z70:=Tryz.sizeOf72
 v70:=Tryz.zeroValue72
 t76:=Tryz.underlying288
 a76:=Tryz.isAgg288
 z76:=Tryz.sizeOf288
 v76:=Tryz.zeroValue288
 t77:=Tryz.underlying289
 a77:=Tryz.isAgg289
 z77:=Tryz.sizeOf289
 v77:=Tryz.zeroValue289 }
end Go.Proofs.YtdmamdnkcefmmaaGreatDoor
namespace Go.Proofs.YtdmamdnkcefmmaaGreatDoor
open Go Go.Abs
theorem zx0 {s:List (IT × Nat)} {k:Nat} (h:k<s.length):((tms s).drop (k*5)).take 5=tmC s[k]:=by have h1:=zql h;have h2:=zqm (Nat.le_of_lt h);rw[h1,List.drop_append,h2];simp[List.drop_of_length_le,h2]
theorem zul {f:IT × Nat→List AV} {e size:Nat} {H1:zaa} {st:List (List (IT × Nat))} {i:Nat} {b:AB} (h:H1[i]?=some b) (J:zaa):(NX f e size H1 st++J)[i]?=some b:=by unfold NX;rw[List.append_assoc];exact zbF h
theorem zF2 (p q:IT × Nat) (hp:p.1.nodes≤1000000) (H:zaa) (K:Kt) (hK:K (.int .i64 (IT.cmp p.1 q.1)) H):ACalls tP zjr [.agg (tmC p),.agg (tmC q)] H K:=by refine ACalls.out (zTD λhs=>?_);simp[zCv,zda,zcn,Nat.add_assoc];refine zEE _ _ _ (Nat.le_refl _) hp _ _ ?_;exact Out.int rfl (Nat.le_refl _) hs hK
theorem zGL {H:zaa} {b:Nat} {l:List (IT × Nat)} (hb:H[b]?=some (.vec zaB 5 l.length (tms l))) (hn:l.length≤1000000) (jo:∀ x∈l,x.1.nodes≤1000000) (K:Kt)
  (hK:∀ r:List (IT × Nat),r.Perm l→r.Pairwise (λp q=>¬ IT.cmp q.1 p.1<0)→K (.tup []) (H.set b (.vec zaB 5 l.length (tms r)))):ACalls tP zwm [.ov b l.length,.fn zjr []] H K:=by
 let d0:IT × Nat:=(.mk 0 [],0)
 have iC:∀ i,i<l.length→(zaH l).getD i []=tmC (l.getD i d0):=λi hi=>by simp[zaH,List.getD_eq_getElem?_getD,hi]
 have hgm:∀ i,i<l.length→l.getD i d0∈l:=λi hi=>by simp[List.getD_eq_getElem?_getD,hi]
 have cmp_self:∀ a:IT,IT.cmp a a=0:=zfR;refine ACalls.sortFuncK zH4 (k:=5) (by omega) Tryz.isAgg55 Tryz.sizeOf55 hb (by omega) (zaH l) (λi j=>IT.cmp (l.getD i d0).1 (l.getD j d0).1) (by rw[zxZ];exact zpK l) (by simp) (λr hr=>by
  obtain⟨x,_,rfl⟩:=List.mem_map.1 hr;simp) (λargs w=>rfl) (λi j hi hj=>?_) (λi hi=>?_) (λi j k hi hj hk h1 h2=>?_) (λi j k hi hj hk h1 h2=>?_) (λp hp hsort=>?_)
 ·rw[iC i hi,iC j hj];exact zF2 _ _ (jo _ (hgm i hi)) _ _ rfl
 ·rw[cmp_self];omega
 ·exact zve h1 (by omega)
 ·have:=IT.cmp_tri (l.getD k d0).1 (l.getD j d0).1 (l.getD i d0).1;have a1:=IT.cmp_anti (l.getD i d0).1 (l.getD j d0).1;have a2:=IT.cmp_anti (l.getD j d0).1 (l.getD k d0).1;have a3:=IT.cmp_anti (l.getD i d0).1 (l.getD k d0).1;unfold Tri at this;omega
 ·have lX:∀ i∈p,i<l.length:=λi hi=>by simpa using hp.subset hi
  have et:(List.range l.length).map (λi=>l.getD i d0)=l:=List.ext_getElem (by simp) λi h1 h2=>by simp[List.getD_eq_getElem?_getD,h2]
  have aH:(p.map λi=>l.getD i d0).Perm l:=by have h1:=hp.map λi=>l.getD i d0;rwa [et]at h1
  have bi:(p.map λi=>(zaH l).getD i []).flatten=tms (p.map λi=>l.getD i d0):=by rw[tms,List.map_map];congr 1;refine List.map_congr_left λi hi=>?_;exact iC i (lX i hi)
  rw[bi];refine hK _ aH ?_;rw[List.pairwise_iff_getElem];intro a b ha hb bb;simp only[List.getElem_map];exact hsort a b (by simpa using ha) (by simpa using hb) bb
def zbX (aa:List Dat) (t:VT) (u L:List (IT × Nat)) (k:Nat):List (List (IT × Nat)):=(List.range 7).map λd=>if d<k then ofD aa t L d else ofD aa t u d
@[simp] theorem zp6 (aa:List Dat) (t:VT) (u L:List (IT × Nat)) (k:Nat):(zbX aa t u L k).length=7:=by simp[zbX]
theorem zxw (aa:List Dat) (t:VT) (u L:List (IT × Nat)) (k:Nat) {d:Nat} (h:d<7):(zbX aa t u L k)[d]?=some (if d<k then ofD aa t L d else ofD aa t u d):=by simp[zbX,h]
theorem zGC (aa:List Dat) (t:VT) (u L:List (IT × Nat)):(zbX aa t u L 7).flatten=zbM aa t L 7:=by unfold zbX zbM;rw[List.flatMap_def];refine congrArg List.flatten (List.map_congr_left λd hd=>?_);rw[if_pos (by simpa using hd)]
theorem zGE {aa:List Dat} {t:VT} {u L:List (IT × Nat)} {k:Nat} (h:k<7):(zbX aa t u L k).set k (ofD aa t L k)=zbX aa t u L (k+1):=by
 refine List.ext_getElem (by simp) λi h1 h2=>?_;rw[List.getElem_set];simp only[zbX,List.getElem_map,List.getElem_range];split
 ·rename_i e;subst e;rw[if_pos (by omega)]
 ·rename_i e;by_cases hi:i<k
  ·rw[if_pos hi,if_pos (by omega)]
  ·rw[if_neg hi,if_neg (by omega)]
theorem zGD {aa:List Dat} {t:VT} {s L:List (IT × Nat)} {j d:Nat} (hj:j<s.length) (hd:d<7) (hr:rdV aa s[j].1 t=(d:Int)):(zbX aa t (s.take j) L 0).set d (ofD aa t (s.take j) d++[s[j]])=zbX aa t (s.take (j+1)) L 0:=by
 refine List.ext_getElem (by simp) λi h1 h2=>?_;rw[List.getElem_set];simp only[zbX,List.getElem_map,List.getElem_range,Nat.not_lt_zero,if_false];have aN:=zFi (aa:=aa) (t:=t) (d:=i) hj;split
 ·rename_i e;subst e;rw[aN,if_pos hr]
 ·rename_i e;rw[aN,if_neg (by omega),List.append_nil]
theorem zCY {H:zaa} {st:List (List (IT × Nat))} {k:Nat} {M r:List (IT × Nat)} (aA:st[k]?=some M) (hl:r.length=M.length) :
  (NX tmC zaB 5 H st).set (H.length+1+k) (.vec zaB 5 M.length (tms r))=NX tmC zaB 5 H (st.set k r):=by
 obtain⟨hk,hM⟩:=List.getElem?_eq_some_iff.1 aA;have h1:=zun tmC zaB 5 H [] st hk r;have hv:vcs (H.length+1) (st.set k r)=vcs (H.length+1) st:=by
  rw[←zqu,hl];refine List.ext_getElem? λi=>?_;rw[List.getElem?_set];split
  ·rename_i h;subst h;rw[if_pos (by simpa using hk),zqt _ aA]
  ·rfl
 simp only[List.append_nil]at h1;rw[hv]at h1;rw[←h1,hl,tms,List.flatMap_def];have hc:=zuk tmC zaB 5 H st;have eC:∀ (X:zaa) (i:Nat) (b:AB),X[i]?=some b→X.set i b=X:=λX i b hb=>by
  refine List.ext_getElem? λj=>?_;by_cases hj:i=j
  ·subst hj;rw[List.getElem?_set_self (zbc hb),hb]
  ·rw[List.getElem?_set_ne hj]
 exact (eC _ _ _ (by rw[List.getElem?_set_ne (by omega)];exact hc)).symm
theorem zxX {aa:List Dat} (hk:zbr aa) (t:VT) (ht:t.nodes≤1000) (hf:zbz aa t=true) (H:zaa) (is im iv:Nat) (s L:List (IT × Nat)) (hS:Sw H is im iv (.sl (aa.map Dat.cs) .none::t.cs) s)
  (hv:∀ p∈s,p.1.nodes≤900∧0<p.2∧p.2<1000000000 ^ 20∧0≤rdV aa p.1 t∧rdV aa p.1 t≤6) (hn:(s.map Prod.fst).Nodup) (h0:0<s.length) (hl:s.length≤100000)
  (hL:Asc L) (hLl:L.length≤100000) (dB:∀ p∈L,0<p.2) (cS:∀ g:IT→Nat,zaA g s=zaA g L) (K:Kt)
  (bk:1000<s.length→K (.tup [.sl [] .none,.int .i64 9]) H) (hK:s.length≤1000→K (.tup [.sl (zaH (zbM aa t L 7)) .none,.int .i64 0]) H):ACalls tP zjg [.ptr is 0] H K:=by
 refine ACalls.out (zRu λhs=>?_);obtain⟨T,hT⟩:∃ T,T=(AV.sl (aa.map Dat.cs) .none::t.cs):=⟨_,rfl⟩;rw[←hT]at hS;have hT4:T.length=4:=hS.c4;have eq:=hS.h1;have bm:=zbc eq;have dT:(T++[.map im,.ov iv s.length])[0]?=some (.sl (aa.map Dat.cs) .none):=by rw[hT];rfl
 have bH:List.take 3 (T++[AV.map im,AV.ov iv s.length]).tail=t.cs:=by rw[hT];obtain⟨t1,t2,t3⟩:=t;rfl
 have g9:(T++[.map im,.ov iv s.length])[5]?=some (.ov iv s.length):=by rw[List.getElem?_append_right (by omega),hT4];rfl
 have hrep:(List.replicate 7 [AV.snil]).flatten=List.replicate 7 AV.snil:=rfl;simp[zBI,zbp,hrep,zbF eq,zc0 _ g9,Nat.add_assoc];unfold zmP;refine ALoop.nx tmC zaB 5 7 ?_;show zmP (.ptr is 0) (.ms H.length 0 7 7) (.int .i64 0) (.ov iv s.length) (.int .i64 s.length) (.int .i64 0) (NX tmC zaB 5 H (List.replicate 7 [])) _;have hst0:List.replicate 7 []=zbX aa t (s.take 0) L 0:=by simp[zbX,ofD,List.range_succ,List.replicate]
 rw[hst0];have hscN:∀ st,HSc (NX tmC zaB 5 H st):=λst=>zCZ hs λx n=>by have:=zqk [x] n;simpa[tms]using this
 refine zRr (Inv:=λq t5 t17 H'=>∃ j:Nat,j≤s.length∧s.length-j=q∧t17=.int .i64 j∧t5=.int .i64 j∧H'=NX tmC zaB 5 H (zbX aa t (s.take j) L 0)) s.length ?_ ?_
 ·intro _;exact⟨0,by omega,rfl,rfl,rfl,rfl⟩
 ·rintro q t5 t17 H' ⟨j,hj,rfl,rfl,rfl,rfl⟩ aM am aP Kb ar;by_cases aV:j<s.length
  ·obtain⟨v1,v2,v3,v4,v5⟩:=hv _ (List.getElem_mem aV);obtain⟨d,hd⟩:∃ d:Nat,rdV aa s[j].1 t=d:=⟨(rdV aa s[j].1 t).toNat,by omega⟩;have hd7:d<7:=by omega
   have dY:=zGD (L:=L) aV hd7 hd;have aA:=zxw aa t (s.take j) L 0 hd7;simp only[Nat.not_lt_zero,if_false]at aA;have hol:(ofD aa t (s.take j) d).length≤100000:=Nat.le_trans zpC (by simp;omega);have dm:=zp6 aa t (s.take j) L 0;generalize hM:ofD aa t (s.take j) d=M at *;generalize aN:zbX aa t (s.take j) L 0=st at *;have kJ:=λJ=>zul (f:=tmC) (e:=zaB) (size:=5) (st:=st) hS.h3 J;have lW:=λJ=>zul (f:=tmC) (e:=zaB) (size:=5) (st:=st) hS.h1 J;have hiv0:=kJ [];rw[List.append_nil]at hiv0;have h5:=zx0 aV;have hb5:j*5+5≤s.length*5:=by omega
   simp[zmM,aV,hiv0,h5,hb5,zeN,Nat.add_assoc];refine⟨zeN _,?_⟩;have fC:Sm (s[j].2:Int):=zdq (Nat.lt_of_lt_of_le v3 (by decide));rw[zcd];refine zCr s[j].2 fC _ _ ?_;have hne0:s[j].2≠0:=by omega
   have lv:(NX tmC zaB 5 H st).length=H.length+8:=by rw[zes,dm]
   have aG:∀ J,(NX tmC zaB 5 H st++(AB.cells (tmC s[j])::J))[H.length+8]?=some (.cells (tmC s[j])):=λJ=>by rw[←lv];simp
   have iR:=λJ=>zuj tmC zaB 5 H J st;have i8:=λJ=>zui tmC zaB 5 H J aA;have gp:=zqt (H.length+1) aA;rw[lv];simp[hne0,lW,zc0 _ dT,bH,aG,zcn,zcd,hT4];refine zaC (.int .i64 d) (λJ=>zh9 aa hk t ht s[j].1 (by omega) _ _ ⟨by rw[←hd];unfold zbl;rw[if_pos hf],rfl⟩) ?_;have hd7':(d:Int)<7:=by omega
   simp[hd7',zak,iR,zc0 _ gp,aG,zcn,zcd];refine zaC (.agg s[j].1.cs) (λJ=>zTw _ s[j].1 (Nat.le_refl _) (by omega) _ _ ⟨rfl,rfl⟩) ?_;try simp[aG,zcd]
   refine zaC (.agg (zal (s[j].2:Int))) (λJ=>zTA _ fC _ _ ⟨rfl,rfl⟩) ?_;have i4:List.drop 5 (s[j].1.cs++[AV.bool false,.snil,.snil])=[]:=List.drop_of_length_le (by simp);have gm:∀ x∈s[j].1.cs,x.known=true:=List.all_eq_true.1 (IT.cs_known s[j].1);have i5:∀ x∈zal (s[j].2:Int),x.known=true:=List.all_eq_true.1 (zfj _);have cp:plain ([.int .i64 0,.snil,.bool false,.snil,.snil]:List AV)=some [.int .i64 0,.sl [] .none,.bool false,.sl [] .none,.sl [] .none]:=rfl;simp[zar,zaJ,i4];rw[show s[j].1.cs++zal (s[j].2:Int)=tmC s[j] from rfl];simp[zau,zaV,zhC,cp];simp only[zaw,zaL,zaI,i8];have cP:d<st.length:=by omega
   have aU:=zun tmC zaB 5 H [AB.cells (tmC s[j])] st cP (M++[s[j]]);have eJ:(M++[s[j]]).length=M.length+1:=by simp
   have hfm:(M++[s[j]]).flatMap tmC=M.flatMap tmC++tmC s[j]:=by simp
   rw[eJ,hfm,←zHT _ _ cP,eJ,dY]at aU;have hXc:=iR [AB.cells (tmC s[j])];have hXb:=i8 [AB.cells (tmC s[j])];generalize hX:NX tmC zaB 5 H st++[AB.cells (tmC s[j])]=X at *;have cC:=zbc hXb;have g2:∀ v,(X.set (H.length+1+d) v)[H.length]?=some (.cells (vcs (H.length+1) st)):=λv=>by rw[List.getElem?_set_ne (by omega)];exact hXc
   simp[g2];refine⟨⟨by omega,by omega⟩,by omega,?_⟩;rw[aU];simp[ztl,zBJ,wi j (by omega)];exact ar _ _ ⟨s.length-(j+1),by omega,Back.at (J:=[.cells (tmC s[j])]) (H2:=NX tmC zaB 5 H (zbX aa t (s.take (j+1)) L 0)) rfl (by simp[zes]) (hscN _) (by
    have h3:=zbc hS.h3;simp[zmO,ux,AV.sc,AV.scA,AV.scB,AV.scV,zes];omega) ⟨_,_,rfl,j+1,by omega,rfl,rfl,rfl,rfl⟩⟩
  ·obtain rfl:j=s.length:=by omega
   rw[List.take_length]at *;by_cases c6:1000<s.length
   ·have cB:(1000:Int)<(s.length:Int):=by omega
    simp[zmM,cB];obtain⟨J,hJ⟩:=zum tmC zaB 5 H (zbX aa t s L 0);rw[←hJ];exact⟨⟨rfl,rfl⟩,Out.tup (bs:=[.sl [] .none,.int .i64 9]) hs (bk c6) ⟨zdr,zaW rfl rfl,trivial⟩⟩
   ·have cB:¬ (1000:Int)<(s.length:Int):=by omega
    simp[zmM,cB];refine zRq (Inv:=λq t59 H'=>∃ k:Nat,k≤7∧7-k=q∧t59=.int .i64 k∧H'=NX tmC zaB 5 H (zbX aa t s L k)) 7 ?_ ?_
    ·intro _;exact⟨0,by omega,rfl,rfl,rfl⟩
    ·rintro q t59 H' ⟨k,hk7,rfl,rfl,rfl⟩ hsc14 hlen14 hsF14 Kb14 hKb14;by_cases ak:k<7
     ·have aO:(k:Int)<7:=by omega
      have aA:=zxw aa t s L k ak;simp only[Nat.lt_irrefl,if_false]at aA;have aN:=zGE (aa:=aa) (t:=t) (u:=s) (L:=L) ak;have dm:=zp6 aa t s L k;obtain⟨M,hM⟩:∃ M,M=ofD aa t s k:=⟨_,rfl⟩;obtain⟨st,cw⟩:∃ st,st=zbX aa t s L k:=⟨_,rfl⟩;rw[←hM]at aA;rw[←cw]at aA aN dm hsF14 hsc14 ⊢;have iR:=zuk tmC zaB 5 H st;have gp:=zqt (H.length+1) aA;have i8:=zui tmC zaB 5 H [] aA;rw[List.append_nil]at i8;have hMl:M.length≤100000:=by rw[hM];exact Nat.le_trans zpC (by omega)
      simp[ztk,aO,iR,zc0 _ gp];refine zGL (b:=H.length+1+k) (l:=M) (by rw[i8,tms,List.flatMap_def]) (by omega) (λp hp=>by
       rw[hM]at hp;have:=hv p (List.mem_filter.1 hp).1;omega) _ λr fD eu=>?_
      have hre:r=ofD aa t L k:=zDz (by rw[←hM];exact fD) eu hn (λp hp=>(hv p hp).2.1) hL dB cS;have eK:r.length=M.length:=fD.length_eq;rw[zCY aA eK,hre,aN,wi k (by omega)];exact hKb14 _ _ ⟨7-(k+1),by omega,Back.at (J:=[]) (H2:=NX tmC zaB 5 H (zbX aa t s L (k+1))) (by simp) (by simp[zes]) (hscN _) (by simp[zmN,ux,AV.sc,AV.scA,AV.scB,AV.scV,zes];try omega) ⟨_,rfl,k+1,by omega,rfl,rfl,rfl⟩⟩
     ·obtain rfl:k=7:=by omega
      have dV:=zGC aa t s L;have bX:=zGy (zbX aa t s L 7);simp[ztk];rw[zp6,dV]at bX;have hrg:∀ p∈L,0≤rdV aa p.1 t∧rdV aa p.1 t≤6:=λp hp=>by obtain⟨q,hq,he⟩:=zec (λg=>(cS g).symm) hp (dB p hp);have:=hv q hq;rw[←he];omega
      have cg:=zpD (aa:=aa) (t:=t) (s:=L) 7;have bU:0<(zbM aa t L 7).length:=by
       have h1:=zFx hrg (λ_=>1);have h2:=cS (λ_=>1);rw[zcJ,zcJ]at h1;cases ho:zbM aa t L 7 with
       | nil=>
        rw[ho,zgj]at h1;cases fk:s with
        | nil=>rw[fk]at h0;simp at h0
        | cons p s'=>have:=(hv p (by rw[fk];simp)).2.1;rw[fk,zba]at h2;omega
       | cons p o=>simp
      refine bX bU (by omega) (by omega) H _ ?_;obtain⟨J,hJ⟩:=zum tmC zaB 5 H (zbX aa t s L 7);rw[←hJ];exact⟨⟨rfl,rfl⟩,Out.tup (bs:=[.sl (zaH (zbM aa t L 7)) .none,.int .i64 0]) hs (hK (by omega)) ⟨zaW rfl rfl,zaW rfl rfl,trivial⟩⟩
end Go.Proofs.YtdmamdnkcefmmaaGreatDoor
namespace Go.Proofs.YtdmamdnkcefmmaaGreatDoor
open Go Go.Abs
set_option maxRecDepth 100000
section
variable (t0 t1 t2 t3 t12 t13:AV) (H:zaa) (K:Kt) (Kb4:Lt)
def zIR (_:Nat):List Bool:=[]
noncomputable def zIS:Code:=Tryz.f12.body.getD .skip
def zyD:Prop:=zav t1 H λt5 H=>zav t2 H λt6 H=>zav t3 H λt7 H=>zab H (λK'=>K' t0 H) λt13=>zab H (λK'=>zak true 3 t5 H (K' · H)) λt14=>zab H (λK'=>zak true 2 t6 H (K' · H)) λt15=>zaE H (λH K'=>ACalls tP zf4 [t13,t14,t15] H K') λt16=>zab H (λK'=>K' t0 H) λt17=>zab H (λK'=>zak true 3 t5 H (K' · H)) λt18=>zab H (λK'=>zak true 2 t7 H (K' · H)) λt19=>zaE H (λH K'=>ACalls tP zf4 [t17,t18,t19] H K') λt20=>zab H (λK'=>K' t16 H) λt10=>zab H (λK'=>K' t20 H) λt11=>zac .lss false t10 (.int .i64 0) λt22=>zad t22 false H (λK'=>K' t11 H) λt24 H=>zad t22 false H (λK'=>zac .lss false t24 (.int .i64 0) (K' · H)) λt25 H=>zaj t22 (.bool true) t25 λt26=>zag t26 (zaD [.snil,(.int .i64 1)] (K · H)) (zac .add false t10 t11 λt29=>zac .gtr false t29 (.int .i64 6) λt30=>zag t30 (zaD [.snil,(.int .i64 13)] (K · H)) (zae true 3 t5 H λt32=>ACalls tP zhl [t0,t32] H λt33 H=>zae true 3 t5 H λt36=>zae true 2 t6 H λt37=>zae true 2 t7 H λt38=>ACalls tP zhn [t0,t36,t37,t38] H λt39 H=>ACalls tP zhm [t33,t39] H λt40 H=>ACalls tP zjg [t33] H λt42 H=>zaz t42 0 λt43=>zaz t42 1 λt44=>zaD [t43,t44] (K · H)))
def zTQ (_:Nat):List Bool:=[]
noncomputable def zTR:Code:=Tryz.f10.body.getD .skip
def zq8:Prop:=zav t1 H λt3 H=>ACalls tP zpo [t0] H λt6 H=>zad t6 true H (λK'=>zae true 3 t3 H (K' · H)) λt8 H=>zad t6 true H (λK'=>ACalls tP zpp [t8] H K') λt9 H=>zaj t6 t9 (.bool false) λt10=>K t10 H
def zKA (_:Nat):List Bool:=[]
noncomputable def zKB:Code:=Tryz.f15.body.getD .skip
def zzb:Prop:=zar [(.int .i64 0),(.int .i64 0),.snil] [(0,1),(1,1),(2,1)] [(0,(.int .i64 1))] λt4=>zau 3 [(.int .i64 0),(.int .i64 0),.snil] 1 [(0,t4)] λt5=>zar [(.int .i64 0),(.int .i64 0),.snil] [(0,1),(1,1),(2,1)] [(0,(.int .i64 7)),(2,t5)] λt6=>zax [(.int .i64 0),(.int .i64 0),.snil] H λt1 H=>zan 3 t1 t6 H λH=>zae true 3 t1 H λt8=>zar [(.int .i64 0),.snil] [(0,1),(1,1)] [(0,(.int .i64 1))] λt9=>zar [(.int .i64 0),.snil] [(0,1),(1,1)] [(0,(.int .i64 1))] λt10=>ACalls tP ziK [.snil,t8,t9,t10] H λt11 H=>zaz t11 0 λt12=>zaz t11 1 λt13=>zab H (λK'=>K' t13 H) λt14=>zab H (λK'=>zac .eql false t14 (.int .i64 0) (K' · H)) λt15=>zab H (λK'=>K' t15 H) λt16=>zad t16 true H (λK'=>zab H (λK''=>K'' t12 H) (K' · H)) λt17 H=>zad t16 true H (λK'=>zab H (λK''=>zah 1 t17 (K'' · H)) (K' · H)) λt18 H=>zad t16 true H (λK'=>zab H (λK''=>zac .eql false t18 (.int .i64 2) (K'' · H)) (K' · H)) λt19 H=>zab H (λK'=>zaj t16 t19 (.bool false) (K' · H)) λt20=>zab H (λK'=>K' t20 H) λt21=>zad t21 true H (λK'=>zab H (λK''=>K'' t12 H) (K' · H)) λt22 H=>zad t21 true H (λK'=>zab H (λK''=>zai 5 t22 (.int .i64 1) (K'' · H)) (K' · H)) λt23 H=>zad t21 true H (λK'=>zab H (λK''=>zaf 0 t23 (K'' · H)) (K' · H)) λt24 H=>zad t21 true H (λK'=>zab H (λK''=>zaf 0 t24 (K'' · H)) (K' · H)) λt25 H=>zad t21 true H (λK'=>zab H (λK''=>zak false 1 t25 H (K'' · H)) (K' · H)) λt26 H=>zad t21 true H (λK'=>zab H (λK''=>zac .eql false t26 (.int .i64 2) (K'' · H)) (K' · H)) λt27 H=>zab H (λK'=>zaj t21 t27 (.bool false) (K' · H)) λt28=>zab H (λK'=>K' t28 H) λt29=>zad t29 true H (λK'=>zab H (λK''=>K'' t12 H) (K' · H)) λt30 H=>zad t29 true H (λK'=>zab H (λK''=>zai 5 t30 (.int .i64 1) (K'' · H)) (K' · H)) λt31 H=>zad t29 true H (λK'=>zab H (λK''=>zaf 2 t31 (K'' · H)) (K' · H)) λt32 H=>zad t29 true H (λK'=>zab H (λK''=>zak true 3 t32 H (K'' · H)) (K' · H)) λt33 H=>zad t29 true H (λK'=>zaE H (λH K''=>ACalls tP zpn [(.int .i64 2)] H K'') (K' · H)) λt34 H=>zad t29 true H (λK'=>zaE H (λH K''=>ACalls tP zi2 [t33,t34] H K'') (K' · H)) λt35 H=>zab H (λK'=>zaj t29 t35 (.bool false) (K' · H)) λt36=>zab H (λK'=>K' t36 H) λt0=>K t0 H
def zkJ:Nat→List Bool | 4=>rl false [0,2,10,2,29] | _=>[]
noncomputable def zq7:Code:=Tryz.f14.body.getD .skip
noncomputable def zJV:List ResultVar:=Tryz.f14.results.toList
def zkK:List AV:=t0::t1::ux 10 (t12::t13::ux 29 [])
def zJT:List Bool:=zkJ 4
noncomputable def zJR:Code:=zaq [1,1,0,1,0,0] zq7
def zJQ:AExit→List AV→zaa→Prop:=zas tP zkJ [1,1,0,1,0] zq7 (zay tP zJV K)
def zy9:Prop:=ALoop tP zJR (zJQ K) (zkK t0 t1 t12 t13) H
def zq6:Prop:=zac .lss false t13 t12 λt14=>zag t14 (zab H (λK'=>K' t0 H) λt16=>zab H (λK'=>K' t13 H) λt17=>zab H (λK'=>zai 5 t16 t17 (K' · H)) λt18=>zab H (λK'=>zaf 0 t18 (K' · H)) λt19=>zab H (λK'=>zak true 2 t19 H (K' · H)) λt20=>zab H (λK'=>K' t1 H) λt21=>zab H (λK'=>K' t13 H) λt22=>zab H (λK'=>zai 5 t21 t22 (K' · H)) λt23=>zab H (λK'=>zaf 0 t23 (K' · H)) λt24=>zab H (λK'=>zak true 2 t24 H (K' · H)) λt25=>zaE H (λH K'=>ACalls tP zfg [t20,t25] H K') λt26=>zab H (λK'=>aUn .not t26 (K' · H)) λt27=>zab H (λK'=>K' t27 H) λt28=>zad t28 false H (λK'=>zab H (λK''=>K'' t0 H) (K' · H)) λt29 H=>zad t28 false H (λK'=>zab H (λK''=>K'' t13 H) (K' · H)) λt30 H=>zad t28 false H (λK'=>zab H (λK''=>zai 5 t29 t30 (K'' · H)) (K' · H)) λt31 H=>zad t28 false H (λK'=>zab H (λK''=>zaf 2 t31 (K'' · H)) (K' · H)) λt32 H=>zad t28 false H (λK'=>zab H (λK''=>zak true 3 t32 H (K'' · H)) (K' · H)) λt33 H=>zad t28 false H (λK'=>zab H (λK''=>K'' t1 H) (K' · H)) λt34 H=>zad t28 false H (λK'=>zab H (λK''=>K'' t13 H) (K' · H)) λt35 H=>zad t28 false H (λK'=>zab H (λK''=>zai 5 t34 t35 (K'' · H)) (K' · H)) λt36 H=>zad t28 false H (λK'=>zab H (λK''=>zaf 2 t36 (K'' · H)) (K' · H)) λt37 H=>zad t28 false H (λK'=>zab H (λK''=>zak true 3 t37 H (K'' · H)) (K' · H)) λt38 H=>zad t28 false H (λK'=>zaE H (λH K''=>ACalls tP zi2 [t33,t38] H K'') (K' · H)) λt39 H=>zad t28 false H (λK'=>zab H (λK''=>aUn .not t39 (K'' · H)) (K' · H)) λt40 H=>zab H (λK'=>zaj t28 (.bool true) t40 (K' · H)) λt41=>zag t41 (K (.bool false) H) (zac .add false t13 (.int .i64 1) λt42=>Kb4 (zkK t0 t1 t12 t42) H)) (K (.bool true) H)
def zyY:Prop:=zah 1 t0 λt7=>zah 1 t1 λt9=>zac .neq false t7 t9 λt10=>zag t10 (K (.bool false) H) (zah 1 t0 λt12=>zy9 t0 t1 t12 (.int .i64 0) H K)
variable {t0 t1 t2 t3 t12 t13} {H} {K} {Kb4}
theorem zIT (h:HSc H→zyD t0 t1 t2 t3 H K):ACalls tP ziK [t0,t1,t2,t3] H K:=
 acb zIR Tryz.func12 zIS (by kernel_rfl) (by kernel_rfl) h
theorem zTS (h:HSc H→zq8 t0 t1 H K):ACalls tP zpy [t0,t1] H K:=
 acb zTQ Tryz.func10 zTR (by kernel_rfl) (by kernel_rfl) h
theorem zKC (h:HSc H→zzb H K):ACalls tP zoQ [] H K:=
 acb zKA Tryz.func15 zKB (by kernel_rfl) (by kernel_rfl) h
theorem zJS (Inv:Nat→AV→zaa→Prop) (n:Nat) (h0:HSc H→Inv n t13 H)
  (ac:Rd1 (λt13=>zkK t0 t1 t12 t13) (λt13=>λH Kb4=>zq6 t0 t1 t12 t13 H K Kb4) H Inv):zy9 t0 t1 t12 t13 H K:=
 lp1 (M:=zkJ) zJT t13 (by kernel_rfl) Inv n h0 ac
theorem zJU (h:HSc H→zyY t0 t1 H K):ACalls tP zoJ [t0,t1] H K:=
 acb zkJ Tryz.func14 zq7 (by kernel_rfl) (by kernel_rfl) h
end
end Go.Proofs.YtdmamdnkcefmmaaGreatDoor
namespace Go.Proofs.YtdmamdnkcefmmaaGreatDoor
open Go Go.Abs
theorem zvy:∀ n,0<fct n
 | 0=>by simp[fct]
 | n+1=>by have:=zvy n;unfold fct;exact Nat.mul_pos (by omega) this
theorem zwS (b k:Nat) (h:k≤b):pcf 0 b k=if k=b then 1 else 0:=by
 unfold pcf;by_cases hk:k=b
 ·subst hk;have:=zvy k;simp[fct];exact Nat.div_self this
 ·rw[if_neg (by omega),if_neg hk]
theorem zFK (a b k:Nat):pcf a b k=pcf b a k:=by unfold pcf;rw[Nat.max_comm,Nat.add_comm a b,Nat.mul_comm (fct (k-a)) (fct (k-b))]
theorem zEn (g:Nat→Nat):∀ n,(∀ k<n,g k=0)→((List.range n).map λk:Nat=>((IT.mk (k:Int) [],g k):IT × Nat)).filter (λp=>p.2 != 0)=[]
 | n,h=>by rw[List.filter_eq_nil_iff];intro p hp;obtain⟨k,hk,rfl⟩:=List.mem_map.1 hp;simp[h k (by simpa using hk)]
theorem zDy (b:Nat):(zbw 0 b).filter (λp=>p.2 != 0)=[(.mk (b:Int) [],1)]:=by unfold zbw;rw[Nat.zero_add,List.range_succ,List.map_append,List.filter_append,zEn _ b λk hk=>by rw[zwS b k (by omega),if_neg (by omega)]];simp[zwS b b (Nat.le_refl _)]
theorem zDx (a b:Nat):zbw a b=zbw b a:=by unfold zbw;rw[Nat.add_comm a b];refine List.map_congr_left λk _=>?_;rw[zFK]
theorem zpW {aa:List Dat} {f:Nat} {ts:List VT} {l m r:List IT} (hl:r.length=ts.length)
  (h:∀ k (h1:k<ts.length) (h2:k<r.length),zaQ aa f ts[k] (l.getD k d0) (m.getD k d0)=[(r[k],1)]):∀ k,k≤ts.length→zcb aa f ts l m k=[(r.take k,1)]
 | 0,_=>by simp[zjO]
 | k+1,hk=>by
  have h1:k<ts.length:=by omega
  have h2:k<r.length:=by omega
  have e:ts.getD k tz=ts[k]:=by simp[List.getD_eq_getElem?_getD,h1]
  rw[zhG,zpW hl h k (by omega),e,h k h1 h2,List.take_succ_eq_append_getElem h2];rfl
theorem zyA {ts:List VT} {k:Nat} (h:k<ts.length):(za9 ts).getD k d0=zaG ts[k]:=by rw[zdH];simp[List.getD_eq_getElem?_getD,h]
theorem zH0 (ts:List VT):(za9 ts).length=ts.length:=by rw[zdH];simp
theorem zoF {aa:List Dat}:∀ (f:Nat) (t:VT) (i:IT),(zaG t).nodes+i.nodes≤f→0≤rdV aa i t→zaQ aa f t (zaG t) i=[(i,1)]∧zaQ aa f t i (zaG t)=[(i,1)]
 | 0,t,i,h,_=>by have:=i.nodes_pos;omega
 | f+1,.mk k tn tks,.mk n l,h,hi=>by
  rw[zpR]at hi;rw[zaG]at h ⊢;simp only[IT.nodes]at h;by_cases h6:k=6
  ·subst h6;simp only[if_true]at hi h ⊢;by_cases hn:n=0;case neg=>rw[if_neg hn]at hi;omega
   subst hn;simp only[if_true]at hi;by_cases hl:tks.length=l.length;case neg=>rw[if_neg hl]at hi;omega
   rw[if_pos hl]at hi;have iu:=(zfk (aa:=aa) l tks 0 (by omega) hl.symm hi).1;cases f with
   | zero=>omega
   | succ f=>
    have key:∀ k (h1:k<tks.length) (h2:k<l.length),zaQ aa f tks[k] (zaG tks[k]) l[k]=[(l[k],1)]∧zaQ aa f tks[k] l[k] (zaG tks[k])=[(l[k],1)]:=λk h1 h2=>by
     refine zoF f tks[k] l[k] ?_ (iu k h2 h1);have:=zdB h2;have hz:k<(za9 tks).length:=by rw[zH0];exact h1
     have:=zdB hz;have he:(za9 tks)[k]=zaG tks[k]:=by simp[zdH]
     rw[he]at this;omega
    have gl:∀ k (h:k<l.length),l.getD k d0=l[k]:=λk h=>by simp[List.getD_eq_getElem?_getD,h]
    rw[zaQ,zaQ];simp only[VT.kind,VT.kids,zaF,if_true];rw[zgf,zgf,zpW (r:=l) hl.symm (λk h1 h2=>by rw[zyA h1,gl k h2];exact (key k h1 h2).1) _ (Nat.le_refl _),
     zpW (r:=l) hl.symm (λk h1 h2=>by rw[zyA h1,gl k h2];exact (key k h1 h2).2) _ (Nat.le_refl _),hl,List.take_length]
    simp
  ·simp only[h6,if_false]at hi h ⊢;rw[zaQ,zaQ];simp only[VT.kind,h6,if_false,zaF,zaU];by_cases h7:k=7
   ·subst h7;simp only[if_true]at hi ⊢;by_cases hc:0≤n∧n≤6∧l.length=0;case neg=>rw[if_neg hc]at hi;omega
    obtain⟨c1,c2,c3⟩:=hc;obtain rfl:=List.eq_nil_of_length_eq_zero c3;obtain⟨b,rfl⟩:∃ b:Nat,n=b:=⟨n.toNat,by omega⟩;have e0:(0:Int).toNat=0:=rfl;rw[e0,Int.toNat_natCast,zDx b 0,zDy];exact⟨rfl,rfl⟩
   ·simp only[h7,if_false]at hi ⊢;by_cases h5:k=5
    ·subst h5;simp only[if_true]at hi ⊢;by_cases hc:n=0∧l.length≤6;case neg=>rw[if_neg hc]at hi;omega
     obtain⟨rfl,_⟩:=hc;cases f with
     | zero=>omega
     | succ f=>cases l <;> simp[za0]
    ·simp only[h5,if_false]at hi ⊢;by_cases hc:n=0∧l.length=0;case neg=>rw[if_neg hc]at hi;omega
     obtain⟨rfl,c⟩:=hc;obtain rfl:=List.eq_nil_of_length_eq_zero c;exact⟨rfl,rfl⟩
theorem zwa {aa:List Dat}:∀ (f:Nat) (t:VT) (l m:List IT),IT.nodesL l+IT.nodesL m+1≤f→za0 aa f t l m≠[]
 | 0,_,_,_,h=>by omega
 | f+1,t,[],m,h=>by simp[za0]
 | f+1,t,a::l,[],h=>by simp[za0]
 | f+1,t,a::l,b::m,h=>by have na:=a.nodes_pos;simp only[IT.nodesL]at h;have:=zwa (aa:=aa) f t l (b::m) (by simp only[IT.nodesL];omega);rw[za0];simp[this]
theorem zFM:∀ a<7,∀ b<7,pcf a b (max a b)≠0:=by decide
theorem zxc {aa:List Dat} {f:Nat} {ts:List VT} {l m:List IT} (h:∀ k,k<ts.length→zaQ aa f (ts.getD k tz) (l.getD k d0) (m.getD k d0)≠[]):∀ k,k≤ts.length→zcb aa f ts l m k≠[]
 | 0,_=>by simp[zjO]
 | k+1,hk=>by
  have h1:=zxc h k (by omega);have h2:=h k (by omega);rw[zhG];generalize zcb aa f ts l m k=out at *;generalize zaQ aa f (ts.getD k tz) (l.getD k d0) (m.getD k d0)=ws at *;cases out with
  | nil=>exact absurd rfl h1
  | cons r out=>
   cases ws with
   | nil=>exact absurd rfl h2
   | cons w ws=>simp[zbT]
theorem zwe {aa:List Dat}:∀ (f:Nat) (t:VT) (i j:IT),i.nodes+j.nodes≤f→0≤rdV aa i t→0≤rdV aa j t→zaQ aa f t i j≠[]
 | 0,t,i,j,h,_,_=>by have:=i.nodes_pos;omega
 | f+1,.mk k tn tks,.mk n l,.mk n' m,h,hi,hj=>by
  rw[zpR]at hi hj;simp only[IT.nodes]at h;rw[zaQ];simp only[VT.kind,VT.kids,zaF,zaU];by_cases h6:k=6
  ·subst h6;simp only[if_true]at hi hj ⊢;by_cases hn:n=0;case neg=>rw[if_neg hn]at hi;omega
   by_cases bM:n'=0;case neg=>rw[if_neg bM]at hj;omega
   rw[if_pos hn]at hi;rw[if_pos bM]at hj;by_cases hl:tks.length=l.length;case neg=>rw[if_neg hl]at hi;omega
   by_cases hm:tks.length=m.length;case neg=>rw[if_neg hm]at hj;omega
   rw[if_pos hl]at hi;rw[if_pos hm]at hj;have ii:=(zfk (aa:=aa) l tks 0 (by omega) hl.symm hi).1;have ij:=(zfk (aa:=aa) m tks 0 (by omega) hm.symm hj).1;cases f with
   | zero=>omega
   | succ f=>
    rw[zgf];have:=zxc (aa:=aa) (f:=f) (ts:=tks) (l:=l) (m:=m) (λk hk=>by
     have h1:k<l.length:=by omega
     have h2:k<m.length:=by omega
     have n1:=zdB h1;have n2:=zdB h2;have e1:tks.getD k tz=tks[k]:=by simp[List.getD_eq_getElem?_getD,hk]
     have e2:l.getD k d0=l[k]:=by simp[List.getD_eq_getElem?_getD,h1]
     have e3:m.getD k d0=m[k]:=by simp[List.getD_eq_getElem?_getD,h2]
     rw[e1,e2,e3];exact zwe f tks[k] l[k] m[k] (by omega) (ii k h1 hk) (ij k h2 hk)) tks.length (Nat.le_refl _)
    simp[this]
  ·simp only[h6,if_false]at hi hj ⊢;by_cases h7:k=7
   ·subst h7;simp only[if_true]at hi hj ⊢;by_cases hc:0≤n∧n≤6∧l.length=0;case neg=>rw[if_neg hc]at hi;omega
    by_cases ji:0≤n'∧n'≤6∧m.length=0;case neg=>rw[if_neg ji]at hj;omega
    have hp:=zFM n.toNat (by omega) n'.toNat (by omega);intro he;rw[List.filter_eq_nil_iff]at he;have:=he (.mk ((max n.toNat n'.toNat:Nat):Int) [],pcf n.toNat n'.toNat (max n.toNat n'.toNat)) (by
     unfold zbw;exact List.mem_map.2 ⟨max n.toNat n'.toNat,by simp;omega,rfl⟩)
    simp at this;exact hp this
   ·simp only[h7,if_false]at hi hj ⊢;by_cases h5:k=5
    ·subst h5;simp only[if_true]at hi hj ⊢;have:=zwa (aa:=aa) f (.mk 5 tn tks) l m (by omega);simp[this]
    ·simp[h5]
theorem zwf {aa:List Dat} {t:VT} {i j:IT} {f:Nat} (h:i.nodes+j.nodes≤f) (hi:0≤rdV aa i t) (hj:0≤rdV aa j t):0<zaA (λ_=>1) (zaQ aa f t i j):=by
 have h1:=zwe f t i j h hi hj;have h2:=(zga aa f).1 t i j;generalize zaQ aa f t i j=s at *;cases s with
 | nil=>exact absurd rfl h1
 | cons p s=>have:=h2 p (by simp);rw[zba];omega
def zdz (aa:List Dat) (t:VT) (i j:IT):AV:=
 if zbl aa t i<0∨zbl aa t j<0 then .tup [.sl [] .none,.int .i64 1] else if 6<zbl aa t i+zbl aa t j then .tup [.sl [] .none,.int .i64 13]
 else .tup [.sl (zaH (zbM aa t (zbR aa (i.nodes+j.nodes) t i j) 7)) .none,.int .i64 0]
theorem zoC {aa:List Dat} {t:VT} {i j:IT} (h:zbl aa t i<0∨zbl aa t j<0):zdz aa t i j=.tup [.sl [] .none,.int .i64 1]:=if_pos h
theorem zdx {aa:List Dat} {t:VT} (hf:zbz aa t=true) (i:IT):zbl aa t i=rdV aa i t:=by unfold zbl;rw[if_pos hf]
theorem zoD {aa:List Dat} {t:VT} {i j:IT} (hf:zbz aa t=true) (h1:0≤rdV aa i t) (h2:0≤rdV aa j t) (h6:rdV aa i t+rdV aa j t>6):zdz aa t i j=.tup [.sl [] .none,.int .i64 13]:=by unfold zdz;rw[zdx hf,zdx hf,if_neg (by omega),if_pos (by omega)]
theorem zoB {aa:List Dat} {t:VT} {i j:IT} (hf:zbz aa t=true) (h1:0≤rdV aa i t) (h2:0≤rdV aa j t) (h6:rdV aa i t+rdV aa j t≤6):zdz aa t i j=.tup [.sl (zaH (zbM aa t (zbR aa (i.nodes+j.nodes) t i j) 7)) .none,.int .i64 0]:=by unfold zdz;rw[zdx hf,zdx hf,if_neg (by omega),if_neg (by omega)]
theorem ztb (aa:List Dat) (T:VT) (H:zaa) (K:Kt) (hK:K (.ptr (H.length+2) 0) (H++[.cells T.cs,.map [],.cells (.sl (aa.map Dat.cs) .none::T.cs++[.map (H.length+1),.snil])])) :
  ACalls tP zhl [.sl (aa.map Dat.cs) .none,.agg T.cs] H K:=by
 refine zQ2 λhs=>?_;obtain⟨x,y,z,az,hx,hy,hz⟩:=zbh T;simp[zBF,az,zdM,zar,zaJ,AV.known,Nat.add_assoc];rw[az]at hK;simpa using hK
theorem zqO {aa:List Dat} (hk:zbr aa) (t:VT) (ht:t.nodes≤250) (i j:IT) (hi:i.nodes≤100) (hj:j.nodes≤100) (H:zaa) (K:Kt) (hK:K (zdz aa t i j) H) :
  ACalls tP ziK [.sl (aa.map Dat.cs) .none,.agg t.cs,.agg i.cs,.agg j.cs] H K:=by
 refine ACalls.out (zIT λhs=>?_);have hO:∀ (e:Int) J,zdz aa t i j=.tup [.sl [] .none,.int .i64 e]→Out H.length K (.tup [.snil,.int .i64 e]) (H++J):=λe J he=>Out.tup (bs:=[.sl [] .none,.int .i64 e]) hs (by rw[←he];exact hK) ⟨zdr,zaW rfl rfl,trivial⟩;obtain⟨x,y,z,az,hx,hy,hz⟩:=zbh t;obtain⟨x2,y2,aF,bh,eW⟩:=zc5 i;obtain⟨x3,y3,di,bK,hy3⟩:=zc5 j;simp[zyD,az,aF,di,Nat.add_assoc];rw[←az,←aF,←di];refine zaC (.int .i64 (zbl aa t i)) (λJ=>zh9 aa hk t (by omega) i (by omega) _ _ ⟨rfl,rfl⟩) ?_;refine zaC (.int .i64 (zbl aa t j)) (λJ=>zh9 aa hk t (by omega) j (by omega) _ _ ⟨rfl,rfl⟩) ?_;by_cases h1:zbl aa t i<0
 ·simp[h1];exact⟨⟨rfl,rfl⟩,hO 1 _ (zoC (.inl h1))⟩
 ·by_cases h2:zbl aa t j<0
  ·simp[h1,h2];exact⟨⟨rfl,rfl⟩,hO 1 _ (zoC (.inr h2))⟩
  ·have hf:zbz aa t=true:=by
    unfold zbl at h1;by_cases h:zbz aa t=true
    ·exact h
    ·rw[if_neg h]at h1;omega
   have e1:=zdx hf i;have e2:=zdx hf j;rw[e1]at h1 ⊢;rw[e2]at h2 ⊢;have h8:=ze4 hf;obtain⟨hD,eX⟩:zbx aa=true∧za1 aa 0 t=true:=by unfold zbz at hf;simpa using hf
   have r1:=zgd (h8:=h8) i t;have r2:=zgd (h8:=h8) j t;have w:IntKind.i64.wrap (rdV aa i t+rdV aa j t)=rdV aa i t+rdV aa j t:=zat (by omega) (by omega);by_cases h6:rdV aa i t+rdV aa j t>6
   ·have cR:6<rdV aa i t+rdV aa j t:=h6;simp[h1,h2,w,cR];exact⟨⟨rfl,rfl⟩,hO 13 _ (zoD hf (by omega) (by omega) h6)⟩
   ·have cR:¬ (6<rdV aa i t+rdV aa j t):=h6;simp[h1,h2,w,cR,az,aF,di,Nat.add_assoc];rw[←az,←aF,←di];rw[zoB hf (by omega) (by omega) (by omega)]at hK;refine ztb aa t _ _ ?_;simp[az,aF,di,Nat.add_assoc];rw[←az,←aF,←di];refine (zoE hk h8 hD (i.nodes+j.nodes)).1 t i j (by omega) (by omega) eX (by omega) (by omega) (by omega) (by omega) _ _ ?_;obtain⟨W,hW⟩:∃ W,W=zaQ aa (i.nodes+j.nodes) t i j:=⟨_,rfl⟩;obtain⟨P1,P2,P3,P4⟩:=zfQ h8 (f:=i.nodes+j.nodes) (t:=t) (i:=i) (j:=j) (Nat.le_refl _) (by omega) (by omega) (by omega);have lY:=zwf (aa:=aa) (t:=t) (i:=i) (j:=j) (Nat.le_refl _) (by omega) (by omega);have gI:=(zfs aa (i.nodes+j.nodes)).1 t i j;obtain⟨L,hL⟩:∃ L,L=zbR aa (i.nodes+j.nodes) t i j:=⟨_,rfl⟩;obtain⟨R1,R2⟩:=(zea h8 (i.nodes+j.nodes)).1 t i j (by omega) (by omega) (by omega) (by omega);have jU:=zwb aa (i.nodes+j.nodes) t i j;rw[←hW]at P1 P2 P3 P4 lY gI ⊢;rw[←hL]at hK R1 R2 gI jU
    replace R2:=Nat.le_trans R2 (zeh (by omega))
    have Rl:=zou λp hp=>(R1 p hp).1;have hg5:(H++[AB.cells t.cs,.cells i.cs,.cells j.cs,.cells t.cs,.map [],.cells [.sl (aa.map Dat.cs) .none,x,y,z,.map (H.length+4),.snil]])[H.length+5]?=some (.cells [.sl (aa.map Dat.cs) .none,x,y,z,.map (H.length+4),.snil]):=by simp[List.getElem?_append]
    refine ACalls.ovC (id:=H.length+5) (j:=5) zaB 5 hg5 rfl ?_;have kO:Sw (H++[AB.cells t.cs,.cells i.cs,.cells j.cs,.cells t.cs,.map [],.cells [.sl (aa.map Dat.cs) .none,x,y,z,.map (H.length+4),.ov (H.length+6) 0],.vec zaB 5 0 []]) (H.length+5) (H.length+4) (H.length+6) (.sl (aa.map Dat.cs) .none::t.cs) []:=
     ⟨by rw[az];rfl,by omega,by omega,by omega,by rw[az];simp[List.getElem?_append],by simp[List.getElem?_append,kvS],by simp[List.getElem?_append,tms]⟩
    have dJ:(H++[AB.cells t.cs,.cells i.cs,.cells j.cs,.cells t.cs,.map [],.cells [.sl (aa.map Dat.cs) .none,x,y,z,.map (H.length+4),.snil]]).set (H.length+5) (.cells ([AV.sl (aa.map Dat.cs) .none,x,y,z,.map (H.length+4),.snil].set 5 (.ov (H++[AB.cells t.cs,.cells i.cs,.cells j.cs,.cells t.cs,.map [],.cells [.sl (aa.map Dat.cs) .none,x,y,z,.map (H.length+4),.snil]]).length 0)))++[.vec zaB 5 0 []] =
     H++[AB.cells t.cs,.cells i.cs,.cells j.cs,.cells t.cs,.map [],.cells [.sl (aa.map Dat.cs) .none,x,y,z,.map (H.length+4),.ov (H.length+6) 0],.vec zaB 5 0 []]:=by simp[List.set_append_right]
    rw[dJ];generalize cQ:H++[AB.cells t.cs,.cells i.cs,.cells j.cs,.cells t.cs,.map [],.cells [.sl (aa.map Dat.cs) .none,x,y,z,.map (H.length+4),.ov (H.length+6) 0],.vec zaB 5 0 []]=H1 at *;refine zqb W (λp hp=>?_) H1 _ _ _ _ [] kO (by simp) (by simp) ?_ (by simp;omega) _ ?_
    ·obtain⟨p1,p2,p3,p4,p5,p6,p7⟩:=P1 p hp;exact⟨by omega,ziC h8 _ p.1 (Nat.le_refl _) t p3⟩
    ·have:zaM (λ_=>1) W≤729:=P3;refine Nat.lt_of_le_of_lt (show _≤729 by rw[zdT];omega) (by decide)
    ·have bB:=zn5 W [] (by simp) (λq hq=>(P1 q hq).1);have aK:∀ g:IT→Nat,zaA g (zaP [] W)=zaA g L:=λg=>by rw[zgO,zgj,Nat.zero_add];exact gI g
     have bo:=zgM W [];refine zxX hk t (by omega) hf _ _ _ _ (zaP [] W) L kO.next (λp hp=>?_) (zgN _ _ (by simp)) ?_ (by simp at bo;omega) jU (by omega) (λp hp=>(R1 p hp).1) aK _ (λbk=>?_) (λ_=>?_)
     ·obtain⟨h1,h2⟩:=bB p hp;rcases h2 with ⟨q,hq,_⟩ | ⟨q,hq,he⟩
      ·simp at hq
      ·obtain⟨p1,p2,p3,p4,p5,p6,p7⟩:=P1 q hq;have hm:=zeE (λ_=>1) hp;rw[aK,Nat.mul_one]at hm;have d5:zaA (λ_=>1) L≤729:=R2;rw[←he];exact⟨by omega,h1,Nat.lt_of_le_of_lt (Nat.le_trans hm d5) (by decide),p3,by omega⟩
     ·have h1:=aK (λ_=>1);have h2:zaA (λ_=>1) W=zaA (λ_=>1) L:=gI (λ_=>1);cases hc:zaP [] W with
      | nil=>rw[hc,zgj]at h1;omega
      | cons p s=>simp
     ·simp at bo;omega
     ·simp;obtain⟨J,hJ⟩:∃ J,sw H1 (H.length+5) (H.length+4) (H.length+6) (.sl (aa.map Dat.cs) .none::t.cs) (zaP [] W)=H++J:=⟨_,by
       rw[←cQ];simp only[sw];rw[List.set_append_right _ _ (by omega),List.set_append_right _ _ (by omega),List.set_append_right _ _ (by omega)]⟩
      rw[hJ];exact⟨⟨rfl,rfl⟩,Out.tup (bs:=[.sl (zaH (zbM aa t L 7)) .none,.int .i64 0]) hs hK ⟨zaW rfl rfl,zaW rfl rfl,trivial⟩⟩
def zbD (aa:List Dat) (t:VT) (i:IT) (u:List (IT × Nat)):List (IT × Nat):=u.flatMap λw=>scl (zaQ aa (w.1.nodes+i.nodes) t w.1 i) w.2
def zbe (aa:List Dat) (t:VT) (i:IT):Nat→List (IT × Nat)
 | 0=>[(zaG t,1)]
 | k+1=>zaP [] (zbD aa t i (zbe aa t i k))
theorem zFW {aa:List Dat} {t:VT} {i:IT} {u:List (IT × Nat)} {j:Nat} (h:j<u.length):zbD aa t i (u.take (j+1))=zbD aa t i (u.take j)++scl (zaQ aa (u[j].1.nodes+i.nodes) t u[j].1 i) u[j].2:=by rw[List.take_succ_eq_append_getElem h];simp only[zbD,List.flatMap_append,List.flatMap_cons,List.flatMap_nil,List.append_nil]
theorem zw5 (aa:List Dat) (t:VT) (i:IT) (u:List (IT × Nat)) (j:Nat):zbD aa t i u=zbD aa t i (u.take j)++zbD aa t i (u.drop j):=by
 conv=>lhs;rw[←List.take_append_drop j u]
 simp only[zbD,List.flatMap_append]
structure PowOk (aa:List Dat) (t:VT) (i:IT) (u:List (IT × Nat)):Prop where
 tm:∀ p∈u,p.1.nodes+i.nodes≤300∧0≤rdV aa p.1 t∧rdV aa p.1 t+rdV aa i t≤6∧p.2<1000000000 ^ 20
 sm:zaA (λ_=>1) (zbD aa t i u)<1000000000 ^ 20
 ln:(zbD aa t i u).length≤90000
 ul:u.length≤90000
theorem zFV {aa:List Dat} (h8:∀ D∈aa,D.cons.length≤8) {t:VT} {i:IT} (hi:0≤rdV aa i t) {u:List (IT × Nat)} (hu:∀ p∈u,p.1.nodes+i.nodes≤300∧0≤rdV aa p.1 t∧rdV aa p.1 t+rdV aa i t≤6∧p.2<1000000000 ^ 20) :
  ∀ p∈zbD aa t i u,∃ w∈u,p.1.nodes≤w.1.nodes+i.nodes∧0≤rdV aa p.1 t∧rdV aa p.1 t≤rdV aa w.1 t+rdV aa i t∧(0<w.2→0<p.2):=by
 intro p hp;obtain⟨w,hw,hp⟩:=List.mem_flatMap.1 hp;obtain⟨q,hq,rfl⟩:=List.mem_map.1 hp;obtain⟨h1,h2,h3,h4⟩:=hu w hw;obtain⟨P1,_⟩:=zfQ h8 (f:=w.1.nodes+i.nodes) (t:=t) (i:=w.1) (j:=i) (Nat.le_refl _) h2 hi h3;obtain⟨p1,p2,p3,p4,p5,p6,p7⟩:=P1 q hq;exact⟨w,hw,p7,p3,p4,λh=>Nat.mul_pos p1 h⟩
def opH (H:zaa) (T:VT) (C:List AV):zaa:=H++[.cells T.cs,.map [],.cells (C++[AV.map (H.length+1),AV.ov (H.length+3) 0]),.vec zaB 5 0 []]
theorem zhv (H:zaa) (T:VT) {C:List AV} (h4:C.length=4):Sw (opH H T C) (H.length+2) (H.length+1) (H.length+3) C []:=by unfold opH;exact⟨h4,by omega,by omega,by omega,by simp[List.getElem?_append],by simp[List.getElem?_append,kvS],by simp[List.getElem?_append,tms]⟩
theorem zwC (H:zaa) (T:VT) {C:List AV} (h4:C.length=4):(H++[AB.cells T.cs,.map [],.cells (C++[AV.map (H.length+1),AV.snil])]).set (H.length+2) (.cells ((C++[AV.map (H.length+1),AV.snil]).set 5 (.ov (H++[AB.cells T.cs,.map [],.cells (C++[AV.map (H.length+1),AV.snil])]).length 0)))++[.vec zaB 5 0 []]=opH H T C:=by
 have aU:(C++[AV.map (H.length+1),AV.snil]).set 5 (.ov (H++[AB.cells T.cs,.map [],.cells (C++[AV.map (H.length+1),AV.snil])]).length 0)=C++[AV.map (H.length+1),AV.ov (H.length+3) 0]:=by rw[List.set_append_right _ _ (by omega),h4];simp
 rw[aU];simp[opH,List.set_append_right]
theorem zwD (H:zaa) (T:VT) (C:List AV):(H++[AB.cells T.cs,.map [],.cells (C++[AV.map (H.length+1),AV.snil])])[H.length+2]?=some (.cells (C++[AV.map (H.length+1),AV.snil])):=by simp[List.getElem?_append]
theorem zwB (H:zaa) {C:List AV} (h4:C.length=4):(C++[AV.map (H.length+1),AV.snil])[5]?=some .snil:=by rw[List.getElem?_append_right (by omega),h4];rfl
theorem zjz (H:zaa) (T:VT) (C:List AV) (s:List (IT × Nat)):∃ J,sw (opH H T C) (H.length+2) (H.length+1) (H.length+3) C s=H++J:=⟨_,by
 unfold opH;simp only[sw];rw[List.set_append_right _ _ (by omega),List.set_append_right _ _ (by omega),List.set_append_right _ _ (by omega)]⟩
theorem zwE {H:zaa} {T:VT} {C:List AV} {s:List (IT × Nat)} {x:Nat} {b:AB} (h:H[x]?=some b):(sw (opH H T C) (H.length+2) (H.length+1) (H.length+3) C s)[x]?=some b:=by obtain⟨J,hJ⟩:=zjz H T C s;rw[hJ];exact zbF h
theorem zFo {H:zaa} {T:VT} {C C':List AV} {s s':List (IT × Nat)} {is im iv:Nat} (h:Sw H is im iv C' s'):Sw (sw (opH H T C) (H.length+2) (H.length+1) (H.length+3) C s) is im iv C' s':=by obtain⟨J,hJ⟩:=zjz H T C s;rw[hJ];exact h.app
theorem zwZ (aa:List Dat) (t:VT) (i:IT):∀ k,((zbe aa t i k).map Prod.fst).Nodup
 | 0=>by simp[zbe]
 | k+1=>zgN _ _ (by simp)
theorem zsV {aa:List Dat} (hk:zbr aa) (t:VT) (ht:t.nodes≤250) (i:IT) (hi:i.nodes≤40) (hf:zbz aa t=true) (hd:0≤rdV aa i t) (n:Nat) (hn:n≤6) (jo:(n:Int)*rdV aa i t≤6)
  (hb:∀ k<n,PowOk aa t i (zbe aa t i k)) (hv:∀ p∈zbe aa t i n,p.1.nodes≤900∧0<p.2∧p.2<1000000000 ^ 20∧0≤rdV aa p.1 t∧rdV aa p.1 t≤6) (h0:0<(zbe aa t i n).length) (hl:(zbe aa t i n).length≤100000)
  (L:List (IT × Nat)) (hL:Asc L) (hLl:L.length≤100000) (dB:∀ p∈L,0<p.2) (cS:∀ g:IT→Nat,zaA g (zbe aa t i n)=zaA g L) (H:zaa) (K:Kt)
  (bk:1000<(zbe aa t i n).length→K (.tup [.sl [] .none,.int .i64 9]) H) (hK:(zbe aa t i n).length≤1000→K (.tup [.sl (zaH (zbM aa t L 7)) .none,.int .i64 0]) H) :
  ACalls tP zeH [.sl (aa.map Dat.cs) .none,.agg t.cs,.agg i.cs,.int .i64 n] H K:=by
 refine ACalls.out (zBf λhs=>?_);have h8:=ze4 hf;obtain⟨hD,eX⟩:zbx aa=true∧za1 aa 0 t=true:=by unfold zbz at hf;simpa using hf
 have r1:=zgd (h8:=h8) i t;obtain⟨x,y,z,az,hx,hy,hz⟩:=zbh t;obtain⟨x2,y2,aF,bh,eW⟩:=zc5 i;obtain⟨x3,y3,di,bK,hy3⟩:=zc5 (zaG t);have hdi:=zdx hf i;have kC:0≤(n:Int)*rdV aa i t:=Int.mul_nonneg (by omega) hd;have wnd:IntKind.i64.wrap ((n:Int)*rdV aa i t)=(n:Int)*rdV aa i t:=zat (by omega) (by omega);have dK:¬ rdV aa i t<0:=by omega
 have hn6:¬ ((6:Int)<(n:Int)):=by omega
 have dW:¬ ((n:Int)<0):=by omega
 have jc:¬ (6<(n:Int)*rdV aa i t):=by omega
 simp[zsP,az,aF,Nat.add_assoc];rw[←az,←aF];refine zh9 aa hk t (by omega) i (by omega) _ _ ?_;rw[hdi];simp[dK,hn6,dW,wnd,jc,az,aF,Nat.add_assoc];rw[←az,←aF];refine zSb aa hk t (by omega) _ _ (λ_=>?_) hf;simp[az,aF,di,Nat.add_assoc,IT.cs_known];refine⟨⟨bK,hy3⟩,?_⟩;rw[←az,←aF,←di];obtain⟨A,hA⟩:∃ A,A=H++[AB.cells t.cs,.cells i.cs,.cells (zaG t).cs]:=⟨_,rfl⟩;have eP:A.length=H.length+3:=by rw[hA];simp
 have a0:A[H.length]?=some (.cells t.cs):=by rw[hA];simp[List.getElem?_append]
 have a1:A[H.length+1]?=some (.cells i.cs):=by rw[hA];simp[List.getElem?_append]
 have a2:A[H.length+2]?=some (.cells (zaG t).cs):=by rw[hA];simp[List.getElem?_append]
 have hAs:HSc A:=by rw[hA];refine hs.append ?_;obtain⟨t1,t2,t3⟩:=t;obtain⟨i1,i2⟩:=i;generalize zaG (VT.mk t1 t2 t3)=zt at *;obtain⟨z1,z2⟩:=zt;simp[AB.sc,AV.scA,AV.scB,VT.cs,IT.cs]
 rw[←hA];obtain⟨C,hC⟩:∃ C:List AV,C=AV.sl (aa.map Dat.cs) .none::t.cs:=⟨_,rfl⟩;have h4:C.length=4:=by rw[hC];obtain⟨a,b,c⟩:=t;rfl
 have hCs:∀ n,C.all (AV.scA n)=true:=λn=>by rw[hC];obtain⟨a,b,c⟩:=t;simp[AV.scA,AV.scB,VT.cs]
 refine ztb aa t _ _ ?_;rw[←hC];have ky:List.take 2 (zaG t).cs=(zaG t).cs:=List.take_of_length_le (by simp);simp[zbF a2,ky];refine zaC (.agg (zal 1)) (λJ=>zd1 1 (by omega) _ _ ⟨rfl,rfl⟩) ?_;have i4:List.drop 5 ((zaG t).cs++[AV.bool false,.snil,.snil])=[]:=List.drop_of_length_le (by simp);have cp:plain ([.int .i64 0,.snil,.bool false,.snil,.snil]:List AV)=some [.int .i64 0,.sl [] .none,.bool false,.sl [] .none,.sl [] .none]:=rfl;have gm:∀ x∈(zaG t).cs,x.known=true:=List.all_eq_true.1 (IT.cs_known (zaG t));have i5:∀ x∈zal (1:Int),x.known=true:=List.all_eq_true.1 (zfj _);simp[zar,zaJ,i4];have iU:(zaG t).cs++zal (1:Int)=tmC (zaG t,1):=rfl;rw[iU];simp[zau,zaV,zhC,cp];refine ACalls.wk (args':=[.ptr (A.length+2) 0,.sl (zaH [(zaG t,1)]) .none]) ?_ ⟨.rfl',.atom (.sl _ _),trivial⟩;refine ACalls.ovC (id:=A.length+2) (j:=5) zaB 5 (zwD A t C) (zwB A h4) ?_;rw[zwC A t h4];have jv:Dig (zaG t):=ziC h8 _ (zaG t) (Nat.le_refl _) t (by rw[zkc];omega);have hzn:=zhT t;refine zqb [(zaG t,1)] (by simp;exact⟨by omega,jv⟩) _ _ _ _ _ [] (zhv A t h4) (by simp) (by simp) (by simp[zaM]) (by simp) _ ?_;have hp0':zaP [] [(zaG t,1)]=zbe aa t i 0:=by simp[zaP,za6,zbe]
 rw[hp0'];have hpre0:∀ s,A <+: sw (opH A t C) (A.length+2) (A.length+1) (A.length+3) C s:=λs=>by obtain⟨J,hJ⟩:=zjz A t C s;rw[hJ];exact⟨J,rfl⟩
 refine zPO (Inv:=λq t13 t49 H'=>∃ (k is im iv:Nat),k≤n∧n-k=q∧t49=.int .i64 k∧t13=.ptr is 0∧Sw H' is im iv C (zbe aa t i k)∧A <+: H') n ?_ ?_
 ·intro _;exact⟨0,_,_,_,by omega,rfl,rfl,rfl,(zhv A t h4).next,hpre0 _⟩
 ·rintro q t13 t49 H' ⟨k,is,im,iv,cI,rfl,rfl,rfl,hS,ch⟩ hsc12 hlen12 hsF12 Kb12 hKb12;have eq:=hS.h1;have g9:(C++[AV.map im,AV.ov iv (zbe aa t i k).length])[5]?=some (.ov iv (zbe aa t i k).length):=by rw[List.getElem?_append_right (by omega),h4];rfl
  have lZ:∀ {x:Nat} {b:AB},A[x]?=some b→H'[x]?=some b:=λh=>by obtain⟨J,rfl⟩:=ch;exact zbF h
  by_cases ip:k<n
  ·have aw:=hb k ip;have hul:=aw.ul;obtain⟨u,hu⟩:∃ u,u=zbe aa t i k:=⟨_,rfl⟩;have hnx:zbe aa t i (k+1)=zaP [] (zbD aa t i u):=by rw[hu];rfl
   rw[←hu]at hS eq g9 aw hul;have aO:(k:Int)<(n:Int):=by omega
   have kK:List.take 3 t.cs=t.cs:=List.take_of_length_le (by obtain⟨a,b,c⟩:=t;simp[VT.cs]);have ht3':t.cs.length=3:=by obtain⟨a,b,c⟩:=t;rfl
   have hi2':List.take 2 i.cs=i.cs:=List.take_of_length_le (by simp);simp[zsR,ip,lZ a0,kK,ht3'];refine ztb aa t _ _ ?_;rw[←hC];simp[zbF eq,zc0 _ g9];unfold zmp;refine ALoop.ovC (id:=H'.length+2) (j:=5) zaB 5 (zwD H' t C) (zwB H' h4) ?_;rw[zwC H' t h4];have hSo:∀ s,Sw (sw (opH H' t C) (H'.length+2) (H'.length+1) (H'.length+3) C s) (H'.length+2) (H'.length+1) (H'.length+3) C s:=λs=>(zhv H' t h4).next
   have kO:=(zhv H' t h4).self;have jd:∀ s,HSc (sw (opH H' t C) (H'.length+2) (H'.length+1) (H'.length+3) C s):=λs=>(zhv H' t h4).hsc (by
    unfold opH;refine hsc12.append ?_;simp only[AB.sc,List.all_cons,List.all_nil,List.all_append,hCs];obtain⟨t1,t2,t3⟩:=t;simp[AV.scA,AV.scB,VT.cs])
   have hrm:=zFV h8 hd aw.tm;show zmp (.sl (aa.map Dat.cs) .none) (.ptr H.length 0) (.ptr (H.length+1) 0) (.ptr (H'.length+2) 0) (.int .i64 n) (.int .i64 k) (.ov iv u.length) (.int .i64 u.length) (.int .i64 0) (opH H' t C) (Out H.length K) Kb12;refine zPP (Inv:=λq t59 H3=>∃ j:Nat,j≤u.length∧u.length-j=q∧t59=.int .i64 j∧H3=sw (opH H' t C) (H'.length+2) (H'.length+1) (H'.length+3) C (zaP [] (zbD aa t i (u.take j)))) u.length ?_ ?_
   ·intro _;exact⟨0,by omega,rfl,rfl,by simp only[List.take_zero,zbD,List.flatMap_nil,zvg];exact kO.symm⟩
   ·rintro q t59 H3 ⟨j,hj,rfl,rfl,rfl⟩ hsc15 hlen15 hsF15 Kb15 fM;by_cases aV:j<u.length
    ·obtain⟨w1,w2,w3,w4⟩:=aw.tm _ (List.getElem_mem aV);have aN:=zFW (aa:=aa) (t:=t) (i:=i) aV;have gK:=zw5 aa t i u (j+1);have fC:=aw.sm;have eJ:=aw.ln;rw[gK,zjW,aN,zjW]at fC;rw[gK,List.length_append,aN,List.length_append]at eJ;obtain⟨W,hW⟩:∃ W,W=zaQ aa (u[j].1.nodes+i.nodes) t u[j].1 i:=⟨_,rfl⟩;obtain⟨P1,P2,P3,P4⟩:=zfQ h8 (f:=u[j].1.nodes+i.nodes) (t:=t) (i:=u[j].1) (j:=i) (Nat.le_refl _) w2 hd w3;rw[←hW]at P1 P2 P3 P4 aN fC eJ;obtain⟨S,jV⟩:∃ S,S=zaP [] (zbD aa t i (u.take j)):=⟨_,rfl⟩;have aW:zaP [] (zbD aa t i (u.take (j+1)))=zaP S (scl W u[j].2):=by rw[aN,zDW,jV]
     have hSs:zaM (λ_=>1) S=zaA (λ_=>1) (zbD aa t i (u.take j)):=by rw[zcJ,jV,zgO,zgj,Nat.zero_add]
     have hSl:=zgM (zbD aa t i (u.take j)) [];rw[←jV]at hSl ⊢;have hSn:(S.map Prod.fst).Nodup:=by rw[jV];exact zgN _ _ (by simp)
     have hSdg:∀ p∈S,Dig p.1:=λp hp=>by
      rw[jV]at hp;rcases zn4 _ _ p hp with ⟨q,hq,he⟩ | ⟨q,hq,he⟩
      ·simp at hq
      ·obtain⟨w,hw,_,h2,_,_⟩:=hrm q (by rw[zw5 aa t i u j];exact List.mem_append_left _ hq);rw[←he];exact ziC h8 _ q.1 (Nat.le_refl _) t h2
     have hSo':=hSo S;have hSu:Sw (sw (opH H' t C) (H'.length+2) (H'.length+1) (H'.length+3) C S) is im iv C u:=zFo hS;have b0:(sw (opH H' t C) (H'.length+2) (H'.length+1) (H'.length+3) C S)[H.length]?=some (.cells t.cs):=zwE (lZ a0);have b1:(sw (opH H' t C) (H'.length+2) (H'.length+1) (H'.length+3) C S)[H.length+1]?=some (.cells i.cs):=zwE (lZ a1);have hso:=jd S;generalize hX:sw (opH H' t C) (H'.length+2) (H'.length+1) (H'.length+3) C S=X at *;have hu5:=zx0 aV;have hu5':j*5+5≤u.length*5:=by omega
     have hXg:(X++[AB.cells (tmC u[j])])[X.length]?=some (.cells (tmC u[j])):=by simp
     simp[zsS,aV,hSu.h3,hu5,hu5',zeN,zbF b0,zbF b1,kK,ht3',hi2',hXg,zcn,zcd];refine⟨zeN _,?_⟩;refine zaC (.sl (zaH W) .none) (λJ=>by rw[hW];exact (zoE hk h8 hD (u[j].1.nodes+i.nodes)).1 t u[j].1 i (Nat.le_refl _) (by omega) eX w2 hd w3 (by omega) _ _ ⟨rfl,rfl⟩) ?_;refine zaC (.sl (zaH (scl W u[j].2)) .none) (λJ=>zSo W u[j].2 (by omega) (zdq (Nat.lt_of_lt_of_le w4 (by decide))) (λp hp=>zdq (Nat.lt_of_le_of_lt (P1 p hp).2.1 (by decide))) _ _ ⟨rfl,rfl⟩) ?_;refine zqb (scl W u[j].2) (λp hp=>?_) _ _ _ _ _ S hSo'.app hSn hSdg ?_ (by simp at hSl eJ ⊢;omega) _ ?_
     ·obtain⟨q,hq,rfl⟩:=List.mem_map.1 hp;obtain⟨p1,p2,p3,p4,p5,p6,p7⟩:=P1 q hq;exact⟨by show q.1.nodes≤1000;omega,ziC h8 _ q.1 (Nat.le_refl _) t p3⟩
     ·rw[hSs,zcJ];omega
     ·rw[hSo'.sw_app];have hsw:sw X (H'.length+2) (H'.length+1) (H'.length+3) C (zaP S (scl W u[j].2))=sw (opH H' t C) (H'.length+2) (H'.length+1) (H'.length+3) C (zaP S (scl W u[j].2)):=by rw[←hX,zHw (by omega) (by omega) (by omega)]
      rw[hsw,←aW,wi j (by omega)];have kJ:=zbc hS.h3;have dz:=List.IsPrefix.length_le ch;exact fM _ _ ⟨u.length-(j+1),by omega,Back.at (J:=[.cells (tmC u[j])]) (H2:=sw (opH H' t C) (H'.length+2) (H'.length+1) (H'.length+3) C (zaP [] (zbD aa t i (u.take (j+1))))) rfl (by simp) (jd _) (by simp[zmo,ux,AV.sc,AV.scA,AV.scB,AV.scV,opH];omega) ⟨_,rfl,j+1,by omega,rfl,rfl,rfl⟩⟩
    ·obtain rfl:j=u.length:=by omega
     rw[List.take_length]at *;simp[zsS,wi k (by omega)];have dz:=List.IsPrefix.length_le ch;obtain⟨J,hJ⟩:=zjz H' t C (zaP [] (zbD aa t i u));exact hKb12 _ _ ⟨n-(k+1),by omega,Back.here (by simp[opH];simp at hlen12;omega) (jd _) (by simp[zmn,ux,AV.sc,AV.scA,AV.scB,AV.scV,opH];omega) ⟨_,_,rfl,k+1,_,_,_,by omega,rfl,rfl,rfl,by rw[hnx];exact hSo _,by rw[hJ];exact List.IsPrefix.trans ch ⟨J,rfl⟩⟩⟩
  ·obtain rfl:k=n:=by omega
   simp[zsR];rw[hC]at hS;obtain⟨J,hJ⟩:∃ J,H'=H++J:=by obtain⟨J,rfl⟩:=ch;rw[hA,List.append_assoc];exact⟨_,rfl⟩
   refine zxX hk t (by omega) hf _ _ _ _ _ L hS hv (zwZ aa t i _) h0 hl hL hLl dB cS _ (λbC=>?_) (λbC=>?_)
   ·simp;rw[hJ];exact⟨⟨rfl,rfl⟩,Out.tup (bs:=[.sl [] .none,.int .i64 9]) hs (bk bC) ⟨zaW rfl rfl,zaW rfl rfl,trivial⟩⟩
   ·simp;rw[hJ];exact⟨⟨rfl,rfl⟩,Out.tup (bs:=[.sl (zaH (zbM aa t L 7)) .none,.int .i64 0]) hs (hK bC) ⟨zaW rfl rfl,zaW rfl rfl,trivial⟩⟩
end Go.Proofs.YtdmamdnkcefmmaaGreatDoor
namespace Go.Proofs.YtdmamdnkcefmmaaGreatDoor
open Go Go.Abs
set_option maxRecDepth 100000
section
variable (t0 t1 t12 t13:AV) (H:zaa) (K:Kt) (Kb4:Lt)
def zQq (_:Nat):List Bool:=[]
noncomputable def zQr:Code:=Tryz.f29.body.getD .skip
def zBq:Prop:=zav t0 H λt2 H=>zav t1 H λt3 H=>zaf 0 t2 λt5=>zae false 1 t5 H λt6=>zaf 0 t3 λt7=>zae false 1 t7 H λt8=>zac .eql false t6 t8 λt9=>zad t9 true H (λK'=>zaf 1 t2 (K' · H)) λt11 H=>zad t9 true H (λK'=>zae false 1 t11 H (K' · H)) λt12 H=>zad t9 true H (λK'=>zaf 1 t3 (K' · H)) λt13 H=>zad t9 true H (λK'=>zae false 1 t13 H (K' · H)) λt14 H=>zad t9 true H (λK'=>ACalls tP zpv [t12,t14] H K') λt15 H=>zaj t9 t15 (.bool false) λt16=>K t16 H
def zm5:Nat→List Bool | 4=>rl false [0,2,10,2,13] | _=>[]
noncomputable def ztB:Code:=Tryz.f64.body.getD .skip
noncomputable def zSu:List ResultVar:=Tryz.f64.results.toList
def zm6:List AV:=t0::t1::ux 10 (t12::t13::ux 13 [])
def zSs:List Bool:=zm5 4
noncomputable def zSq:Code:=zaq [1,1,0,1,0,0] ztB
def zSp:AExit→List AV→zaa→Prop:=zas tP zm5 [1,1,0,1,0] ztB (zay tP zSu K)
def zB5:Prop:=ALoop tP zSq (zSp K) (zm6 t0 t1 t12 t13) H
def ztA:Prop:=zac .lss false t13 t12 λt14=>zag t14 (zab H (λK'=>K' t0 H) λt16=>zab H (λK'=>K' t13 H) λt17=>zab H (λK'=>zai 2 t16 t17 (K' · H)) λt18=>zab H (λK'=>zak true 2 t18 H (K' · H)) λt19=>zab H (λK'=>K' t1 H) λt20=>zab H (λK'=>K' t13 H) λt21=>zab H (λK'=>zai 2 t20 t21 (K' · H)) λt22=>zab H (λK'=>zak true 2 t22 H (K' · H)) λt23=>zaE H (λH K'=>ACalls tP zfg [t19,t23] H K') λt24=>zab H (λK'=>aUn .not t24 (K' · H)) λt25=>zag t25 (K (.bool false) H) (zac .add false t13 (.int .i64 1) λt26=>Kb4 (zm6 t0 t1 t12 t26) H)) (K (.bool true) H)
def zB4:Prop:=zah 1 t0 λt7=>zah 1 t1 λt9=>zac .neq false t7 t9 λt10=>zag t10 (K (.bool false) H) (zah 1 t0 λt12=>zB5 t0 t1 t12 (.int .i64 0) H K)
variable {t0 t1 t12 t13} {H} {K} {Kb4}
theorem zQs (h:HSc H→zBq t0 t1 H K):ACalls tP zfg [t0,t1] H K:=
 acb zQq Tryz.func29 zQr (by kernel_rfl) (by kernel_rfl) h
theorem zSr (Inv:Nat→AV→zaa→Prop) (n:Nat) (h0:HSc H→Inv n t13 H)
  (ac:Rd1 (λt13=>zm6 t0 t1 t12 t13) (λt13=>λH Kb4=>ztA t0 t1 t12 t13 H K Kb4) H Inv):zB5 t0 t1 t12 t13 H K:=
 lp1 (M:=zm5) zSs t13 (by kernel_rfl) Inv n h0 ac
theorem zSt (h:HSc H→zB4 t0 t1 H K):ACalls tP zpv [t0,t1] H K:=
 acb zm5 Tryz.func64 ztB (by kernel_rfl) (by kernel_rfl) h
end
end Go.Proofs.YtdmamdnkcefmmaaGreatDoor
namespace Go.Proofs.YtdmamdnkcefmmaaGreatDoor
open Go Go.Abs
theorem zSv (vs:List IT) (hl:vs.length≤1000000) (cY:∀ v∈vs,∀ (H:zaa) (K:Kt),K (.bool true) H→ACalls tP zfg [.agg v.cs,.agg v.cs] H K) (H:zaa) (K:Kt) (hK:K (.bool true) H):ACalls tP zpv [.sl (IT.css vs) .none,.sl (IT.css vs) .none] H K:=by
 refine ACalls.out (zSt λer=>?_);simp[zB4];refine zSr (Inv:=λq t13 H'=>∃ i:Nat,i≤vs.length∧q=vs.length-i∧t13=.int .i64 i∧H'=H) vs.length ?_ ?_
 ·intro _;exact⟨0,by omega,by omega,rfl,rfl⟩
 ·rintro q t13 H' ⟨i,hi,rfl,rfl,rfl⟩ aM am aP Kb ar;by_cases ak:i<vs.length
  ·simp[ztA,ak];refine zaC (.bool true) (λJ=>cY _ (List.getElem_mem ak) _ _ ⟨rfl,rfl⟩) ?_;simp;rw[zat (by omega) (by omega)];refine ar _ _ ⟨vs.length-(i+1),by omega,Back.here (by simp) aM ?_ ⟨_,rfl,i+1,by omega,rfl,by simp,rfl⟩⟩;simp[zm6,AV.sc,AV.scV,AV.scA,AV.scB]
  ·simp[ztA,ak];exact Out.bool (J:=[]) (by simp) (Nat.le_refl _) er hK
theorem zh7:∀ (m:Nat) (v:IT),v.nodes≤m→v.nodes≤1000000→∀ (H:zaa) (K:Kt),K (.bool true) H→ACalls tP zfg [.agg v.cs,.agg v.cs] H K:=by
 intro m;induction m with
 | zero=>intro v h;have:=v.nodes_pos;omega
 | succ m ih=>
  intro v hv hb H K hK;obtain⟨n,ks⟩:=v;have bY:IT.nodesL ks+1≤1000000:=by simpa[IT.nodes]using hb
  have bn:=IT.len_le ks;refine ACalls.out (zQs λer=>?_);simp[zBq,IT.cs,Nat.add_assoc];refine zSv ks (by omega) (λv gB=>by
   obtain⟨i,hi,rfl⟩:=List.getElem_of_mem gB;have:=IT.kid_lt (n:=n) hi;exact ih _ (by omega) (by omega)) _ _ ?_
  try simp
  exact Out.bool rfl (Nat.le_refl _) er hK
theorem zTT (aa:List Dat) (am:aa.length≤9223372036854775807) (t:VT) (H:zaa) (K:Kt) (hK:∀ b,(b=true→zbr aa∧t.nodes≤250)→K (.bool b) H):ACalls tP zpy [.sl (aa.map Dat.cs) .none,.agg t.cs] H K:=by
 refine ACalls.out (zTS λhs=>?_);have hO:∀ b,(b=true→zbr aa∧t.nodes≤250)→∀ J,Out H.length K (.bool b) (H++J):=λb h J=>Out.bool rfl (Nat.le_refl _) hs (hK b h);obtain⟨x,y,z,az,hx,hy,hz⟩:=zbh t;simp[zq8,az,Nat.add_assoc];refine zQL aa _ _ am λb1 bC=>?_;cases b1 with
 | false=>simp;exact hO _ (λh=>by cases h) _
 | true=>
  simp[Nat.add_assoc];rw[←az];refine zQP t _ _ λb2 bD=>?_;try simp
  exact hO _ (λh=>⟨bC rfl,bD h⟩) _
theorem zza (s:List (IT × Nat)) (gV:∀ p∈s,p.1.nodes≤1000000∧Sm (p.2:Int)) (hl:s.length≤1000000) (H:zaa) (K:Kt) (hK:K (.bool true) H):ACalls tP zoJ [.sl (zaH s) .none,.sl (zaH s) .none] H K:=by
 refine ACalls.out (zJU λhs=>?_);simp[zyY];refine zJS (Inv:=λq t13 H'=>∃ i:Nat,i≤s.length∧s.length-i=q∧t13=.int .i64 i∧H'=H) s.length ?_ ?_
 ·intro _;exact⟨0,by omega,rfl,rfl,rfl⟩
 ·rintro q t13 H' ⟨i,hi,rfl,rfl,rfl⟩ aM am aP Kb ar;by_cases ak:i<s.length
  ·obtain⟨h1,h2⟩:=gV _ (List.getElem_mem ak);simp[zq6,ak,zcn,zcd,zda,Nat.add_assoc];refine zaC (.bool true) (λJ=>zh7 _ _ (Nat.le_refl _) h1 _ _ ⟨rfl,rfl⟩) ?_;simp[ak,zcn,zcd,zda];refine zaC (.bool true) (λJ=>zAR _ h2 _ _ ⟨rfl,rfl⟩) ?_;simp[wi i (by omega)];exact ar _ _ ⟨s.length-(i+1),by omega,Back.here (by simp) hs (by simp[zkK,ux,AV.sc,AV.scA,AV.scB,AV.scV]) ⟨_,rfl,i+1,by omega,rfl,rfl,rfl⟩⟩
  ·simp[zq6,ak];exact Out.bool (J:=[]) (by simp) (Nat.le_refl _) hs hK
def t17:VT:=.mk 7 0 [.mk 1 0 []]
def i17:IT:=.mk 1 []
theorem zE3:zdz [] t17 i17 i17=.tup [.sl (zaH [(.mk 1 [],1),(.mk 2 [],2)]) .none,.int .i64 0]:=by kernel_rfl
theorem zuW (H:zaa) (K:Kt) (hK:K (.bool true) H):ACalls tP zoQ [] H K:=by
 refine ACalls.out (zKC λhs=>?_);simp[zzb,zar,zaJ,zau,zaV,plain,AV.pd,AV.known,Nat.add_assoc];refine ACalls.wk (args':=[.sl [] .none,.agg t17.cs,.agg i17.cs,.agg i17.cs]) (zqO (aa:=[]) ⟨by simp,by simp⟩ t17 (by decide) i17 i17 (by decide) (by decide) _ _ ?_) ⟨.atom .snil,.agg ⟨.refl _,.refl _,.sl _ _,trivial⟩,.agg ⟨.refl _,.snil,trivial⟩,.agg ⟨.refl _,.snil,trivial⟩,trivial⟩;rw[zE3];have h0:(tmC (IT.mk 2 [],2))[0]?=some (.int .i64 2):=rfl;simp[zcn,zcd,zda,Nat.add_assoc,zc0 _ h0];refine zaC (.agg (zal 2)) (λJ=>zQC 2 (by omega) _ _ ⟨rfl,rfl⟩) ?_;try simp[zcn,zcd,zda]
 refine zaC (.bool true) (λJ=>zAR 2 (zdq (n:=2) (by decide)) _ _ ⟨rfl,rfl⟩) ?_;exact Out.bool rfl (Nat.le_refl _) hs hK
theorem zE5 (aa:List Dat) (hk:zbr aa) (t:VT) (i j:IT):(∃ e:Int,e≠0∧zdz aa t i j=.tup [.sl [] .none,.int .i64 e]) ∨
  (zbz aa t=true∧0≤rdV aa i t∧0≤rdV aa j t∧rdV aa i t+rdV aa j t≤6∧zdz aa t i j=.tup [.sl (zaH (zbM aa t (zbR aa (i.nodes+j.nodes) t i j) 7)) .none,.int .i64 0]):=by
 by_cases h1:zbl aa t i<0∨zbl aa t j<0
 ·exact .inl ⟨1,by omega,zoC h1⟩
 ·have hf:zbz aa t=true:=by
   by_cases h:zbz aa t=true
   ·exact h
   ·exact absurd (by unfold zbl;rw[if_neg h];omega:zbl aa t i<0) (λh=>h1 (.inl h))
  rw[zdx hf,zdx hf]at h1;by_cases h6:rdV aa i t+rdV aa j t>6
  ·exact .inl ⟨13,by omega,zoD hf (by omega) (by omega) h6⟩
  ·exact .inr ⟨hf,by omega,by omega,by omega,zoB hf (by omega) (by omega) (by omega)⟩
theorem zFy {aa:List Dat} {t:VT} {i j:IT} (hf:zbz aa t=true) (hi:0≤rdV aa i t) (hj:0≤rdV aa j t) (h6:rdV aa i t+rdV aa j t≤6) :
  (∀ p∈zbM aa t (zbR aa (i.nodes+j.nodes) t i j) 7,0<p.2∧p.2≤729∧rdV aa p.1 t≤rdV aa i t+rdV aa j t∧rdV aa i t≤rdV aa p.1 t∧rdV aa j t≤rdV aa p.1 t∧p.1.nodes≤i.nodes+j.nodes)∧(zbM aa t (zbR aa (i.nodes+j.nodes) t i j) 7).length≤7*729:=by
 have h8:=ze4 hf;obtain⟨R1,R2⟩:=(zea h8 (i.nodes+j.nodes)).1 t i j (by omega) hi hj h6
 replace R2:=Nat.le_trans R2 (zeh h6)
 have Rl:=zou λp hp=>(R1 p hp).1;refine⟨λp hp=>?_,?_⟩
 ·have hm:=zFw p hp;have h1:=R1 p hm;have h2:=zoz hm;omega
 ·have:=zpD (aa:=aa) (t:=t) (s:=zbR aa (i.nodes+j.nodes) t i j) 7;omega
theorem zBs:∀ (m:Nat) (v:VT),v.nodes≤m→v.nodes≤1000000→∀ (H:zaa) (K:Kt),K (.agg (zaG v).cs) H→ACalls tP zje [.agg v.cs] H K:=by
 intro m;induction m with
 | zero=>intro v h;have:=v.nodes_pos;omega
 | succ m ih=>
  intro v hm hb H K hK;obtain⟨k,n,ks⟩:=v;have bn:=VT.len_le ks;have dv:(VT.mk k n ks).nodes=VT.nodesL ks+1:=by simp[VT.nodes]
  refine ACalls.out (zQx λhs=>?_);simp[zBr,VT.cs,zar,zaJ,AV.known,Nat.add_assoc];by_cases fO:k=6
  ·have hK:K (.agg [.int .i64 0,.sl (IT.css (za9 ks)) .none]) H:=by simpa[zaG,fO,IT.cs]using hK
   simp[fO];subst fO;unfold zmy;refine ALoop.ownC (H.length+2) 1 za7 2 (cs:=[.int .i64 0,.snil]) (by simp) rfl ?_;have aU:(H++[AB.cells [.int .i64 6,.int .i64 n,.sl (VT.css ks) .none],.cells [.int .i64 0,.snil],.cells [.int .i64 0,.snil]]).set (H.length+2) (.cells ([AV.int .i64 0,.snil].set 1 (.sl [] (.own (H++[AB.cells [.int .i64 6,.int .i64 n,.sl (VT.css ks) .none],.cells [.int .i64 0,.snil],.cells [.int .i64 0,.snil]]).length))))++[.perm za7 2 0] =
     H++[.cells [.int .i64 6,.int .i64 n,.sl (VT.css ks) .none],.cells [.int .i64 0,.snil],.cells [.int .i64 0,.sl [] (.own (H.length+3))],.perm za7 2 0]:=by simp[List.set_append_right]
   rw[aU];show zmy (.ptr (H.length+1) 0) (.ptr (H.length+2) 0) (.sl (VT.css ks) .none) (.int .i64 ks.length) (.int .i64 0) _ (Out H.length K);have hsc:∀ i,HSc (H++[.cells [.int .i64 6,.int .i64 n,.sl (VT.css ks) .none],.cells [.int .i64 0,.snil],.cells [.int .i64 0,.sl (IT.css (za9 (ks.take i))) (.own (H.length+3))],.perm za7 2 i]):=λi=>hs.append (by simp[AB.sc,AV.scA,AV.scB]);refine zQv (Inv:=λq t13 H'=>∃ i:Nat,i≤ks.length∧q=ks.length-i∧t13=.int .i64 i ∧
    H'=H++[.cells [.int .i64 6,.int .i64 n,.sl (VT.css ks) .none],.cells [.int .i64 0,.snil],.cells [.int .i64 0,.sl (IT.css (za9 (ks.take i))) (.own (H.length+3))],.perm za7 2 i]) ks.length ?_ ?_
   ·intro _;exact⟨0,by omega,by omega,rfl,by simp[za9,IT.css]⟩
   ·rintro q t13 H' ⟨i,hi,rfl,rfl,rfl⟩ aM am aP Kb ar;by_cases ak:i<ks.length
    ·obtain⟨x,y,z,az,hx,hy,hz⟩:=zbh ks[i];have cI:=VT.kid_lt (k:=6) (n:=n) ak;have ek:(za9 (ks.take i)).length=i:=by simp[zdH,Nat.min_eq_left hi]
     simp[zs0,ak,az,hx,hy,hz];rw[←az];refine zaC (.agg (zaG ks[i]).cs) (λJ=>ih ks[i] (by omega) (by omega) _ _ ⟨rfl,rfl⟩) ?_;rw[zn0];simp[zaw,zaL,zaI,ek,AV.known,List.set_append_right];refine⟨⟨by omega,by omega⟩,?_⟩;rw[zat (by omega) (by omega)];have aN:IT.css (za9 (ks.take i))++[(zaG ks[i]).cs]=IT.css (za9 (ks.take (i+1))):=by rw[zdH,zdH,List.take_succ_eq_append_getElem ak,IT.css_map,IT.css_map,List.map_append,List.map_append];rfl
     rw[aN];refine ar _ _ ⟨ks.length-(i+1),by omega,Back.at (J:=[.cells (ks[i]).cs]) (H2:=H++[.cells [.int .i64 6,.int .i64 n,.sl (VT.css ks) .none],.cells [.int .i64 0,.snil],.cells [.int .i64 0,.sl (IT.css (za9 (ks.take (i+1)))) (.own (H.length+3))],.perm za7 2 (i+1)]) (by simp) (by simp) (hsc _) ?_ ⟨_,rfl,i+1,by omega,rfl,by simp,rfl⟩⟩;simp[zmw,AV.sc,AV.scV,AV.scA,AV.scB]
    ·obtain rfl:i=ks.length:=by omega
     rw[List.take_length]at *;simp[zs0,zmx,AV.known,List.set_append_right];exact Out.at rfl (Nat.le_refl _) hs (WkV.agg (ds:=[.int .i64 0,.sl (IT.css (za9 ks)) .none]) ⟨.refl _,.sl _ _,trivial⟩) rfl (by simp[AV.scV,AV.scA,AV.scB]) hK
  ·have hK:K (.agg [.int .i64 0,.sl [] .none]) H:=by simpa[zaG,fO,IT.cs,IT.css]using hK
   have hb:(k == 6)=false:=by simpa using fO
   simp[hb,zmx,AV.known,List.set_append_right];exact Out.at rfl (Nat.le_refl _) hs (WkV.agg (ds:=[.int .i64 0,.sl [] .none]) ⟨.refl _,.snil,trivial⟩) rfl (by simp[AV.scV,AV.scA,AV.scB]) hK
theorem zjx:1<1000000000 ^ 20:=by decide
theorem zwG {aa:List Dat} {t:VT} {p:IT × Nat} (h0:0≤rdV aa p.1 t) (h6:rdV aa p.1 t≤6):zbM aa t [p] 7=[p]:=by
 have:rdV aa p.1 t=0∨rdV aa p.1 t=1∨rdV aa p.1 t=2∨rdV aa p.1 t=3∨rdV aa p.1 t=4∨rdV aa p.1 t=5∨rdV aa p.1 t=6:=by omega
 rcases this with h | h | h | h | h | h | h <;> simp[zbM,ofD,List.range_succ,h]
theorem zp9 (g:IT→Nat) (c:Nat):∀ s:List (IT × Nat),zaA g (scl s c)=c*zaA g s
 | []=>by simp[scl]
 | p::s=>by have:=zp9 g c s;unfold scl at this ⊢;rw[List.map_cons,zba,zba,this,Nat.mul_add];congr 1;rw[Nat.mul_comm p.2 c,Nat.mul_assoc]
theorem zpN {aa:List Dat} {t:VT} {i:IT} (hd:0≤rdV aa i t):zbe aa t i 1=[(i,1)]:=by have h:=(zoF (aa:=aa) ((zaG t).nodes+i.nodes) t i (Nat.le_refl _) hd).1;simp[zbe,zbD,h,scl,zaP,za6]
theorem zuo {aa:List Dat} {t:VT} (ht:t.nodes≤250) {i:IT} (hi:i.nodes≤40) (hd:0≤rdV aa i t) (h6:rdV aa i t≤6):PowOk aa t i (zbe aa t i 0):=by
 have h:=(zoF (aa:=aa) ((zaG t).nodes+i.nodes) t i (Nat.le_refl _) hd).1;have hn:=zhT t;have hr:zbD aa t i (zbe aa t i 0)=[(i,1)]:=by simp[zbe,zbD,h,scl]
 refine⟨λp hp=>?_,?_,?_,by simp[zbe]⟩
 ·simp[zbe]at hp;subst hp;have:=zkc (aa:=aa) t;exact⟨by show (zaG t).nodes+_≤_;omega,by show 0≤rdV aa (zaG t) t;omega,by show rdV aa (zaG t) t+_≤6;omega,zjx⟩
 ·rw[hr];simp[zaA]
 ·rw[hr];simp
theorem zC1 {aa:List Dat} (h8:∀ D∈aa,D.cons.length≤8) {t:VT} {i:IT} (hi:i.nodes≤40) (hd:0≤rdV aa i t) (h6:rdV aa i t+rdV aa i t≤6):PowOk aa t i (zbe aa t i 1):=by
 obtain⟨P1,P2,P3,P4⟩:=zfQ h8 (f:=i.nodes+i.nodes) (t:=t) (i:=i) (j:=i) (Nat.le_refl _) hd hd h6;rw[zpN hd];have hr:zbD aa t i [(i,1)]=scl (zaQ aa (i.nodes+i.nodes) t i i) 1:=by simp[zbD]
 refine⟨λp hp=>?_,?_,?_,by simp⟩
 ·simp at hp;subst hp;exact⟨by show i.nodes+i.nodes≤300;omega,hd,h6,zjx⟩
 ·rw[hr,zp9,Nat.one_mul];exact Nat.lt_of_le_of_lt P3 (by decide)
 ·rw[hr];simp;omega
theorem zPJ {aa:List Dat} (hk:zbr aa) (t:VT) (ht:t.nodes≤250) (i:IT) (hi:i.nodes≤40) (hf:zbz aa t=true) (hd:0≤rdV aa i t) (H:zaa) (K:Kt) (hK:K (.tup [.sl (zaH [(zaG t,1)]) .none,.int .i64 0]) H) :
  ACalls tP zeH [.sl (aa.map Dat.cs) .none,.agg t.cs,.agg i.cs,.int .i64 0] H K:=by
 have hn:=zhT t;have hz:=zkc (aa:=aa) t;refine zsV hk t ht i hi hf hd 0 (by omega) (by omega) (λk hk=>by omega) (λp hp=>?_) (by simp[zbe]) (by simp[zbe]) [(zaG t,1)] (List.pairwise_singleton _ _) (by simp) (by simp) (λg=>rfl) _ _ (λh=>by simp[zbe]at h) (λ_=>?_)
 ·simp[zbe]at hp;subst hp;exact⟨by show (zaG t).nodes≤900;omega,Nat.one_pos,zjx,by show 0≤rdV aa (zaG t) t;omega,by show rdV aa (zaG t) t≤6;omega⟩
 ·rw[zwG (by show 0≤rdV aa (zaG t) t;omega) (by show rdV aa (zaG t) t≤6;omega)];exact hK
theorem zPK {aa:List Dat} (hk:zbr aa) (t:VT) (ht:t.nodes≤250) (i:IT) (hi:i.nodes≤40) (hf:zbz aa t=true) (hd:0≤rdV aa i t) (H:zaa) (K:Kt) (hK:K (.tup [.sl (zaH [(i,1)]) .none,.int .i64 0]) H) :
  ACalls tP zeH [.sl (aa.map Dat.cs) .none,.agg t.cs,.agg i.cs,.int .i64 1] H K:=by
 have h8:=ze4 hf;have r1:=zgd (h8:=h8) i t;have cW:=zpN hd;refine zsV hk t ht i hi hf hd 1 (by omega) (by omega) (λk hk=>?_) (λp hp=>?_) (by rw[cW];simp) (by rw[cW];simp) [(i,1)] (List.pairwise_singleton _ _) (by simp) (by simp) (λg=>by rw[cW]) _ _ (λh=>by rw[cW]at h;simp at h) (λ_=>?_)
 ·obtain rfl:k=0:=by omega
  exact zuo ht hi hd (by omega)
 ·rw[cW]at hp;simp at hp;subst hp;exact⟨by show i.nodes≤900;omega,Nat.one_pos,zjx,hd,by show rdV aa i t≤6;omega⟩
 ·rw[zwG hd (by show rdV aa i t≤6;omega)];exact hK
theorem zPL {aa:List Dat} (hk:zbr aa) (t:VT) (ht:t.nodes≤250) (i:IT) (hi:i.nodes≤40) (hf:zbz aa t=true) (hd:0≤rdV aa i t) (H:zaa) (K:Kt) (hK:K (zdz aa t i i) H) :
  ACalls tP zeH [.sl (aa.map Dat.cs) .none,.agg t.cs,.agg i.cs,.int .i64 2] H K:=by
 have h8:=ze4 hf;have r1:=zgd (h8:=h8) i t;by_cases h6:rdV aa i t+rdV aa i t>6
 ·rw[zoD hf hd hd h6]at hK;refine ACalls.out (zBf λhs=>?_);obtain⟨x,y,z,az,hx,hy,hz⟩:=zbh t;obtain⟨x2,y2,aF,bh,eW⟩:=zc5 i;have wnd:IntKind.i64.wrap (2*rdV aa i t)=2*rdV aa i t:=zat (by omega) (by omega);have dK:¬ rdV aa i t<0:=by omega
  have jc:6<2*rdV aa i t:=by omega
  simp[zsP,az,aF,Nat.add_assoc];rw[←az,←aF];refine zh9 aa hk t (by omega) i (by omega) _ _ ?_;rw[zdx hf];simp[dK,wnd,jc];exact⟨⟨rfl,rfl⟩,Out.tup (bs:=[.sl [] .none,.int .i64 13]) hs hK ⟨zdr,zaW rfl rfl,trivial⟩⟩
 ·have cR:rdV aa i t+rdV aa i t≤6:=by omega
  rw[zoB hf hd hd cR]at hK;obtain⟨P1,P2,P3,P4⟩:=zfQ h8 (f:=i.nodes+i.nodes) (t:=t) (i:=i) (j:=i) (Nat.le_refl _) hd hd cR;have lY:=zwf (aa:=aa) (t:=t) (i:=i) (j:=i) (Nat.le_refl _) hd hd;have gI:=(zfs aa (i.nodes+i.nodes)).1 t i i;obtain⟨R1,R2⟩:=(zea h8 (i.nodes+i.nodes)).1 t i i (Nat.le_refl _) hd hd cR;have jU:=zwb aa (i.nodes+i.nodes) t i i;have eV:zbe aa t i 2=zaP [] (scl (zaQ aa (i.nodes+i.nodes) t i i) 1):=by show zaP [] (zbD aa t i (zbe aa t i 1))=_;rw[zpN hd];simp[zbD]
  obtain⟨W,hW⟩:∃ W,W=zaQ aa (i.nodes+i.nodes) t i i:=⟨_,rfl⟩;obtain⟨L,hL⟩:∃ L,L=zbR aa (i.nodes+i.nodes) t i i:=⟨_,rfl⟩;rw[←hW]at P1 P2 P3 P4 lY gI eV;rw[←hL]at hK R1 R2 gI jU
  replace R2:=Nat.le_trans R2 (zeh cR)
  have Rl:=zou λp hp=>(R1 p hp).1;have aK:∀ g:IT→Nat,zaA g (zbe aa t i 2)=zaA g L:=λg=>by rw[eV,zgO,zgj,Nat.zero_add,zp9,Nat.one_mul];exact gI g
  have bo:=zgM (scl W 1) [];rw[←eV]at bo;have bU:=zwZ aa t i 2;have bc:∀ p∈zbe aa t i 2,0<p.2∧∃ q∈W,q.1=p.1:=λp hp=>by
   rw[eV]at hp;obtain⟨h1,h2⟩:=zn5 (scl W 1) [] (by simp) (λq hq=>by
    obtain⟨r,hr,rfl⟩:=List.mem_map.1 hq;exact Nat.mul_pos (P1 r hr).1 (by omega)) p hp
   refine⟨h1,?_⟩;rcases h2 with ⟨q,hq,_⟩ | ⟨q,hq,he⟩
   ·simp at hq
   ·obtain⟨r,hr,rfl⟩:=List.mem_map.1 hq;exact⟨r,hr,he⟩
  have gK:∀ p∈zbe aa t i 2,p.2≤729:=λp hp=>by have hm:=zeE (λ_=>1) hp;rw[aK,Nat.mul_one]at hm;have d5:zaA (λ_=>1) L≤729:=R2;omega
  refine zsV hk t ht i hi hf hd 2 (by omega) (by omega) (λk hk=>?_) (λp hp=>?_) ?_ (by simp at bo;omega) L jU (by omega) (λp hp=>(R1 p hp).1) aK _ _ (λh=>by simp at bo;omega) (λ_=>hK)
  ·obtain rfl | rfl:k=0∨k=1:=by omega
   ·exact zuo ht hi hd (by omega)
   ·exact zC1 h8 hi hd cR
  ·obtain⟨h1,q,hq,he⟩:=bc p hp;obtain⟨p1,p2,p3,p4,p5,p6,p7⟩:=P1 q hq;rw[←he];exact⟨by omega,h1,Nat.lt_of_le_of_lt (gK p hp) (by decide),p3,by omega⟩
  ·have h1:=aK (λ_=>1);have h2:zaA (λ_=>1) W=zaA (λ_=>1) L:=gI (λ_=>1);cases hc:zbe aa t i 2 with
   | nil=>rw[hc,zgj]at h1;omega
   | cons p s=>simp
theorem zC2 (aa:List Dat) (am:aa.length≤9223372036854775807) (t:VT) (i:IT) (H:zaa) (K:Kt) (hK:K (.bool true) H) :
  ACalls tP zpr [.sl (aa.map Dat.cs) .none,.agg t.cs,.agg i.cs] H K:=by
 refine ACalls.out (zSh λhs=>?_);have hO:∀ J,Out H.length K (.bool true) (H++J):=λJ=>Out.bool rfl (Nat.le_refl _) hs hK;obtain⟨x,y,z,az,hx,hy,hz⟩:=zbh t;obtain⟨x2,y2,aF,bh,eW⟩:=zc5 i;simp[zq5,az,aF,Nat.add_assoc];rw[←az];refine zTT aa am t _ _ λb0 bE=>?_;cases b0 with
 | false=>simp;exact hO _
 | true=>
 obtain⟨hk,ht⟩:=bE rfl;simp[Nat.add_assoc];rw[←aF];refine zUD i _ _ λb1 bC=>?_;cases b1 with
 | false=>simp;exact hO _
 | true=>
 have hi:=bC rfl;simp[az,aF,Nat.add_assoc];rw[←az,←aF];refine zQp aa hk t (by omega) i (by omega) _ _ ?_;by_cases i9:0≤zbl aa t i
 ·have hf:zbz aa t=true:=by
   unfold zbl at i9;by_cases h:zbz aa t=true
   ·exact h
   ·rw[if_neg h]at i9;omega
  have hd:=i9;rw[zdx hf]at hd;have je:decide (0≤zbl aa t i)=true:=by simpa using i9
  rw[je];have hzn:=zhT t;simp[az,aF,Nat.add_assoc];rw[←az,←aF];refine zPJ hk t ht i hi hf hd _ _ ?_;simp[az,aF,Nat.add_assoc];rw[←az,←aF];refine zPK hk t ht i hi hf hd _ _ ?_;simp[az,aF,Nat.add_assoc];rw[←az,←aF];refine zPL hk t ht i hi hf hd _ _ ?_;rcases zE5 aa hk t i i with ⟨e,he,hr⟩ | ⟨_,d1,d2,d6,hr⟩
  ·rw[hr];simp[az,aF,Nat.add_assoc];rw[←az,←aF];refine zqO hk t ht i i (by omega) (by omega) _ _ ?_;rw[hr];simp[zcn,zda,zcd];refine zaC (.agg (zaG t).cs) (λJ=>zBs _ t (Nat.le_refl _) (by omega) _ _ ⟨rfl,rfl⟩) ?_;refine zaC (.bool true) (λJ=>zh7 _ (zaG t) (Nat.le_refl _) (by omega) _ _ ⟨rfl,rfl⟩) ?_;simp[zcn,zda,zcd];refine zaC (.bool true) (λJ=>zh7 _ i (Nat.le_refl _) (by omega) _ _ ⟨rfl,rfl⟩) ?_;simp;refine zaC (.bool true) (λJ=>zza [] (by simp) (by simp) _ _ ⟨rfl,rfl⟩) ?_;simp;refine zaC (.bool true) (λJ=>zuW _ _ ⟨rfl,rfl⟩) ?_;exact hO _
  ·obtain⟨L1,L2⟩:=zFy hf d1 d2 d6;rw[hr];simp[az,aF,Nat.add_assoc];rw[←az,←aF];refine zqO hk t ht i i (by omega) (by omega) _ _ ?_;rw[hr];simp[zcn,zda,zcd];refine zaC (.agg (zaG t).cs) (λJ=>zBs _ t (Nat.le_refl _) (by omega) _ _ ⟨rfl,rfl⟩) ?_;refine zaC (.bool true) (λJ=>zh7 _ (zaG t) (Nat.le_refl _) (by omega) _ _ ⟨rfl,rfl⟩) ?_;simp[zcn,zda,zcd];refine zaC (.bool true) (λJ=>zh7 _ i (Nat.le_refl _) (by omega) _ _ ⟨rfl,rfl⟩) ?_;simp;refine zaC (.bool true) (λJ=>zza (zbM aa t (zbR aa (i.nodes+i.nodes) t i i) 7) (λp hp=>⟨by have:=L1 p hp;omega,zdq (Nat.lt_of_le_of_lt (L1 p hp).2.1 (by decide))⟩) (by omega) _ _ ⟨rfl,rfl⟩) ?_;simp;refine zaC (.bool true) (λJ=>zuW _ _ ⟨rfl,rfl⟩) ?_;exact hO _
 ·have je:decide (0≤zbl aa t i)=false:=by simpa using i9
  rw[je];simp;exact hO _
end Go.Proofs.YtdmamdnkcefmmaaGreatDoor
namespace Go.Abs
open Go Go.RowKit

def zbI (P:Program):Nat→TypeId→List AV→Prop
 | 0,_,_=>False
 | n+1,t,asx=>match P.underlying t with
  | some .bool=>∃ b,asx=[.bool b]
  | some (.int k)=>∃ m,asx=[.int k m]∧(Lit.int k m).wf=true
  | some .string=>∃ s,asx=[.str s]∧s.length≤maxLen
  | some (.slice e)=>∃ es,asx=[.sl es .none]∧es.length≤maxLen∧∀ c∈es,zbI P n e c
  | some (.struct fs)=>asx.length=P.cellsOf t∧∀ f∈fs.toList,zbI P n f.type ((asx.drop f.offset).take (P.cellsOf f.type))
  | _=>False

def zeM (P:Program):List Field→Nat→Nat→Bool
 | [],at_,n=>at_ == n
 | f::fs,at_,n=>f.offset == at_ && zeM P fs (at_+P.cellsOf f.type) n
def zhA (P:Program) (S:List TypeId):Bool:=
 S.all λt=>match P.underlying t with
  | some .bool | some (.int _) | some .string=>P.cellsOf t == 1
  | some (.slice e)=>S.contains e && decide (0<P.cellsOf e) && P.cellsOf t == 1
  | some (.struct fs)=>fs.toList.all (λf=>S.contains f.type) && zeM P fs.toList 0 (P.cellsOf t)
  | _=>false

section
variable {Hh:Type} {enc:TypeId × Value→Hh} {P:Program} {w:World} {base:Nat} {spare:Nat→Bool} {fT:Bool}

theorem zxY {R:Value→AV→Prop} {cs:List Value}:∀ (fs:List Field) (at_ n:Nat) (T:Field→List AV→Prop),zeM P fs at_ n=true→cs.length=n →
  (∀ f∈fs,∃ asx,All2 R ((cs.drop f.offset).take (P.cellsOf f.type)) asx∧T f asx)→at_≤n →
  ∃ asx,All2 R (cs.drop at_) asx∧∀ f∈fs,T f ((asx.drop (f.offset-at_)).take (P.cellsOf f.type))∧at_≤f.offset
 | [],at_,n,T,ht,hl,hf,aS=>by simp[zeM]at ht;subst ht;refine⟨[],?_,by simp⟩;rw[List.drop_eq_nil_of_le (by omega)];trivial
 | f::fs,at_,n,T,ht,hl,hf,aS=>by
  simp only[zeM,Bool.and_eq_true,beq_iff_eq]at ht;obtain⟨h1,h2⟩:=ht;have hbound:∀ (fs:List Field) (k n:Nat),zeM P fs k n=true→k≤n:=by
   intro fs;induction fs with
   | nil=>intro k n h;simp[zeM]at h;omega
   | cons g gs ih=>intro k n h;simp only[zeM,Bool.and_eq_true]at h;have:=ih _ _ h.2;omega
  have hb:=hbound fs _ _ h2;obtain⟨as0,gW,hT0⟩:=hf f (by simp);obtain⟨as1,ha1,hT1⟩:=zxY fs (at_+P.cellsOf f.type) n T h2 hl (λg hg=>hf g (by simp[hg])) hb;have dQ:as0.length=P.cellsOf f.type:=by have:=gW.length;rw[List.length_take,List.length_drop]at this;omega
  refine⟨as0++as1,?_,?_⟩
  ·have:cs.drop at_=(cs.drop f.offset).take (P.cellsOf f.type)++cs.drop (at_+P.cellsOf f.type):=by rw[h1,←List.drop_drop,List.take_append_drop]
   rw[this];exact gW.append ha1
  ·intro g hg;rcases List.mem_cons.1 hg with rfl | hg
   ·rw[h1,Nat.sub_self,List.drop_zero,←dQ,List.take_left];exact⟨hT0,Nat.le_refl _⟩
   ·obtain⟨k1,k2⟩:=hT1 g hg;refine⟨?_,by omega⟩;have:(as0++as1).drop (g.offset-at_)=as1.drop (g.offset-(at_+P.cellsOf f.type)):=by rw[List.drop_append,List.drop_eq_nil_of_le (by omega),List.nil_append];congr 1;omega
    rw[this];exact k1

theorem ziy {a:Addr} {n:Nat} {cs:List Value} (h:w.cells? base a n=some cs):cs.length=n∧∀ j v,cs[j]?=some v→w.cell? (a.add j)=some v:=by
 unfold World.cells? at h;split at h
 ·have h1:=mapM_some_length h;refine⟨by simpa using h1,λj v hj=>?_⟩;have hjn:j<n:=by have:=(List.getElem?_eq_some_iff.1 hj).1;simp at h1;omega
  have:=mapM_some_get h j j (by simp[hjn]);rw[this];exact hj
 ·cases h

theorem zEV {b o:Nat} {v:Value} (h:w.cell? ⟨b,o,none⟩=some v):o<zcp w b:=by
 unfold World.cell? at h;unfold zcp;split at h
 ·rename_i c t fr hb;simp only[hb];simp at h;exact (Array.getElem?_eq_some_iff.1 h).1
 ·cases h

theorem zx6 {S:List TypeId} (hS:zhA P S=true):∀ (n:Nat) (t:TypeId) (cs:List Value) (x:DataW Hh × List MemPlace),t∈S→DataW.trod enc P w base spare fT n t cs=some x →
  ∃ asx,All2 (DRel w (zcp w)) cs asx∧zbI P n t asx:=by
 intro n;induction n with
 | zero=>intro t cs x _ h;simp[DataW.trod]at h
 | succ n ih=>
  intro t cs x ht h;have hp:=List.all_eq_true.1 hS t ht;unfold zbI;cases hu:P.underlying t with
  | none=>simp[hu]at hp
  | some d=>
   rw[hu]at hp;cases d <;> simp only[]at hp <;> try (cases hp;done)
   case bool=>obtain⟨b,rfl,_⟩:=DataW.trod_bool hu h;exact⟨[.bool b],⟨.bool b,trivial⟩,b,rfl⟩
   case int k=>obtain⟨m,rfl,_,hw⟩:=DataW.trod_int hu h;exact⟨[.int k m],⟨.int k m,trivial⟩,m,rfl,hw⟩
   case string=>
    obtain⟨s,rfl,_,hw⟩:=DataW.trod_string hu h;have hs:(⟨s.data.toList.toArray⟩:ByteArray)=s:=by simp
    refine⟨[.str s.data.toList],⟨?_,trivial⟩,s.data.toList,rfl,by rw[Array.length_toList];exact hw⟩;have:=DRel.str (w:=w) (L:=zcp w) s.data.toList;rwa [hs]at this
   case slice e=>
    simp only[Bool.and_eq_true,decide_eq_true_eq]at hp;obtain⟨⟨he,bU⟩,_⟩:=hp;have he:e∈S:=by simpa using he
    rcases DataW.trod_slice hu h with ⟨rfl,_⟩ | ⟨a,len,cap,elems,rest,n',hn,rfl,_,hb,hl,hm,am,cY,_⟩
    ·exact⟨[.sl [] .none],⟨.slE _ _,trivial⟩,[],rfl,by simp,by simp⟩
    ·obtain rfl:n=n':=by omega
     have a7:∀ i,i<len→∃ cs asx,w.cells? base (a.add (i*P.cellsOf e)) (P.cellsOf e)=some cs∧All2 (DRel w (zcp w)) cs asx∧zbI P n e asx:=by
      intro i hi;have h1:=cY i hi;rw[List.getElem?_eq_getElem (by omega)]at h1;cases hc:w.cells? base (a.add (i*P.cellsOf e)) (P.cellsOf e) with
      | none=>rw[hc]at h1;cases h1
      | some cs=>rw[hc]at h1;obtain⟨asx,h2,h3⟩:=ih e cs _ he h1;exact⟨cs,asx,rfl,h2,h3⟩
     by_cases h0:len=0
     ·subst h0;exact⟨[.sl [] .none],⟨.slE _ _,trivial⟩,[],rfl,by simp,by simp⟩
     ·-- the address is a plain one
      have hspot:a.spot=none:=by obtain⟨cs,asx,h1,h2,_⟩:=a7 0 (by omega);obtain⟨h3,h4⟩:=ziy h1;have h5:=h4 0 cs[0] (by simp);have:=World.cell?_spot h5;simpa[Addr.add]using this
      obtain⟨b,off,sp⟩:=a;simp only at hspot;subst hspot;obtain⟨f,hf⟩:∃ f:Nat→List Value × List AV,∀ i,i<len→w.cells? base ((⟨b,off,none⟩:Addr).add (i*P.cellsOf e)) (P.cellsOf e)=some (f i).1∧All2 (DRel w (zcp w)) (f i).1 (f i).2∧zbI P n e (f i).2:=
       Deep.choose_lt (p:=λi (y:List Value × List AV)=>w.cells? base ((⟨b,off,none⟩:Addr).add (i*P.cellsOf e)) (P.cellsOf e)=some y.1∧All2 (DRel w (zcp w)) y.1 y.2∧zbI P n e y.2)
        (λi hi=>by obtain⟨cs,asx,h1,h2,h3⟩:=a7 i hi;exact⟨(cs,asx),h1,h2,h3⟩)
      have aG:∀ i,i<len→∀ j v,(f i).1[j]?=some v→w.cell? ⟨b,off+i*P.cellsOf e+j,none⟩=some v:=by intro i hi j v hj;have:=(ziy (hf i hi).1).2 j v hj;rw[add_lit,add_lit]at this;exact this
      have dy:∀ i,i<len→(f i).2.length=P.cellsOf e:=λi hi=>by rw[←(hf i hi).2.1.length];exact (ziy (hf i hi).1).1
      refine⟨[.sl ((List.range len).map λi=>(f i).2) .none],⟨?_,trivial⟩,_,rfl,by simp;omega,?_⟩
      ·have:=DRel.sl (w:=w) (L:=zcp w) b off cap (P.cellsOf e) ((List.range len).map λi=>(f i).2) (λi j=>(f i).1.getD j undef) (by simp;exact h0) (by simpa using hl) ?_ ?_ ?_ ?_
       ·simpa using this
       ·-- the last cell is there
        have hi:len-1<len:=by omega
        have hj:P.cellsOf e-1<(f (len-1)).1.length:=by rw[(ziy (hf _ hi).1).1];omega
        have:=zEV (aG (len-1) hi (P.cellsOf e-1) _ (List.getElem?_eq_getElem hj));have ib:(len-1)*P.cellsOf e+P.cellsOf e=len*P.cellsOf e:=by rw[←Nat.succ_mul];congr 1;omega
        simp;omega
       ·intro i hi;simp at hi;simpa using dy i hi
       ·intro i j hi hj;simp at hi hj;have aV:j<(f i).1.length:=by rw[(hf i hi).2.1.length];exact hj
        simp only[List.getD_eq_getElem?_getD,List.getElem?_eq_getElem aV,Option.getD_some];exact aG i hi j _ (List.getElem?_eq_getElem aV)
       ·intro i j hi hj;simp at hi hj;have aV:j<(f i).1.length:=by rw[(hf i hi).2.1.length];exact hj
        obtain⟨c,h1,h2⟩:=(hf i hi).2.1.get' (List.getElem?_eq_getElem aV);simp only[List.getD_eq_getElem?_getD,List.getElem?_eq_getElem aV,Option.getD_some,List.getElem_map,List.getElem_range];have:(f i).2[j]=c:=by rw[List.getElem?_eq_getElem hj]at h1;exact Option.some.inj h1
        rw[this];exact h2
      ·intro c hc;obtain⟨i,hi,rfl⟩:=List.mem_map.1 hc;exact (hf i (by simpa using hi)).2.2
   case struct fs=>
    simp only[Bool.and_eq_true]at hp;obtain⟨fh,htile⟩:=hp;obtain⟨xs,n',hn,_,bo,bS,a7⟩:=DataW.trod_struct hu h;obtain rfl:n=n':=by omega
    obtain⟨asx,h1,h2⟩:=zxY (P:=P) (R:=DRel w (zcp w)) (cs:=cs) fs.toList 0 (P.cellsOf t) (λf asx=>zbI P n f.type asx) htile bo (λf hf=>by
     obtain⟨i,hi⟩:=List.mem_iff_getElem?.1 hf;have cM:fs[i]?=some f:=by simpa using hi
     have h3:=a7 i f cM;have ak:i<xs.length:=by rw[bS];exact (Array.getElem?_eq_some_iff.1 cM).1
     rw[List.getElem?_eq_getElem ak]at h3;exact ih f.type _ _ (by simpa using List.all_eq_true.1 fh f hf) h3) (Nat.zero_le _)
    rw[List.drop_zero]at h1;refine⟨asx,h1,by rw[←h1.length];exact bo,λf hf=>?_⟩;simpa using (h2 f hf).1
end

theorem zwN {Hh:Type} {enc:TypeId × Value→Hh} {P:Program} {w:World} {base:Nat} {spare:Nat→Bool} {fT:Bool} {S:List TypeId} (hS:zhA P S=true) {t:TypeId} (ht:t∈S) {cs:Array Value} {d:DataW Hh} {p:List MemPlace}
  (h:DataW.Trod enc P w base spare fT t (.agg cs) d p):∃ n asx,zbI P n t asx∧TRel w (G0 w) (.agg cs) (.agg asx):=by
 obtain⟨n,hn⟩:=h;obtain⟨asx,h1,h2⟩:=zx6 hS n t _ _ ht hn;exact⟨n,asx,h2,cs,rfl,h1.mono λ_ _ hd=>ARel.of_b (DRel.toB (G:=G0 w) hd)⟩
theorem zFH {Hh:Type} {enc:TypeId × Value→Hh} {P:Program} {w:World} {base:Nat} {spare:Nat→Bool} {fT:Bool} {S:List TypeId} (hS:zhA P S=true) {t:TypeId} (ht:t∈S) {v:Value} {d:DataW Hh} {p:List MemPlace} (hv:v.cells=#[v])
  (h:DataW.Trod enc P w base spare fT t v d p):∃ n a,zbI P n t [a]∧TRel w (G0 w) v a:=by
 obtain⟨n,hn⟩:=h;obtain⟨asx,h1,h2⟩:=zx6 hS n t _ _ ht hn;rw[hv]at h1
 match asx,h1,h2 with
 | [a],h1,h2=>exact⟨n,a,h2,TRel.of_v (VRel.of_a (ARel.of_b (DRel.toB (G:=G0 w) h1.1)))⟩
section
variable {P:Program} {n:Nat} {t:TypeId} {l:List AV}
theorem zj3 {k:IntKind} (hu:P.underlying t=some (.int k)) (h:zbI P n t l):∃ m,l=[.int k m]∧(Lit.int k m).wf=true:=by
 cases n with
 | zero=>exact h.elim
 | succ n=>unfold zbI at h;rw[hu]at h;exact h
theorem zyh (hu:P.underlying t=some .string) (h:zbI P n t l):∃ s,l=[.str s]∧s.length≤maxLen:=by
 cases n with
 | zero=>exact h.elim
 | succ n=>unfold zbI at h;rw[hu]at h;exact h
theorem zhQ {e:TypeId} (hu:P.underlying t=some (.slice e)) (h:zbI P n t l):∃ es n',n'<n∧l=[.sl es .none]∧es.length≤maxLen∧∀ c∈es,zbI P n' e c:=by
 cases n with
 | zero=>exact h.elim
 | succ n=>unfold zbI at h;rw[hu]at h;obtain⟨es,h1,h2,h3⟩:=h;exact⟨es,n,by omega,h1,h2,h3⟩
theorem zj4 {fs:Array Field} (hu:P.underlying t=some (.struct fs)) (h:zbI P n t l):∃ n',n'<n∧l.length=P.cellsOf t∧∀ f∈fs.toList,zbI P n' f.type ((l.drop f.offset).take (P.cellsOf f.type)):=by
 cases n with
 | zero=>exact h.elim
 | succ n=>unfold zbI at h;rw[hu]at h;exact⟨n,by omega,h⟩
theorem zfV {α:Type} {cs:α→List AV}:∀ {es:List (List AV)},(∀ c∈es,∃ x,c=cs x)→∃ xs:List α,es=xs.map cs
 | [],_=>⟨[],rfl⟩
 | e::es,h=>by obtain⟨x,hx⟩:=h e (by simp);obtain⟨xs,ff⟩:=zfV (es:=es) (λc hc=>h c (by simp[hc]));exact⟨x::xs,by simp[hx,ff]⟩
end
end Go.Abs

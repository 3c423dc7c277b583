import Derived.Test.YtdmamdnkcefmmaaGreatDoorKBd2
import Derived.Test.YtdmamdnkcefmmaaGreatDoorKV5
import Derived.Lib.UnsafeStr
import Derived.RegionTactic
import Derived.Test.YtdmamdnkcefmmaaGreatDoorKNum
import Derived.Test.YtdmamdnkcefmmaaGreatDoorProg
import Derived.KernelRfl
import Derived.Test.YtdmamdnkcefmmaaGreatDoorKGR
import Derived.WalkKit
import Derived.Test.YtdmamdnkcefmmaaGreatDoorKOD
import Derived.Test.YtdmamdnkcefmmaaGreatDoorVO
set_option linter.unusedSimpArgs false
set_option linter.unusedVariables false
set_option maxRecDepth 100000
namespace Go.Proofs.YtdmamdnkcefmmaaGreatDoor
section
open Go.RowKit
theorem zvV:∃i,tP.info? 5=some i∧i.zero=some (.int .u8 0)∧i.size=1∧i.bytes=1:=by
 obtain⟨i,hi⟩:∃i,tP.info? 5=some i:=cE.1 (by kernel_rfl);have h1:(tP.info? 5).map (·.size)=some 1:=by kernel_rfl
 have h2:(tP.info? 5).map (·.bytes)=some 1:=by kernel_rfl
 have h3:(tP.info? 5).bind (·.zero)=some (.int .u8 0):=by kernel_rfl
 rw[hi]at h1 h2 h3;exact⟨i,hi,by simpa using h3,by simpa using h1,by simpa using h2⟩
theorem zv9{B:Nat}{w:World}{G:Gh}{H:zaa}(hH:HRel B w G H){id b:Nat}{p c:AV}(hp:p=.nilp∨p=.ptr id 0)(h1:H[id]?=some (.bld 112 [p,c]))(hμ:G.μ[id]?=some (.blk b)):
  ∃ w1 v,Calls tP zhJ #[.pointer (some ⟨b,0,none⟩)] w (λe w'=>e=.returned (.tuple #[])∧w'=w1)∧Ext B w G w1 G∧HRel B w1 G (H.set id (.bld 112 [.ptr id 0,c])) ∧
   w1.heap[b]?=some (.cells #[.pointer (some ⟨b,0,none⟩),v] 112 (0,0))∧ARel w1 G v c:=by
 obtain⟨hB,hL,⟨vs⟩,hw,hc⟩:=hH.ok id _ _ h1 hμ
 match vs,hc with
 |[vp,v],⟨nr,hv,_⟩=>
  have hvp':vp=.pointer none∨vp=.pointer (some ⟨b,0,none⟩):=by
   rcases hp with rfl|rfl
   ·exact .inl nr
   ·obtain⟨b',k1,k2⟩:=nr;rw[hμ]at k1;cases k1;exact .inr k2
  have eL:=hH.storeB (cs':=[.ptr id 0,c]) (vs':=#[.pointer (some ⟨b,0,none⟩),v]) h1 hμ hw ⟨⟨b,hμ,rfl⟩,hv,trivial⟩;rcases hvp' with rfl|rfl
  ·refine⟨_,v,?_,eL.1,eL.2,setRow_heap w b _ _ _ _ hw,eL.1.arel hv⟩;refine(zFs b w (by rw[Lib.cell_of_heap hw];rfl) (by simp[World.shape?,hw]) (Lib.frozen_of_heap hw 0)).mono ?_;rintro e w' ⟨rfl,rfl⟩;refine⟨rfl,?_⟩;rw[setCell_eq_setRow w b 0 _ _ _ _ hw];rfl
  ·refine⟨w,v,zFt b w (by rw[Lib.cell_of_heap hw];rfl),Ext.refl _ _ _,?_,hw,hv⟩;refine hH.reCellB h1 λus hus=>?_
   match us,hus with
   |[u1,u2],⟨k1,k2⟩=>
    refine⟨?_,k2⟩;rcases hp with rfl|rfl
    ·cases nr
    ·exact k1
theorem zEi{H:zaa}{id id2:Nat}{l s:List UInt8}{p:AV}(hp:p=.nilp∨p=.ptr id 0)(h1:H[id]?=some (.bld 112 [p,.sl (bcs l) (.own id2)]))(h2:H[id2]?=some (.perm 5 1 l.length))(hn:l.length+s.length≤140737488355328){K:AV→zaa→Prop}(hK:K (.tup [.int .i64 s.length,.nili]) ((H.set id2 (.perm 5 1 (l.length+s.length))).set id (.bld 112 [.ptr id 0,.sl (bcs (l++s)) (.own id2)]))):
  ACalls tP zjp [.ptr id 0,.str s] H K:=by
 intro B w G ⟨vs⟩ hH hv
 match vs,hv with
 |[v0,v1],⟨⟨b,hμ,gV⟩,jW,_⟩=>
  have jW:v1=.string ⟨s.toArray⟩:=jW;subst gV jW;obtain⟨w1,v,fS,kq,gK,nD,oJ⟩:=zv9 hH hp h1 hμ;obtain⟨hd,v',size,n',hμ2,eH,heq⟩:=oJ;have en:id≠id2:=by rintro rfl;rw[h1]at h2;cases h2
  have m8:(H.set id (.bld 112 [.ptr id 0,.sl (bcs l) (.own id2)]))[id2]?=some (.perm 5 1 l.length):=by rw[List.getElem?_set_ne en];exact h2
  have eh:=gK.ok id2 _ _ m8 hμ2;obtain⟨fx,iK,⟨xs,ed⟩,hL2⟩:=eh;subst fx iK;obtain⟨rfl,eB⟩:=heq (zel l);have m9:v.ownBlock≠some b:=λh=>en (gK.dist id id2 _ _ b hμ hμ2 rfl h);have kQ:b<w1.heap.size:=gK.lt id _ b hμ rfl;obtain⟨i,hi,hz,ep,fh⟩:=zvV;have oE:maxLen=9223372036854775807:=rfl;have key:∃ v' w2 G2,(∀ ty,(Builtin.append_ #[110,9] ty #[v,.string ⟨s.toArray⟩]).run tP w1=.ok v' w2)∧Ext B w1 G w2 G2 ∧
    HRel B w2 G2 ((H.set id (.bld 112 [.ptr id 0,.sl (bcs l) (.own id2)])).set id2 (.perm 5 1 (l.length+s.length)))∧ARel w2 G2 v' (.sl (bcs (l++s)) (.own id2))∧w2.heap[b]?=w1.heap[b]?:=by
   by_cases hs:s=[]
   ·subst hs;refine⟨v,w1,G,λty=>zG9 Tryz.underlying110 Tryz.underlying9 hi ep ed _ rfl,Ext.refl _ _ _,?_,?_,rfl⟩
    ·have:(H.set id (.bld 112 [.ptr id 0,.sl (bcs l) (.own id2)])).set id2 (.perm 5 1 (l.length+([]:List UInt8).length))=H.set id (.bld 112 [.ptr id 0,.sl (bcs l) (.own id2)]):=by
      apply aJ;intro k;by_cases hk:k=id2
      ·subst hk;rw[List.getElem?_set_self (List.getElem?_eq_some_iff.1 m8).1,m8];rfl
      ·rw[List.getElem?_set_ne (λh=>hk h.symm)]
     rw[this];exact gK
    ·rw[aK];exact⟨hd,v,1,_,hμ2,eH,heq⟩
   ·have ga:0<s.length:=List.length_pos_iff.2 hs;obtain⟨v',w2,ef,eF,eq⟩:=zG8 (P:=tP) (ty:=110) (B:=B) Tryz.underlying110 Tryz.underlying9 hi hz ep fh ed ⟨s.toArray⟩ (by simpa[ByteArray.size]using ga) (by simp[ByteArray.size];omega) (by simpa[ByteArray.size]using hn) gK.base;have oX:(⟨s.toArray⟩:ByteArray).size=s.length:=rfl;rw[oX]at eF;have hx:All2 (DRel w1 G.L) xs (bcs l).flatten:=zrn ed hd (zel l) (zfj l);obtain⟨G2,jG,gg,hT⟩:=zkc gK m8 hμ2 ed eF eq (zel s) ga (zel l) (zfj l) (zfj s) hx (zEW s);refine⟨v',w2,G2,λty=>ef,jG,gg,by rw[←zvP];exact hT,?_⟩;rcases eq with ⟨g,k1,_,k3⟩ | ⟨_,k3⟩
    ·exact k3.block b kQ (λh=>m9 (by rw[k1,h]))
    ·exact k3.block b kQ (by simp)
  obtain⟨v',w2,G2,ef,jG,gg,kR,fq⟩:=key;have lh:=fq.trans nD;have hμ':=(jG.blk hμ);obtain⟨nZ,lT⟩:=gg.storeB (id:=id) (cs':=[.ptr id 0,.sl (bcs (l++s)) (.own id2)]) (vs':=#[.pointer (some ⟨b,0,none⟩),v']) (by rw[List.getElem?_set_ne (λh=>en h.symm)];exact List.getElem?_set_self (List.getElem?_eq_some_iff.1 h1).1) hμ' lh ⟨⟨b,hμ',rfl⟩,kR,trivial⟩;refine(zJH b ⟨s.toArray⟩ v v' w w1 w2 fS nD ef lh ?_).mono ?_
  ·obtain⟨jT,_⟩:=kR;generalize bcs (l++s)=cs at jT;cases jT with
   |slE a c=>exact⟨_,_,_,rfl⟩
   |sl=>exact⟨_,_,_,rfl⟩
  ·rintro e w' ⟨rfl,rfl⟩;have eI:w2.setCell ⟨b,1,none⟩ v'=w2.setRow b #[.pointer (some ⟨b,0,none⟩),v']:=by rw[setCell_eq_setRow w2 b 1 _ _ _ _ lh];rfl
   rw[eI];refine⟨_,_,_,G2,rfl,(kq.trans jG).trans nZ,?_,?_,hK⟩
   ·rw[dE _ _ en,bG]at lT;exact lT
   ·exact⟨#[.int .i64 s.length,.nilIface],rfl,rfl,rfl,trivial⟩
theorem zE6:tP.cellsOf 5=1:=by kernel_rfl
set_option maxHeartbeats 2000000 in
set_option maxRecDepth 100000 in
theorem zI0{fr:Nat × Nat}(b g cap n:Nat)(p:Value)(cur:Array Value)(l:List UInt8)(w:World)(h0:l≠[])(nd:w.heap[b]?=some (.cells #[p,.slice (some ⟨g,0,none⟩) l.length cap] 112 (0,0)))(hg:w.heap[g]?=some (.cells cur 5 fr))(fE:l.length≤cap)(gO:cap≤maxLen)(ew:cur.size=cap)(er:∀ j x,l[j]?=some x→w.cell? ((⟨g,0,none⟩:Addr).add j)=some (.int .u8 x.toNat)):
  Calls tP zh1 #[.pointer (some ⟨b,0,none⟩)] w λe w'=>e=.returned (.string ⟨l.toArray⟩)∧w'=w.drew.freeze ⟨g,0,none⟩ l.length:=by
 have iS:l.length≠0:=by simpa using h0
 have c1:w.drew.cell? ⟨b,1,none⟩=some (.slice (some ⟨g,0,none⟩) l.length cap):=by have:w.drew.heap[b]?=some (.cells #[p,.slice (some ⟨g,0,none⟩) l.length cap] 112 (0,0)):=nd;rw[Lib.cell_of_heap this];rfl
 have hSD:(Builtin.unsafeSliceData_ #[110] 174 #[.slice (some ⟨g,0,none⟩) l.length cap]).run tP w.drew=.ok (.pointer (some ⟨g,0,none⟩)) w.drew:=
  Lib.run_unsafeSliceData_row _ _ _ _ _ _ (by omega)
 have hUS:(Builtin.unsafeString_ #[174,3] 9 #[.pointer (some ⟨g,0,none⟩),.int .i64 l.length]).run tP w.drew=.ok (.string ⟨l.toArray⟩) (w.drew.freeze ⟨g,0,none⟩ l.length):=by refine Lib.run_unsafeString_row w.drew 174 3 9 5 Tryz.underlying174 zE6 g cur.size (by have jz:w.drew.heap[g]?=some (.cells cur 5 fr):=hg;simp[World.shape?,jz]) l h0 (by omega) (by unfold maxLen at gO;omega) ?_;intro j x hx;exact er j x hx
 go_enter Tryz.func76,Tryz.ntmps76
 go_wp2
 go_region
 all_goals (go_wp2;go_ret;exact⟨rfl,rfl⟩)
theorem zvQ{w:World}{L:Nat→Nat}:∀{l:List UInt8} {xs:List Value},All2 (DRel w L) xs (bcs l).flatten→xs=l.map λb=>Value.int .u8 b.toNat
 |[],[],_=>rfl
 |[],_::_,h=>h.elim
 |_::_,[],h=>h.elim
 |c::l,x::xs,⟨fF,e8⟩=>by cases fF;rw[aD,zvQ (l:=l) e8]
end
section
variable (t0:AV) (H:zaa) (K:Kt)
def zRu(_:Nat):List Bool:=[]
noncomputable def zRv:=Tryz.f240.body.getD .skip
def ztC:=zad .lss false t0 (.int .i64 10) λt4=>zag t4 (zad .add false t0 (.int .i64 1) λt7=>zaS 0 0 (.str [48,49,50,51,52,53,54,55,56,57,97,98,99,100,101,102,103,104,105,106,107,108,109,110,111,112,113,114,115,116,117,118,119,120,121,122]) (some t0) (some t7) λt8=>K t8 H) (zad .mul false t0 (.int .i64 2) λt10=>zad .mul false t0 (.int .i64 2) λt12=>zad .add false t12 (.int .i64 2) λt13=>zaS 0 0 (.str [48,48,48,49,48,50,48,51,48,52,48,53,48,54,48,55,48,56,48,57,49,48,49,49,49,50,49,51,49,52,49,53,49,54,49,55,49,56,49,57,50,48,50,49,50,50,50,51,50,52,50,53,50,54,50,55,50,56,50,57,51,48,51,49,51,50,51,51,51,52,51,53,51,54,51,55,51,56,51,57,52,48,52,49,52,50,52,51,52,52,52,53,52,54,52,55,52,56,52,57,53,48,53,49,53,50,53,51,53,52,53,53,53,54,53,55,53,56,53,57,54,48,54,49,54,50,54,51,54,52,54,53,54,54,54,55,54,56,54,57,55,48,55,49,55,50,55,51,55,52,55,53,55,54,55,55,55,56,55,57,56,48,56,49,56,50,56,51,56,52,56,53,56,54,56,55,56,56,56,57,57,48,57,49,57,50,57,51,57,52,57,53,57,54,57,55,57,56,57,57]) (some t10) (some t13) λt14=>K t14 H)
def zLs(_:Nat):List Bool:=[]
noncomputable def zLt:=Tryz.f127.body.getD .skip
def zLr:=ACalls tP zxe [t0] H λt4 H=>K t4 H
def zOS(_:Nat):List Bool:=[]
noncomputable def zOT:=Tryz.f170.body.getD .skip
def zOR:=ACalls tP zpU [t0,(.int .i64 10)] H λt4 H=>K t4 H
variable {t0} {H} {K}
theorem zRw(h:HSc H→ztC t0 H K):ACalls tP zpZ [t0] H K:=
 acb zRu Tryz.func240 zRv h
theorem zLu(h:HSc H→zLr t0 H K):ACalls tP zpw [t0] H K:=
 acb zLs Tryz.func127 zLt h
theorem zOU(h:HSc H→zOR t0 H K):ACalls tP zxe [t0] H K:=
 acb zOS Tryz.func170 zOT h
end
section
open Go.RowKit
def small(n:Nat):List UInt8:=if n<10 then [48+UInt8.ofNat n] else [48+UInt8.ofNat (n / 10),48+UInt8.ofNat (n % 10)]
def digs:List UInt8:=[48,49,50,51,52,53,54,55,56,57,97,98,99,100,101,102,103,104,105,106,107,108,109,110,111,112,113,114,115,116,117,118,119,120,121,122]
def pairs:List UInt8:=(List.range 100).flatMap λn=>[48+UInt8.ofNat (n / 10),48+UInt8.ofNat (n % 10)]
theorem zFC:∀n,n<10→(digs.take (n+1)).drop n=small n:=by decide
theorem zHb:∀n,n<100→10≤n→(pairs.take (2*n+2)).drop (2*n)=small n:=by decide
theorem zIj(n:Nat)(hn:n<100)(H:zaa)(K:Kt)(hK:K (.str (small n)) H):ACalls tP zpZ [.int .i64 n] H K:=by
 refine zRw λhs=>?_;by_cases jr:n<10
 ·have:(n:Int)<10:=by omega
  have e1:IntKind.i64.wrap ((n:Int)+1)=((n+1:Nat):Int):=by rw[zav (by omega) (by omega)];omega
  simp[ztC,this];rw[e1];refine⟨by omega,⟨by omega,by omega⟩,?_⟩;have gk:K (.str ((digs.take (n+1)).drop n)) H:=by rw[zFC n jr];exact hK
  rw[Int.toNat_natCast];exact gk
 ·have:¬ (n:Int)<10:=by omega
  have e1:IntKind.i64.wrap ((n:Int)*2)=((2*n:Nat):Int):=by rw[zav (by omega) (by omega)];omega
  have e2:IntKind.i64.wrap (((2*n:Nat):Int)+2)=((2*n+2:Nat):Int):=by rw[zav (by omega) (by omega)];omega
  simp[ztC,this];rw[e1,e2];refine⟨by omega,by omega,⟨by omega,by omega⟩,?_⟩;have gk:K (.str ((pairs.take (2*n+2)).drop (2*n))) H:=by rw[zHb n hn (by omega)];exact hK
  have hp:pairs=[48,48,48,49,48,50,48,51,48,52,48,53,48,54,48,55,48,56,48,57,49,48,49,49,49,50,49,51,49,52,49,53,49,54,49,55,49,56,49,57,50,48,50,49,50,50,50,51,50,52,50,53,50,54,50,55,50,56,50,57,51,48,51,49,51,50,51,51,51,52,51,53,51,54,51,55,51,56,51,57,52,48,52,49,52,50,52,51,52,52,52,53,52,54,52,55,52,56,52,57,53,48,53,49,53,50,53,51,53,52,53,53,53,54,53,55,53,56,53,57,54,48,54,49,54,50,54,51,54,52,54,53,54,54,54,55,54,56,54,57,55,48,55,49,55,50,55,51,55,52,55,53,55,54,55,55,55,56,55,57,56,48,56,49,56,50,56,51,56,52,56,53,56,54,56,55,56,56,56,57,57,48,57,49,57,50,57,51,57,52,57,53,57,54,57,55,57,56,57,57]:=by decide
  rw[hp]at gk;rw[Int.toNat_natCast,Int.toNat_natCast];exact gk
theorem zF7(n:Nat)(hn:n<100)(w:World)(R:World→Prop)(s:ByteArray)(hs:Calls tP zpZ #[.int .i64 n] w λe w'=>e=.returned (.string s)∧R w'):
  Calls tP zpU #[.int .i64 n,.int .i64 10] w λe w'=>e=.returned (.string s)∧R w':=by
 have a1:((0:Int)≤(n:Int)):=by omega
 have a2:((n:Int)<100):=by omega
 go_enter Tryz.func215,Tryz.ntmps215
 go_wp2_with (go_at_call 240;refine hs.mono ?_)
 rintro e w1 ⟨rfl,hR⟩
 go_wp2
 go_ret
 exact⟨rfl,hR⟩
theorem zF8(n:Nat)(hn:n<100)(H:zaa)(K:Kt)(hK:K (.str (small n)) H):ACalls tP zpU [.int .i64 n,.int .i64 10] H K:=by
 intro B w G ⟨vs⟩ hH hv
 match vs,hv with
 |[v0,v1],⟨h0,h1,_⟩=>
  have h0:v0=.int .i64 n:=h0;have h1:v1=.int .i64 10:=h1;subst h0 h1;have hs:=zIj n hn H (λr H'=>r=.str (small n)∧H'=H) ⟨rfl,rfl⟩ B w G #[.int .i64 n] hH ⟨rfl,trivial⟩;refine(zF7 n hn w (λw'=>∃G',Ext B w G w' G'∧HRel B w' G' H) ⟨(small n).toArray⟩ (hs.mono ?_)).mono ?_
  ·rintro e w1 ⟨v,r,H',G',rfl,hE,eJ,hT,rfl,rfl⟩;have hT:v=.string ⟨(small n).toArray⟩:=hT;exact⟨by rw[hT],G',hE,eJ⟩
  ·rintro e w1 ⟨rfl,G',hE,eJ⟩;exact⟨_,.str (small n),_,G',rfl,hE,eJ,rfl,hK⟩
theorem zD8(n:Nat)(hn:n<100)(H:zaa)(K:Kt)(hK:K (.str (small n)) H):ACalls tP zpw [.int .i64 n] H K:=
 zLu λhs=>zOU λhs=>zF8 n hn _ _ hK
end
@[congr] theorem zXf{m:WM}{g:Bool}{H:zaa}{p:(AV→zaa→Prop)→Prop}{k:AV→zaa→Prop}:zdH m g H p k=zdH m g H p k:=rfl
def wb(H:zaa)(id id2:Nat)(l:List UInt8):zaa:=(H.set id2 (.perm 5 1 l.length)).set id (.bld 112 [.ptr id 0,.sl (bcs l) (.own id2)])
structure Wb (H:zaa) (id id2:Nat) (l:List UInt8):Prop where
 ne:id≠id2
 h1:∃p,(p=.nilp∨p=.ptr id 0)∧H[id]?=some (.bld 112 [p,.sl (bcs l) (.own id2)])
 h2:H[id2]?=some (.perm 5 1 l.length)
section
variable {H J:zaa} {id id2:Nat} {l l' s:List UInt8}
theorem Wb.lt1(h:Wb H id id2 l):id<H.length:=by obtain⟨p,_,h⟩:=h.h1;exact(List.getElem?_eq_some_iff.1 h).1
theorem Wb.lt2(h:Wb H id id2 l):id2<H.length:=(List.getElem?_eq_some_iff.1 h.h2).1
@[simp] theorem yaD:(wb H id id2 l).length=H.length:=by simp[wb]
theorem zkL(en:id≠id2):wb (wb H id id2 l) id id2 l'=wb H id id2 l':=by unfold wb;rw[dE _ _ en,bG,bG]
theorem Wb.app(h:Wb H id id2 l):Wb (H++J) id id2 l:=by obtain⟨p,hp,h1⟩:=h.h1;exact⟨h.ne,⟨p,hp,by rw[List.getElem?_append_left h.lt1];exact h1⟩,by rw[List.getElem?_append_left h.lt2];exact h.h2⟩
theorem Wb.wb_app(h:Wb H id id2 l):wb (H++J) id id2 l'=wb H id id2 l'++J:=by unfold wb;rw[aN _ _ h.lt2,aN _ _ (by simpa using h.lt1)]
theorem Wb.next(h:Wb H id id2 l):Wb (wb H id id2 l') id id2 l':=by
 refine⟨h.ne,⟨_,.inr rfl,?_⟩,?_⟩
 ·unfold wb;rw[List.getElem?_set_self (by simpa using h.lt1)]
 ·unfold wb;rw[List.getElem?_set_ne h.ne,List.getElem?_set_self h.lt2]
theorem Wb.hsc(h:Wb H id id2 l)(hs:HSc H):HSc (wb H id id2 l'):=by refine HSc.set (HSc.set hs rfl) ?_;have:=h.lt1;have:=h.lt2;simp[AB.sc,AV.scA,AV.scB];try omega
theorem Ws(h:Wb H id id2 l)(hn:l.length+s.length≤140737488355328){K:AV→zaa→Prop}(hK:K (.tup [.int .i64 s.length,.nili]) (wb H id id2 (l++s))):
  ACalls tP zjp [.ptr id 0,.str s] H K:=by
 obtain⟨p,hp,h1⟩:=h.h1;refine zEi hp h1 h.h2 hn ?_;unfold wb at hK;rwa [az]at hK
end
section
open Go.RowKit
variable {P:Program} {B:Nat} {w:World} {G:Gh} {H:zaa}
theorem HRel.toFrz(h:HRel B w G H){id e n:Nat}(hn:0<n)(hH:H[id]?=some (.perm e 1 n)):HRel B w G (H.set id (.frz e 1 n)):=by
 refine⟨by simp[h.len],?_,h.dist,h.fresh,h.lt,h.base⟩;intro i ab gi h1 h2;by_cases hi:i=id
 ·subst hi;rw[List.getElem?_set_self (List.getElem?_eq_some_iff.1 hH).1]at h1;cases h1;have eh:=h.ok i _ _ hH h2;cases gi with
  |blk b=>exact eh.elim
  |gap=>exact eh.elim
  |own v s n'=>
   obtain⟨rfl,rfl,⟨xs,fN,hx⟩,hL⟩:=eh;rcases hx with ⟨_,h0⟩|⟨g,cap,cur,rfl,jx,hg,fE,gO,iF,jh⟩
   ·omega
   ·exact⟨g,cap,cur,_,rfl,rfl,rfl,hg,jx,hL g rfl,fE,gO,iF⟩
 ·rw[List.getElem?_set_ne (λh=>hi h.symm)]at h1;exact h.ok i ab gi h1 h2
theorem ACalls.toFrz{f:FuncId}{args:List AV}{K:Kt}(h:ACalls P f args H λr H'=>∃id e n,0<n∧H'[id]?=some (.perm e 1 n)∧K r (H'.set id (.frz e 1 n))):ACalls P f args H K:=by intro B w G vs hH hv;refine(h B w G vs hH hv).mono λex w' ⟨v,r,H',G',h1,h2,h3,h4,h5⟩=>?_;obtain⟨id,e,n,hn,d9,hk⟩:=h5;exact⟨v,r,_,G',h1,h2,h3.toFrz hn d9,h4,hk⟩
end
section
open Go.RowKit
theorem zEe{H:zaa}{id id2:Nat}{l:List UInt8}{p:AV}(h0:l≠[])(h1:H[id]?=some (.bld 112 [p,.sl (bcs l) (.own id2)]))(h2:H[id2]?=some (.frz 5 1 l.length)){K:AV→zaa→Prop}(hK:K (.str l) H):ACalls tP zh1 [.ptr id 0] H K:=by
 intro B w G ⟨vs⟩ hH hv
 match vs,hv with
 |[v0],⟨⟨b,hμ,gV⟩,_⟩=>
  subst gV;obtain⟨hB,hL,⟨us⟩,hw,hc⟩:=hH.ok id _ _ h1 hμ
  match us,hc with
  |[vp,v],⟨nr,⟨hd,v',size,n',hμ2,eH,heq⟩,_⟩=>
   obtain⟨g,cap,cur,fr,fx,iK,fG,k2,k3,k4,k5,k6,k7⟩:=hH.ok id2 _ _ h2 hμ2;subst fx iK;obtain⟨rfl,eB⟩:=heq (zel l);have fu:=Ext.drew B w G (w.drawn+1) (bP _);have hHd:=hH.drew (w.drawn+1) (bP _);have en:bcs l≠[]:=λh=>h0 (by simpa[bcs]using h);obtain⟨b',off,cap',zs,mr,jj,oT,nh,_⟩:=hd.flat en (zfj l);rw[fG]at mr;simp only[Value.slice.injEq,bL,Addr.mk.injEq]at mr;obtain⟨⟨rfl,rfl,_⟩,_,rfl⟩:=mr;have jY:zs=l.map λb=>Value.int .u8 b.toNat:=zvQ oT;subst fG;refine(zI0 b g cap l.length vp cur l w h0 hw k2 k5 k6 (by omega) ?_).mono ?_
   ·intro j x hj;have:=nh j (.int .u8 x.toNat) (by rw[jY,List.getElem?_map,hj];rfl);by_cases h0j:j=0
    ·subst h0j;simpa[Addr.add]using this
    ·simpa[Addr.add,h0j]using this
   ·rintro e w' ⟨rfl,rfl⟩;obtain⟨kq,gK⟩:=hHd.freezeG h2 hμ2 l.length;exact⟨_,(.str l),_,G,rfl,fu.trans kq,gK,rfl,hK⟩
theorem wpList_append_any{P:Program}{w:World}{d6:Array Oper}{rest:List Oper}{o:Oper}{a:Act}{Q:Exit→Act→World→Prop}(mS:o.guard=none)(sl x:Operand)(t u:TypeId)(ho:o.op=.call { callee:=.builtin .append,args:=#[sl,x],argTypes:=#[t,u] }){v v' xv:Value}{w':World}(hs:a.eval sl=v)(hx:a.eval x=xv)(hr:∀ty,(Builtin.append_ #[t,u] ty #[v,xv]).run P w=.ok v' w')(h:wpList P d6 Q rest (a.put o.dst v') w'):wpList P d6 Q (o::rest) a w:=by
 refine wpList_plain mS λK hK=>?_;unfold Oper.wp execOp;simp only[ho,resolve,invoke,builtin,Sem.run_bind,Sem.run_pure,Result.andThen_ok,ci,aD,bJ,hs,hx,hr];exact hK _ _ h
set_option maxHeartbeats 2000000 in
set_option maxRecDepth 100000 in
theorem zJG(b:Nat)(c:UInt8)(v v':Value)(w w1 w2:World)(fS:Calls tP zhJ #[.pointer (some ⟨b,0,none⟩)] w λe w'=>e=.returned (.tuple #[])∧w'=w1)(fR:w1.heap[b]?=some (.cells #[.pointer (some ⟨b,0,none⟩),v] 112 (0,0)))(hr:∀ ty,(Builtin.append_ #[110,110] ty #[v,.slice (some ⟨w1.heap.size,0,none⟩) 1 1]).run tP (w1.alloc (.cells #[.int .u8 c.toNat] 5))=.ok v' w2)(fq:w2.heap[b]?=some (.cells #[.pointer (some ⟨b,0,none⟩),v] 112 (0,0)))(fG:∃ ao n cap,v'=.slice ao n cap):
  Calls tP zgl #[.pointer (some ⟨b,0,none⟩),.int .u8 c.toNat] w λe w'=>e=.returned .nilIface∧w'=w2.setCell ⟨b,1,none⟩ v':=by
 obtain⟨ao,n',cap,rfl⟩:=fG;have c1:w1.cell? ⟨b,1,none⟩=some v:=by rw[Lib.cell_of_heap fR];rfl
 have d1:w2.cell? ⟨b,1,none⟩=some v:=by rw[Lib.cell_of_heap fq];rfl
 have f1:w2.frozen? ⟨b,1,none⟩=false:=Lib.frozen_of_heap fq 1
 go_enter Tryz.func128,Tryz.ntmps128
 go_wp2_with (go_at_call 169;refine fS.mono ?_)
 rintro e w1' ⟨rfl,rfl⟩
 go_wp2_with (at_builtin;refine Go.Proofs.YtdmamdnkcefmmaaGreatDoor.wpList_append_any rfl _ _ 110 110 rfl rfl rfl hr ?_)
 go_wp2
 go_ret
 exact⟨rfl,rfl⟩
theorem zEh{H:zaa}{id id2:Nat}{l:List UInt8}{c:UInt8}{p:AV}(hp:p=.nilp∨p=.ptr id 0)(h1:H[id]?=some (.bld 112 [p,.sl (bcs l) (.own id2)]))(h2:H[id2]?=some (.perm 5 1 l.length))(hn:l.length+1≤140737488355328){K:AV→zaa→Prop}(hK:K .nili ((H.set id2 (.perm 5 1 (l.length+1))).set id (.bld 112 [.ptr id 0,.sl (bcs (l++[c])) (.own id2)]))):
  ACalls tP zgl [.ptr id 0,.int .u8 c.toNat] H K:=by
 intro B w G ⟨vs⟩ hH hv
 match vs,hv with
 |[v0,v1],⟨⟨b,hμ,gV⟩,jW,_⟩=>
  have jW:v1=.int .u8 c.toNat:=jW;subst gV jW;obtain⟨w1,v,fS,kq,gK,nD,hva0⟩:=zv9 hH hp h1 hμ;obtain⟨pI,n5⟩:=gK.other (.cells #[.int .u8 c.toNat] 5);have oJ:=pI.arel hva0;obtain⟨W,hW⟩:∃W,W=w1.alloc (.cells #[.int .u8 c.toNat] 5):=⟨_,rfl⟩;rw[←hW]at pI n5 oJ;obtain⟨hd,v',size,n',hμ2,eH,heq⟩:=oJ;have en:id≠id2:=by rintro rfl;rw[h1]at h2;cases h2
  have m8:(H.set id (.bld 112 [.ptr id 0,.sl (bcs l) (.own id2)]))[id2]?=some (.perm 5 1 l.length):=by rw[List.getElem?_set_ne en];exact h2
  have eh:=n5.ok id2 _ _ m8 hμ2;obtain⟨fx,iK,⟨xs,ed⟩,hL2⟩:=eh;subst fx iK;obtain⟨rfl,eB⟩:=heq (zel l);have m9:v.ownBlock≠some b:=λh=>en (gK.dist id id2 _ _ b hμ hμ2 rfl h);have kQ:b<W.heap.size:=n5.lt id _ b hμ rfl;have ib:W.heap[b]?=w1.heap[b]?:=by rw[hW];exact zcI (gK.lt id _ b hμ rfl)
  obtain⟨i,hi,hz,ep,fh⟩:=zvV;have oE:maxLen=9223372036854775807:=rfl;have key:∃ v' w2 G2,(∀ ty,(Builtin.append_ #[110,110] ty #[v,.slice (some ⟨w1.heap.size,0,none⟩) 1 1]).run tP W=.ok v' w2)∧Ext B W G w2 G2 ∧
    HRel B w2 G2 ((H.set id (.bld 112 [.ptr id 0,.sl (bcs l) (.own id2)])).set id2 (.perm 5 1 (l.length+1)))∧ARel w2 G2 v' (.sl (bcs (l++[c])) (.own id2))∧w2.heap[b]?=W.heap[b]?:=by
   have hown0:W.ownsRow B 5 i.size v l.length xs:=by rw[ep];exact ed
   obtain⟨v',w2,ef,eF,eq⟩:=zkb (P:=tP) (ty:=110) (t:=110) (B:=B) Tryz.underlying110 hi hz (by rw[ep];rfl) hown0 ⟨w1.heap.size,0,none⟩ 1 1 [.int .u8 c.toNat] (by rw[ep];rfl) (λj u hu=>by
    have hj:j=0:=by have:=(List.getElem?_eq_some_iff.1 hu).1;simp at this;omega
    subst hj;simp at hu;subst hu;rw[hW];show (match (w1.alloc (.cells #[.int .u8 c.toNat] 5)).heap[w1.heap.size]? with|some (.cells c _ _)=>c[0]?|_=>none)=_;rw[zdq];rfl) (λu hu=>by simp at hu;subst hu;rfl) (by omega) (by omega) (by rw[fh];omega) n5.base
   rw[ep]at eF;have hx:All2 (DRel W G.L) xs (bcs l).flatten:=zrn ed hd (zel l) (zfj l);obtain⟨G2,jG,gg,hT⟩:=zkc n5 m8 hμ2 ed eF eq (ys:=bcs [c]) (zel [c]) (by omega) (zel l) (zfj l) (zfj [c]) hx ⟨.int _ _,trivial⟩;refine⟨v',w2,G2,λty=>ef,jG,gg,by rw[←zvP];exact hT,?_⟩;rcases eq with ⟨g,k1,_,k3⟩|⟨_,k3⟩
   ·exact k3.block b kQ (λh=>m9 (by rw[k1,h]))
   ·exact k3.block b kQ (by simp)
  obtain⟨v',w2,G2,ef,jG,gg,kR,fq⟩:=key;have lh:=fq.trans (ib.trans nD);have hμ':=(jG.blk hμ);obtain⟨nZ,lT⟩:=gg.storeB (id:=id) (cs':=[.ptr id 0,.sl (bcs (l++[c])) (.own id2)]) (vs':=#[.pointer (some ⟨b,0,none⟩),v']) (by rw[List.getElem?_set_ne (λh=>en h.symm)];exact List.getElem?_set_self (List.getElem?_eq_some_iff.1 h1).1) hμ' lh ⟨⟨b,hμ',rfl⟩,kR,trivial⟩;rw[hW]at ef;refine(zJG b c v v' w w1 w2 fS nD ef lh ?_).mono ?_
  ·obtain⟨jT,_⟩:=kR;generalize bcs (l++[c])=cs at jT;cases jT with
   |slE a c=>exact⟨_,_,_,rfl⟩
   |sl=>exact⟨_,_,_,rfl⟩
  ·rintro e w' ⟨rfl,rfl⟩;have eI:w2.setCell ⟨b,1,none⟩ v'=w2.setRow b #[.pointer (some ⟨b,0,none⟩),v']:=by rw[setCell_eq_setRow w2 b 1 _ _ _ _ lh];rfl
   rw[eI];refine⟨_,_,_,G2,rfl,((kq.trans pI).trans jG).trans nZ,?_,?_,hK⟩
   ·rw[dE _ _ en,bG]at lT;exact lT
   ·rfl
theorem Wy{H:zaa}{id id2:Nat}{l:List UInt8}{c:UInt8}(h:Wb H id id2 l)(hn:l.length+1≤1000000000){K:AV→zaa→Prop}(hK:K .nili (wb H id id2 (l++[c]))):
  ACalls tP zgl [.ptr id 0,.int .u8 c.toNat] H K:=by
 obtain⟨p,hp,h1⟩:=h.h1;refine zEh hp h1 h.h2 (by omega) ?_;unfold wb at hK;rwa [az]at hK
end
theorem zy6{n:Nat}{H2 J H':zaa}{K:Kt}(he:H'=H2++J)(hn:n≤H2.length)(hs:HSc H2)(h:K (.tup []) H2):Out n K (.tup []) H':=by subst he;exact⟨.tup [],H2,J,rfl,hn,hs,.tup trivial,h⟩
theorem zzw:∀ (ks:List IT) (k:IT),zbm (ks++[k])=zbm ks++wrI k++[44]
 |[],k=>by simp[zbm]
 |x::ks,k=>by have:=zzw ks k;simp[zbm,this]
theorem zxq:∀ (ks:List IT) (k:IT),IT.nodesL (ks++[k])=IT.nodesL ks+k.nodes
 |[],k=>by simp[IT.nodesL]
 |x::ks,k=>by have:=zxq ks k;simp only[List.cons_append,IT.nodesL,this];omega
theorem zIi(n:Nat)(h:n≤9):small n=[UInt8.ofNat (48+n)]:=by
 have:∀n≤9,small n=[UInt8.ofNat (48+n)]:=by decide
 exact this n h
theorem zUY:∀(m:Nat) (i:IT),i.nodes≤m→i.nodes≤1000→Dig i→∀(H:zaa) (id id2:Nat) (l:List UInt8),Wb H id id2 l→l.length+4*i.nodes≤1000000→∀K:Kt,K (.tup []) (wb H id id2 (l++wrI i))→ACalls tP zjX [.ptr id 0,.agg i.cs] H K:=by
 intro m;induction m with
 |zero=>intro i h;have:=i.nodes_pos;omega
 |succ m ih=>
  intro i hm hn hd H id id2 l hB hl K hK;obtain⟨n,ks⟩:=i;rw[Dig]at hd;obtain⟨g8,hd9,hdk⟩:=hd;obtain⟨a,rfl⟩:∃a:Nat,n=a:=⟨n.toNat,by omega⟩;have fT:IT.nodesL ks+1≤m+1:=by simpa[IT.nodes]using hm
  have ip:IT.nodesL ks+1≤1000:=by simpa[IT.nodes]using hn
  have kj:l.length+4*(IT.nodesL ks+1)≤1000000:=by simpa[IT.nodes]using hl
  have iM:=IT.len_le ks;refine ACalls.out (zUW λhs=>?_);have lS:(IT.mk (a:Int) ks).cs=[.int .i64 a,.sl (IT.css ks) .none]:=rfl;rw[wrI,Int.toNat_natCast]at hK;obtain⟨dg,hdg⟩:∃dg,dg=UInt8.ofNat (48+a):=⟨_,rfl⟩;have kE:=zIi a (by omega);rw[←hdg]at hK kE;have hO:∀r J,r=l++(dg::if ks.length=0 then [] else 40::(zbm ks++[41]))→Out H.length K (.tup []) (wb H id id2 r++J):=λr J h=>zy6 rfl (by simp) (hB.hsc hs) (by rw[h];exact hK);simp[zDo,lS,ae];refine zD8 a (by omega) _ _ ?_;rw[kE];refine Ws hB.app (by simp;omega) ?_;rw[hB.wb_app];by_cases en:ks.length=0
  ·obtain rfl:=aB en;simp[IT.css];exact hO _ _ (by simp)
  ·have ga:0<ks.length:=by omega
   simp[ga];have ny:Wb (wb H id id2 (l++[dg])) id id2 (l++[dg]):=hB.next;refine Wy (c:=40) ny.app (by simp;omega) ?_;rw[ny.wb_app,zkL hB.ne];simp;obtain⟨p,hp⟩:∃p,p=l++[dg,40]:=⟨_,rfl⟩;have gd:p.length=l.length+2:=by rw[hp];simp
   rw[←hp];have oK:∀q,Wb (wb H id id2 (p++q)) id id2 (p++q):=λq=>hB.next;refine zUU (Inv:=λq t20 H'=>∃j:Nat,j≤ks.length∧ks.length-j=q∧t20=.int .i64 j∧H'=wb H id id2 (p++zbm (ks.take j))++[.cells [.int .i64 a,.sl (IT.css ks) .none]]) ks.length ?_ ?_
   ·intro _;exact⟨0,by omega,rfl,rfl,by simp[zbm]⟩
   ·rintro q t20 H' ⟨j,hj,rfl,rfl,rfl⟩ eA d8 eC Kb ee;have n7:=zkM (ks.take j);have htl:=IT.nodesL_take_le ks j;by_cases eN:j<ks.length
    ·have jl:=zck eN;have l9:=zu3 hdk _ (ah eN);have hts:=IT.nodesL_take_le ks (j+1);have eD:zbm (ks.take (j+1))=zbm (ks.take j)++wrI ks[j]++[44]:=by rw[af eN,zzw]
     have hwl1:=zkM (ks.take (j+1));have og:IT.nodesL (ks.take (j+1))=IT.nodesL (ks.take j)+ks[j].nodes:=by rw[af eN,zxq]
     obtain⟨x2,y2,eK,e8,kM⟩:=zde ks[j];have nD:=zrm ks[j];simp[zuy,eN,eK,e8,kM];rw[←eK];refine ih ks[j] (by omega) (by omega) l9 _ id id2 _ ((oK (zbm (ks.take j))).app) (by simp;omega) _ ?_;rw[(oK (zbm (ks.take j))).wb_app,zkL hB.ne];have nQ:Wb (wb H id id2 (p++zbm (ks.take j)++wrI ks[j])) id id2 (p++zbm (ks.take j)++wrI ks[j]):=hB.next;refine Wy (c:=44) nQ.app (by simp;omega) ?_;rw[nQ.wb_app,zkL hB.ne];have lU:p++zbm (ks.take j)++wrI ks[j]++[44]=p++zbm (ks.take (j+1)):=by rw[eD];simp
     rw[lU,wi j (by omega)];exact ee _ _ ⟨ks.length-(j+1),by omega,Back.at (J:=[.cells ks[j].cs]) (H2:=wb H id id2 (p++zbm (ks.take (j+1)))++[.cells [.int .i64 a,.sl (IT.css ks) .none]]) (by simp) (by simp) ((hB.hsc hs).append (by simp[AB.sc,AV.scA,AV.scB])) (by
      have:=hB.lt1;simp[znS,ux,AV.sc,AV.scA,AV.scB,AV.scV];omega) ⟨_,rfl,j+1,by omega,rfl,rfl,rfl⟩⟩
    ·obtain rfl:j=ks.length:=by omega
     rw[aq]at *;simp[zuy];refine Wy (c:=41) (oK _).app (by simp;omega) ?_;rw[(oK _).wb_app,zkL hB.ne];simp;exact hO _ _ (by rw[hp,ap en];simp)
def sw(H:zaa)(is im iv:Nat)(c:List AV)(s:List (IT×Nat)):zaa:=
 ((H.set iv (.vec zaC 5 s.length (tms s))).set im (.map (kvS s 0))).set is (.cells (c++[.map im,.ov iv s.length]))
structure Sw (H:zaa) (is im iv:Nat) (c:List AV) (s:List (IT × Nat)):Prop where
 c4:c.length=4
 n1:is≠im
 n2:is≠iv
 n3:im≠iv
 h1:H[is]?=some (.cells (c++[.map im,.ov iv s.length]))
 h2:H[im]?=some (.map (kvS s 0))
 h3:H[iv]?=some (.vec zaC 5 s.length (tms s))
section
variable {H J:zaa} {is im iv:Nat} {c:List AV} {s s':List (IT×Nat)}
@[simp] theorem zJa:(sw H is im iv c s).length=H.length:=by simp[sw]
theorem Sw.app(h:Sw H is im iv c s):Sw (H++J) is im iv c s:=⟨h.c4,h.n1,h.n2,h.n3,zbj h.h1,zbj h.h2,zbj h.h3⟩
theorem Sw.sw_app(h:Sw H is im iv c s):sw (H++J) is im iv c s'=sw H is im iv c s'++J:=by unfold sw;rw[aN _ _ (zbk h.h3),aN _ _ (by simpa using zbk h.h2),aN _ _ (by simpa using zbk h.h1)]
theorem zJc(h1:is≠im)(h2:is≠iv)(h3:im≠iv):sw (sw H is im iv c s) is im iv c s'=sw H is im iv c s':=by
 refine aJ λi=>?_;unfold sw;simp only[List.getElem?_set,bD]
 repeat' split
 all_goals first|rfl|omega|simp_all
theorem Sw.next(h:Sw H is im iv c s):Sw (sw H is im iv c s') is im iv c s':=by
 have l1:=zbk h.h1;have l2:=zbk h.h2;have l3:=zbk h.h3;refine⟨h.c4,h.n1,h.n2,h.n3,?_,?_,?_⟩
 ·unfold sw;rw[List.getElem?_set_self (by simpa using l1)]
 ·unfold sw;rw[List.getElem?_set_ne h.n1,List.getElem?_set_self (by simpa using l2)]
 ·unfold sw;rw[List.getElem?_set_ne h.n2,List.getElem?_set_ne h.n3,List.getElem?_set_self l3]
theorem Sw.self(h:Sw H is im iv c s):sw H is im iv c s=H:=by
 unfold sw;have e:∀(H:zaa) (i:Nat) (b:AB),H[i]?=some b→H.set i b=H:=λH i b hb=>by
  refine aJ λj=>?_;by_cases hj:i=j
  ·subst hj;rw[List.getElem?_set_self (zbk hb),hb]
  ·rw[List.getElem?_set_ne hj]
 rw[e H iv _ h.h3,e H im _ h.h2,e H is _ h.h1]
theorem Sw.hsc(h:Sw H is im iv c s)(hs:HSc H):HSc (sw H is im iv c s'):=by
 have l2:=zbk h.h2;have l3:=zbk h.h3;have hc:(c.all (AV.scA H.length))=true:=by have:=hs _ (c7 h.h1);simp only[AB.sc,bo,ai]at this;exact this.1
 unfold sw;refine HSc.set (HSc.set (HSc.set hs (by simp only[AB.sc];exact zq4 _ _)) (by simp only[AB.sc];exact zwO _ _)) ?_;simp only[AB.sc,bo,bD,hc,bi];simp[AV.scA,AV.scB];omega
end
theorem zI9{H:zaa}{is im iv:Nat}{c:List AV}{s s':List (IT × Nat)}(h1:is≠im)(h2:is≠iv)(h3:im≠iv)(hl:s.length=s'.length)(hk:kvS s 0=kvS s' 0):
  (sw H is im iv c s).set iv (.vec zaC 5 s.length (tms s'))=sw H is im iv c s':=by
 refine aJ λi=>?_;unfold sw;rw[hk,hl];simp only[List.getElem?_set,bD]
 repeat' split
 all_goals first|rfl|omega|simp_all
theorem zJb{H:zaa}{is im iv:Nat}{c:List AV}{s s':List (IT × Nat)}(h1:is≠im)(h2:is≠iv)(h3:im≠iv){a b d:AB}(ha:a=.map (kvS s' 0))(hb:b=.vec zaC 5 s'.length (tms s'))(hd:d=.cells (c++[.map im,.ov iv s'.length])):
  (((sw H is im iv c s).set im a).set iv b).set is d=sw H is im iv c s':=by
 subst ha hb hd;refine aJ λi=>?_;unfold sw;simp only[List.getElem?_set,bD]
 repeat' split
 all_goals first|rfl|omega|simp_all
theorem zvw(i:IT)(c:Nat):∀ s:List (IT × Nat),(zbf s i c).length≤s.length+1
 |[]=>by simp[zbf]
 |p::s=>by have:=zvw i c s;unfold zbf;split <;> simp <;> omega
theorem zf9:∀ (l s:List (IT × Nat)),(zaN s l).length≤s.length+l.length
 |[],s=>by simp[zaN]
 |p::l,s=>by have h1:=zf9 l (zbf s p.1 p.2);have h2:=zvw p.1 p.2 s;have e:zaN s (p::l)=zaN (zbf s p.1 p.2) l:=rfl;rw[e,List.length_cons];omega
theorem zoK:∀ (l s:List (IT × Nat)),∀ p∈zaN s l,(∃ q∈s,q.1=p.1)∨∃ q∈l,q.1=p.1
 |[],s,p,hp=>.inl ⟨p,hp,rfl⟩
 |x::l,s,p,hp=>by
  have e:zaN s (x::l)=zaN (zbf s x.1 x.2) l:=rfl;rw[e]at hp;rcases zoK l _ p hp with ⟨q,hq,h⟩|⟨q,hq,h⟩
  ·rcases zg7 hq with ⟨h1,_⟩ | h1
   ·exact .inr ⟨x,by simp,by rw[←h,h1]⟩
   ·exact .inl ⟨q,h1,h⟩
  ·exact .inr ⟨q,by simp[hq],h⟩
theorem zqU(l:List (IT × Nat))(hl:∀ p∈l,p.1.nodes≤1000∧Dig p.1)(H:zaa)(is im iv:Nat)(c:List AV)(s:List (IT × Nat))(hS:Sw H is im iv c s)(hsn:(s.map Prod.fst).Nodup)(hsd:∀ p∈s,Dig p.1)(hb:zaM (λ_=>1) s+zaM (λ_=>1) l<1000000000 ^ 20)(eH:s.length+l.length≤100000)(K:Kt)(hK:K (.tup []) (sw H is im iv c (zaN s l))):
  ACalls tP zhU [.ptr is 0,.sl (zaD l) .none] H K:=by
 refine ACalls.out (zS2 λhs=>?_);simp[zCN,ae];have fd:∀j,((zaN s (l.take j)).map Prod.fst).Nodup:=λj=>zga _ _ hsn;have oz:∀j,∀p∈zaN s (l.take j),Dig p.1:=λj p hp=>by
  rcases zoK _ _ p hp with ⟨q,hq,he⟩|⟨q,hq,he⟩
  ·rw[←he];exact hsd q hq
  ·rw[←he];exact(hl q (bE hq)).2
 have fY:∀j,(zaN s (l.take j)).length≤s.length+l.length:=λj=>ar (zf9 _ _) (by simp[aW];omega);refine zS0 (Inv:=λq t11 H'=>∃j:Nat,j≤l.length∧l.length-j=q∧t11=.int .i64 j∧H'=sw H is im iv c (zaN s (l.take j))) l.length ?_ ?_
 ·intro _;exact⟨0,by omega,rfl,rfl,by rw[List.take_zero,zv8,hS.self]⟩
 ·rintro q t11 H' ⟨j,hj,rfl,rfl,rfl⟩ eA d8 eC Kb ee;by_cases eN:j<l.length
  ·have eD:zaN s (l.take (j+1))=zbf (zaN s (l.take j)) l[j].1 l[j].2:=by rw[af eN,zFl]
   have nz:=fd j;have l9:=oz j;have pm:=fY j;have gy:zaM (λ_=>1) (zaN s (l.take j))+l[j].2≤zaM (λ_=>1) s+zaM (λ_=>1) l:=by have h1:=zgb (λ_=>1) (l.take (j+1)) s;rw[eD,zow]at h1;have h2:=zI3 (λ_=>1) l (j+1);rw[zbS]at h2 ⊢;simp only[zbS,bv]at h1 h2 ⊢;omega
   obtain⟨hn,hd⟩:=hl _ (ah eN);generalize hu:zaN s (l.take j)=u at *;have jU:Sw (sw H is im iv c u) is im iv c u:=hS.next;obtain⟨x2,y2,eK,e8,kM⟩:=zde l[j].1;simp[ztZ,eN,zea,zcQ,zco,ae];refine⟨zea _,?_⟩;have hlen0:(sw H is im iv c u).length=H.length:=zJa;simp only[zot];have hY:∀J,(sw H is im iv c u++(AB.cells (tmC l[j])::J))[H.length]?=some (.cells (tmC l[j])):=λJ=>by simp[List.getElem?_append]
   simp[hY,zco,ae];obtain⟨txt,lV⟩:∃txt,txt=wrI l[j].1:=⟨_,rfl⟩;have htl:=zrm l[j].1;have htne:txt≠[]:=by rw[lV];obtain⟨r,hr⟩:=zrl l[j].1 [];rw[aK]at hr;rw[hr];simp
   have htp:0<txt.length:=List.length_pos_iff.2 htne;refine ACalls.ownB (id:=H.length+1) (t:=112) (p:=.nilp) 5 1 (by simp[List.getElem?_append]) ?_;have hX1:(sw H is im iv c u++[AB.cells (tmC l[j]),.bld 112 [.nilp,.snil]]).set (H.length+1) (.bld 112 [.nilp,.sl [] (.own (sw H is im iv c u++[AB.cells (tmC l[j]),.bld 112 [.nilp,.snil]]).length)])++[.perm 5 1 0] =
     sw H is im iv c u++[AB.cells (tmC l[j]),.bld 112 [.nilp,.sl (bcs []) (.own (H.length+2))],.perm 5 1 0]:=by simp[aj,bcs]
   rw[hX1];have hWb:Wb (sw H is im iv c u++[AB.cells (tmC l[j]),.bld 112 [.nilp,.sl (bcs []) (.own (H.length+2))],.perm 5 1 0]) (H.length+1) (H.length+2) []:=⟨by omega,⟨.nilp,.inl rfl,by simp[List.getElem?_append]⟩,by simp[List.getElem?_append]⟩;refine ACalls.toFrz (zUY _ l[j].1 (aa _) hn hd _ _ _ [] hWb (by simp;omega) _ ?_);rw[List.nil_append,←lV];refine⟨H.length+2,5,txt.length,htp,hWb.next.h2,?_⟩;have hX2:(wb (sw H is im iv c u++[AB.cells (tmC l[j]),.bld 112 [.nilp,.sl (bcs []) (.own (H.length+2))],.perm 5 1 0]) (H.length+1) (H.length+2) txt).set (H.length+2) (.frz 5 1 txt.length) =
     sw H is im iv c u++[AB.cells (tmC l[j]),.bld 112 [.ptr (H.length+1) 0,.sl (bcs txt) (.own (H.length+2))],.frz 5 1 txt.length]:=by simp[wb,aj]
   rw[hX2];obtain⟨E,hE⟩:∃E,E=[AB.cells (tmC l[j]),.bld 112 [.ptr (H.length+1) 0,.sl (bcs txt) (.own (H.length+2))],.frz 5 1 txt.length]:=⟨_,rfl⟩;rw[←hE];have hSE:∀J,Sw (sw H is im iv c u++(E++J)) is im iv c u:=λJ=>jU.app;have e1:∀J,(sw H is im iv c u++(E++J))[H.length]?=some (.cells (tmC l[j])):=λJ=>by rw[hE];simp[List.getElem?_append]
   have e2:∀J,(sw H is im iv c u++(E++J))[H.length+1]?=some (.bld 112 [.ptr (H.length+1) 0,.sl (bcs txt) (.own (H.length+2))]):=λJ=>by rw[hE];simp[List.getElem?_append]
   have e3:∀J,(sw H is im iv c u++(E++J))[H.length+2]?=some (.frz 5 1 txt.length):=λJ=>by rw[hE];simp[List.getElem?_append]
   have jh:(c++[.map im,.ov iv u.length])[4]?=some (.map im):=by rw[List.getElem?_append_right (by rw[hS.c4];omega),hS.c4];rfl
   have n8:(c++[.map im,.ov iv u.length])[5]?=some (.ov iv u.length):=by rw[List.getElem?_append_right (by rw[hS.c4];omega),hS.c4];rfl
   have gz:=hSE [];rw[aK]at gz;have e10:=e1 [];rw[aK]at e10;have hstr:∀(J:zaa) (r:AV→zaa→Prop),r (.str txt) (sw H is im iv c u++(E++J))→ACalls tP zh1 [.ptr (H.length+1) 0] (sw H is im iv c u++(E++J)) r:=λJ r h=>zEe htne (e2 J) (e3 J) h;simp[gz.h1,zdm _ jh];refine zaH (.str txt) (λJ=>by rw[aw];exact hstr J _ ⟨rfl,rfl⟩) ?_;simp[gz.h2];have hdone:∀E:zaa,Kb (ziG (.ptr is 0) (.sl (zaD l) .none) (.int .i64 l.length) (.int .i64 (j+1))) (sw H is im iv c (zbf u l[j].1 l[j].2)++E):=λE=>
    ee _ _ ⟨l.length-(j+1),by omega,Back.at (J:=E) (H2:=sw H is im iv c (zbf u l[j].1 l[j].2)) rfl (by simp) (hS.hsc hs) (by
     have:=zbk hS.h1;simp[ziG,ux,AV.sc,AV.scA,AV.scB,AV.scV];omega) ⟨_,rfl,j+1,by omega,rfl,rfl,by rw[eD]⟩⟩
   by_cases pJ:∃k,∃h:k<u.length,u[k].1=l[j].1
   ·obtain⟨k,nf,hke⟩:=pJ;have nv:=zwP hd u 0 k nf l9 nz hke;rw[aG,←lV]at nv;simp[nv,gz.h1,zdm _ n8,nf];have hku2:=zpi (ah nf);have jO:zaM (λ_=>1) s+zaM (λ_=>1) l<1000000000 ^ 30:=bg hb (by decide);have fR:u[k].2<1000000000 ^ 30:=by omega
    have fq:l[j].2<1000000000 ^ 30:=by omega
    have n9:zbf u l[j].1 l[j].2=u.set k (u[k].1,u[k].2+l[j].2):=zvv nf hke nz;have m7:∀x∈zam ((u[k].2+l[j].2:Nat):Int),x.known=true:=ak.1 (zfC _);simp[gz.h3,zJi nf,e10,zcz];refine⟨by omega,?_⟩;refine zaH (.agg (zam ((u[k].2+l[j].2:Nat):Int))) (λJ=>zU2 _ _ fR fq _ _ ⟨rfl,rfl⟩) ?_;have ng:=zJl nf (u[k].2+l[j].2);rw[aw]at ng;simp[gz.h3,znh,zt1,wi j (by omega)];refine⟨by omega,?_⟩;rw[Int.natCast_add]at ng;rw[ng,←n9];have eZ:u.length=(zbf u l[j].1 l[j].2).length:=by rw[n9];simp
    have hkk:kvS u 0=kvS (zbf u l[j].1 l[j].2) 0:=by rw[n9,zGd u nf]
    have eI:=zI9 (H:=H) (c:=c) hS.n1 hS.n2 hS.n3 eZ hkk;have kS:(sw H is im iv c u++E).set iv (.vec zaC 5 u.length (tms (zbf u l[j].1 l[j].2)))=sw H is im iv c (zbf u l[j].1 l[j].2)++E:=by rw[aN _ _ (by simpa using zbk hS.h3),eI]
    rw[kS];exact hdone E
   ·have hnone:=zwN hd u 0 l9 (λp hp he=>by
     obtain⟨k,hk,rfl⟩:=bb hp;exact pJ ⟨k,hk,he⟩)
    rw[←lV]at hnone;obtain⟨jl,lz⟩:=hnone;simp[jl,gz.h1,zdm _ jh];refine zaH (.str txt) (λJ=>by rw[aw];exact hstr J _ ⟨rfl,rfl⟩) ?_;simp[gz.h1,zdm _ n8,gz.h2];have n9:zbf u l[j].1 l[j].2=u++[l[j]]:=zvy (λp hp he=>by
     obtain⟨k,hk,rfl⟩:=bb hp;exact pJ ⟨k,hk,he⟩)
    have hmp:=lz l[j].2;rw[aG]at hmp;have l6:=zbk hS.h2;have pK:=zbk hS.h3;have pL:=zbk hS.h1;obtain⟨M,hM⟩:∃M,M=AB.map (zcF (kvS u 0) txt (.int .i64 u.length)):=⟨_,rfl⟩;rw[←hM];have g1:((sw H is im iv c u++E).set im M)[is]?=some (.cells (c++[.map im,.ov iv u.length])):=by rw[List.getElem?_set_ne hS.n1.symm];exact gz.h1
    have g2:((sw H is im iv c u++E).set im M)[iv]?=some (.vec zaC 5 u.length (tms u)):=by rw[List.getElem?_set_ne hS.n3];exact gz.h3
    have g3:((sw H is im iv c u++E).set im M)[H.length]?=some (.cells (tmC l[j])):=by rw[List.getElem?_set_ne (by omega)];exact e10
    have f8:plain ([.int .i64 0,.snil,.bool false,.snil,.snil]:List AV)=some [.int .i64 0,.sl [] .none,.bool false,.sl [] .none,.sl [] .none]:=rfl;simp[g1,zdm _ n8,g3,zcQ,zau,zaU,zgw,f8];simp only[zax,zaO,zaK,g2];simp[g1];refine⟨by omega,?_⟩;have g4:(((sw H is im iv c u++E).set im M).set iv (.vec zaC 5 (u.length+1) (tms u++tmC l[j])))[is]?=some (.cells (c++[.map im,.ov iv u.length])):=by rw[List.getElem?_set_ne hS.n2.symm];exact g1
    have oH:List.take 5 (c++[.map im,.ov iv u.length])=c++[.map im]:=by
     have:c++[.map im,.ov iv u.length]=(c++[.map im])++[.ov iv u.length]:=by simp
     rw[this,c5 (by simp[hS.c4]),am (by simp[hS.c4])]
    have m6:List.drop (5+1) (c++[.map im,.ov iv u.length])=[]:=a7 (by simp[hS.c4]);rw[g4];simp only[zEv,oH,m6];simp[AV.known,hS.c4,znh,zt1,wi j (by omega)];have hlu:u.length+1=(u++[l[j]]).length:=by simp
    have eI:=zJb (H:=H) (c:=c) (s:=u) (s':=u++[l[j]]) hS.n1 hS.n2 hS.n3 (a:=M) (b:=.vec zaC 5 (u.length+1) (tms u++tmC l[j])) (d:=.cells (c++[.map im,.ov iv (u.length+1)]))
     (by rw[hM,hmp]) (by rw[hlu,zkD];simp[tms]) (by rw[hlu])
    have kS:(((sw H is im iv c u++E).set im M).set iv (.vec zaC 5 (u.length+1) (tms u++tmC l[j]))).set is (.cells (c++[.map im,.ov iv (u.length+1)]))=sw H is im iv c (zbf u l[j].1 l[j].2)++E:=by rw[aN _ _ (by simpa using l6),aN _ _ (by simpa using pK),aN _ _ (by simpa using pL),eI,n9]
    rw[kS];exact hdone E
  ·obtain rfl:j=l.length:=by omega
   rw[aq]at *;simp[ztZ];exact zy6 (J:=[]) (by simp) (by simp) (hS.hsc hs) hK
section
open Go.RowKit
variable {P:Program} {B:Nat} {w:World} {G:Gh} {H:zaa}
inductive OutX (H:zaa) (n:Nat):AV→AV→Prop
 |two {a b:AV} (h:OutW H n a b):OutX H n a b
 | msr (id len:Nat) (cs:List AV) (rs:List (List (List AV))) (d9:n≤id) (hH:H[id]?=some (.cells cs)) (hm:rs.length=len)
   (eB:All2 (OutV H n) cs (rs.map λr=>.sl r .none)):OutX H n (.ms id 0 len len) (.sl (rs.map λr=>[.sl r .none]) .none)
theorem OutX.vrel(hH:HRel B w G H){n:Nat}{v:Value}{a b:AV}(h:OutX H n a b)(hr:TRel w G v a):VRel w (G.cut w n) v b:=by
 cases h with
 |two h=>exact h.vrel hH hr
 |msr id len cs rs d9 gh hm eB=>
  obtain⟨b,hμ,rfl⟩:=hr;obtain⟨hB,hL,vs,e,hw,ew⟩:=hH.ok id _ _ gh hμ;subst hm;show DRel w (G.cut w n).L _ _;by_cases en:rs=[]
  ·subst en;exact .slE _ _
  ·have hd:All2 (DRel w (G.cut w n).L) vs.toList (rs.map λr=>AV.sl r .none):=All2.of_get (ew.length.trans eB.length) λi x y hx hy=>by
    obtain⟨a,ha,kL⟩:=All2.get' ew hx;obtain⟨y',ic,lK⟩:=All2.get' eB ha;rw[hy]at ic;cases ic;obtain⟨r,hr,rfl⟩:∃r,rs[i]?=some r∧AV.sl r .none=y:=by simpa using hy
    exact lK.vrel hH (TRel.of_v (VRel.of_a kL))
   have eZ:∀l:List (List (List AV)),(l.map λr=>[AV.sl r .none]).flatten=l.map λr=>AV.sl r .none:=by
    intro l;induction l with
    |nil=>rfl
    |cons r l ih=>simp[ih]
   have nq:=ew.length;have i8:=eB.length;have:=DRel.of_flat_at (w:=w) (L:=(G.cut w n).L) (g:=b) (off:=0) (size:=1) (cap:=rs.length) (es:=rs.map λr=>[AV.sl r .none]) (zs:=vs.toList) (by simp) (by simpa using en) (by simp) ?_ (by rw[eZ rs];exact hd) ?_
   ·simpa using this
   ·have:(G.cut w n).L b=vs.size:=by simp only[Gh.cut];rw[aA (cut_dropped.2 ⟨id,_,d9,hμ,rfl⟩),hw]
    rw[this];simp at nq i8 ⊢;omega
   ·intro j u hj;rw[aG];simp only[World.cell?,hw];simpa using hj
inductive OutT3 (H:zaa) (n:Nat):AV→AV→Prop
 |one {a b:AV} (h:OutX H n a b):OutT3 H n a b
 |tup {asx bs:List AV} (h:All2 (OutX H n) asx bs):OutT3 H n (.tup asx) (.tup bs)
/- Slots that are appended to: a block of their own for each. -/
theorem ALoop.ovC{c:Code}{Q:AExit→List AV→zaa→Prop}{F:List AV}{id j:Nat}{cs:List AV}(e size:Nat)(d9:H[id]?=some (.cells cs))(hj:cs[j]?=some .snil)(h:ALoop P c Q F (H.set id (.cells (cs.set j (.ov H.length 0)))++[.vec e size 0 []])):ALoop P c Q F H:=by
 intro B w G a hH hF hd;obtain⟨G',hE,eJ⟩:=hH.ovCell e size d9 hj;refine wp_mono (h B w G' a eJ (hF.ext hE) hd) λe a' w' hp=>?_;obtain⟨F'',H'',G'',e'',rfl,k1,k2,k3,k4,k5⟩:=hp;exact⟨F'',H'',G'',e'',rfl,hE.trans k1,k2,k3,k4,k5⟩
section
variable {α:Type}
def vcs:Nat→List (List α)→List AV
 |_,[]=>[]
 |b,l::ls=>.ov b l.length::vcs (b+1) ls
def vbs(f:α→List AV)(e size:Nat)(ls:List (List α)):List AB:=ls.map λl=>.vec e size l.length (l.flatMap f)
@[simp] theorem zzp:∀ (b:Nat) (ls:List (List α)),(vcs b ls).length=ls.length
 |_,[]=>rfl
 |b,l::ls=>by simp[vcs,zzp (b+1) ls]
@[simp] theorem yaC(f:α→List AV)(e size:Nat)(ls:List (List α)):(vbs f e size ls).length=ls.length:=by simp[vbs]
theorem zkK:∀ (b:Nat) (ls:List (List α)) (k:Nat),(vcs b ls)[k]?=ls[k]?.map λl=>.ov (b+k) l.length
 |_,[],k=>by simp[vcs]
 |b,l::ls,0=>by simp[vcs]
 |b,l::ls,k+1=>by simp[vcs,zkK (b+1) ls k];cases ls[k]? <;> simp;omega
theorem zJy(f:α→List AV)(e size:Nat)(ls:List (List α))(k:Nat):(vbs f e size ls)[k]?=ls[k]?.map λl=>.vec e size l.length (l.flatMap f):=by simp[vbs]
theorem zrh:∀ (b:Nat) (ls:List (List α)) (k:Nat) (l:List α),(vcs b ls).set k (.ov (b+k) l.length)=vcs b (ls.set k l)
 |_,[],k,l=>by simp[vcs]
 |b,x::ls,0,l=>by simp[vcs]
 |b,x::ls,k+1,l=>by have:=zrh (b+1) ls k l;rw[show b+1+k=b+(k+1) by omega]at this;simp[vcs,this]
theorem zJz(f:α→List AV)(e size:Nat)(ls:List (List α))(k:Nat)(l:List α):(vbs f e size ls).set k (.vec e size l.length (l.flatMap f))=vbs f e size (ls.set k l):=by simp[vbs,List.map_set]
theorem zJA:∀ (b n:Nat),vcs b (List.replicate (n+1) ([]:List α))=.ov b 0::vcs (b+1) (List.replicate n ([]:List α))
 |b,n=>rfl
theorem ALoop.ovCs{c:Code}{Q:AExit→List AV→zaa→Prop}{F:List AV}(α:Type)(f:α→List AV){id:Nat}(e size:Nat):∀ (n:Nat) (pre:List AV) (H:zaa),H[id]?=some (.cells (pre++List.replicate n .snil)) →
  ALoop P c Q F (H.set id (.cells (pre++vcs H.length (List.replicate n ([]:List α))))++vbs f e size (List.replicate n ([]:List α)))→ALoop P c Q F H
 |0,pre,H,d9,h=>by
  have hs:H.set id (.cells (pre++vcs H.length (List.replicate 0 ([]:List α))))=H:=by
   refine aJ λi=>?_;rw[List.getElem?_set];split
   ·rename_i hi;subst hi;rw[aA (List.getElem?_eq_some_iff.1 d9).1,d9];simp[vcs]
   ·rfl
  rw[hs]at h;simpa[vbs]using h
 |n+1,pre,H,d9,h=>by
  refine ALoop.ovC e size d9 (j:=pre.length) (by simp) ?_;have d7:=(List.getElem?_eq_some_iff.1 d9).1;have h1:(pre++List.replicate (n+1) AV.snil).set pre.length (.ov H.length 0)=(pre++[.ov H.length 0])++List.replicate n .snil:=by rw[aj _ _ (aa _)];simp[List.replicate_succ]
  rw[h1];refine ALoop.ovCs α f e size n (pre++[.ov H.length 0]) _ (by rw[List.getElem?_append_left (by simpa using d7),List.getElem?_set_self d7]) ?_;have h2:(H.set id (.cells (pre++[AV.ov H.length 0]++List.replicate n AV.snil))++[AB.vec e size 0 []]).set id (.cells (pre++[AV.ov H.length 0]++vcs (H.set id (.cells (pre++[AV.ov H.length 0]++List.replicate n AV.snil))++[AB.vec e size 0 []]).length (List.replicate n ([]:List α))))++vbs f e size (List.replicate n ([]:List α))
    = H.set id (.cells (pre++vcs H.length (List.replicate (n+1) ([]:List α))))++vbs f e size (List.replicate (n+1) ([]:List α)):=by
   rw[aN _ _ (by simpa using d7),bG,aw];simp[zJA,vbs,List.replicate_succ,vcs]
  rw[h2];exact h
def RdC(H:zaa)(lo:Nat)(f:α→List AV)(e size:Nat)(c:AV)(l:List α):Prop:=
 (l=[]∧c=.snil)∨∃b,lo≤b∧c=.ov b l.length∧H[b]?=some (.vec e size l.length (l.flatMap f))
def RdL(H:zaa)(lo:Nat)(f:α→List AV)(e size:Nat)(a:AV)(ls:List (List α)):Prop:=
 ∃id cs,lo≤id∧a=.ms id 0 ls.length ls.length∧H[id]?=some (.cells cs)∧All2 (RdC H lo f e size) cs ls
theorem RdC.pre{H H':zaa}{lo lo':Nat}{f:α→List AV}{e size:Nat}{c:AV}{l:List α}(h:RdC H lo f e size c l)(hp:H <+: H')(hl:lo'≤lo):RdC H' lo' f e size c l:=by
 rcases h with h|⟨b,h1,h2,h3⟩
 ·exact .inl h
 ·obtain⟨J,rfl⟩:=hp;exact .inr ⟨b,by omega,h2,by rw[List.getElem?_append_left (List.getElem?_eq_some_iff.1 h3).1];exact h3⟩
theorem RdL.pre{H H':zaa}{lo lo':Nat}{f:α→List AV}{e size:Nat}{a:AV}{ls:List (List α)}(h:RdL H lo f e size a ls)(hp:H <+: H')(hl:lo'≤lo):RdL H' lo' f e size a ls:=by obtain⟨id,cs,h1,h2,h3,h4⟩:=h;refine⟨id,cs,by omega,h2,?_,h4.mono λ_ _ hc=>hc.pre hp hl⟩;obtain⟨J,rfl⟩:=hp;rw[List.getElem?_append_left (List.getElem?_eq_some_iff.1 h3).1];exact h3
theorem RdL.get{H:zaa}{lo:Nat}{f:α→List AV}{e size:Nat}{a:AV}{ls:List (List α)}(h:RdL H lo f e size a ls):∃id cs,a=.ms id 0 ls.length ls.length∧H[id]?=some (.cells cs)∧cs.length=ls.length∧∀k (hk:k<ls.length),∃c,cs[k]?=some c∧RdC H lo f e size c ls[k]:=by obtain⟨id,cs,h1,h2,h3,h4⟩:=h;refine⟨id,cs,h2,h3,h4.length,λk hk=>?_⟩;exact All2.get h4 (List.getElem?_eq_getElem hk)
theorem zkgq:∀ {a b a' b':List AV},plain a=some a'→plain b=some b'→plain (a++b)=some (a'++b')
 |[],b,a',b',h1,h2=>by simp[plain]at h1;subst h1;simpa using h2
 |x::a,b,a',b',h1,h2=>by
  simp only[plain]at h1;cases hx:x.pd with
  |none=>rw[hx]at h1;simp at h1
  |some d=>
   cases ha:plain a with
   |none=>rw[hx,ha]at h1;simp at h1
   |some ds=>rw[hx,ha]at h1;simp at h1;subst h1;simp[plain,hx,zkgq ha h2]
theorem RdC.out{H:zaa}{lo:Nat}{f g:α→List AV}{e size:Nat}{c:AV}{l:List α}(h:RdC H lo f e size c l)(hp:∀x∈l,plain (f x)=some (g x))(hs:∀x,(g x).length=size):OutV H lo c (.sl (l.map g) .none):=by
 rcases h with ⟨rfl,rfl⟩|⟨b,h1,rfl,h3⟩
 ·exact .wk (.atom .snil) rfl rfl
 ·refine .vfz b e size l.length _ _ h1 h3 ?_ (by simp) λc hc=>by obtain⟨x,_,rfl⟩:=aC.1 hc;exact hs x
  clear h3;induction l with
  |nil=>rfl
  |cons x l ih=>rw[bf,aD,List.flatten_cons];exact zkgq (hp x (by simp)) (ih λy hy=>hp y (by simp[hy]))
theorem RdL.out{H:zaa}{lo:Nat}{f g:α→List AV}{e size:Nat}{a:AV}{ls:List (List α)}(h:RdL H lo f e size a ls)(hp:∀l∈ls,∀x∈l,plain (f x)=some (g x))(hs:∀x,(g x).length=size):OutX H lo a (.sl (ls.map λl=>[.sl (l.map g) .none]) .none):=by
 obtain⟨id,cs,h1,rfl,h3,h4⟩:=h;have:=OutX.msr (H:=H) (n:=lo) id ls.length cs (ls.map λl=>l.map g) h1 h3 (by simp) (All2.of_get (by simpa using h4.length) λi x y hx hy=>by
  obtain⟨l,hl,hc⟩:=All2.get' h4 hx;simp only[dt,List.getElem?_map,hl,Option.map_some,Function.comp_apply,bL]at hy;subst hy;exact hc.out (hp l (c7 hl)) hs)
 rw[dt]at this;exact this
def NX(f:α→List AV)(e size:Nat)(H1:zaa)(st:List (List α)):zaa:=H1++(.cells (vcs (H1.length+1) st)::vbs f e size st)
theorem zeK(f:α→List AV)(e size:Nat)(H1:zaa)(st:List (List α)):(NX f e size H1 st).length=H1.length+1+st.length:=by simp[NX];omega
theorem zvd(f:α→List AV)(e size:Nat)(H1:zaa)(st:List (List α)):H1 <+: NX f e size H1 st:=⟨_,rfl⟩
theorem zva(f:α→List AV)(e size:Nat)(H1 J:zaa)(st:List (List α)):(NX f e size H1 st++J)[H1.length]?=some (.cells (vcs (H1.length+1) st)):=by simp[NX]
theorem zvb(f:α→List AV)(e size:Nat)(H1:zaa)(st:List (List α)):(NX f e size H1 st)[H1.length]?=some (.cells (vcs (H1.length+1) st)):=by simp[NX]
theorem zu8(f:α→List AV)(e size:Nat)(H1 J:zaa)(st:List (List α)){k:Nat}(hk:k<st.length):(NX f e size H1 st++J)[H1.length+1+k]?=some (.vec e size st[k].length (st[k].flatMap f)):=by rw[List.getElem?_append_left (by rw[zeK];omega),NX,List.getElem?_append_right (by omega),show H1.length+1+k-H1.length=k+1 by omega,List.getElem?_cons_succ,zJy,List.getElem?_eq_getElem hk];rfl
theorem zu9(f:α→List AV)(e size:Nat)(H1 J:zaa){st:List (List α)}{k:Nat}{l:List α}(h:st[k]?=some l):(NX f e size H1 st++J)[H1.length+1+k]?=some (.vec e size l.length (l.flatMap f)):=by obtain⟨hk,rfl⟩:=List.getElem?_eq_some_iff.1 h;exact zu8 f e size H1 J st hk
theorem zrg(b:Nat){st:List (List α)}{k:Nat}{l:List α}(h:st[k]?=some l):(vcs b st)[k]?=some (.ov (b+k) l.length):=by rw[zkK,h];rfl
theorem zve(f:α→List AV)(e size:Nat)(H1 J:zaa)(st:List (List α)){k:Nat}(hk:k<st.length)(l:List α):((NX f e size H1 st++J).set (H1.length+1+k) (.vec e size l.length (l.flatMap f))).set H1.length (.cells (vcs (H1.length+1) (st.set k l)))=NX f e size H1 (st.set k l)++J:=by rw[aN _ _ (by rw[zeK];omega),aN _ _ (by simp[zeK];omega)];congr 1;unfold NX;rw[aj _ _ (by omega),aj _ _ (by omega),show H1.length+1+k-H1.length=k+1 by omega,List.set_cons_succ,cT,List.set_cons_zero,zJz]
theorem zJB(b:Nat)(ls:List (List α)){k:Nat}(hk:k<ls.length)(l:List α):(vcs b ls).take k++.ov (b+k) l.length::(vcs b ls).drop (k+1)=vcs b (ls.set k l):=by rw[←zrh,bl,aA (by simpa using hk)]
theorem zzq{n:Nat}:∀ (b:Nat) (ls:List (List α)),b+ls.length≤n→(vcs b ls).all (AV.scA n)=true
 |_,[],_=>rfl
 |b,l::ls,h=>by
  simp only[List.length_cons]at h;have ih:=zzq (n:=n) (b+1) ls (by omega);have hb:b<n:=by omega
  rw[vcs,List.all_cons,ih,ce];simpa[AV.scA,AV.scB]using hb
theorem zEb{f:α→List AV}{e size:Nat}{H1:zaa}{st:List (List α)}(hs:HSc H1)(hf:∀x n,(f x).all (AV.scA n)=true):HSc (NX f e size H1 st):=by
 refine hs.append ?_;rw[ak];intro b hb;rcases aS.1 hb with rfl|hb
 ·simp only[AB.sc];exact zzq _ _ (by simp;omega)
 ·obtain⟨l,_,rfl⟩:=aC.1 hb;simp only[AB.sc,List.all_flatMap,hf];simp
theorem ALoop.nx{c:Code}{Q:AExit→List AV→zaa→Prop}{F:List AV}(f:α→List AV)(e size n:Nat)(h:ALoop P c Q F (NX f e size H (List.replicate n []))):ALoop P c Q F (H++[.cells (List.replicate n .snil)]):=by
 refine ALoop.ovCs α f (id:=H.length) e size n [] _ (by simp) ?_;have:(H++[AB.cells (List.replicate n AV.snil)]).set H.length (.cells ([]++vcs (H++[AB.cells (List.replicate n AV.snil)]).length (List.replicate n ([]:List α))))++vbs f e size (List.replicate n ([]:List α))=NX f e size H (List.replicate n []):=by simp[NX,aj]
 rw[this];exact h
theorem HRel.reVec(h:HRel B w G H){id e size n:Nat}{cs cs':List AV}(d9:H[id]?=some (.vec e size n cs))(hc:All2 WkA cs cs'):HRel B w G (H.set id (.vec e size n cs')):=by
 refine⟨by simp[h.len],?_,h.dist,h.fresh,h.lt,h.base⟩;intro i ab gi h1 h2;by_cases hi:i=id
 ·subst hi;rw[List.getElem?_set_self (List.getElem?_eq_some_iff.1 d9).1]at h1;cases h1;have eh:=h.ok i _ _ d9 h2;cases gi with
  |blk b=>exact eh.elim
  |own v s n=>obtain⟨k1,k2,⟨xs,k3,k4⟩,k5⟩:=eh;exact⟨k1,k2,⟨xs,k3,zrj (vs:=[]) hc k4⟩,k5⟩
  |gap=>exact eh.elim
 ·rw[List.getElem?_set_ne (λh=>hi h.symm)]at h1;exact h.ok i ab gi h1 h2
theorem ALoop.reVec{c:Code}{Q:AExit→List AV→zaa→Prop}{F:List AV}{id e size n:Nat}{cs cs':List AV}(d9:H[id]?=some (.vec e size n cs))(hw:All2 WkA cs cs')(h:ALoop P c Q F (H.set id (.vec e size n cs'))):ALoop P c Q F H:=by intro B w G a hH hF hd;exact h B w G a (hH.reVec d9 hw) hF hd
theorem ACalls.reVec{f:FuncId}{args:List AV}{K:Kt}(h:ACalls P f args H λr H'=>K r H'∨∃id e size n cs cs',H'[id]?=some (.vec e size n cs)∧All2 WkA cs cs'∧K r (H'.set id (.vec e size n cs'))):ACalls P f args H K:=by
 intro B w G vs hH hv;refine(h B w G vs hH hv).mono λex w' ⟨v,r,H',G',h1,h2,h3,h4,h5⟩=>?_;rcases h5 with hk|⟨id,e,size,n,cs,cs',d9,hw,hk⟩
 ·exact⟨v,r,H',G',h1,h2,h3,h4,hk⟩
 ·exact⟨v,r,_,G',h1,h2,h3.reVec d9 hw,h4,hk⟩
end
end
end Go.Proofs.YtdmamdnkcefmmaaGreatDoor

import Derived.Shelf.Strings.OnBuilder
import Derived.Test.YtaifokkaaahdoaaGreatDoorProg
import Derived.Test.YtaifokkaaahdoaaGreatDoorAbsQ1
import Derived.Test.YtaifokkaaahdoaaGreatDoorKNum
import Derived.KernelRfl
import Derived.Test.YtaifokkaaahdoaaGreatDoorAbsU
set_option linter.unusedSimpArgs false
set_option linter.unusedVariables false
set_option linter.unusedSectionVars false
set_option maxRecDepth 8000
namespace Go.Proofs.YtaifokkaaahdoaaGreatDoor
open Go Go.Shelf Go.Abs Go.RowKit
def zxv:Go.Shelf.Ren:=⟨λ| 156=>158|165=>183|166=>184|169=>185|240=>201|241=>202|276=>210|277=>211|n=>n,λ| 31=>94|9=>9|3=>3|4=>4|0=>0|20=>20|72=>225|76=>229|70=>222|37=>223|75=>228|127=>248|164=>255|5=>5|80=>231|n=>n,λ| n=>n⟩
theorem zxt:Go.Proofs.Lays.n156 tP zxv:={
 mixed:=by kernel_rfl
 f156:=Tryz.func158.trans (congrArg some (by kernel_rfl))
 f165:=Tryz.func183.trans (congrArg some (by kernel_rfl))
 f166:=Tryz.func184.trans (congrArg some (by kernel_rfl))
 f169:=Tryz.func185.trans (congrArg some (by kernel_rfl))
 f240:=Tryz.func201.trans (congrArg some (by kernel_rfl))
 f241:=Tryz.func202.trans (congrArg some (by kernel_rfl))
 f276:=Tryz.func210.trans (congrArg some (by kernel_rfl))
 f277:=Tryz.func211.trans (congrArg some (by kernel_rfl))
 t0:=Tryz.underlying0
 a0:=Tryz.isAgg0
 z0:=Tryz.sizeOf0
 v0:=Tryz.zeroValue0
 t3:=Tryz.underlying3
 a3:=Tryz.isAgg3
 z3:=Tryz.sizeOf3
 v3:=Tryz.zeroValue3
 t4:=Tryz.underlying4
 a4:=Tryz.isAgg4
 z4:=Tryz.sizeOf4
 v4:=Tryz.zeroValue4
 t9:=Tryz.underlying9
 a9:=Tryz.isAgg9
 z9:=Tryz.sizeOf9
 v9:=Tryz.zeroValue9
 t20:=Tryz.underlying20
 a20:=Tryz.isAgg20
 z20:=Tryz.sizeOf20
 v20:=Tryz.zeroValue20
 t31:=Tryz.underlying94
 a31:=Tryz.isAgg94
 z31:=Tryz.sizeOf94
 v31:=Tryz.zeroValue94
 t37:=Tryz.underlying223
 a37:=Tryz.isAgg223
 z37:=Tryz.sizeOf223
 v37:=Tryz.zeroValue223
 t70:=Tryz.underlying222
 a70:=Tryz.isAgg222
 z70:=Tryz.sizeOf222
 v70:=Tryz.zeroValue222
 t72:=Tryz.underlying225
 a72:=Tryz.isAgg225
 z72:=Tryz.sizeOf225
 v72:=Tryz.zeroValue225
 t75:=Tryz.underlying228
 a75:=Tryz.isAgg228
 z75:=Tryz.sizeOf228
 v75:=Tryz.zeroValue228
 t76:=Tryz.underlying229
 a76:=Tryz.isAgg229
 z76:=Tryz.sizeOf229
 v76:=Tryz.zeroValue229
 t127:=Tryz.underlying248
 a127:=Tryz.isAgg248
 z127:=Tryz.sizeOf248
 v127:=Tryz.zeroValue248
 t164:=Tryz.underlying255
 a164:=Tryz.isAgg255
 z164:=Tryz.sizeOf255
 v164:=Tryz.zeroValue255 }
theorem zxu:Go.Proofs.Builder.Extra tP zxv:={
 sizeBuilder:=by kernel_rfl
 liesBuilder:=by kernel_rfl
 t5:=Tryz.underlying5
 a5:=Tryz.isAgg5
 z5:=Tryz.sizeOf5
 v5:=Tryz.zeroValue5
 infoByte:=by kernel_rfl
 cellsByte:=by kernel_rfl
 sizeByte:=by kernel_rfl
 neB5:=by decide }
theorem zEs{B:Nat}{w:World}{G:Gh}{H:zaa}(h:HRel B w G H)(h0:H[0]?=some .nodr):zeR G:=by
 have hl:0<G.μ.length:=by rw[h.len];exact(List.getElem?_eq_some_iff.1 h0).1
 have hok:=h.ok 0 _ _ h0 (List.getElem?_eq_getElem hl);cases hg:G.μ[0] with
 |blk b=>rw[hg]at hok;exact hok.elim
 |gap=>rw[hg]at hok;exact hok.elim
 |own v s n=>rw[hg]at hok;have hv:v=.nilFunc:=hok;subst hv;exact⟨s,n,by rw[List.getElem?_eq_getElem hl,hg]⟩
theorem zuS{B:Nat}{w w':World}{G:Gh}{H:zaa}(h:HRel B w G H)(h0:H[0]?=some .nodr)(hb:Below w.heap.size w w'):Ext B w G w' G∧HRel B w' G H:=by have he:Ext B w G w' G:=⟨⟨λk=>absurd (zEs h h0) k,λk=>k⟩,hb.mono h.base,λ_=>Nat.le_refl _,λb off ho=>hb.cell (p:=⟨b,off,none⟩) (zhg h ho),λ_ gi hg=>⟨gi,hg,gi.le_refl⟩⟩;exact⟨he,h.keep he rfl (λid gi b h1 h2=>⟨hb.block b (h.lt id gi b h1 h2),rfl⟩) λb hbb=>h.fresh b (Nat.le_trans hb.size hbb)⟩
def zbF(l:List (List UInt8)):List (List AV):=l.map λs=>[.str s]
@[simp] theorem zF6(l:List (List UInt8)):(zbF l).length=l.length:=by simp[zbF]
theorem zyN(l:List (List UInt8))(sep:List UInt8)(hn:l.length≤1000000)(hl:(Lib.join l sep).length≤1000000000)(H:zaa)(h0:H[0]?=some .nodr)(K:AV→zaa→Prop)(hK:K (.str (Lib.join l sep)) H):
  ACalls tP zo4 [.sl (zbF l) .none,.str sep] H K:=by
 intro B w G ⟨vs⟩ hH hv
 match vs,hv with
 |[v0,v1],⟨e0,e1,_⟩=>
  have e0:DRel w G.L v0 (.sl (zbF l) .none):=e0;have e1:v1=.string ⟨sep.toArray⟩:=e1;subst e1;have hmap:(l.map λs=>(⟨s.toArray⟩:ByteArray)).map (λb=>b.data.toList)=l:=by simp[List.map_map,Function.comp_def]
  generalize hx:AV.sl (zbF l) .none=x at e0;cases e0 with
  |slE a cap=>
   have hl0:l=[]:=by
    injection hx with h1
    simpa[zbF]using h1
   subst hl0;refine((Any.strings_Join_none zxt zxu a cap ⟨sep.toArray⟩ w:Calls tP 158 _ _ _)).mono ?_;rintro e w' ⟨rfl,rfl⟩;obtain⟨h1,h2⟩:=zuS hH h0 (Below.refl _ _);exact⟨_,.str (Lib.join [] sep),H,G,rfl,h1,h2,rfl,hK⟩
  |sl b off cap esz es vs hne hcap hL hsz hc hd=>
   injection hx with h1
   subst h1;have hpos:0<l.length:=by
    cases l with
    |nil=>simp[zbF]at hne
    |cons a l=>simp
   have hesz:esz=1:=by have:=hsz 0 (by simpa using hpos);simp[zbF]at this;exact this.symm
   subst hesz;have hcell:∀(j:Nat) x,(l.map λs=>(⟨s.toArray⟩:ByteArray))[j]?=some x→w.cell? ⟨b,off+j,none⟩=some (.string x):=λj x hj=>by
    rw[List.getElem?_map]at hj;cases hs:l[j]? with
    |none=>rw[hs]at hj;cases hj
    |some s=>
     rw[hs]at hj;cases hj;obtain⟨hj1,hs1⟩:=List.getElem?_eq_some_iff.1 hs;have hj2:j<(zbF l).length:=by simpa using hj1
     have hlen1:0<((zbF l)[j]).length:=by rw[hsz j hj2];omega
     have h3:=hc j 0 hj2 hlen1;have h4:=hd j 0 hj2 hlen1;have h5:((zbF l)[j])[0]=.str s:=by simp[zbF,hs1]
     rw[h5]at h4;generalize vs j 0=u at h3 h4;cases h4;simpa using h3
   have hbk:b<w.heap.size:=by
    have h3:=hcell 0 ⟨(l[0]).toArray⟩ (by simp[hpos]);by_cases hb:b<w.heap.size
    ·exact hb
    ·have:w.cell? ⟨b,off+0,none⟩=none:=by unfold World.cell?;simp[Array.getElem?_eq_none (Nat.le_of_not_lt hb)]
     rw[this]at h3;cases h3
   have hj:=(Any.strings_Join zxt zxu b off cap (l.map λs=>(⟨s.toArray⟩:ByteArray)) ⟨sep.toArray⟩ w hcell hbk (by simp;omega) (by simpa using hcap) (by rw[hmap];simp;omega));rw[hmap]at hj;simp only[List.length_map]at hj;rw[zF6];refine(show Calls tP 158 #[.slice (some ⟨b,off,none⟩) l.length cap,.string ⟨sep.toArray⟩] w _ from hj).mono ?_;rintro e w' ⟨rfl,hb⟩;obtain⟨h1,h2⟩:=zuS hH h0 hb;exact⟨_,.str (Lib.join l sep),H,G,rfl,h1,h2,rfl,hK⟩
  |_=>cases hx
end Go.Proofs.YtaifokkaaahdoaaGreatDoor
namespace Go.Abs
open Go

inductive VT where
 |mk (kind num:Int) (kids:List VT)

mutual
def VT.cs:VT→List AV
 |.mk k n ks=>[.int .i64 k,.int .i64 n,.sl (VT.css ks) .none]
def VT.css:List VT→List (List AV)
 |[]=>[]
 |v::vs=>VT.cs v::VT.css vs
end
mutual
def VT.nodes:VT→Nat
 |.mk _ _ ks=>VT.nodesL ks+1
def VT.nodesL:List VT→Nat
 |[]=>0
 |v::vs=>VT.nodes v+VT.nodesL vs
end
theorem VT.css_map:∀ ks:List VT,VT.css ks=ks.map VT.cs
 |[]=>rfl
 |v::vs=>by simp[VT.css,VT.css_map vs]
theorem VT.nodes_pos:∀ v:VT,0<v.nodes
 |.mk _ _ _=>by simp[VT.nodes]
theorem VT.nodesL_app:∀ (a b:List VT),VT.nodesL (a++b)=VT.nodesL a+VT.nodesL b
 |[],b=>by simp[VT.nodesL]
 |v::a,b=>by simp[VT.nodesL,VT.nodesL_app a b];omega
@[simp] theorem VT.cs_len(v:VT):v.cs.length=3:=by cases v;simp[VT.cs]
@[simp] theorem VT.css_len(ks:List VT):(VT.css ks).length=ks.length:=by simp[VT.css_map]
@[simp] theorem VT.cs_take(v:VT):v.cs.take 3=v.cs:=by cases v;simp[VT.cs]
@[simp] theorem VT.cs_known(v:VT):v.cs.all AV.known=true:=by cases v;simp[VT.cs,AV.known]
@[simp] theorem VT.cs_scA(v:VT)(n:Nat):v.cs.all (AV.scA n)=true:=by cases v;simp[VT.cs,AV.scA,AV.scB]
@[simp] theorem VT.css_at{ks:List VT}{i:Nat}(h:i<ks.length):(VT.css ks)[i]?.getD []=(ks[i]).cs:=by simp[VT.css_map,h]
@[simp] theorem VT.css_get{ks:List VT}{i:Nat}(h:i<(VT.css ks).length):(VT.css ks)[i]=(ks[i]'(by simpa using h)).cs:=by simp[VT.css_map]
theorem VT.kid_lt{k n:Int}{ks:List VT}{i:Nat}(h:i<ks.length):(ks[i]).nodes<(VT.mk k n ks).nodes:=by
 have h1:VT.nodesL ks=VT.nodesL (ks.take i)+((ks[i]).nodes+VT.nodesL (ks.drop (i+1))):=by
  conv=>lhs;rw[←List.take_append_drop i ks,VT.nodesL_app,List.drop_eq_getElem_cons h]
  rw[VT.nodesL]
 simp only[VT.nodes];omega
theorem VT.len_le:∀ ks:List VT,ks.length≤VT.nodesL ks
 |[]=>by simp
 |v::vs=>by have:=VT.len_le vs;have:=v.nodes_pos;simp[VT.nodesL];omega
theorem VT.nodesL_take{ks:List VT}{i:Nat}(h:i<ks.length):VT.nodesL (ks.take (i+1))=VT.nodesL (ks.take i)+(ks[i]).nodes:=by rw[List.take_succ_eq_append_getElem h,VT.nodesL_app];simp[VT.nodesL]
theorem VT.nodesL_take_le(ks:List VT)(i:Nat):VT.nodesL (ks.take i)≤VT.nodesL ks:=by
 conv=>rhs;rw[←List.take_append_drop i ks,VT.nodesL_app]
 omega
def VT.leaf(k:Int):Bool:=k == 6 || k == 7 || k == 8
mutual
def VT.size:VT→Nat
 |.mk k _ ks=>if VT.leaf k=true then 1 else VT.sizeL ks+1
def VT.sizeL:List VT→Nat
 |[]=>0
 |v::vs=>VT.size v+VT.sizeL vs
end
mutual
theorem VT.size_le:∀ v:VT,v.size≤v.nodes
 |.mk k n ks=>by have:=VT.sizeL_le ks;simp only[VT.size,VT.nodes];split <;> omega
theorem VT.sizeL_le:∀ ks:List VT,VT.sizeL ks≤VT.nodesL ks
 |[]=>by simp[VT.sizeL,VT.nodesL]
 |v::vs=>by have:=VT.size_le v;have:=VT.sizeL_le vs;simp only[VT.sizeL,VT.nodesL];omega
end
/- The guard on a value's nodes: what is left of a number behind it, and whether it was enough. -/
mutual
def VT.val:VT→Int→Bool × Int
 |.mk _ _ ks,n=>if n-1<0 then (false,n-1) else VT.valL ks (n-1)
def VT.valL:List VT→Int→Bool × Int
 |[],n=>(true,n)
 | v::vs,n=>match VT.val v n with
  |(true,m)=>VT.valL vs m
  |(false,m)=>(false,m)
end
mutual
theorem VT.val_spec:∀ (v:VT) (n:Int),0≤n→((VT.val v n).1=true→(VT.val v n).2=n-v.nodes∧0≤(VT.val v n).2)∧-1≤(VT.val v n).2∧(VT.val v n).2≤n
 |.mk k m ks,n,h=>by
  simp only[VT.val,VT.nodes];split
  ·simp;omega
  ·have:=VT.valL_spec ks (n-1) (by omega);refine⟨λht=>?_,by omega,by omega⟩;have:=this.1 ht;omega
theorem VT.valL_spec:∀ (ks:List VT) (n:Int),0≤n→((VT.valL ks n).1=true→(VT.valL ks n).2=n-VT.nodesL ks∧0≤(VT.valL ks n).2)∧-1≤(VT.valL ks n).2∧(VT.valL ks n).2≤n
 |[],n,h=>by simp[VT.valL,VT.nodesL];omega
 |v::vs,n,h=>by
  have h1:=VT.val_spec v n h;simp only[VT.valL,VT.nodesL];split
  ·rename_i m hm;rw[hm]at h1;have h2:=h1.1 rfl;simp only at h2;have h3:=VT.valL_spec vs m h2.2;refine⟨λht=>?_,by omega,by omega⟩;have:=h3.1 ht;omega
  ·rename_i m hm;rw[hm]at h1;simp only at h1;exact⟨by simp,by omega,by omega⟩
end
end Go.Abs
namespace Go.Abs
open Go
def icmp(a b:Int):Int:=if a<b then -1 else if b<a then 1 else 0
def cor(a b:Int):Int:=if a=0 then b else a
theorem zom(a b:Int):icmp a b=- icmp b a:=by unfold icmp;split <;> split <;> first|omega|(split <;> omega)
theorem zDs(a b:Int):icmp a b=0↔a=b:=by unfold icmp;split <;> first|omega|(split <;> omega)
theorem zon(a b:Int):icmp a b=-1∨icmp a b=0∨icmp a b=1:=by unfold icmp;split <;> first|omega|(split <;> omega)
theorem zjt{a a' b b':Int}(h:a=- b)(h':a'=- b'):cor a a'=- cor b b':=by unfold cor;split <;> split <;> omega
theorem znZ(a b:Int):cor a b=0↔a=0∧b=0:=by unfold cor;split <;> omega
theorem zju{a b:Int}(h:a=-1∨a=0∨a=1)(h':b=-1∨b=0∨b=1):cor a b=-1∨cor a b=0∨cor a b=1:=by unfold cor;split <;> omega
theorem zuc{a b:Int}(h:a≠0):cor a b=a:=by simp[cor,h]
theorem zud{a b:Int}(h:a=0):cor a b=b:=by simp[cor,h]
def Tri(a b c:Int):Prop:=a≤0→b≤0→c≤0∧(c=0→a=0∧b=0)
theorem Tri.icmp(x y z:Int):Tri (icmp x y) (icmp y z) (icmp x z):=by unfold Tri Go.Abs.icmp;intro h1 h2;split at h1 <;> split at h2 <;> (try split at h1) <;> (try split at h2) <;> split <;> (try split) <;> omega
theorem Tri.cor{a b c a' b' c':Int}(h:Tri a b c)(h':Tri a' b' c'):Tri (cor a a') (cor b b') (cor c c'):=by unfold Tri Go.Abs.cor at *;intro h1 h2;by_cases ha:a=0 <;> by_cases hb:b=0 <;> by_cases hc:c=0 <;> simp only[ha,hb,hc,if_true,if_false]at*<;> first|omega|(simp_all;done)|(have:=h' h1 h2;simp_all;omega)
mutual
def VT.cmp:VT→VT→Int
 |.mk k n ks,.mk k' n' ks'=>cor (icmp k k') (cor (icmp n n') (cor (icmp ks.length ks'.length) (VT.cmpL ks ks')))
def VT.cmpL:List VT→List VT→Int
 |v::vs,w::ws=>cor (VT.cmp v w) (VT.cmpL vs ws)
 |[],[]=>0
 |[],_::_=>-1
 |_::_,[]=>1
end
mutual
def VT.same:VT→VT→Bool
 |.mk k n ks,.mk k' n' ks'=>k == k' && n == n' && VT.sameL ks ks'
def VT.sameL:List VT→List VT→Bool
 |v::vs,w::ws=>VT.same v w && VT.sameL vs ws
 |[],[]=>true
 |[],_::_=>false
 |_::_,[]=>false
end
mutual
theorem VT.cmp_anti:∀ v w:VT,VT.cmp v w=- VT.cmp w v
 |.mk k n ks,.mk k' n' ks'=>by simp only[VT.cmp];exact zjt (zom _ _) (zjt (zom _ _) (zjt (zom _ _) (VT.cmpL_anti ks ks')))
theorem VT.cmpL_anti:∀ v w:List VT,VT.cmpL v w=- VT.cmpL w v
 |v::vs,w::ws=>by simp only[VT.cmpL];exact zjt (VT.cmp_anti v w) (VT.cmpL_anti vs ws)
 |[],[]=>by simp[VT.cmpL]
 |[],_::_=>by simp[VT.cmpL]
 |_::_,[]=>by simp[VT.cmpL]
end
mutual
theorem VT.cmp_rng:∀ v w:VT,VT.cmp v w=-1∨VT.cmp v w=0∨VT.cmp v w=1
 |.mk k n ks,.mk k' n' ks'=>by simp only[VT.cmp];exact zju (zon _ _) (zju (zon _ _) (zju (zon _ _) (VT.cmpL_rng ks ks')))
theorem VT.cmpL_rng:∀ v w:List VT,VT.cmpL v w=-1∨VT.cmpL v w=0∨VT.cmpL v w=1
 |v::vs,w::ws=>by simp only[VT.cmpL];exact zju (VT.cmp_rng v w) (VT.cmpL_rng vs ws)
 |[],[]=>by simp[VT.cmpL]
 |[],_::_=>by simp[VT.cmpL]
 |_::_,[]=>by simp[VT.cmpL]
end
theorem VT.sameL_len:∀ v w:List VT,VT.sameL v w=true→v.length=w.length
 |v::vs,w::ws=>by simp only[VT.sameL,Bool.and_eq_true,List.length_cons];intro h;have:=VT.sameL_len vs ws h.2;omega
 |[],[]=>by simp
 |[],_::_=>by simp[VT.sameL]
 |_::_,[]=>by simp[VT.sameL]
mutual
theorem VT.cmp_zero:∀ v w:VT,VT.cmp v w=0↔VT.same v w=true
 |.mk k n ks,.mk k' n' ks'=>by
  have h:=VT.cmpL_zero ks ks';simp only[VT.cmp,VT.same,znZ,zDs,Bool.and_eq_true,beq_iff_eq,and_assoc,h];constructor
  ·rintro⟨a,b,_,c⟩;exact⟨a,b,c⟩
  ·rintro⟨a,b,c⟩;exact⟨a,b,by have:=VT.sameL_len _ _ c;omega,c⟩
theorem VT.cmpL_zero:∀ v w:List VT,VT.cmpL v w=0↔VT.sameL v w=true
 |v::vs,w::ws=>by simp only[VT.cmpL,VT.sameL,znZ,Bool.and_eq_true,VT.cmp_zero v w,VT.cmpL_zero vs ws]
 |[],[]=>by simp[VT.cmpL,VT.sameL]
 |[],_::_=>by simp[VT.cmpL,VT.sameL]
 |_::_,[]=>by simp[VT.cmpL,VT.sameL]
end
mutual
theorem VT.cmp_tri:∀ v w x:VT,Tri (VT.cmp v w) (VT.cmp w x) (VT.cmp v x)
 |.mk k n ks,.mk k' n' ks',.mk k'' n'' ks''=>by simp only[VT.cmp];exact(Tri.icmp _ _ _).cor ((Tri.icmp _ _ _).cor ((Tri.icmp _ _ _).cor (VT.cmpL_tri ks ks' ks'')))
theorem VT.cmpL_tri:∀ v w x:List VT,Tri (VT.cmpL v w) (VT.cmpL w x) (VT.cmpL v x)
 |v::vs,w::ws,x::xs=>by simp only[VT.cmpL];exact(VT.cmp_tri v w x).cor (VT.cmpL_tri vs ws xs)
 |[],[],[]=>by simp[VT.cmpL,Tri]
 |[],[],_::_=>by simp[VT.cmpL,Tri]
 |[],_::_,[]=>by simp[VT.cmpL,Tri]
 |[],_::_,_::_=>by simp[VT.cmpL,Tri]
 |_::_,[],[]=>by simp[VT.cmpL,Tri]
 |_::_,[],_::_=>by simp[VT.cmpL,Tri]
 |_::_,_::_,[]=>by simp[VT.cmpL,Tri]
end
theorem VT.cmpL_drop{a b:List VT}{i:Nat}(ha:i<a.length)(hb:i<b.length):VT.cmpL (a.drop i) (b.drop i)=cor (VT.cmp a[i] b[i]) (VT.cmpL (a.drop (i+1)) (b.drop (i+1))):=by rw[List.drop_eq_getElem_cons ha,List.drop_eq_getElem_cons hb,VT.cmpL]
end Go.Abs
namespace Go.Abs
open Go
structure Con where
 name:List UInt8
 args:List VT
structure Dat where
 name:List UInt8
 vars:Int
 cons:List Con
structure Cod where
 name:List UInt8
 params:List Int
 capt:List Int
 res:VT
 body:Int
structure CEx where
 op:Int
 num:Int
 vars:List Int
 binds:List (List Int)
 kids:List Int
 ty:VT
structure Cor where
 data:List Dat
 codes:List Cod
 vars:List VT
 exprs:List CEx
def ints(l:List Int):List (List AV):=l.map λn=>[.int .i64 n]
def rows(l:List (List Int)):List (List AV):=l.map λr=>[.sl (ints r) .none]
def Con.cs(c:Con):List AV:=[.str c.name,.sl (VT.css c.args) .none]
def Dat.cs(d:Dat):List AV:=[.str d.name,.int .i64 d.vars,.sl (d.cons.map Con.cs) .none]
def Cod.cs(c:Cod):List AV:=.str c.name::.sl (ints c.params) .none::.sl (ints c.capt) .none::(c.res.cs++[.int .i64 c.body])
def CEx.cs(e:CEx):List AV:=.int .i64 e.op::.int .i64 e.num::.sl (ints e.vars) .none::.sl (rows e.binds) .none::.sl (ints e.kids) .none::e.ty.cs
def Cor.cs(c:Cor):List AV:=[.sl (c.data.map Dat.cs) .none,.sl (c.codes.map Cod.cs) .none,.sl (VT.css c.vars) .none,.sl (c.exprs.map CEx.cs) .none]
@[simp] theorem zdn(l:List Int):(ints l).length=l.length:=by simp[ints]
@[simp] theorem zT6(l:List (List Int)):(rows l).length=l.length:=by simp[rows]
def VT.kind:VT→Int|.mk k _ _=>k
def VT.num:VT→Int|.mk _ n _=>n
def VT.kids:VT→List VT|.mk _ _ ks=>ks
def zaC(data:List Dat)(vars k n:Int)(len:Nat):Bool:=
 if k == 1 || k == 2 || k == 3 then n == 0 && len == 0
 else if k == 4 then decide (0≤n) && decide (n<vars) && len == 0
 else if k == 5 then decide (0≤n) && (match data[n.toNat]? with|some d=>(len:Int) == d.vars|none=>false)
 else if k == 6 then n == 0 && decide (2≤len) && decide (len≤6)
 else if k == 7 || k == 8 then n == 0 && len == 1
 else if k == 9 then n == 0 && decide (1≤len) && decide (len≤7)
 else false
mutual
def zaz(data:List Dat)(vars:Int):VT→Bool
 |.mk k n asx=>zaC data vars k n asx.length && zaI data vars asx
def zaI(data:List Dat)(vars:Int):List VT→Bool
 |[]=>true
 |t::ts=>zaz data vars t && zaI data vars ts
end
def zaA(data:List Dat)(vars:Int)(t:VT):Bool:=decide (t.nodes≤200) && zaz data vars t
mutual
def subst(args:List VT):VT→VT
 |.mk k n ks=>if k=4∧0≤n∧n<args.length then (args[n.toNat]?).getD (.mk 0 0 []) else .mk k n (zaH args ks)
def zaH(args:List VT):List VT→List VT
 |[]=>[]
 |t::ts=>subst args t::zaH args ts
end
def zbq(data:List Dat)(t:VT)(c:Int):Option (List VT):=
 if t.kind=5∧0≤t.num∧0≤c then
  match data[t.num.toNat]? with
  | some d=>if (t.kids.length:Int)=d.vars then
    match d.cons[c.toNat]? with
    | some k=>let l:=k.args.map (subst t.kids)
     if l.all (λx=>decide (x.nodes≤200))=true then some l else none
    |none=>none
   else none
  |none=>none
 else none
end Go.Abs
namespace Go.Proofs.YtaifokkaaahdoaaGreatDoor
open Go Go.Abs
set_option maxRecDepth 100000
def zQc(_:Nat):List Bool:=[]
noncomputable def zQd:Code:=Tryz.f97.body.getD .skip
def ztg(t0 t1 t2:AV)(H:zaa)(K:Kt):Prop:=
 zaw t1 H λt4 H=>
 zao [.snil,(.int .i64 0),(.int .i64 0)] [(0,1),(1,1),(2,1)] [(0,t0),(1,t2),(2,(.int .i64 200))] λt10=>
 zaw t10 H λt11 H=>
 zae true 3 t4 H λt13=>
 ACalls tP zhQ [t11,t13] H λt14 H=>
 K t14 H
theorem zBe{t0 t1 t2:AV}{H:zaa}{K:Kt}(h:HSc H→ztg t0 t1 t2 H K):ACalls tP zfP [t0,t1,t2] H K:=
 zan (M:=zQc) Tryz.func97 (c:=zQd) (by kernel_rfl) (λhs=>Eq.mpr (by kernel_rfl) (h hs))
def zeM:Nat→List Bool
 |171022=>rl false [2,2,16,1,53,1,34]
 |150010=>rl false [2,2,1,2,13,2,87]
 |100007=>rl false [2,2,1,2,13,1,88]
 |100002=>rl false [2,2,105]
 |_=>[]
noncomputable def zeN:Code:=Tryz.f138.body.getD .skip
noncomputable def zlE:List ResultVar:=Tryz.f138.results.toList
def zdO(t2 t3 t5 t6:AV)(H:zaa)(K:Kt):Prop:=
 zaf 0 t3 λt79=>
 zae false 1 t79 H λt80=>
 zac .neq false t80 (.int .i64 4) λt81=>
 zab t81 true H (λK'=>zaf 0 t3 (K' · H)) λt83 H=>
 zab t81 true H (λK'=>zae false 1 t83 H (K' · H)) λt84 H=>
 zab t81 true H (λK'=>zac .neq false t84 (.int .i64 5) (K' · H)) λt85 H=>
 zai t81 t85 (.bool false) λt86=>
 zab t86 true H (λK'=>zaf 1 t3 (K' · H)) λt88 H=>
 zab t86 true H (λK'=>zae false 1 t88 H (K' · H)) λt89 H=>
 zab t86 true H (λK'=>zac .neq false t89 (.int .i64 0) (K' · H)) λt90 H=>
 zai t86 t90 (.bool false) λt91=>
 zag t91
 (K (.bool false) H)
 (zaf 2 t3 λt92=>
 zae false 1 t92 H λt93=>
 zah 1 t93 λt94=>
 zac .lss false t94 t5 λt96=>
 zab t96 false H (λK'=>zaf 2 t3 (K' · H)) λt98 H=>
 zab t96 false H (λK'=>zae false 1 t98 H (K' · H)) λt99 H=>
 zab t96 false H (λK'=>zah 1 t99 (K' · H)) λt100 H=>
 zab t96 false H (λK'=>K' t6 H) λt101 H=>
 zab t96 false H (λK'=>zac .gtr false t100 t101 (K' · H)) λt102 H=>
 zai t96 (.bool true) t102 λt103=>
 zag t103
 (K (.bool false) H)
 (zaf 2 t3 λt104=>
 zae false 1 t104 H λt105=>
 zcb zhU [t2] λt106=>
 ACalls tP zd5 [t105,t106] H λt107 H=>
 aUn .not t107 λt108=>
 K t108 H))
def zcj(t2 t3 t5 t6:AV)(H:zaa)(K:Kt):Prop:=
 zdO t2 t3 t5 t6 H K
noncomputable def zJf:Code:=zaq [1,1,1,1,0,1,0,1,1,1,1,1,1,1,1,1] zeN
def zJe(K:Kt):AExit→List AV→zaa→Prop:=zar tP zeM [1,1,1,1,0,1,0,1,1,1,1,1,1,1,1,1] zeN (zaB tP zlE K)
def zra(t2 t3 t20 t74:AV)(H:zaa)(K:Kt):Prop:=AWp tP zJf (zJe K) (ux 2 (t2::t3::ux 16 (t20::ux 53 (t74::ux 34 [])))) H
def zfZ(t2 t3 t20 t74:AV)(H:zaa)(K:Kt):Prop:=
 zag t74
 (zcj t2 t3 (.int .i64 1) (.int .i64 1) H K)
 (zac .eql false t20 (.int .i64 9) λt78=>
 zag t78
 (zcj t2 t3 (.int .i64 1) (.int .i64 7) H K)
 (K (.bool false) H))
noncomputable def zJd:Code:=zaq [1,1,1,1,0,1,0,1] zeN
def zJc(K:Kt):AExit→List AV→zaa→Prop:=zar tP zeM [1,1,1,1,0,1,0,1] zeN (zaB tP zlE K)
def zlB(t2 t3 t5 t6 t20 t21:AV)(H:zaa)(K:Kt):Prop:=AWp tP zJd (zJc K) (ux 2 (t2::t3::ux 1 (t5::t6::ux 13 (t20::t21::ux 87 [])))) H
def zb1(t2 t3 t5 t6 t20 t21:AV)(H:zaa)(K:Kt):Prop:=
 zag t21
 (zcj t2 t3 t5 t6 H K)
 (zac .eql false t20 (.int .i64 4) λt26=>
 zag t26
 (zad H (λK'=>zaf 1 t3 (K' · H)) λt27=>
 zad H (λK'=>zam false 1 t27 H (K' · H)) λt28=>
 zad H (λK'=>zac .lss false t28 (.int .i64 0) (K' · H)) λt29=>
 zad H (λK'=>K' t29 H) λt30=>
 zab t30 false H (λK'=>zad H (λK''=>zaf 1 t3 (K'' · H)) (K' · H)) λt31 H=>
 zab t30 false H (λK'=>zad H (λK''=>zam false 1 t31 H (K'' · H)) (K' · H)) λt32 H=>
 zab t30 false H (λK'=>zad H (λK''=>zam false 1 t2 H (K'' · H)) (K' · H)) λt33 H=>
 zab t30 false H (λK'=>zad H (λK''=>zaG t33 (K'' · H)) (K' · H)) λt34 H=>
 zab t30 false H (λK'=>zad H (λK''=>zaf 1 t34 (K'' · H)) (K' · H)) λt35 H=>
 zab t30 false H (λK'=>zad H (λK''=>zam false 1 t35 H (K'' · H)) (K' · H)) λt36 H=>
 zab t30 false H (λK'=>zad H (λK''=>zac .geq false t32 t36 (K'' · H)) (K' · H)) λt37 H=>
 zad H (λK'=>zai t30 (.bool true) t37 (K' · H)) λt38=>
 zag t38
 (K (.bool false) H)
 (zcj t2 t3 t5 t6 H K))
 (zac .eql false t20 (.int .i64 5) λt40=>
 zag t40
 (zad H (λK'=>zaf 1 t3 (K' · H)) λt41=>
 zad H (λK'=>zam false 1 t41 H (K' · H)) λt42=>
 zad H (λK'=>zac .lss false t42 (.int .i64 0) (K' · H)) λt43=>
 zad H (λK'=>K' t43 H) λt44=>
 zab t44 false H (λK'=>zad H (λK''=>zaf 1 t3 (K'' · H)) (K' · H)) λt45 H=>
 zab t44 false H (λK'=>zad H (λK''=>zam false 1 t45 H (K'' · H)) (K' · H)) λt46 H=>
 zab t44 false H (λK'=>zad H (λK''=>zam false 1 t2 H (K'' · H)) (K' · H)) λt47 H=>
 zab t44 false H (λK'=>zad H (λK''=>zaG t47 (K'' · H)) (K' · H)) λt48 H=>
 zab t44 false H (λK'=>zad H (λK''=>zaf 0 t48 (K'' · H)) (K' · H)) λt49 H=>
 zab t44 false H (λK'=>zad H (λK''=>zam false 1 t49 H (K'' · H)) (K' · H)) λt50 H=>
 zab t44 false H (λK'=>zad H (λK''=>zah 1 t50 (K'' · H)) (K' · H)) λt51 H=>
 zab t44 false H (λK'=>zad H (λK''=>zac .geq false t46 t51 (K'' · H)) (K' · H)) λt52 H=>
 zad H (λK'=>zai t44 (.bool true) t52 (K' · H)) λt53=>
 zag t53
 (K (.bool false) H)
 (zad H (λK'=>zam false 1 t2 H (K' · H)) λt54=>
 zad H (λK'=>zaG t54 (K' · H)) λt55=>
 zad H (λK'=>zaf 0 t55 (K' · H)) λt56=>
 zad H (λK'=>zam false 1 t56 H (K' · H)) λt57=>
 zad H (λK'=>zaf 1 t3 (K' · H)) λt58=>
 zad H (λK'=>zam false 1 t58 H (K' · H)) λt59=>
 zad H (λK'=>zaj 3 t57 t59 (K' · H)) λt60=>
 zad H (λK'=>zaf 1 t60 (K' · H)) λt61=>
 zad H (λK'=>zam false 1 t61 H (K' · H)) λt62=>
 zad H (λK'=>zam false 1 t2 H (K' · H)) λt63=>
 zad H (λK'=>zaG t63 (K' · H)) λt64=>
 zad H (λK'=>zaf 0 t64 (K' · H)) λt65=>
 zad H (λK'=>zam false 1 t65 H (K' · H)) λt66=>
 zad H (λK'=>zaf 1 t3 (K' · H)) λt67=>
 zad H (λK'=>zam false 1 t67 H (K' · H)) λt68=>
 zad H (λK'=>zaj 3 t66 t68 (K' · H)) λt69=>
 zad H (λK'=>zaf 1 t69 (K' · H)) λt70=>
 zad H (λK'=>zam false 1 t70 H (K' · H)) λt71=>
 zad H (λK'=>K' t62 H) λt5=>
 zad H (λK'=>K' t71 H) λt6=>
 zcj t2 t3 t5 t6 H K))
 (zac .eql false t20 (.int .i64 6) λt73=>
 zag t73
 (zcj t2 t3 (.int .i64 2) (.int .i64 6) H K)
 (zac .eql false t20 (.int .i64 7) λt75=>
 zag t75
 (zra t2 t3 t20 t75 H K)
 (zac .eql false t20 (.int .i64 8) λt76=>
 zra t2 t3 t20 t76 H K)))))
noncomputable def zJb:Code:=zaq [1,1,1,1,0,1] zeN
def zJa(K:Kt):AExit→List AV→zaa→Prop:=zar tP zeM [1,1,1,1,0,1] zeN (zaB tP zlE K)
def zyq(t2 t3 t5 t6 t20:AV)(H:zaa)(K:Kt):Prop:=AWp tP zJb (zJa K) (ux 2 (t2::t3::ux 1 (t5::t6::ux 13 (t20::ux 88 [])))) H
def zix(t2 t3 t5 t6 t20:AV)(H:zaa)(K:Kt):Prop:=
 zac .eql false t20 (.int .i64 1) λt22=>
 zag t22
 (zlB t2 t3 t5 t6 t20 t22 H K)
 (zac .eql false t20 (.int .i64 2) λt23=>
 zag t23
 (zlB t2 t3 t5 t6 t20 t23 H K)
 (zac .eql false t20 (.int .i64 3) λt24=>
 zlB t2 t3 t5 t6 t20 t24 H K))
noncomputable def zI9:Code:=zaq [1,1] zeN
def zI8(K:Kt):AExit→List AV→zaa→Prop:=zar tP zeM [1,1] zeN (zaB tP zlE K)
def zlA(t2 t3:AV)(H:zaa)(K:Kt):Prop:=AWp tP zI9 (zI8 K) (ux 2 (t2::t3::ux 105 [])) H
def ziw(t2 t3:AV)(H:zaa)(K:Kt):Prop:=
 zae false 1 t2 H λt14=>
 zaG t14 λt15=>
 zaf 2 t15 λt16=>
 zae false 1 t16 H λt17=>
 zac .lss false t17 (.int .i64 0) λt18=>
 zag t18
 (K (.bool false) H)
 (zaf 0 t3 λt19=>
 zae false 1 t19 H λt20=>
 zyq t2 t3 (.int .i64 0) (.int .i64 0) t20 H K)
def zq4(t0 t1:AV)(H:zaa)(K:Kt):Prop:=
 zaw t0 H λt2 H=>
 zaw t1 H λt3 H=>
 zae false 1 t2 H λt7=>
 zaG t7 λt8=>
 zaf 2 t8 λt9=>
 zae false 1 t9 H λt10=>
 zac .sub false t10 (.int .i64 1) λt11=>
 zaG t7 λt12=>
 zaf 2 t12 λt13=>
 zak 1 t13 t11 H λH=>
 zlA t2 t3 H K
theorem zlD{t2 t3 t20 t74:AV}{H:zaa}{K:Kt}(h:HSc H→zfZ t2 t3 t20 t74 H K):zra t2 t3 t20 t74 H K:=
 λB w G a hH hF hd=>zgn (M:=zeM) _ _ _ _ (Eq.mpr (by kernel_rfl) (h hH.sc)) B w G a hH hF hd
theorem zlC{t2 t3 t5 t6 t20 t21:AV}{H:zaa}{K:Kt}(h:HSc H→zb1 t2 t3 t5 t6 t20 t21 H K):zlB t2 t3 t5 t6 t20 t21 H K:=
 λB w G a hH hF hd=>zgn (M:=zeM) _ _ _ _ (Eq.mpr (by kernel_rfl) (h hH.sc)) B w G a hH hF hd
theorem zyr{t2 t3 t5 t6 t20:AV}{H:zaa}{K:Kt}(h:HSc H→zix t2 t3 t5 t6 t20 H K):zyq t2 t3 t5 t6 t20 H K:=
 λB w G a hH hF hd=>zgn (M:=zeM) _ _ _ _ (Eq.mpr (by kernel_rfl) (h hH.sc)) B w G a hH hF hd
theorem zyp{t2 t3:AV}{H:zaa}{K:Kt}(h:HSc H→ziw t2 t3 H K):zlA t2 t3 H K:=
 λB w G a hH hF hd=>zgn (M:=zeM) _ _ _ _ (Eq.mpr (by kernel_rfl) (h hH.sc)) B w G a hH hF hd
theorem zys{t0 t1:AV}{H:zaa}{K:Kt}(h:HSc H→zq4 t0 t1 H K):ACalls tP zhQ [t0,t1] H K:=
 zan (M:=zeM) Tryz.func138 (c:=zeN) (by kernel_rfl) (λhs=>Eq.mpr (by kernel_rfl) (h hs))
def zKX(_:Nat):List Bool:=[]
noncomputable def zKY:Code:=Tryz.f178.body.getD .skip
def zrH(t0 t1:AV)(H:zaa)(K:Kt):Prop:=
 zaw t0 H λt2 H=>
 zae false 1 t1 H λt4=>
 zae true 3 t2 H λt5=>
 ACalls tP zhQ [t4,t5] H λt6 H=>
 aUn .not t6 λt7=>
 K t7 H
theorem zyT{t0 t1:AV}{H:zaa}{K:Kt}(h:HSc H→zrH t0 t1 H K):ACalls tP zhU [t0,t1] H K:=
 zan (M:=zKX) Tryz.func178 (c:=zKY) (by kernel_rfl) (λhs=>Eq.mpr (by kernel_rfl) (h hs))
def zHn(_:Nat):List Bool:=[]
noncomputable def zHo:Code:=Tryz.f105.body.getD .skip
def zqv(t0 t1:AV)(H:zaa)(K:Kt):Prop:=
 ACalls tP zjW [t0,t1] H λt7 H=>
 zac .geq false t7 (.int .i64 0) λt8=>
 K t8 H
theorem zxB{t0 t1:AV}{H:zaa}{K:Kt}(h:HSc H→zqv t0 t1 H K):ACalls tP zd5 [t0,t1] H K:=
 zan (M:=zHn) Tryz.func105 (c:=zHo) (by kernel_rfl) (λhs=>Eq.mpr (by kernel_rfl) (h hs))
def zlZ:Nat→List Bool
 |2=>rl false [0,2,5,2,10]
 |_=>[]
noncomputable def zrz:Code:=Tryz.f152.body.getD .skip
noncomputable def zKo:List ResultVar:=Tryz.f152.results.toList
def ziC(t0 t1 t7 t8:AV):List AV:=t0::t1::ux 5 (t7::t8::ux 10 [])
def zKn:List Bool:=zlZ 2
noncomputable def zKm:Code:=zaq [1,0,1,0,0] zrz
def zKl(K:Kt):AExit→List AV→zaa→Prop:=zar tP zlZ [1,0,1,0] zrz (zaB tP zKo K)
def zyJ(t0 t1 t7 t8:AV)(H:zaa)(K:Kt):Prop:=ALoop tP zKm (zKl K) (ziC t0 t1 t7 t8) H
def ziB(t0 t1 t7 t8:AV)(H:zaa)(K:Kt)(Kb2:Lt):Prop:=
 zac .lss false t8 t7 λt9=>
 zag t9
 (zaj 3 t0 t8 λt14=>
 zae true 3 t14 H λt15=>
 aCallV tP t1 [t15] H λt16 H=>
 zag t16
 (K t8 H)
 (zac .add false t8 (.int .i64 1) λt18=>
 Kb2 (ziC t0 t1 t7 t18) H))
 (K (.int .i64 (-1)) H)
def zry(t0 t1:AV)(H:zaa)(K:Kt):Prop:=
 zah 1 t0 λt7=>
 zyJ t0 t1 t7 (.int .i64 0) H K
theorem zyK{t0 t1 t7 t8:AV}{H:zaa}{K:Kt}(Inv:Nat→AV→zaa→Prop)(n:Nat)(h0:HSc H→Inv n t8 H)(round:Rd1 (λt8=>ziC t0 t1 t7 t8) (λt8=>λH Kb2=>ziB t0 t1 t7 t8 H K Kb2) H Inv):zyJ t0 t1 t7 t8 H K:=
 lp1 (M:=zlZ) zKn t8 (by kernel_rfl) Inv n h0 round
theorem zyL{t0 t1:AV}{H:zaa}{K:Kt}(h:HSc H→zry t0 t1 H K):ACalls tP zjW [t0,t1] H K:=
 zan (M:=zlZ) Tryz.func152 (c:=zrz) (by kernel_rfl) (λhs=>Eq.mpr (by kernel_rfl) (h hs))
def zei:Nat→List Bool
 |8=>rl false [2,1,1,1,3,2,49,3,46]
 |13=>rl false [2,1,1,1,3,2,67,3,28]
 |20=>rl false [4,1,9,1,78,3,12]
 |_=>[]
noncomputable def zgb:Code:=Tryz.f101.body.getD .skip
noncomputable def ztl:List ResultVar:=Tryz.f101.results.toList
def znr(t2 t4 t8 t9 t59 t60 t61:AV):List AV:=ux 2 (t2::ux 1 (t4::ux 3 (t8::t9::ux 49 (t59::t60::t61::ux 46 []))))
def zQw:List Bool:=zei 8
noncomputable def zQq:Code:=zaq [1,1,1,1,1,0,1,0,0] zgb
def zQn(K:Kt):AExit→List AV→zaa→Prop:=zar tP zei [1,1,1,1,1,0,1,0] zgb (zaB tP ztl K)
def zBj(t2 t4 t8 t9 t59 t60 t61:AV)(H:zaa)(K:Kt):Prop:=ALoop tP zQq (zQn K) (znr t2 t4 t8 t9 t59 t60 t61) H
def znp(t2 t4 t8 t9 t77 t78 t79:AV):List AV:=ux 2 (t2::ux 1 (t4::ux 3 (t8::t9::ux 67 (t77::t78::t79::ux 28 []))))
def zQu:List Bool:=zei 13
noncomputable def zQo:Code:=zaq [1,1,1,1,1,1,0,1,0,0] zgb
def zQl(K:Kt):AExit→List AV→zaa→Prop:=zar tP zei [1,1,1,1,1,1,0,1,0] zgb (zaB tP ztl K)
def zBi(t2 t4 t8 t9 t77 t78 t79:AV)(H:zaa)(K:Kt):Prop:=ALoop tP zQo (zQl K) (znp t2 t4 t8 t9 t77 t78 t79) H
def znq(t4 t14 t93 t94 t95:AV):List AV:=ux 4 (t4::ux 9 (t14::ux 78 (t93::t94::t95::ux 12 [])))
def zQv:List Bool:=zei 20
noncomputable def zQp:Code:=zaq [1,1,1,1,1,1,1,1,0,1,0,0] zgb
def zQm(K:Kt):AExit→List AV→zaa→Prop:=zar tP zei [1,1,1,1,1,1,1,1,0,1,0] zgb (zaB tP ztl K)
def zns(t4 t14 t93 t94 t95:AV)(H:zaa)(K:Kt):Prop:=ALoop tP zQp (zQm K) (znq t4 t14 t93 t94 t95) H
def ztj(t4 t14 t93 t94 t95:AV)(H:zaa)(K:Kt)(Kb20:Lt):Prop:=
 zac .lss false t95 t94 λt96=>
 zag t96
 (zaj 3 t93 t95 λt97=>
 zae true 3 t97 H λt98=>
 zay [(.int .i64 0),(.int .i64 0),.snil] H λt16 H=>
 zak 3 t16 t98 H λH=>
 zae true 3 t16 H λt100=>
 zaf 2 t4 λt101=>
 zae false 1 t101 H λt102=>
 ACalls tP zhR [t100,t102] H λt103 H=>
 zas 3 [(.int .i64 0),(.int .i64 0),.snil] 1 [(0,t103)] λt104=>
 zax za9 3 40 t14 t104 H λt105 H=>
 zac .add false t95 (.int .i64 1) λt106=>
 Kb20 (znq t4 t105 t93 t94 t106) H)
 (zbb [t14,(.bool true)] (K · H))
def zti(t2 t4 t8 t9 t77 t78 t79:AV)(H:zaa)(K:Kt)(Kb13:Lt):Prop:=
 zac .lss false t79 t78 λt80=>
 zag t80
 (zaj 3 t77 t79 λt81=>
 zae true 3 t81 H λt82=>
 zay [(.int .i64 0),(.int .i64 0),.snil] H λt13 H=>
 zak 3 t13 t82 H λH=>
 zae true 3 t13 H λt83=>
 ACalls tP zjT [t83,t9] H λt85 H=>
 zac .gtr false t85 (.int .i64 200) λt86=>
 zag t86
 (zbb [.snil,(.bool false)] (K · H))
 (zac .add false t79 (.int .i64 1) λt87=>
 Kb13 (znp t2 t4 t8 t9 t77 t78 t87) H))
 (zaf 2 t8 λt88=>
 zae false 1 t88 H λt89=>
 zaj 2 t89 t2 λt91=>
 zaf 1 t91 λt92=>
 zae false 1 t92 H λt93=>
 zah 1 t93 λt94=>
 zns t4 .snil t93 t94 (.int .i64 0) H K)
def ztk(t2 t4 t8 t9 t59 t60 t61:AV)(H:zaa)(K:Kt)(Kb8:Lt):Prop:=
 zac .lss false t61 t60 λt62=>
 zag t62
 (zaj 3 t59 t61 λt64=>
 zae true 3 t64 H λt65=>
 zay [(.int .i64 0),(.int .i64 0),.snil] H λt11 H=>
 zak 3 t11 t65 H λH=>
 zae true 3 t11 H λt68=>
 ACalls tP zjS [t68] H λt69 H=>
 zaj 1 t9 t61 λt70=>
 zak 1 t70 t69 H λH=>
 zac .add false t61 (.int .i64 1) λt71=>
 Kb8 (znr t2 t4 t8 t9 t59 t60 t71) H)
 (zaf 2 t8 λt72=>
 zae false 1 t72 H λt73=>
 zaj 2 t73 t2 λt75=>
 zaf 1 t75 λt76=>
 zae false 1 t76 H λt77=>
 zah 1 t77 λt78=>
 zBi t2 t4 t8 t9 t77 t78 (.int .i64 0) H K)
def zBh(t0 t1 t2:AV)(H:zaa)(K:Kt):Prop:=
 zaw t1 H λt4 H=>
 zaf 0 t4 λt17=>
 zae false 1 t17 H λt18=>
 zac .neq false t18 (.int .i64 5) λt19=>
 zab t19 false H (λK'=>zaf 1 t4 (K' · H)) λt21 H=>
 zab t19 false H (λK'=>zae false 1 t21 H (K' · H)) λt22 H=>
 zab t19 false H (λK'=>zac .lss false t22 (.int .i64 0) (K' · H)) λt23 H=>
 zai t19 (.bool true) t23 λt24=>
 zab t24 false H (λK'=>zaf 1 t4 (K' · H)) λt26 H=>
 zab t24 false H (λK'=>zae false 1 t26 H (K' · H)) λt27 H=>
 zab t24 false H (λK'=>K' t0 H) λt28 H=>
 zab t24 false H (λK'=>zah 1 t28 (K' · H)) λt29 H=>
 zab t24 false H (λK'=>zac .geq false t27 t29 (K' · H)) λt30 H=>
 zai t24 (.bool true) t30 λt31=>
 zag t31
 (zbb [.snil,(.bool false)] (K · H))
 (zaf 1 t4 λt33=>
 zae false 1 t33 H λt34=>
 zaj 3 t0 t34 λt35=>
 zae true 3 t35 H λt36=>
 zay [(.str []),(.int .i64 0),.snil] H λt8 H=>
 zak 3 t8 t36 H λH=>
 zaf 2 t4 λt37=>
 zae false 1 t37 H λt38=>
 zah 1 t38 λt39=>
 zaf 1 t8 λt40=>
 zae false 1 t40 H λt41=>
 zac .neq false t39 t41 λt42=>
 zab t42 false H (λK'=>K' t2 H) λt44 H=>
 zab t42 false H (λK'=>zac .lss false t44 (.int .i64 0) (K' · H)) λt45 H=>
 zai t42 (.bool true) t45 λt46=>
 zab t46 false H (λK'=>K' t2 H) λt48 H=>
 zab t46 false H (λK'=>zaf 2 t8 (K' · H)) λt49 H=>
 zab t46 false H (λK'=>zae false 1 t49 H (K' · H)) λt50 H=>
 zab t46 false H (λK'=>zah 1 t50 (K' · H)) λt51 H=>
 zab t46 false H (λK'=>zac .geq false t48 t51 (K' · H)) λt52 H=>
 zai t46 (.bool true) t52 λt53=>
 zag t53
 (zbb [.snil,(.bool false)] (K · H))
 (zaf 2 t4 λt54=>
 zae false 1 t54 H λt55=>
 zah 1 t55 λt56=>
 zbu 8 [(.int .i64 0)] t56 t56 H λt57 H=>
 zaf 2 t4 λt58=>
 zae false 1 t58 H λt59=>
 zah 1 t59 λt60=>
 zBj t2 t4 t8 t57 t59 t60 (.int .i64 0) H K))
theorem zQs{t4 t14 t93 t94 t95:AV}{H:zaa}{K:Kt}(Inv:Nat→AV→AV→zaa→Prop)(n:Nat)(h0:HSc H→Inv n t14 t95 H)(round:Rd2 (λt14=>λt95=>znq t4 t14 t93 t94 t95) (λt14=>λt95=>λH Kb20=>ztj t4 t14 t93 t94 t95 H K Kb20) H Inv):zns t4 t14 t93 t94 t95 H K:=
 lp2 (M:=zei) zQv t14 t95 (by kernel_rfl) Inv n h0 round
theorem zQr{t2 t4 t8 t9 t77 t78 t79:AV}{H:zaa}{K:Kt}(Inv:Nat→AV→zaa→Prop)(n:Nat)(h0:HSc H→Inv n t79 H)(round:Rd1 (λt79=>znp t2 t4 t8 t9 t77 t78 t79) (λt79=>λH Kb13=>zti t2 t4 t8 t9 t77 t78 t79 H K Kb13) H Inv):zBi t2 t4 t8 t9 t77 t78 t79 H K:=
 lp1 (M:=zei) zQu t79 (by kernel_rfl) Inv n h0 round
theorem zQt{t2 t4 t8 t9 t59 t60 t61:AV}{H:zaa}{K:Kt}(Inv:Nat→AV→zaa→Prop)(n:Nat)(h0:HSc H→Inv n t61 H)(round:Rd1 (λt61=>znr t2 t4 t8 t9 t59 t60 t61) (λt61=>λH Kb8=>ztk t2 t4 t8 t9 t59 t60 t61 H K Kb8) H Inv):zBj t2 t4 t8 t9 t59 t60 t61 H K:=
 lp1 (M:=zei) zQw t61 (by kernel_rfl) Inv n h0 round
theorem zQx{t0 t1 t2:AV}{H:zaa}{K:Kt}(h:HSc H→zBh t0 t1 t2 H K):ACalls tP zkl [t0,t1,t2] H K:=
 zan (M:=zei) Tryz.func101 (c:=zgb) (by kernel_rfl) (λhs=>Eq.mpr (by kernel_rfl) (h hs))
def zlJ:Nat→List Bool
 |3=>rl false [3,1,3,3,9]
 |_=>[]
noncomputable def zrh:Code:=Tryz.f142.body.getD .skip
noncomputable def zJA:List ResultVar:=Tryz.f142.results.toList
def zlK(t3 t7 t8 t9:AV):List AV:=ux 3 (t3::ux 3 (t7::t8::t9::ux 9 []))
def zJy:List Bool:=zlJ 3
noncomputable def zJw:Code:=zaq [1,1,0,1,0,0] zrh
def zJv(K:Kt):AExit→List AV→zaa→Prop:=zar tP zlJ [1,1,0,1,0] zrh (zaB tP zJA K)
def zyy(t3 t7 t8 t9:AV)(H:zaa)(K:Kt):Prop:=ALoop tP zJw (zJv K) (zlK t3 t7 t8 t9) H
def zrg(t3 t7 t8 t9:AV)(H:zaa)(K:Kt)(Kb3:Lt):Prop:=
 zac .lss false t9 t8 λt10=>
 zag t10
 (zaj 3 t7 t9 λt11=>
 zae true 3 t11 H λt12=>
 zay [(.int .i64 0),(.int .i64 0),.snil] H λt5 H=>
 zak 3 t5 t12 H λH=>
 zae true 3 t5 H λt14=>
 ACalls tP zjS [t14] H λt15 H=>
 zac .add false t3 t15 λt16=>
 zac .add false t9 (.int .i64 1) λt17=>
 Kb3 (zlK t16 t7 t8 t17) H)
 (K t3 H)
def zyx(t0:AV)(H:zaa)(K:Kt):Prop:=
 zaw t0 H λt1 H=>
 zaf 2 t1 λt6=>
 zae false 1 t6 H λt7=>
 zah 1 t7 λt8=>
 zyy (.int .i64 1) t7 t8 (.int .i64 0) H K
theorem zJx{t3 t7 t8 t9:AV}{H:zaa}{K:Kt}(Inv:Nat→AV→AV→zaa→Prop)(n:Nat)(h0:HSc H→Inv n t3 t9 H)(round:Rd2 (λt3=>λt9=>zlK t3 t7 t8 t9) (λt3=>λt9=>λH Kb3=>zrg t3 t7 t8 t9 H K Kb3) H Inv):zyy t3 t7 t8 t9 H K:=
 lp2 (M:=zlJ) zJy t3 t9 (by kernel_rfl) Inv n h0 round
theorem zJz{t0:AV}{H:zaa}{K:Kt}(h:HSc H→zyx t0 H K):ACalls tP zjS [t0] H K:=
 zan (M:=zlJ) Tryz.func142 (c:=zrh) (by kernel_rfl) (λhs=>Eq.mpr (by kernel_rfl) (h hs))
def zlL:Nat→List Bool
 |5=>rl false [1,1,3,1,23,3,12]
 |_=>[]
noncomputable def zrk:Code:=Tryz.f143.body.getD .skip
noncomputable def zJH:List ResultVar:=Tryz.f143.results.toList
def zlM(t1 t5 t29 t30 t31:AV):List AV:=ux 1 (t1::ux 3 (t5::ux 23 (t29::t30::t31::ux 12 [])))
def zJF:List Bool:=zlL 5
noncomputable def zJD:Code:=zaq [1,1,1,0,1,0,0] zrk
def zJC(K:Kt):AExit→List AV→zaa→Prop:=zar tP zlL [1,1,1,0,1,0] zrk (zaB tP zJH K)
def zrm(t1 t5 t29 t30 t31:AV)(H:zaa)(K:Kt):Prop:=ALoop tP zJD (zJC K) (zlM t1 t5 t29 t30 t31) H
def zrl(t5:AV)(H:zaa)(K:Kt):Prop:=
 K t5 H
def zlN(t5:AV)(H:zaa)(K:Kt):Prop:=
 zrl t5 H K
def zrj(t1 t5 t29 t30 t31:AV)(H:zaa)(K:Kt)(Kb5:Lt):Prop:=
 zac .lss false t31 t30 λt32=>
 zag t32
 (zaj 3 t29 t31 λt33=>
 zae true 3 t33 H λt34=>
 zay [(.int .i64 0),(.int .i64 0),.snil] H λt7 H=>
 zak 3 t7 t34 H λH=>
 zae true 3 t7 H λt36=>
 ACalls tP zjT [t36,t1] H λt38 H=>
 zac .add false t5 t38 λt39=>
 zac .gtr false t39 (.int .i64 200) λt41=>
 zag t41
 (zlN t39 H K)
 (zac .add false t31 (.int .i64 1) λt42=>
 Kb5 (zlM t1 t39 t29 t30 t42) H))
 (zlN t5 H K)
def zri(t0 t1:AV)(H:zaa)(K:Kt):Prop:=
 zaw t0 H λt2 H=>
 zaf 0 t2 λt8=>
 zae false 1 t8 H λt9=>
 zac .eql false t9 (.int .i64 4) λt10=>
 zab t10 true H (λK'=>zaf 1 t2 (K' · H)) λt12 H=>
 zab t10 true H (λK'=>zae false 1 t12 H (K' · H)) λt13 H=>
 zab t10 true H (λK'=>zac .geq false t13 (.int .i64 0) (K' · H)) λt14 H=>
 zai t10 t14 (.bool false) λt15=>
 zab t15 true H (λK'=>zaf 1 t2 (K' · H)) λt17 H=>
 zab t15 true H (λK'=>zae false 1 t17 H (K' · H)) λt18 H=>
 zab t15 true H (λK'=>K' t1 H) λt19 H=>
 zab t15 true H (λK'=>zah 1 t19 (K' · H)) λt20 H=>
 zab t15 true H (λK'=>zac .lss false t18 t20 (K' · H)) λt21 H=>
 zai t15 t21 (.bool false) λt22=>
 zag t22
 (zaf 1 t2 λt24=>
 zae false 1 t24 H λt25=>
 zaj 1 t1 t25 λt26=>
 zae false 1 t26 H λt27=>
 K t27 H)
 (zaf 2 t2 λt28=>
 zae false 1 t28 H λt29=>
 zah 1 t29 λt30=>
 zrm t1 (.int .i64 1) t29 t30 (.int .i64 0) H K)
theorem zJE{t1 t5 t29 t30 t31:AV}{H:zaa}{K:Kt}(Inv:Nat→AV→AV→zaa→Prop)(n:Nat)(h0:HSc H→Inv n t5 t31 H)(round:Rd2 (λt5=>λt31=>zlM t1 t5 t29 t30 t31) (λt5=>λt31=>λH Kb5=>zrj t1 t5 t29 t30 t31 H K Kb5) H Inv):zrm t1 t5 t29 t30 t31 H K:=
 lp2 (M:=zlL) zJF t5 t31 (by kernel_rfl) Inv n h0 round
theorem zJG{t0 t1:AV}{H:zaa}{K:Kt}(h:HSc H→zri t0 t1 H K):ACalls tP zjT [t0,t1] H K:=
 zan (M:=zlL) Tryz.func143 (c:=zrk) (by kernel_rfl) (λhs=>Eq.mpr (by kernel_rfl) (h hs))
def zlO:Nat→List Bool
 |5=>rl false [1,1,2,2,29,3,13]
 |_=>[]
noncomputable def zrp:Code:=Tryz.f144.body.getD .skip
noncomputable def zJO:List ResultVar:=Tryz.f144.results.toList
def zlP(t1 t4 t5 t35 t36 t37:AV):List AV:=ux 1 (t1::ux 2 (t4::t5::ux 29 (t35::t36::t37::ux 13 [])))
def zJM:List Bool:=zlO 5
noncomputable def zJK:Code:=zaq [1,1,1,0,1,0,0] zrp
def zJJ(K:Kt):AExit→List AV→zaa→Prop:=zar tP zlO [1,1,1,0,1,0] zrp (zaB tP zJO K)
def ziy(t1 t4 t5 t35 t36 t37:AV)(H:zaa)(K:Kt):Prop:=ALoop tP zJK (zJJ K) (zlP t1 t4 t5 t35 t36 t37) H
def zro(t1 t4 t5 t35 t36 t37:AV)(H:zaa)(K:Kt)(Kb5:Lt):Prop:=
 zac .lss false t37 t36 λt38=>
 zag t38
 (zaj 3 t35 t37 λt39=>
 zae true 3 t39 H λt40=>
 zay [(.int .i64 0),(.int .i64 0),.snil] H λt7 H=>
 zak 3 t7 t40 H λH=>
 zad H (λK'=>zaf 2 t5 (K' · H)) λt41=>
 zad H (λK'=>zam false 1 t41 H (K' · H)) λt42=>
 zad H (λK'=>zam true 3 t7 H (K' · H)) λt43=>
 zad H (λK'=>K' t1 H) λt44=>
 zaQ H (λH K'=>ACalls tP zhR [t43,t44] H K') λt45=>
 zad H (λK'=>zas 3 [(.int .i64 0),(.int .i64 0),.snil] 1 [(0,t45)] (K' · H)) λt46=>
 zax za9 3 40 t42 t46 H λt47 H=>
 zad H (λK'=>zaf 2 t5 (K' · H)) λt48=>
 zak 1 t48 t47 H λH=>
 zac .add false t37 (.int .i64 1) λt49=>
 Kb5 (zlP t1 t4 t5 t35 t36 t49) H)
 (zae true 3 t5 H λt50=>
 zak 3 t4 t50 H λH=>
 zae true 3 t4 H λr0=>
 K r0 H)
def zrn(t0 t1:AV)(H:zaa)(K:Kt):Prop:=
 zaw t0 H λt2 H=>
 zay [(.int .i64 0),(.int .i64 0),.snil] H λt4 H=>
 zaf 0 t2 λt8=>
 zae false 1 t8 H λt9=>
 zac .eql false t9 (.int .i64 4) λt10=>
 zab t10 true H (λK'=>zaf 1 t2 (K' · H)) λt12 H=>
 zab t10 true H (λK'=>zae false 1 t12 H (K' · H)) λt13 H=>
 zab t10 true H (λK'=>zac .geq false t13 (.int .i64 0) (K' · H)) λt14 H=>
 zai t10 t14 (.bool false) λt15=>
 zab t15 true H (λK'=>zaf 1 t2 (K' · H)) λt17 H=>
 zab t15 true H (λK'=>zae false 1 t17 H (K' · H)) λt18 H=>
 zab t15 true H (λK'=>K' t1 H) λt19 H=>
 zab t15 true H (λK'=>zah 1 t19 (K' · H)) λt20 H=>
 zab t15 true H (λK'=>zac .lss false t18 t20 (K' · H)) λt21 H=>
 zai t15 t21 (.bool false) λt22=>
 zag t22
 (zaf 1 t2 λt24=>
 zae false 1 t24 H λt25=>
 zaj 3 t1 t25 λt26=>
 zae true 3 t26 H λt27=>
 ACalls tP zhR [t27,.snil] H λt28 H=>
 zak 3 t4 t28 H λH=>
 zae true 3 t4 H λr0=>
 K r0 H)
 (zaf 0 t2 λt29=>
 zae false 1 t29 H λt30=>
 zaf 1 t2 λt31=>
 zae false 1 t31 H λt32=>
 zao [(.int .i64 0),(.int .i64 0),.snil] [(0,1),(1,1),(2,1)] [(0,t30),(1,t32)] λt33=>
 zay [(.int .i64 0),(.int .i64 0),.snil] H λt5 H=>
 zak 3 t5 t33 H λH=>
 zaf 2 t2 λt34=>
 zae false 1 t34 H λt35=>
 zah 1 t35 λt36=>
 ziy t1 t4 t5 t35 t36 (.int .i64 0) H K)
theorem zJL{t1 t4 t5 t35 t36 t37:AV}{H:zaa}{K:Kt}(Inv:Nat→AV→zaa→Prop)(n:Nat)(h0:HSc H→Inv n t37 H)(round:Rd1 (λt37=>zlP t1 t4 t5 t35 t36 t37) (λt37=>λH Kb5=>zro t1 t4 t5 t35 t36 t37 H K Kb5) H Inv):ziy t1 t4 t5 t35 t36 t37 H K:=
 lp1 (M:=zlO) zJM t37 (by kernel_rfl) Inv n h0 round
theorem zJN{t0 t1:AV}{H:zaa}{K:Kt}(h:HSc H→zrn t0 t1 H K):ACalls tP zhR [t0,t1] H K:=
 zan (M:=zlO) Tryz.func144 (c:=zrp) (by kernel_rfl) (λhs=>Eq.mpr (by kernel_rfl) (h hs))
def zMh(_:Nat):List Bool:=[]
noncomputable def zMi:Code:=Tryz.f27.body.getD .skip
def zr4(t0 t1 t2:AV)(H:zaa)(K:Kt):Prop:=
 zaw t1 H λt4 H=>
 zae true 3 t4 H λt7=>
 ACalls tP zgE [t7] H λt8 H=>
 zac .leq false t8 (.int .i64 200) λt9=>
 zab t9 true H (λK'=>K' t0 H) λt11 H=>
 zab t9 true H (λK'=>zae true 3 t4 H (K' · H)) λt12 H=>
 zab t9 true H (λK'=>K' t2 H) λt13 H=>
 zab t9 true H (λK'=>ACalls tP zh2 [t11,t12,t13] H K') λt14 H=>
 zai t9 t14 (.bool false) λt15=>
 K t15 H
theorem zzv{t0 t1 t2:AV}{H:zaa}{K:Kt}(h:HSc H→zr4 t0 t1 t2 H K):ACalls tP zhZ [t0,t1,t2] H K:=
 zan (M:=zMh) Tryz.func27 (c:=zMi) (by kernel_rfl) (λhs=>Eq.mpr (by kernel_rfl) (h hs))
def zmT:Nat→List Bool
 |3=>rl false [1,1,1,2,16]
 |_=>[]
noncomputable def zsx:Code:=Tryz.f65.body.getD .skip
noncomputable def zN5:List ResultVar:=Tryz.f65.results.toList
def ziU(t1 t3 t4:AV):List AV:=ux 1 (t1::ux 1 (t3::t4::ux 16 []))
def zN4:List Bool:=zmT 3
noncomputable def zN3:Code:=zaq [1,1,0,1,0,0] zsx
def zN2(K:Kt):AExit→List AV→zaa→Prop:=zar tP zmT [1,1,0,1,0] zsx (zaB tP zN5 K)
def zAh(t1 t3 t4:AV)(H:zaa)(K:Kt):Prop:=ALoop tP zN3 (zN2 K) (ziU t1 t3 t4) H
def ziT(t1 t3 t4:AV)(H:zaa)(K:Kt)(Kb3:Lt):Prop:=
 zaf 2 t1 λt6=>
 zae false 1 t6 H λt7=>
 zah 1 t7 λt8=>
 zac .lss false t4 t8 λt9=>
 zag t9
 (zaf 2 t1 λt13=>
 zae false 1 t13 H λt14=>
 zaj 3 t14 t4 λt16=>
 zae true 3 t16 H λt17=>
 ACalls tP zgE [t17] H λt18 H=>
 zac .add false t3 t18 λt19=>
 zac .add false t4 (.int .i64 1) λt11=>
 Kb3 (ziU t1 t19 t11) H)
 (K t3 H)
def zsw(t0:AV)(H:zaa)(K:Kt):Prop:=
 zaw t0 H λt1 H=>
 zAh t1 (.int .i64 1) (.int .i64 0) H K
theorem zAi{t1 t3 t4:AV}{H:zaa}{K:Kt}(Inv:Nat→AV→AV→zaa→Prop)(n:Nat)(h0:HSc H→Inv n t3 t4 H)(round:Rd2 (λt3=>λt4=>ziU t1 t3 t4) (λt3=>λt4=>λH Kb3=>ziT t1 t3 t4 H K Kb3) H Inv):zAh t1 t3 t4 H K:=
 lp2 (M:=zmT) zN4 t3 t4 (by kernel_rfl) Inv n h0 round
theorem zAj{t0:AV}{H:zaa}{K:Kt}(h:HSc H→zsw t0 H K):ACalls tP zgE [t0] H K:=
 zan (M:=zmT) Tryz.func65 (c:=zsx) (by kernel_rfl) (λhs=>Eq.mpr (by kernel_rfl) (h hs))
def zmU:Nat→List Bool
 |24=>rl false [0,1,1,1,1,1,2,2,103]
 |_=>[]
noncomputable def zsy:Code:=Tryz.f66.body.getD .skip
noncomputable def zOa:List ResultVar:=Tryz.f66.results.toList
def ziW(t0 t2 t4 t7 t8:AV):List AV:=t0::ux 1 (t2::ux 1 (t4::ux 2 (t7::t8::ux 103 [])))
def zN9:List Bool:=zmU 24
noncomputable def zN8:Code:=zaq [1,1,1,0,1,0,0] zsy
def zN6(K:Kt):AExit→List AV→zaa→Prop:=zar tP zmU [1,1,1,0,1,0] zsy (zaB tP zOa K)
def zmV(t0 t2 t4 t7 t8:AV)(H:zaa)(K:Kt):Prop:=ALoop tP zN8 (zN6 K) (ziW t0 t2 t4 t7 t8) H
def ziV(t0 t2 t4 t7 t8:AV)(H:zaa)(K:Kt)(Kb24:Lt):Prop:=
 zac .lss false t8 t7 λt100=>
 zag t100
 (zaf 2 t4 λt104=>
 zae false 1 t104 H λt105=>
 zaj 3 t105 t8 λt107=>
 zae true 3 t107 H λt108=>
 ACalls tP zh2 [t0,t108,t2] H λt110 H=>
 aUn .not t110 λt111=>
 zag t111
 (K (.bool false) H)
 (zac .add false t8 (.int .i64 1) λt102=>
 Kb24 (ziW t0 t2 t4 t7 t102) H))
 (K (.bool true) H)
def zeQ(t0 t2 t4 t7:AV)(H:zaa)(K:Kt):Prop:=
 zmV t0 t2 t4 t7 (.int .i64 0) H K
def zdA(t0 t2 t4 t7:AV)(H:zaa)(K:Kt):Prop:=
 zeQ t0 t2 t4 t7 H K
def zck(t0 t2 t4 t7 t13 t75:AV)(H:zaa)(K:Kt):Prop:=
 zag t75
 (zaf 1 t4 λt78=>
 zae false 1 t78 H λt79=>
 zac .neq false t79 (.int .i64 0) λt80=>
 zab t80 false H (λK'=>K' t7 H) λt82 H=>
 zab t80 false H (λK'=>zac .neq false t82 (.int .i64 1) (K' · H)) λt83 H=>
 zai t80 (.bool true) t83 λt84=>
 zag t84
 (K (.bool false) H)
 (zdA t0 t2 t4 t7 H K))
 (zac .eql false t13 (.int .i64 9) λt86=>
 zag t86
 (zaf 1 t4 λt87=>
 zae false 1 t87 H λt88=>
 zac .neq false t88 (.int .i64 0) λt89=>
 zab t89 false H (λK'=>K' t7 H) λt91 H=>
 zab t89 false H (λK'=>zac .lss false t91 (.int .i64 1) (K' · H)) λt92 H=>
 zai t89 (.bool true) t92 λt93=>
 zab t93 false H (λK'=>K' t7 H) λt95 H=>
 zab t93 false H (λK'=>zac .gtr false t95 (.int .i64 7) (K' · H)) λt96 H=>
 zai t93 (.bool true) t96 λt97=>
 zag t97
 (K (.bool false) H)
 (zdA t0 t2 t4 t7 H K))
 (K (.bool false) H))
def za5(t0 t2 t4 t7 t13 t14:AV)(H:zaa)(K:Kt):Prop:=
 zag t14
 (zaf 1 t4 λt18=>
 zae false 1 t18 H λt19=>
 zac .eql false t19 (.int .i64 0) λt20=>
 zab t20 true H (λK'=>K' t7 H) λt22 H=>
 zab t20 true H (λK'=>zac .eql false t22 (.int .i64 0) (K' · H)) λt23 H=>
 zai t20 t23 (.bool false) λt24=>
 K t24 H)
 (zac .eql false t13 (.int .i64 4) λt26=>
 zag t26
 (zaf 1 t4 λt27=>
 zae false 1 t27 H λt28=>
 zac .geq false t28 (.int .i64 0) λt29=>
 zab t29 true H (λK'=>zaf 1 t4 (K' · H)) λt31 H=>
 zab t29 true H (λK'=>zae false 1 t31 H (K' · H)) λt32 H=>
 zab t29 true H (λK'=>K' t2 H) λt33 H=>
 zab t29 true H (λK'=>zac .lss false t32 t33 (K' · H)) λt34 H=>
 zai t29 t34 (.bool false) λt35=>
 zab t35 true H (λK'=>K' t7 H) λt37 H=>
 zab t35 true H (λK'=>zac .eql false t37 (.int .i64 0) (K' · H)) λt38 H=>
 zai t35 t38 (.bool false) λt39=>
 K t39 H)
 (zac .eql false t13 (.int .i64 5) λt41=>
 zag t41
 (zaf 1 t4 λt42=>
 zae false 1 t42 H λt43=>
 zac .lss false t43 (.int .i64 0) λt44=>
 zab t44 false H (λK'=>zaf 1 t4 (K' · H)) λt46 H=>
 zab t44 false H (λK'=>zae false 1 t46 H (K' · H)) λt47 H=>
 zab t44 false H (λK'=>K' t0 H) λt48 H=>
 zab t44 false H (λK'=>zah 1 t48 (K' · H)) λt49 H=>
 zab t44 false H (λK'=>zac .geq false t47 t49 (K' · H)) λt50 H=>
 zai t44 (.bool true) t50 λt51=>
 zab t51 false H (λK'=>K' t7 H) λt53 H=>
 zab t51 false H (λK'=>K' t0 H) λt54 H=>
 zab t51 false H (λK'=>zaf 1 t4 (K' · H)) λt55 H=>
 zab t51 false H (λK'=>zae false 1 t55 H (K' · H)) λt56 H=>
 zab t51 false H (λK'=>zaj 3 t54 t56 (K' · H)) λt57 H=>
 zab t51 false H (λK'=>zaf 1 t57 (K' · H)) λt58 H=>
 zab t51 false H (λK'=>zae false 1 t58 H (K' · H)) λt59 H=>
 zab t51 false H (λK'=>zac .neq false t53 t59 (K' · H)) λt60 H=>
 zai t51 (.bool true) t60 λt61=>
 zag t61
 (K (.bool false) H)
 (zdA t0 t2 t4 t7 H K))
 (zac .eql false t13 (.int .i64 6) λt63=>
 zag t63
 (zaf 1 t4 λt64=>
 zae false 1 t64 H λt65=>
 zac .neq false t65 (.int .i64 0) λt66=>
 zab t66 false H (λK'=>K' t7 H) λt68 H=>
 zab t66 false H (λK'=>zac .lss false t68 (.int .i64 2) (K' · H)) λt69 H=>
 zai t66 (.bool true) t69 λt70=>
 zab t70 false H (λK'=>K' t7 H) λt72 H=>
 zab t70 false H (λK'=>zac .gtr false t72 (.int .i64 6) (K' · H)) λt73 H=>
 zai t70 (.bool true) t73 λt74=>
 zag t74
 (K (.bool false) H)
 (zdA t0 t2 t4 t7 H K))
 (zac .eql false t13 (.int .i64 7) λt76=>
 zag t76
 (zck t0 t2 t4 t7 t13 t76 H K)
 (zac .eql false t13 (.int .i64 8) λt77=>
 zck t0 t2 t4 t7 t13 t77 H K)))))
def zbr(t0 t1 t2:AV)(H:zaa)(K:Kt):Prop:=
 zaw t1 H λt4 H=>
 zaf 2 t4 λt9=>
 zae false 1 t9 H λt10=>
 zah 1 t10 λt11=>
 zaf 0 t4 λt12=>
 zae false 1 t12 H λt13=>
 zac .eql false t13 (.int .i64 1) λt15=>
 zag t15
 (za5 t0 t2 t4 t11 t13 t15 H K)
 (zac .eql false t13 (.int .i64 2) λt16=>
 zag t16
 (za5 t0 t2 t4 t11 t13 t16 H K)
 (zac .eql false t13 (.int .i64 3) λt17=>
 za5 t0 t2 t4 t11 t13 t17 H K))
theorem zAl{t0 t2 t4 t7 t8:AV}{H:zaa}{K:Kt}(Inv:Nat→AV→zaa→Prop)(n:Nat)(h0:HSc H→Inv n t8 H)(round:Rd1 (λt8=>ziW t0 t2 t4 t7 t8) (λt8=>λH Kb24=>ziV t0 t2 t4 t7 t8 H K Kb24) H Inv):zmV t0 t2 t4 t7 t8 H K:=
 lp1 (M:=zmU) zN9 t8 (by kernel_rfl) Inv n h0 round
theorem zAm{t0 t1 t2:AV}{H:zaa}{K:Kt}(h:HSc H→zbr t0 t1 t2 H K):ACalls tP zh2 [t0,t1,t2] H K:=
 zan (M:=zmU) Tryz.func66 (c:=zsy) (by kernel_rfl) (λhs=>Eq.mpr (by kernel_rfl) (h hs))
def zmX:Nat→List Bool
 |5=>rl false [4,1,3,1,54,3,16]
 |_=>[]
noncomputable def zsB:Code:=Tryz.f68.body.getD .skip
noncomputable def zOl:List ResultVar:=Tryz.f68.results.toList
def zi1(t4 t8 t63 t64 t65:AV):List AV:=ux 4 (t4::ux 3 (t8::ux 54 (t63::t64::t65::ux 16 [])))
def zOk:List Bool:=zmX 5
noncomputable def zOj:Code:=zaq [1,1,1,0,1,0,0] zsB
def zOh(K:Kt):AExit→List AV→zaa→Prop:=zar tP zmX [1,1,1,0,1,0] zsB (zaB tP zOl K)
def zhc(t4 t8 t63 t64 t65:AV)(H:zaa)(K:Kt):Prop:=ALoop tP zOj (zOh K) (zi1 t4 t8 t63 t64 t65) H
def zi0(t4 t8 t63 t64 t65:AV)(H:zaa)(K:Kt)(Kb5:Lt):Prop:=
 zac .lss false t65 t64 λt66=>
 zag t66
 (zaj 3 t63 t65 λt67=>
 zae true 3 t67 H λt68=>
 zay [(.int .i64 0),(.int .i64 0),.snil] H λt10 H=>
 zak 3 t10 t68 H λH=>
 zae true 3 t10 H λt69=>
 zaf 2 t4 λt70=>
 zae false 1 t70 H λt71=>
 ACalls tP zhO [t69,t71] H λt72 H=>
 zay [(.int .i64 0),(.int .i64 0),.snil] H λt11 H=>
 zak 3 t11 t72 H λH=>
 zae true 3 t11 H λt73=>
 ACalls tP zgE [t73] H λt74 H=>
 zac .gtr false t74 (.int .i64 200) λt75=>
 zag t75
 (zbb [.snil,(.bool false)] (K · H))
 (zae true 3 t11 H λt77=>
 zas 3 [(.int .i64 0),(.int .i64 0),.snil] 1 [(0,t77)] λt78=>
 zax za9 3 40 t8 t78 H λt79 H=>
 zac .add false t65 (.int .i64 1) λt80=>
 Kb5 (zi1 t4 t79 t63 t64 t80) H))
 (zbb [t8,(.bool true)] (K · H))
def zsA(t0 t1 t2:AV)(H:zaa)(K:Kt):Prop:=
 zaw t1 H λt4 H=>
 zad H (λK'=>zaf 0 t4 (K' · H)) λt12=>
 zad H (λK'=>zam false 1 t12 H (K' · H)) λt13=>
 zad H (λK'=>zac .neq false t13 (.int .i64 5) (K' · H)) λt14=>
 zad H (λK'=>K' t14 H) λt15=>
 zab t15 false H (λK'=>zad H (λK''=>zaf 1 t4 (K'' · H)) (K' · H)) λt16 H=>
 zab t15 false H (λK'=>zad H (λK''=>zam false 1 t16 H (K'' · H)) (K' · H)) λt17 H=>
 zab t15 false H (λK'=>zad H (λK''=>zac .lss false t17 (.int .i64 0) (K'' · H)) (K' · H)) λt18 H=>
 zad H (λK'=>zai t15 (.bool true) t18 (K' · H)) λt19=>
 zad H (λK'=>K' t19 H) λt20=>
 zab t20 false H (λK'=>zad H (λK''=>zaf 1 t4 (K'' · H)) (K' · H)) λt21 H=>
 zab t20 false H (λK'=>zad H (λK''=>zam false 1 t21 H (K'' · H)) (K' · H)) λt22 H=>
 zab t20 false H (λK'=>zad H (λK''=>K'' t0 H) (K' · H)) λt23 H=>
 zab t20 false H (λK'=>zad H (λK''=>zah 1 t23 (K'' · H)) (K' · H)) λt24 H=>
 zab t20 false H (λK'=>zad H (λK''=>zac .geq false t22 t24 (K'' · H)) (K' · H)) λt25 H=>
 zad H (λK'=>zai t20 (.bool true) t25 (K' · H)) λt26=>
 zad H (λK'=>K' t26 H) λt27=>
 zab t27 false H (λK'=>zad H (λK''=>zaf 2 t4 (K'' · H)) (K' · H)) λt28 H=>
 zab t27 false H (λK'=>zad H (λK''=>zam false 1 t28 H (K'' · H)) (K' · H)) λt29 H=>
 zab t27 false H (λK'=>zad H (λK''=>zah 1 t29 (K'' · H)) (K' · H)) λt30 H=>
 zab t27 false H (λK'=>zad H (λK''=>K'' t0 H) (K' · H)) λt31 H=>
 zab t27 false H (λK'=>zad H (λK''=>zaf 1 t4 (K'' · H)) (K' · H)) λt32 H=>
 zab t27 false H (λK'=>zad H (λK''=>zam false 1 t32 H (K'' · H)) (K' · H)) λt33 H=>
 zab t27 false H (λK'=>zad H (λK''=>zaj 3 t31 t33 (K'' · H)) (K' · H)) λt34 H=>
 zab t27 false H (λK'=>zad H (λK''=>zaf 1 t34 (K'' · H)) (K' · H)) λt35 H=>
 zab t27 false H (λK'=>zad H (λK''=>zam false 1 t35 H (K'' · H)) (K' · H)) λt36 H=>
 zab t27 false H (λK'=>zad H (λK''=>zac .neq false t30 t36 (K'' · H)) (K' · H)) λt37 H=>
 zad H (λK'=>zai t27 (.bool true) t37 (K' · H)) λt38=>
 zad H (λK'=>K' t38 H) λt39=>
 zab t39 false H (λK'=>zad H (λK''=>K'' t2 H) (K' · H)) λt40 H=>
 zab t39 false H (λK'=>zad H (λK''=>zac .lss false t40 (.int .i64 0) (K'' · H)) (K' · H)) λt41 H=>
 zad H (λK'=>zai t39 (.bool true) t41 (K' · H)) λt42=>
 zad H (λK'=>K' t42 H) λt43=>
 zab t43 false H (λK'=>zad H (λK''=>K'' t2 H) (K' · H)) λt44 H=>
 zab t43 false H (λK'=>zad H (λK''=>K'' t0 H) (K' · H)) λt45 H=>
 zab t43 false H (λK'=>zad H (λK''=>zaf 1 t4 (K'' · H)) (K' · H)) λt46 H=>
 zab t43 false H (λK'=>zad H (λK''=>zam false 1 t46 H (K'' · H)) (K' · H)) λt47 H=>
 zab t43 false H (λK'=>zad H (λK''=>zaj 3 t45 t47 (K'' · H)) (K' · H)) λt48 H=>
 zab t43 false H (λK'=>zad H (λK''=>zaf 2 t48 (K'' · H)) (K' · H)) λt49 H=>
 zab t43 false H (λK'=>zad H (λK''=>zam false 1 t49 H (K'' · H)) (K' · H)) λt50 H=>
 zab t43 false H (λK'=>zad H (λK''=>zah 1 t50 (K'' · H)) (K' · H)) λt51 H=>
 zab t43 false H (λK'=>zad H (λK''=>zac .geq false t44 t51 (K'' · H)) (K' · H)) λt52 H=>
 zad H (λK'=>zai t43 (.bool true) t52 (K' · H)) λt53=>
 zag t53
 (zbb [.snil,(.bool false)] (K · H))
 (zaf 1 t4 λt55=>
 zae false 1 t55 H λt56=>
 zaj 3 t0 t56 λt57=>
 zaf 2 t57 λt58=>
 zae false 1 t58 H λt59=>
 zaj 2 t59 t2 λt61=>
 zaf 1 t61 λt62=>
 zae false 1 t62 H λt63=>
 zah 1 t63 λt64=>
 zhc t4 .snil t63 t64 (.int .i64 0) H K)
theorem zAs{t4 t8 t63 t64 t65:AV}{H:zaa}{K:Kt}(Inv:Nat→AV→AV→zaa→Prop)(n:Nat)(h0:HSc H→Inv n t8 t65 H)(round:Rd2 (λt8=>λt65=>zi1 t4 t8 t63 t64 t65) (λt8=>λt65=>λH Kb5=>zi0 t4 t8 t63 t64 t65 H K Kb5) H Inv):zhc t4 t8 t63 t64 t65 H K:=
 lp2 (M:=zmX) zOk t8 t65 (by kernel_rfl) Inv n h0 round
theorem zAt{t0 t1 t2:AV}{H:zaa}{K:Kt}(h:HSc H→zsA t0 t1 t2 H K):ACalls tP zkd [t0,t1,t2] H K:=
 zan (M:=zmX) Tryz.func68 (c:=zsB) (by kernel_rfl) (λhs=>Eq.mpr (by kernel_rfl) (h hs))
end Go.Proofs.YtaifokkaaahdoaaGreatDoor

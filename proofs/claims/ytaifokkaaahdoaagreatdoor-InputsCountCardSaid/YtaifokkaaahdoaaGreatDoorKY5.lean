import Derived.Shelf.Strings.OnBuilder
import Derived.Test.YtaifokkaaahdoaaGreatDoorProg
import Derived.Test.YtaifokkaaahdoaaGreatDoorAbsQ1
import Derived.Test.YtaifokkaaahdoaaGreatDoorKNum
import Derived.KernelRfl
import Derived.Test.YtaifokkaaahdoaaGreatDoorAbsU
set_option linter.unusedSimpArgs false
set_option linter.unusedVariables false
set_option maxRecDepth 8000
namespace Go.Proofs.YtaifokkaaahdoaaGreatDoor
open Go Go.Shelf Go.Abs Go.RowKit
def zw2:Go.Shelf.Ren:=⟨λ| 156=>158|165=>183|166=>184|169=>185|240=>201|241=>202|276=>210|277=>211|n=>n,λ| 31=>94|9=>9|3=>3|4=>4|0=>0|20=>20|72=>225|76=>229|70=>222|37=>223|75=>228|127=>248|164=>255|5=>5|80=>231|n=>n,λ| n=>n⟩
theorem zw0:Go.Proofs.Lays.n156 tP zw2:={
 mixed:=by kernel_rfl
 f156:=Tryz.func158.trans (congrArg some (by kernel_rfl))
 f165:=Tryz.func183.trans (congrArg some (by kernel_rfl))
 f166:=Tryz.func184.trans (congrArg some (by kernel_rfl))
 f169:=Tryz.func185.trans (congrArg some (by kernel_rfl))
 f240:=Tryz.func201.trans (congrArg some (by kernel_rfl))
 f241:=Tryz.func202.trans (congrArg some (by kernel_rfl))
 f276:=Tryz.func210.trans (congrArg some (by kernel_rfl))
 f277:=Tryz.func211.trans (congrArg some (by kernel_rfl))
 t0:=Tryz.underlying0
 a0:=Tryz.isAgg0
 z0:=Tryz.sizeOf0
 v0:=Tryz.zeroValue0
 t3:=Tryz.underlying3
 a3:=Tryz.isAgg3
 z3:=Tryz.sizeOf3
 v3:=Tryz.zeroValue3
 t4:=Tryz.underlying4
 a4:=Tryz.isAgg4
 z4:=Tryz.sizeOf4
 v4:=Tryz.zeroValue4
 t9:=Tryz.underlying9
 a9:=Tryz.isAgg9
 z9:=Tryz.sizeOf9
 v9:=Tryz.zeroValue9
 t20:=Tryz.underlying20
 a20:=Tryz.isAgg20
 z20:=Tryz.sizeOf20
 v20:=Tryz.zeroValue20
 t31:=Tryz.underlying94
 a31:=Tryz.isAgg94
 z31:=Tryz.sizeOf94
 v31:=Tryz.zeroValue94
 t37:=Tryz.underlying223
 a37:=Tryz.isAgg223
 z37:=Tryz.sizeOf223
 v37:=Tryz.zeroValue223
 t70:=Tryz.underlying222
 a70:=Tryz.isAgg222
 z70:=Tryz.sizeOf222
 v70:=Tryz.zeroValue222
 t72:=Tryz.underlying225
 a72:=Tryz.isAgg225
 z72:=Tryz.sizeOf225
 v72:=Tryz.zeroValue225
 t75:=Tryz.underlying228
 a75:=Tryz.isAgg228
 z75:=Tryz.sizeOf228
 v75:=Tryz.zeroValue228
 t76:=Tryz.underlying229
 a76:=Tryz.isAgg229
 z76:=Tryz.sizeOf229
 v76:=Tryz.zeroValue229
 t127:=Tryz.underlying248
 a127:=Tryz.isAgg248
 z127:=Tryz.sizeOf248
 v127:=Tryz.zeroValue248
 t164:=Tryz.underlying255
 a164:=Tryz.isAgg255
 z164:=Tryz.sizeOf255
 v164:=Tryz.zeroValue255 }
theorem zw1:Go.Proofs.Builder.Extra tP zw2:={
 sizeBuilder:=by kernel_rfl
 liesBuilder:=by kernel_rfl
 t5:=Tryz.underlying5
 a5:=Tryz.isAgg5
 z5:=Tryz.sizeOf5
 v5:=Tryz.zeroValue5
 infoByte:=by kernel_rfl
 cellsByte:=by kernel_rfl
 sizeByte:=by kernel_rfl
 neB5:=by decide }
theorem zDE{B:Nat}{w:World}{G:Gh}{H:zaa}(h:HRel B w G H)(h0:H[0]?=some .nodr):zez G:=by
 have hl:0<G.μ.length:=by rw[h.len];exact(List.getElem?_eq_some_iff.1 h0).1
 have hok:=h.ok 0 _ _ h0 (List.getElem?_eq_getElem hl);cases hg:G.μ[0] with
 |blk b=>rw[hg]at hok;exact hok.elim
 |gap=>rw[hg]at hok;exact hok.elim
 |own v s n=>rw[hg]at hok;have hv:v=.nilFunc:=hok;subst hv;exact⟨s,n,by rw[List.getElem?_eq_getElem hl,hg]⟩
theorem zuh{B:Nat}{w w':World}{G:Gh}{H:zaa}(h:HRel B w G H)(h0:H[0]?=some .nodr)(hb:Below w.heap.size w w'):Ext B w G w' G∧HRel B w' G H:=by have he:Ext B w G w' G:=⟨⟨λk=>absurd (zDE h h0) k,λk=>k⟩,hb.mono h.base,λ_=>Nat.le_refl _,λb off ho=>hb.cell (p:=⟨b,off,none⟩) (zgR h ho),λ_ gi hg=>⟨gi,hg,gi.le_refl⟩⟩;exact⟨he,h.keep he rfl (λid gi b h1 h2=>⟨hb.block b (h.lt id gi b h1 h2),rfl⟩) λb hbb=>h.fresh b (Nat.le_trans hb.size hbb)⟩
def zbz(l:List (List UInt8)):List (List AV):=l.map λs=>[.str s]
@[simp] theorem zFl(l:List (List UInt8)):(zbz l).length=l.length:=by simp[zbz]
theorem zyg(l:List (List UInt8))(sep:List UInt8)(hn:l.length≤1000000)(hl:(Lib.join l sep).length≤1000000000)(H:zaa)(h0:H[0]?=some .nodr)(K:AV→zaa→Prop)(hK:K (.str (Lib.join l sep)) H):
  ACalls tP zoq [.sl (zbz l) .none,.str sep] H K:=by
 intro B w G ⟨vs⟩ hH hv
 match vs,hv with
 |[v0,v1],⟨e0,e1,_⟩=>
  have e0:DRel w G.L v0 (.sl (zbz l) .none):=e0;have e1:v1=.string ⟨sep.toArray⟩:=e1;subst e1;have hmap:(l.map λs=>(⟨s.toArray⟩:ByteArray)).map (λb=>b.data.toList)=l:=by simp[List.map_map,Function.comp_def]
  generalize hx:AV.sl (zbz l) .none=x at e0;cases e0 with
  |slE a cap=>
   have hl0:l=[]:=by
    injection hx with h1
    simpa[zbz]using h1
   subst hl0;refine((Any.strings_Join_none zw0 zw1 a cap ⟨sep.toArray⟩ w:Calls tP 158 _ _ _)).mono ?_;rintro e w' ⟨rfl,rfl⟩;obtain⟨h1,h2⟩:=zuh hH h0 (Below.refl _ _);exact⟨_,.str (Lib.join [] sep),H,G,rfl,h1,h2,rfl,hK⟩
  |sl b off cap esz es vs hne hcap hL hsz hc hd=>
   injection hx with h1
   subst h1;have hpos:0<l.length:=by
    cases l with
    |nil=>simp[zbz]at hne
    |cons a l=>simp
   have hesz:esz=1:=by have:=hsz 0 (by simpa using hpos);simp[zbz]at this;exact this.symm
   subst hesz;have hcell:∀(j:Nat) x,(l.map λs=>(⟨s.toArray⟩:ByteArray))[j]?=some x→w.cell? ⟨b,off+j,none⟩=some (.string x):=λj x hj=>by
    rw[List.getElem?_map]at hj;cases hs:l[j]? with
    |none=>rw[hs]at hj;cases hj
    |some s=>
     rw[hs]at hj;cases hj;obtain⟨hj1,hs1⟩:=List.getElem?_eq_some_iff.1 hs;have hj2:j<(zbz l).length:=by simpa using hj1
     have hlen1:0<((zbz l)[j]).length:=by rw[hsz j hj2];omega
     have h3:=hc j 0 hj2 hlen1;have h4:=hd j 0 hj2 hlen1;have h5:((zbz l)[j])[0]=.str s:=by simp[zbz,hs1]
     rw[h5]at h4;generalize vs j 0=u at h3 h4;cases h4;simpa using h3
   have hbk:b<w.heap.size:=by
    have h3:=hcell 0 ⟨(l[0]).toArray⟩ (by simp[hpos]);by_cases hb:b<w.heap.size
    ·exact hb
    ·have:w.cell? ⟨b,off+0,none⟩=none:=by unfold World.cell?;simp[Array.getElem?_eq_none (Nat.le_of_not_lt hb)]
     rw[this]at h3;cases h3
   have hj:=(Any.strings_Join zw0 zw1 b off cap (l.map λs=>(⟨s.toArray⟩:ByteArray)) ⟨sep.toArray⟩ w hcell hbk (by simp;omega) (by simpa using hcap) (by rw[hmap];simp;omega));rw[hmap]at hj;simp only[List.length_map]at hj;rw[zFl];refine(show Calls tP 158 #[.slice (some ⟨b,off,none⟩) l.length cap,.string ⟨sep.toArray⟩] w _ from hj).mono ?_;rintro e w' ⟨rfl,hb⟩;obtain⟨h1,h2⟩:=zuh hH h0 hb;exact⟨_,.str (Lib.join l sep),H,G,rfl,h1,h2,rfl,hK⟩
  |_=>cases hx
end Go.Proofs.YtaifokkaaahdoaaGreatDoor
namespace Go.Abs
open Go

inductive VT where
 |mk (kind num:Int) (kids:List VT)

mutual
def VT.cs:VT→List AV
 |.mk k n ks=>[.int .i64 k,.int .i64 n,.sl (VT.css ks) .none]
def VT.css:List VT→List (List AV)
 |[]=>[]
 |v::vs=>VT.cs v::VT.css vs
end
mutual
def VT.nodes:VT→Nat
 |.mk _ _ ks=>VT.nodesL ks+1
def VT.nodesL:List VT→Nat
 |[]=>0
 |v::vs=>VT.nodes v+VT.nodesL vs
end
theorem VT.css_map:∀ ks:List VT,VT.css ks=ks.map VT.cs
 |[]=>rfl
 |v::vs=>by simp[VT.css,VT.css_map vs]
theorem VT.nodes_pos:∀ v:VT,0<v.nodes
 |.mk _ _ _=>by simp[VT.nodes]
theorem VT.nodesL_app:∀ (a b:List VT),VT.nodesL (a++b)=VT.nodesL a+VT.nodesL b
 |[],b=>by simp[VT.nodesL]
 |v::a,b=>by simp[VT.nodesL,VT.nodesL_app a b];omega
@[simp] theorem VT.cs_len(v:VT):v.cs.length=3:=by cases v;simp[VT.cs]
@[simp] theorem VT.css_len(ks:List VT):(VT.css ks).length=ks.length:=by simp[VT.css_map]
@[simp] theorem VT.cs_take(v:VT):v.cs.take 3=v.cs:=by cases v;simp[VT.cs]
@[simp] theorem VT.cs_known(v:VT):v.cs.all AV.known=true:=by cases v;simp[VT.cs,AV.known]
@[simp] theorem VT.cs_scA(v:VT)(n:Nat):v.cs.all (AV.scA n)=true:=by cases v;simp[VT.cs,AV.scA,AV.scB]
@[simp] theorem VT.css_at{ks:List VT}{i:Nat}(h:i<ks.length):(VT.css ks)[i]?.getD []=(ks[i]).cs:=by simp[VT.css_map,h]
@[simp] theorem VT.css_get{ks:List VT}{i:Nat}(h:i<(VT.css ks).length):(VT.css ks)[i]=(ks[i]'(by simpa using h)).cs:=by simp[VT.css_map]
theorem VT.kid_lt{k n:Int}{ks:List VT}{i:Nat}(h:i<ks.length):(ks[i]).nodes<(VT.mk k n ks).nodes:=by
 have h1:VT.nodesL ks=VT.nodesL (ks.take i)+((ks[i]).nodes+VT.nodesL (ks.drop (i+1))):=by
  conv=>lhs;rw[←List.take_append_drop i ks,VT.nodesL_app,List.drop_eq_getElem_cons h]
  rw[VT.nodesL]
 simp only[VT.nodes];omega
theorem VT.len_le:∀ ks:List VT,ks.length≤VT.nodesL ks
 |[]=>by simp
 |v::vs=>by have:=VT.len_le vs;have:=v.nodes_pos;simp[VT.nodesL];omega
theorem VT.nodesL_take{ks:List VT}{i:Nat}(h:i<ks.length):VT.nodesL (ks.take (i+1))=VT.nodesL (ks.take i)+(ks[i]).nodes:=by rw[List.take_succ_eq_append_getElem h,VT.nodesL_app];simp[VT.nodesL]
theorem VT.nodesL_take_le(ks:List VT)(i:Nat):VT.nodesL (ks.take i)≤VT.nodesL ks:=by
 conv=>rhs;rw[←List.take_append_drop i ks,VT.nodesL_app]
 omega
def VT.leaf(k:Int):Bool:=k == 6 || k == 7 || k == 8
mutual
def VT.size:VT→Nat
 |.mk k _ ks=>if VT.leaf k=true then 1 else VT.sizeL ks+1
def VT.sizeL:List VT→Nat
 |[]=>0
 |v::vs=>VT.size v+VT.sizeL vs
end
mutual
theorem VT.size_le:∀ v:VT,v.size≤v.nodes
 |.mk k n ks=>by have:=VT.sizeL_le ks;simp only[VT.size,VT.nodes];split <;> omega
theorem VT.sizeL_le:∀ ks:List VT,VT.sizeL ks≤VT.nodesL ks
 |[]=>by simp[VT.sizeL,VT.nodesL]
 |v::vs=>by have:=VT.size_le v;have:=VT.sizeL_le vs;simp only[VT.sizeL,VT.nodesL];omega
end
/- The guard on a value's nodes: what is left of a number behind it, and whether it was enough. -/
mutual
def VT.val:VT→Int→Bool × Int
 |.mk _ _ ks,n=>if n-1<0 then (false,n-1) else VT.valL ks (n-1)
def VT.valL:List VT→Int→Bool × Int
 |[],n=>(true,n)
 | v::vs,n=>match VT.val v n with
  |(true,m)=>VT.valL vs m
  |(false,m)=>(false,m)
end
mutual
theorem VT.val_spec:∀ (v:VT) (n:Int),0≤n→((VT.val v n).1=true→(VT.val v n).2=n-v.nodes∧0≤(VT.val v n).2)∧-1≤(VT.val v n).2∧(VT.val v n).2≤n
 |.mk k m ks,n,h=>by
  simp only[VT.val,VT.nodes];split
  ·simp;omega
  ·have:=VT.valL_spec ks (n-1) (by omega);refine⟨λht=>?_,by omega,by omega⟩;have:=this.1 ht;omega
theorem VT.valL_spec:∀ (ks:List VT) (n:Int),0≤n→((VT.valL ks n).1=true→(VT.valL ks n).2=n-VT.nodesL ks∧0≤(VT.valL ks n).2)∧-1≤(VT.valL ks n).2∧(VT.valL ks n).2≤n
 |[],n,h=>by simp[VT.valL,VT.nodesL];omega
 |v::vs,n,h=>by
  have h1:=VT.val_spec v n h;simp only[VT.valL,VT.nodesL];split
  ·rename_i m hm;rw[hm]at h1;have h2:=h1.1 rfl;simp only at h2;have h3:=VT.valL_spec vs m h2.2;refine⟨λht=>?_,by omega,by omega⟩;have:=h3.1 ht;omega
  ·rename_i m hm;rw[hm]at h1;simp only at h1;exact⟨by simp,by omega,by omega⟩
end
end Go.Abs
namespace Go.Abs
open Go
def icmp(a b:Int):Int:=if a<b then -1 else if b<a then 1 else 0
def cor(a b:Int):Int:=if a=0 then b else a
theorem znP(a b:Int):icmp a b=- icmp b a:=by unfold icmp;split <;> split <;> first|omega|(split <;> omega)
theorem zCR(a b:Int):icmp a b=0↔a=b:=by unfold icmp;split <;> first|omega|(split <;> omega)
theorem znQ(a b:Int):icmp a b=-1∨icmp a b=0∨icmp a b=1:=by unfold icmp;split <;> first|omega|(split <;> omega)
theorem ziO{a a' b b':Int}(h:a=- b)(h':a'=- b'):cor a a'=- cor b b':=by unfold cor;split <;> split <;> omega
theorem zny(a b:Int):cor a b=0↔a=0∧b=0:=by unfold cor;split <;> omega
theorem ziP{a b:Int}(h:a=-1∨a=0∨a=1)(h':b=-1∨b=0∨b=1):cor a b=-1∨cor a b=0∨cor a b=1:=by unfold cor;split <;> omega
theorem zty{a b:Int}(h:a≠0):cor a b=a:=by simp[cor,h]
theorem ztz{a b:Int}(h:a=0):cor a b=b:=by simp[cor,h]
def Tri(a b c:Int):Prop:=a≤0→b≤0→c≤0∧(c=0→a=0∧b=0)
theorem Tri.icmp(x y z:Int):Tri (icmp x y) (icmp y z) (icmp x z):=by unfold Tri Go.Abs.icmp;intro h1 h2;split at h1 <;> split at h2 <;> (try split at h1) <;> (try split at h2) <;> split <;> (try split) <;> omega
theorem Tri.cor{a b c a' b' c':Int}(h:Tri a b c)(h':Tri a' b' c'):Tri (cor a a') (cor b b') (cor c c'):=by unfold Tri Go.Abs.cor at *;intro h1 h2;by_cases ha:a=0 <;> by_cases hb:b=0 <;> by_cases hc:c=0 <;> simp only[ha,hb,hc,if_true,if_false]at*<;> first|omega|(simp_all;done)|(have:=h' h1 h2;simp_all;omega)
mutual
def VT.cmp:VT→VT→Int
 |.mk k n ks,.mk k' n' ks'=>cor (icmp k k') (cor (icmp n n') (cor (icmp ks.length ks'.length) (VT.cmpL ks ks')))
def VT.cmpL:List VT→List VT→Int
 |v::vs,w::ws=>cor (VT.cmp v w) (VT.cmpL vs ws)
 |[],[]=>0
 |[],_::_=>-1
 |_::_,[]=>1
end
mutual
def VT.same:VT→VT→Bool
 |.mk k n ks,.mk k' n' ks'=>k == k' && n == n' && VT.sameL ks ks'
def VT.sameL:List VT→List VT→Bool
 |v::vs,w::ws=>VT.same v w && VT.sameL vs ws
 |[],[]=>true
 |[],_::_=>false
 |_::_,[]=>false
end
mutual
theorem VT.cmp_anti:∀ v w:VT,VT.cmp v w=- VT.cmp w v
 |.mk k n ks,.mk k' n' ks'=>by simp only[VT.cmp];exact ziO (znP _ _) (ziO (znP _ _) (ziO (znP _ _) (VT.cmpL_anti ks ks')))
theorem VT.cmpL_anti:∀ v w:List VT,VT.cmpL v w=- VT.cmpL w v
 |v::vs,w::ws=>by simp only[VT.cmpL];exact ziO (VT.cmp_anti v w) (VT.cmpL_anti vs ws)
 |[],[]=>by simp[VT.cmpL]
 |[],_::_=>by simp[VT.cmpL]
 |_::_,[]=>by simp[VT.cmpL]
end
mutual
theorem VT.cmp_rng:∀ v w:VT,VT.cmp v w=-1∨VT.cmp v w=0∨VT.cmp v w=1
 |.mk k n ks,.mk k' n' ks'=>by simp only[VT.cmp];exact ziP (znQ _ _) (ziP (znQ _ _) (ziP (znQ _ _) (VT.cmpL_rng ks ks')))
theorem VT.cmpL_rng:∀ v w:List VT,VT.cmpL v w=-1∨VT.cmpL v w=0∨VT.cmpL v w=1
 |v::vs,w::ws=>by simp only[VT.cmpL];exact ziP (VT.cmp_rng v w) (VT.cmpL_rng vs ws)
 |[],[]=>by simp[VT.cmpL]
 |[],_::_=>by simp[VT.cmpL]
 |_::_,[]=>by simp[VT.cmpL]
end
theorem VT.sameL_len:∀ v w:List VT,VT.sameL v w=true→v.length=w.length
 |v::vs,w::ws=>by simp only[VT.sameL,Bool.and_eq_true,List.length_cons];intro h;have:=VT.sameL_len vs ws h.2;omega
 |[],[]=>by simp
 |[],_::_=>by simp[VT.sameL]
 |_::_,[]=>by simp[VT.sameL]
mutual
theorem VT.cmp_zero:∀ v w:VT,VT.cmp v w=0↔VT.same v w=true
 |.mk k n ks,.mk k' n' ks'=>by
  have h:=VT.cmpL_zero ks ks';simp only[VT.cmp,VT.same,zny,zCR,Bool.and_eq_true,beq_iff_eq,and_assoc,h];constructor
  ·rintro⟨a,b,_,c⟩;exact⟨a,b,c⟩
  ·rintro⟨a,b,c⟩;exact⟨a,b,by have:=VT.sameL_len _ _ c;omega,c⟩
theorem VT.cmpL_zero:∀ v w:List VT,VT.cmpL v w=0↔VT.sameL v w=true
 |v::vs,w::ws=>by simp only[VT.cmpL,VT.sameL,zny,Bool.and_eq_true,VT.cmp_zero v w,VT.cmpL_zero vs ws]
 |[],[]=>by simp[VT.cmpL,VT.sameL]
 |[],_::_=>by simp[VT.cmpL,VT.sameL]
 |_::_,[]=>by simp[VT.cmpL,VT.sameL]
end
mutual
theorem VT.cmp_tri:∀ v w x:VT,Tri (VT.cmp v w) (VT.cmp w x) (VT.cmp v x)
 |.mk k n ks,.mk k' n' ks',.mk k'' n'' ks''=>by simp only[VT.cmp];exact(Tri.icmp _ _ _).cor ((Tri.icmp _ _ _).cor ((Tri.icmp _ _ _).cor (VT.cmpL_tri ks ks' ks'')))
theorem VT.cmpL_tri:∀ v w x:List VT,Tri (VT.cmpL v w) (VT.cmpL w x) (VT.cmpL v x)
 |v::vs,w::ws,x::xs=>by simp only[VT.cmpL];exact(VT.cmp_tri v w x).cor (VT.cmpL_tri vs ws xs)
 |[],[],[]=>by simp[VT.cmpL,Tri]
 |[],[],_::_=>by simp[VT.cmpL,Tri]
 |[],_::_,[]=>by simp[VT.cmpL,Tri]
 |[],_::_,_::_=>by simp[VT.cmpL,Tri]
 |_::_,[],[]=>by simp[VT.cmpL,Tri]
 |_::_,[],_::_=>by simp[VT.cmpL,Tri]
 |_::_,_::_,[]=>by simp[VT.cmpL,Tri]
end
theorem VT.cmpL_drop{a b:List VT}{i:Nat}(ha:i<a.length)(hb:i<b.length):VT.cmpL (a.drop i) (b.drop i)=cor (VT.cmp a[i] b[i]) (VT.cmpL (a.drop (i+1)) (b.drop (i+1))):=by rw[List.drop_eq_getElem_cons ha,List.drop_eq_getElem_cons hb,VT.cmpL]
end Go.Abs
namespace Go.Abs
open Go
structure Con where
 name:List UInt8
 args:List VT
structure Dat where
 name:List UInt8
 vars:Int
 cons:List Con
structure Cod where
 name:List UInt8
 params:List Int
 capt:List Int
 res:VT
 body:Int
structure CEx where
 op:Int
 num:Int
 vars:List Int
 binds:List (List Int)
 kids:List Int
 ty:VT
structure Cor where
 data:List Dat
 codes:List Cod
 vars:List VT
 exprs:List CEx
def ints(l:List Int):List (List AV):=l.map λn=>[.int .i64 n]
def rows(l:List (List Int)):List (List AV):=l.map λr=>[.sl (ints r) .none]
def Con.cs(c:Con):List AV:=[.str c.name,.sl (VT.css c.args) .none]
def Dat.cs(d:Dat):List AV:=[.str d.name,.int .i64 d.vars,.sl (d.cons.map Con.cs) .none]
def Cod.cs(c:Cod):List AV:=.str c.name::.sl (ints c.params) .none::.sl (ints c.capt) .none::(c.res.cs++[.int .i64 c.body])
def CEx.cs(e:CEx):List AV:=.int .i64 e.op::.int .i64 e.num::.sl (ints e.vars) .none::.sl (rows e.binds) .none::.sl (ints e.kids) .none::e.ty.cs
def Cor.cs(c:Cor):List AV:=[.sl (c.data.map Dat.cs) .none,.sl (c.codes.map Cod.cs) .none,.sl (VT.css c.vars) .none,.sl (c.exprs.map CEx.cs) .none]
@[simp] theorem zdp(l:List Int):(ints l).length=l.length:=by simp[ints]
@[simp] theorem zT1(l:List (List Int)):(rows l).length=l.length:=by simp[rows]
def VT.kind:VT→Int|.mk k _ _=>k
def VT.num:VT→Int|.mk _ n _=>n
def VT.kids:VT→List VT|.mk _ _ ks=>ks
def zaR(data:List Dat)(vars k n:Int)(len:Nat):Bool:=
 if k == 1 || k == 2 || k == 3 then n == 0 && len == 0
 else if k == 4 then decide (0≤n) && decide (n<vars) && len == 0
 else if k == 5 then decide (0≤n) && (match data[n.toNat]? with|some d=>(len:Int) == d.vars|none=>false)
 else if k == 6 then n == 0 && decide (2≤len) && decide (len≤6)
 else if k == 7 || k == 8 then n == 0 && len == 1
 else if k == 9 then n == 0 && decide (1≤len) && decide (len≤7)
 else false
mutual
def zaH(data:List Dat)(vars:Int):VT→Bool
 |.mk k n asx=>zaR data vars k n asx.length && za2 data vars asx
def za2(data:List Dat)(vars:Int):List VT→Bool
 |[]=>true
 |t::ts=>zaH data vars t && za2 data vars ts
end
def zaD(data:List Dat)(vars:Int)(t:VT):Bool:=decide (t.nodes≤200) && zaH data vars t
mutual
def subst(args:List VT):VT→VT
 |.mk k n ks=>if k=4∧0≤n∧n<args.length then (args[n.toNat]?).getD (.mk 0 0 []) else .mk k n (zaX args ks)
def zaX(args:List VT):List VT→List VT
 |[]=>[]
 |t::ts=>subst args t::zaX args ts
end
def zbi(data:List Dat)(t:VT)(c:Int):Option (List VT):=
 if t.kind=5∧0≤t.num∧0≤c then
  match data[t.num.toNat]? with
  | some d=>if (t.kids.length:Int)=d.vars then
    match d.cons[c.toNat]? with
    | some k=>let l:=k.args.map (subst t.kids)
     if l.all (λx=>decide (x.nodes≤200))=true then some l else none
    |none=>none
   else none
  |none=>none
 else none
end Go.Abs
namespace Go.Proofs.YtaifokkaaahdoaaGreatDoor
open Go Go.Abs
set_option maxRecDepth 100000
def zQj(_:Nat):List Bool:=[]
noncomputable def zQk:Code:=Tryz.f97.body.getD .skip
def zsG(t0 t1 t2:AV)(H:zaa)(K:Kt):Prop:=
 zas t1 H λt4 H=>
 zaq [.snil,(.int .i64 0),(.int .i64 0)] [(0,1),(1,1),(2,1)] [(0,t0),(1,t2),(2,(.int .i64 200))] λt10=>
 zas t10 H λt11 H=>
 zae true 3 t4 H λt13=>
 ACalls tP zhs [t11,t13] H λt14 H=>
 K t14 H
theorem zAS{t0 t1 t2:AV}{H:zaa}{K:Kt}(h:HSc H→zsG t0 t1 t2 H K):ACalls tP zfB [t0,t1,t2] H K:=
 zap (M:=zQj) Tryz.func97 (c:=zQk) (by kernel_rfl) (λhs=>Eq.mpr (by kernel_rfl) (h hs))
def zet:Nat→List Bool
 |171022=>rl false [2,2,16,1,53,1,34]
 |150010=>rl false [2,2,1,2,13,2,87]
 |100007=>rl false [2,2,1,2,13,1,88]
 |100002=>rl false [2,2,105]
 |_=>[]
noncomputable def zeu:Code:=Tryz.f138.body.getD .skip
noncomputable def zkU:List ResultVar:=Tryz.f138.results.toList
def zdA(t2 t3 t5 t6:AV)(H:zaa)(K:Kt):Prop:=
 zaf 0 t3 λt79=>
 zae false 1 t79 H λt80=>
 zac .neq false t80 (.int .i64 4) λt81=>
 zad t81 true H (λK'=>zaf 0 t3 (K' · H)) λt83 H=>
 zad t81 true H (λK'=>zae false 1 t83 H (K' · H)) λt84 H=>
 zad t81 true H (λK'=>zac .neq false t84 (.int .i64 5) (K' · H)) λt85 H=>
 zao t81 t85 (.bool false) λt86=>
 zad t86 true H (λK'=>zaf 1 t3 (K' · H)) λt88 H=>
 zad t86 true H (λK'=>zae false 1 t88 H (K' · H)) λt89 H=>
 zad t86 true H (λK'=>zac .neq false t89 (.int .i64 0) (K' · H)) λt90 H=>
 zao t86 t90 (.bool false) λt91=>
 zag t91
 (K (.bool false) H)
 (zaf 2 t3 λt92=>
 zae false 1 t92 H λt93=>
 zah 1 t93 λt94=>
 zac .lss false t94 t5 λt96=>
 zad t96 false H (λK'=>zaf 2 t3 (K' · H)) λt98 H=>
 zad t96 false H (λK'=>zae false 1 t98 H (K' · H)) λt99 H=>
 zad t96 false H (λK'=>zah 1 t99 (K' · H)) λt100 H=>
 zad t96 false H (λK'=>K' t6 H) λt101 H=>
 zad t96 false H (λK'=>zac .gtr false t100 t101 (K' · H)) λt102 H=>
 zao t96 (.bool true) t102 λt103=>
 zag t103
 (K (.bool false) H)
 (zaf 2 t3 λt104=>
 zae false 1 t104 H λt105=>
 zbV zhv [t2] λt106=>
 ACalls tP zdR [t105,t106] H λt107 H=>
 aUn .not t107 λt108=>
 K t108 H))
def zb7(t2 t3 t5 t6:AV)(H:zaa)(K:Kt):Prop:=
 zdA t2 t3 t5 t6 H K
noncomputable def zIm:Code:=zat [1,1,1,1,0,1,0,1,1,1,1,1,1,1,1,1] zeu
def zIl(K:Kt):AExit→List AV→zaa→Prop:=zau tP zet [1,1,1,1,0,1,0,1,1,1,1,1,1,1,1,1] zeu (zaz tP zkU K)
def zqn(t2 t3 t20 t74:AV)(H:zaa)(K:Kt):Prop:=AWp tP zIm (zIl K) (ux 2 (t2::t3::ux 16 (t20::ux 53 (t74::ux 34 [])))) H
def zfK(t2 t3 t20 t74:AV)(H:zaa)(K:Kt):Prop:=
 zag t74
 (zb7 t2 t3 (.int .i64 1) (.int .i64 1) H K)
 (zac .eql false t20 (.int .i64 9) λt78=>
 zag t78
 (zb7 t2 t3 (.int .i64 1) (.int .i64 7) H K)
 (K (.bool false) H))
noncomputable def zIk:Code:=zat [1,1,1,1,0,1,0,1] zeu
def zIj(K:Kt):AExit→List AV→zaa→Prop:=zau tP zet [1,1,1,1,0,1,0,1] zeu (zaz tP zkU K)
def zkR(t2 t3 t5 t6 t20 t21:AV)(H:zaa)(K:Kt):Prop:=AWp tP zIk (zIj K) (ux 2 (t2::t3::ux 1 (t5::t6::ux 13 (t20::t21::ux 87 [])))) H
def zbR(t2 t3 t5 t6 t20 t21:AV)(H:zaa)(K:Kt):Prop:=
 zag t21
 (zb7 t2 t3 t5 t6 H K)
 (zac .eql false t20 (.int .i64 4) λt26=>
 zag t26
 (zab H (λK'=>zaf 1 t3 (K' · H)) λt27=>
 zab H (λK'=>zam false 1 t27 H (K' · H)) λt28=>
 zab H (λK'=>zac .lss false t28 (.int .i64 0) (K' · H)) λt29=>
 zab H (λK'=>K' t29 H) λt30=>
 zad t30 false H (λK'=>zab H (λK''=>zaf 1 t3 (K'' · H)) (K' · H)) λt31 H=>
 zad t30 false H (λK'=>zab H (λK''=>zam false 1 t31 H (K'' · H)) (K' · H)) λt32 H=>
 zad t30 false H (λK'=>zab H (λK''=>zam false 1 t2 H (K'' · H)) (K' · H)) λt33 H=>
 zad t30 false H (λK'=>zab H (λK''=>zaI t33 (K'' · H)) (K' · H)) λt34 H=>
 zad t30 false H (λK'=>zab H (λK''=>zaf 1 t34 (K'' · H)) (K' · H)) λt35 H=>
 zad t30 false H (λK'=>zab H (λK''=>zam false 1 t35 H (K'' · H)) (K' · H)) λt36 H=>
 zad t30 false H (λK'=>zab H (λK''=>zac .geq false t32 t36 (K'' · H)) (K' · H)) λt37 H=>
 zab H (λK'=>zao t30 (.bool true) t37 (K' · H)) λt38=>
 zag t38
 (K (.bool false) H)
 (zb7 t2 t3 t5 t6 H K))
 (zac .eql false t20 (.int .i64 5) λt40=>
 zag t40
 (zab H (λK'=>zaf 1 t3 (K' · H)) λt41=>
 zab H (λK'=>zam false 1 t41 H (K' · H)) λt42=>
 zab H (λK'=>zac .lss false t42 (.int .i64 0) (K' · H)) λt43=>
 zab H (λK'=>K' t43 H) λt44=>
 zad t44 false H (λK'=>zab H (λK''=>zaf 1 t3 (K'' · H)) (K' · H)) λt45 H=>
 zad t44 false H (λK'=>zab H (λK''=>zam false 1 t45 H (K'' · H)) (K' · H)) λt46 H=>
 zad t44 false H (λK'=>zab H (λK''=>zam false 1 t2 H (K'' · H)) (K' · H)) λt47 H=>
 zad t44 false H (λK'=>zab H (λK''=>zaI t47 (K'' · H)) (K' · H)) λt48 H=>
 zad t44 false H (λK'=>zab H (λK''=>zaf 0 t48 (K'' · H)) (K' · H)) λt49 H=>
 zad t44 false H (λK'=>zab H (λK''=>zam false 1 t49 H (K'' · H)) (K' · H)) λt50 H=>
 zad t44 false H (λK'=>zab H (λK''=>zah 1 t50 (K'' · H)) (K' · H)) λt51 H=>
 zad t44 false H (λK'=>zab H (λK''=>zac .geq false t46 t51 (K'' · H)) (K' · H)) λt52 H=>
 zab H (λK'=>zao t44 (.bool true) t52 (K' · H)) λt53=>
 zag t53
 (K (.bool false) H)
 (zab H (λK'=>zam false 1 t2 H (K' · H)) λt54=>
 zab H (λK'=>zaI t54 (K' · H)) λt55=>
 zab H (λK'=>zaf 0 t55 (K' · H)) λt56=>
 zab H (λK'=>zam false 1 t56 H (K' · H)) λt57=>
 zab H (λK'=>zaf 1 t3 (K' · H)) λt58=>
 zab H (λK'=>zam false 1 t58 H (K' · H)) λt59=>
 zab H (λK'=>zai 3 t57 t59 (K' · H)) λt60=>
 zab H (λK'=>zaf 1 t60 (K' · H)) λt61=>
 zab H (λK'=>zam false 1 t61 H (K' · H)) λt62=>
 zab H (λK'=>zam false 1 t2 H (K' · H)) λt63=>
 zab H (λK'=>zaI t63 (K' · H)) λt64=>
 zab H (λK'=>zaf 0 t64 (K' · H)) λt65=>
 zab H (λK'=>zam false 1 t65 H (K' · H)) λt66=>
 zab H (λK'=>zaf 1 t3 (K' · H)) λt67=>
 zab H (λK'=>zam false 1 t67 H (K' · H)) λt68=>
 zab H (λK'=>zai 3 t66 t68 (K' · H)) λt69=>
 zab H (λK'=>zaf 1 t69 (K' · H)) λt70=>
 zab H (λK'=>zam false 1 t70 H (K' · H)) λt71=>
 zab H (λK'=>K' t62 H) λt5=>
 zab H (λK'=>K' t71 H) λt6=>
 zb7 t2 t3 t5 t6 H K))
 (zac .eql false t20 (.int .i64 6) λt73=>
 zag t73
 (zb7 t2 t3 (.int .i64 2) (.int .i64 6) H K)
 (zac .eql false t20 (.int .i64 7) λt75=>
 zag t75
 (zqn t2 t3 t20 t75 H K)
 (zac .eql false t20 (.int .i64 8) λt76=>
 zqn t2 t3 t20 t76 H K)))))
noncomputable def zIi:Code:=zat [1,1,1,1,0,1] zeu
def zIh(K:Kt):AExit→List AV→zaa→Prop:=zau tP zet [1,1,1,1,0,1] zeu (zaz tP zkU K)
def zxY(t2 t3 t5 t6 t20:AV)(H:zaa)(K:Kt):Prop:=AWp tP zIi (zIh K) (ux 2 (t2::t3::ux 1 (t5::t6::ux 13 (t20::ux 88 [])))) H
def zh8(t2 t3 t5 t6 t20:AV)(H:zaa)(K:Kt):Prop:=
 zac .eql false t20 (.int .i64 1) λt22=>
 zag t22
 (zkR t2 t3 t5 t6 t20 t22 H K)
 (zac .eql false t20 (.int .i64 2) λt23=>
 zag t23
 (zkR t2 t3 t5 t6 t20 t23 H K)
 (zac .eql false t20 (.int .i64 3) λt24=>
 zkR t2 t3 t5 t6 t20 t24 H K))
noncomputable def zIg:Code:=zat [1,1] zeu
def zIf(K:Kt):AExit→List AV→zaa→Prop:=zau tP zet [1,1] zeu (zaz tP zkU K)
def zkQ(t2 t3:AV)(H:zaa)(K:Kt):Prop:=AWp tP zIg (zIf K) (ux 2 (t2::t3::ux 105 [])) H
def zh7(t2 t3:AV)(H:zaa)(K:Kt):Prop:=
 zae false 1 t2 H λt14=>
 zaI t14 λt15=>
 zaf 2 t15 λt16=>
 zae false 1 t16 H λt17=>
 zac .lss false t17 (.int .i64 0) λt18=>
 zag t18
 (K (.bool false) H)
 (zaf 0 t3 λt19=>
 zae false 1 t19 H λt20=>
 zxY t2 t3 (.int .i64 0) (.int .i64 0) t20 H K)
def zqm(t0 t1:AV)(H:zaa)(K:Kt):Prop:=
 zas t0 H λt2 H=>
 zas t1 H λt3 H=>
 zae false 1 t2 H λt7=>
 zaI t7 λt8=>
 zaf 2 t8 λt9=>
 zae false 1 t9 H λt10=>
 zac .sub false t10 (.int .i64 1) λt11=>
 zaI t7 λt12=>
 zaf 2 t12 λt13=>
 zak 1 t13 t11 H λH=>
 zkQ t2 t3 H K
theorem zkT{t2 t3 t20 t74:AV}{H:zaa}{K:Kt}(h:HSc H→zfK t2 t3 t20 t74 H K):zqn t2 t3 t20 t74 H K:=
 λB w G a hH hF hd=>zf7 (M:=zet) _ _ _ _ (Eq.mpr (by kernel_rfl) (h hH.sc)) B w G a hH hF hd
theorem zkS{t2 t3 t5 t6 t20 t21:AV}{H:zaa}{K:Kt}(h:HSc H→zbR t2 t3 t5 t6 t20 t21 H K):zkR t2 t3 t5 t6 t20 t21 H K:=
 λB w G a hH hF hd=>zf7 (M:=zet) _ _ _ _ (Eq.mpr (by kernel_rfl) (h hH.sc)) B w G a hH hF hd
theorem zxZ{t2 t3 t5 t6 t20:AV}{H:zaa}{K:Kt}(h:HSc H→zh8 t2 t3 t5 t6 t20 H K):zxY t2 t3 t5 t6 t20 H K:=
 λB w G a hH hF hd=>zf7 (M:=zet) _ _ _ _ (Eq.mpr (by kernel_rfl) (h hH.sc)) B w G a hH hF hd
theorem zxX{t2 t3:AV}{H:zaa}{K:Kt}(h:HSc H→zh7 t2 t3 H K):zkQ t2 t3 H K:=
 λB w G a hH hF hd=>zf7 (M:=zet) _ _ _ _ (Eq.mpr (by kernel_rfl) (h hH.sc)) B w G a hH hF hd
theorem zx0{t0 t1:AV}{H:zaa}{K:Kt}(h:HSc H→zqm t0 t1 H K):ACalls tP zhs [t0,t1] H K:=
 zap (M:=zet) Tryz.func138 (c:=zeu) (by kernel_rfl) (λhs=>Eq.mpr (by kernel_rfl) (h hs))
def zJK(_:Nat):List Bool:=[]
noncomputable def zJL:Code:=Tryz.f178.body.getD .skip
def zqP(t0 t1:AV)(H:zaa)(K:Kt):Prop:=
 zas t0 H λt2 H=>
 zae false 1 t1 H λt4=>
 zae true 3 t2 H λt5=>
 ACalls tP zhs [t4,t5] H λt6 H=>
 aUn .not t6 λt7=>
 K t7 H
theorem zyp{t0 t1:AV}{H:zaa}{K:Kt}(h:HSc H→zqP t0 t1 H K):ACalls tP zhv [t0,t1] H K:=
 zap (M:=zJK) Tryz.func178 (c:=zJL) (by kernel_rfl) (λhs=>Eq.mpr (by kernel_rfl) (h hs))
def zGk(_:Nat):List Bool:=[]
noncomputable def zGl:Code:=Tryz.f105.body.getD .skip
def zpM(t0 t1:AV)(H:zaa)(K:Kt):Prop:=
 ACalls tP zjn [t0,t1] H λt7 H=>
 zac .geq false t7 (.int .i64 0) λt8=>
 K t8 H
theorem zw5{t0 t1:AV}{H:zaa}{K:Kt}(h:HSc H→zpM t0 t1 H K):ACalls tP zdR [t0,t1] H K:=
 zap (M:=zGk) Tryz.func105 (c:=zGl) (by kernel_rfl) (λhs=>Eq.mpr (by kernel_rfl) (h hs))
def zk8:Nat→List Bool
 |2=>rl false [0,2,5,2,10]
 |_=>[]
noncomputable def zqG:Code:=Tryz.f152.body.getD .skip
noncomputable def zI9:List ResultVar:=Tryz.f152.results.toList
def zib(t0 t1 t7 t8:AV):List AV:=t0::t1::ux 5 (t7::t8::ux 10 [])
def zI8:List Bool:=zk8 2
noncomputable def zI7:Code:=zat [1,0,1,0,0] zqG
def zI6(K:Kt):AExit→List AV→zaa→Prop:=zau tP zk8 [1,0,1,0] zqG (zaz tP zI9 K)
def zyc(t0 t1 t7 t8:AV)(H:zaa)(K:Kt):Prop:=ALoop tP zI7 (zI6 K) (zib t0 t1 t7 t8) H
def zia(t0 t1 t7 t8:AV)(H:zaa)(K:Kt)(Kb2:Lt):Prop:=
 zac .lss false t8 t7 λt9=>
 zag t9
 (zai 3 t0 t8 λt14=>
 zae true 3 t14 H λt15=>
 aCallV tP t1 [t15] H λt16 H=>
 zag t16
 (K t8 H)
 (zac .add false t8 (.int .i64 1) λt18=>
 Kb2 (zib t0 t1 t7 t18) H))
 (K (.int .i64 (-1)) H)
def zqF(t0 t1:AV)(H:zaa)(K:Kt):Prop:=
 zah 1 t0 λt7=>
 zyc t0 t1 t7 (.int .i64 0) H K
theorem zyd{t0 t1 t7 t8:AV}{H:zaa}{K:Kt}(Inv:Nat→AV→zaa→Prop)(n:Nat)(h0:HSc H→Inv n t8 H)(round:Rd1 (λt8=>zib t0 t1 t7 t8) (λt8=>λH Kb2=>zia t0 t1 t7 t8 H K Kb2) H Inv):zyc t0 t1 t7 t8 H K:=
 lp1 (M:=zk8) zI8 t8 (by kernel_rfl) Inv n h0 round
theorem zye{t0 t1:AV}{H:zaa}{K:Kt}(h:HSc H→zqF t0 t1 H K):ACalls tP zjn [t0,t1] H K:=
 zap (M:=zk8) Tryz.func152 (c:=zqG) (by kernel_rfl) (λhs=>Eq.mpr (by kernel_rfl) (h hs))
def zd4:Nat→List Bool
 |8=>rl false [2,1,1,1,3,2,49,3,46]
 |13=>rl false [2,1,1,1,3,2,67,3,28]
 |20=>rl false [4,1,9,1,78,3,12]
 |_=>[]
noncomputable def zfX:Code:=Tryz.f101.body.getD .skip
noncomputable def zsL:List ResultVar:=Tryz.f101.results.toList
def zm3(t2 t4 t8 t9 t59 t60 t61:AV):List AV:=ux 2 (t2::ux 1 (t4::ux 3 (t8::t9::ux 49 (t59::t60::t61::ux 46 []))))
def zQG:List Bool:=zd4 8
noncomputable def zQA:Code:=zat [1,1,1,1,1,0,1,0,0] zfX
def zQx(K:Kt):AExit→List AV→zaa→Prop:=zau tP zd4 [1,1,1,1,1,0,1,0] zfX (zaz tP zsL K)
def zAY(t2 t4 t8 t9 t59 t60 t61:AV)(H:zaa)(K:Kt):Prop:=ALoop tP zQA (zQx K) (zm3 t2 t4 t8 t9 t59 t60 t61) H
def zm1(t2 t4 t8 t9 t77 t78 t79:AV):List AV:=ux 2 (t2::ux 1 (t4::ux 3 (t8::t9::ux 67 (t77::t78::t79::ux 28 []))))
def zQE:List Bool:=zd4 13
noncomputable def zQy:Code:=zat [1,1,1,1,1,1,0,1,0,0] zfX
def zQv(K:Kt):AExit→List AV→zaa→Prop:=zau tP zd4 [1,1,1,1,1,1,0,1,0] zfX (zaz tP zsL K)
def zAX(t2 t4 t8 t9 t77 t78 t79:AV)(H:zaa)(K:Kt):Prop:=ALoop tP zQy (zQv K) (zm1 t2 t4 t8 t9 t77 t78 t79) H
def zm2(t4 t14 t93 t94 t95:AV):List AV:=ux 4 (t4::ux 9 (t14::ux 78 (t93::t94::t95::ux 12 [])))
def zQF:List Bool:=zd4 20
noncomputable def zQz:Code:=zat [1,1,1,1,1,1,1,1,0,1,0,0] zfX
def zQw(K:Kt):AExit→List AV→zaa→Prop:=zau tP zd4 [1,1,1,1,1,1,1,1,0,1,0] zfX (zaz tP zsL K)
def zm4(t4 t14 t93 t94 t95:AV)(H:zaa)(K:Kt):Prop:=ALoop tP zQz (zQw K) (zm2 t4 t14 t93 t94 t95) H
def zsJ(t4 t14 t93 t94 t95:AV)(H:zaa)(K:Kt)(Kb20:Lt):Prop:=
 zac .lss false t95 t94 λt96=>
 zag t96
 (zai 3 t93 t95 λt97=>
 zae true 3 t97 H λt98=>
 zaw [(.int .i64 0),(.int .i64 0),.snil] H λt16 H=>
 zak 3 t16 t98 H λH=>
 zae true 3 t16 H λt100=>
 zaf 2 t4 λt101=>
 zae false 1 t101 H λt102=>
 ACalls tP zht [t100,t102] H λt103 H=>
 zar 3 [(.int .i64 0),(.int .i64 0),.snil] 1 [(0,t103)] λt104=>
 zay zbe 3 40 t14 t104 H λt105 H=>
 zac .add false t95 (.int .i64 1) λt106=>
 Kb20 (zm2 t4 t105 t93 t94 t106) H)
 (zbf [t14,(.bool true)] (K · H))
def zsI(t2 t4 t8 t9 t77 t78 t79:AV)(H:zaa)(K:Kt)(Kb13:Lt):Prop:=
 zac .lss false t79 t78 λt80=>
 zag t80
 (zai 3 t77 t79 λt81=>
 zae true 3 t81 H λt82=>
 zaw [(.int .i64 0),(.int .i64 0),.snil] H λt13 H=>
 zak 3 t13 t82 H λH=>
 zae true 3 t13 H λt83=>
 ACalls tP zjk [t83,t9] H λt85 H=>
 zac .gtr false t85 (.int .i64 200) λt86=>
 zag t86
 (zbf [.snil,(.bool false)] (K · H))
 (zac .add false t79 (.int .i64 1) λt87=>
 Kb13 (zm1 t2 t4 t8 t9 t77 t78 t87) H))
 (zaf 2 t8 λt88=>
 zae false 1 t88 H λt89=>
 zai 2 t89 t2 λt91=>
 zaf 1 t91 λt92=>
 zae false 1 t92 H λt93=>
 zah 1 t93 λt94=>
 zm4 t4 .snil t93 t94 (.int .i64 0) H K)
def zsK(t2 t4 t8 t9 t59 t60 t61:AV)(H:zaa)(K:Kt)(Kb8:Lt):Prop:=
 zac .lss false t61 t60 λt62=>
 zag t62
 (zai 3 t59 t61 λt64=>
 zae true 3 t64 H λt65=>
 zaw [(.int .i64 0),(.int .i64 0),.snil] H λt11 H=>
 zak 3 t11 t65 H λH=>
 zae true 3 t11 H λt68=>
 ACalls tP zjj [t68] H λt69 H=>
 zai 1 t9 t61 λt70=>
 zak 1 t70 t69 H λH=>
 zac .add false t61 (.int .i64 1) λt71=>
 Kb8 (zm3 t2 t4 t8 t9 t59 t60 t71) H)
 (zaf 2 t8 λt72=>
 zae false 1 t72 H λt73=>
 zai 2 t73 t2 λt75=>
 zaf 1 t75 λt76=>
 zae false 1 t76 H λt77=>
 zah 1 t77 λt78=>
 zAX t2 t4 t8 t9 t77 t78 (.int .i64 0) H K)
def zAW(t0 t1 t2:AV)(H:zaa)(K:Kt):Prop:=
 zas t1 H λt4 H=>
 zaf 0 t4 λt17=>
 zae false 1 t17 H λt18=>
 zac .neq false t18 (.int .i64 5) λt19=>
 zad t19 false H (λK'=>zaf 1 t4 (K' · H)) λt21 H=>
 zad t19 false H (λK'=>zae false 1 t21 H (K' · H)) λt22 H=>
 zad t19 false H (λK'=>zac .lss false t22 (.int .i64 0) (K' · H)) λt23 H=>
 zao t19 (.bool true) t23 λt24=>
 zad t24 false H (λK'=>zaf 1 t4 (K' · H)) λt26 H=>
 zad t24 false H (λK'=>zae false 1 t26 H (K' · H)) λt27 H=>
 zad t24 false H (λK'=>K' t0 H) λt28 H=>
 zad t24 false H (λK'=>zah 1 t28 (K' · H)) λt29 H=>
 zad t24 false H (λK'=>zac .geq false t27 t29 (K' · H)) λt30 H=>
 zao t24 (.bool true) t30 λt31=>
 zag t31
 (zbf [.snil,(.bool false)] (K · H))
 (zaf 1 t4 λt33=>
 zae false 1 t33 H λt34=>
 zai 3 t0 t34 λt35=>
 zae true 3 t35 H λt36=>
 zaw [(.str []),(.int .i64 0),.snil] H λt8 H=>
 zak 3 t8 t36 H λH=>
 zaf 2 t4 λt37=>
 zae false 1 t37 H λt38=>
 zah 1 t38 λt39=>
 zaf 1 t8 λt40=>
 zae false 1 t40 H λt41=>
 zac .neq false t39 t41 λt42=>
 zad t42 false H (λK'=>K' t2 H) λt44 H=>
 zad t42 false H (λK'=>zac .lss false t44 (.int .i64 0) (K' · H)) λt45 H=>
 zao t42 (.bool true) t45 λt46=>
 zad t46 false H (λK'=>K' t2 H) λt48 H=>
 zad t46 false H (λK'=>zaf 2 t8 (K' · H)) λt49 H=>
 zad t46 false H (λK'=>zae false 1 t49 H (K' · H)) λt50 H=>
 zad t46 false H (λK'=>zah 1 t50 (K' · H)) λt51 H=>
 zad t46 false H (λK'=>zac .geq false t48 t51 (K' · H)) λt52 H=>
 zao t46 (.bool true) t52 λt53=>
 zag t53
 (zbf [.snil,(.bool false)] (K · H))
 (zaf 2 t4 λt54=>
 zae false 1 t54 H λt55=>
 zah 1 t55 λt56=>
 zba 8 [(.int .i64 0)] t56 t56 H λt57 H=>
 zaf 2 t4 λt58=>
 zae false 1 t58 H λt59=>
 zah 1 t59 λt60=>
 zAY t2 t4 t8 t57 t59 t60 (.int .i64 0) H K))
theorem zQC{t4 t14 t93 t94 t95:AV}{H:zaa}{K:Kt}(Inv:Nat→AV→AV→zaa→Prop)(n:Nat)(h0:HSc H→Inv n t14 t95 H)(round:Rd2 (λt14=>λt95=>zm2 t4 t14 t93 t94 t95) (λt14=>λt95=>λH Kb20=>zsJ t4 t14 t93 t94 t95 H K Kb20) H Inv):zm4 t4 t14 t93 t94 t95 H K:=
 lp2 (M:=zd4) zQF t14 t95 (by kernel_rfl) Inv n h0 round
theorem zQB{t2 t4 t8 t9 t77 t78 t79:AV}{H:zaa}{K:Kt}(Inv:Nat→AV→zaa→Prop)(n:Nat)(h0:HSc H→Inv n t79 H)(round:Rd1 (λt79=>zm1 t2 t4 t8 t9 t77 t78 t79) (λt79=>λH Kb13=>zsI t2 t4 t8 t9 t77 t78 t79 H K Kb13) H Inv):zAX t2 t4 t8 t9 t77 t78 t79 H K:=
 lp1 (M:=zd4) zQE t79 (by kernel_rfl) Inv n h0 round
theorem zQD{t2 t4 t8 t9 t59 t60 t61:AV}{H:zaa}{K:Kt}(Inv:Nat→AV→zaa→Prop)(n:Nat)(h0:HSc H→Inv n t61 H)(round:Rd1 (λt61=>zm3 t2 t4 t8 t9 t59 t60 t61) (λt61=>λH Kb8=>zsK t2 t4 t8 t9 t59 t60 t61 H K Kb8) H Inv):zAY t2 t4 t8 t9 t59 t60 t61 H K:=
 lp1 (M:=zd4) zQG t61 (by kernel_rfl) Inv n h0 round
theorem zQH{t0 t1 t2:AV}{H:zaa}{K:Kt}(h:HSc H→zAW t0 t1 t2 H K):ACalls tP zjR [t0,t1,t2] H K:=
 zap (M:=zd4) Tryz.func101 (c:=zfX) (by kernel_rfl) (λhs=>Eq.mpr (by kernel_rfl) (h hs))
def zkZ:Nat→List Bool
 |3=>rl false [3,1,3,3,9]
 |_=>[]
noncomputable def zqu:Code:=Tryz.f142.body.getD .skip
noncomputable def zIH:List ResultVar:=Tryz.f142.results.toList
def zk0(t3 t7 t8 t9:AV):List AV:=ux 3 (t3::ux 3 (t7::t8::t9::ux 9 []))
def zIF:List Bool:=zkZ 3
noncomputable def zID:Code:=zat [1,1,0,1,0,0] zqu
def zIC(K:Kt):AExit→List AV→zaa→Prop:=zau tP zkZ [1,1,0,1,0] zqu (zaz tP zIH K)
def zx7(t3 t7 t8 t9:AV)(H:zaa)(K:Kt):Prop:=ALoop tP zID (zIC K) (zk0 t3 t7 t8 t9) H
def zqt(t3 t7 t8 t9:AV)(H:zaa)(K:Kt)(Kb3:Lt):Prop:=
 zac .lss false t9 t8 λt10=>
 zag t10
 (zai 3 t7 t9 λt11=>
 zae true 3 t11 H λt12=>
 zaw [(.int .i64 0),(.int .i64 0),.snil] H λt5 H=>
 zak 3 t5 t12 H λH=>
 zae true 3 t5 H λt14=>
 ACalls tP zjj [t14] H λt15 H=>
 zac .add false t3 t15 λt16=>
 zac .add false t9 (.int .i64 1) λt17=>
 Kb3 (zk0 t16 t7 t8 t17) H)
 (K t3 H)
def zx6(t0:AV)(H:zaa)(K:Kt):Prop:=
 zas t0 H λt1 H=>
 zaf 2 t1 λt6=>
 zae false 1 t6 H λt7=>
 zah 1 t7 λt8=>
 zx7 (.int .i64 1) t7 t8 (.int .i64 0) H K
theorem zIE{t3 t7 t8 t9:AV}{H:zaa}{K:Kt}(Inv:Nat→AV→AV→zaa→Prop)(n:Nat)(h0:HSc H→Inv n t3 t9 H)(round:Rd2 (λt3=>λt9=>zk0 t3 t7 t8 t9) (λt3=>λt9=>λH Kb3=>zqt t3 t7 t8 t9 H K Kb3) H Inv):zx7 t3 t7 t8 t9 H K:=
 lp2 (M:=zkZ) zIF t3 t9 (by kernel_rfl) Inv n h0 round
theorem zIG{t0:AV}{H:zaa}{K:Kt}(h:HSc H→zx6 t0 H K):ACalls tP zjj [t0] H K:=
 zap (M:=zkZ) Tryz.func142 (c:=zqu) (by kernel_rfl) (λhs=>Eq.mpr (by kernel_rfl) (h hs))
def zk1:Nat→List Bool
 |5=>rl false [1,1,3,1,23,3,12]
 |_=>[]
noncomputable def zqx:Code:=Tryz.f143.body.getD .skip
noncomputable def zIO:List ResultVar:=Tryz.f143.results.toList
def zk2(t1 t5 t29 t30 t31:AV):List AV:=ux 1 (t1::ux 3 (t5::ux 23 (t29::t30::t31::ux 12 [])))
def zIM:List Bool:=zk1 5
noncomputable def zIK:Code:=zat [1,1,1,0,1,0,0] zqx
def zIJ(K:Kt):AExit→List AV→zaa→Prop:=zau tP zk1 [1,1,1,0,1,0] zqx (zaz tP zIO K)
def zqz(t1 t5 t29 t30 t31:AV)(H:zaa)(K:Kt):Prop:=ALoop tP zIK (zIJ K) (zk2 t1 t5 t29 t30 t31) H
def zqy(t5:AV)(H:zaa)(K:Kt):Prop:=
 K t5 H
def zk3(t5:AV)(H:zaa)(K:Kt):Prop:=
 zqy t5 H K
def zqw(t1 t5 t29 t30 t31:AV)(H:zaa)(K:Kt)(Kb5:Lt):Prop:=
 zac .lss false t31 t30 λt32=>
 zag t32
 (zai 3 t29 t31 λt33=>
 zae true 3 t33 H λt34=>
 zaw [(.int .i64 0),(.int .i64 0),.snil] H λt7 H=>
 zak 3 t7 t34 H λH=>
 zae true 3 t7 H λt36=>
 ACalls tP zjk [t36,t1] H λt38 H=>
 zac .add false t5 t38 λt39=>
 zac .gtr false t39 (.int .i64 200) λt41=>
 zag t41
 (zk3 t39 H K)
 (zac .add false t31 (.int .i64 1) λt42=>
 Kb5 (zk2 t1 t39 t29 t30 t42) H))
 (zk3 t5 H K)
def zqv(t0 t1:AV)(H:zaa)(K:Kt):Prop:=
 zas t0 H λt2 H=>
 zaf 0 t2 λt8=>
 zae false 1 t8 H λt9=>
 zac .eql false t9 (.int .i64 4) λt10=>
 zad t10 true H (λK'=>zaf 1 t2 (K' · H)) λt12 H=>
 zad t10 true H (λK'=>zae false 1 t12 H (K' · H)) λt13 H=>
 zad t10 true H (λK'=>zac .geq false t13 (.int .i64 0) (K' · H)) λt14 H=>
 zao t10 t14 (.bool false) λt15=>
 zad t15 true H (λK'=>zaf 1 t2 (K' · H)) λt17 H=>
 zad t15 true H (λK'=>zae false 1 t17 H (K' · H)) λt18 H=>
 zad t15 true H (λK'=>K' t1 H) λt19 H=>
 zad t15 true H (λK'=>zah 1 t19 (K' · H)) λt20 H=>
 zad t15 true H (λK'=>zac .lss false t18 t20 (K' · H)) λt21 H=>
 zao t15 t21 (.bool false) λt22=>
 zag t22
 (zaf 1 t2 λt24=>
 zae false 1 t24 H λt25=>
 zai 1 t1 t25 λt26=>
 zae false 1 t26 H λt27=>
 K t27 H)
 (zaf 2 t2 λt28=>
 zae false 1 t28 H λt29=>
 zah 1 t29 λt30=>
 zqz t1 (.int .i64 1) t29 t30 (.int .i64 0) H K)
theorem zIL{t1 t5 t29 t30 t31:AV}{H:zaa}{K:Kt}(Inv:Nat→AV→AV→zaa→Prop)(n:Nat)(h0:HSc H→Inv n t5 t31 H)(round:Rd2 (λt5=>λt31=>zk2 t1 t5 t29 t30 t31) (λt5=>λt31=>λH Kb5=>zqw t1 t5 t29 t30 t31 H K Kb5) H Inv):zqz t1 t5 t29 t30 t31 H K:=
 lp2 (M:=zk1) zIM t5 t31 (by kernel_rfl) Inv n h0 round
theorem zIN{t0 t1:AV}{H:zaa}{K:Kt}(h:HSc H→zqv t0 t1 H K):ACalls tP zjk [t0,t1] H K:=
 zap (M:=zk1) Tryz.func143 (c:=zqx) (by kernel_rfl) (λhs=>Eq.mpr (by kernel_rfl) (h hs))
def zk4:Nat→List Bool
 |5=>rl false [1,1,2,2,29,3,13]
 |_=>[]
noncomputable def zqC:Code:=Tryz.f144.body.getD .skip
noncomputable def zIV:List ResultVar:=Tryz.f144.results.toList
def zk5(t1 t4 t5 t35 t36 t37:AV):List AV:=ux 1 (t1::ux 2 (t4::t5::ux 29 (t35::t36::t37::ux 13 [])))
def zIT:List Bool:=zk4 5
noncomputable def zIR:Code:=zat [1,1,1,0,1,0,0] zqC
def zIQ(K:Kt):AExit→List AV→zaa→Prop:=zau tP zk4 [1,1,1,0,1,0] zqC (zaz tP zIV K)
def zh9(t1 t4 t5 t35 t36 t37:AV)(H:zaa)(K:Kt):Prop:=ALoop tP zIR (zIQ K) (zk5 t1 t4 t5 t35 t36 t37) H
def zqB(t1 t4 t5 t35 t36 t37:AV)(H:zaa)(K:Kt)(Kb5:Lt):Prop:=
 zac .lss false t37 t36 λt38=>
 zag t38
 (zai 3 t35 t37 λt39=>
 zae true 3 t39 H λt40=>
 zaw [(.int .i64 0),(.int .i64 0),.snil] H λt7 H=>
 zak 3 t7 t40 H λH=>
 zab H (λK'=>zaf 2 t5 (K' · H)) λt41=>
 zab H (λK'=>zam false 1 t41 H (K' · H)) λt42=>
 zab H (λK'=>zam true 3 t7 H (K' · H)) λt43=>
 zab H (λK'=>K' t1 H) λt44=>
 zaA H (λH K'=>ACalls tP zht [t43,t44] H K') λt45=>
 zab H (λK'=>zar 3 [(.int .i64 0),(.int .i64 0),.snil] 1 [(0,t45)] (K' · H)) λt46=>
 zay zbe 3 40 t42 t46 H λt47 H=>
 zab H (λK'=>zaf 2 t5 (K' · H)) λt48=>
 zak 1 t48 t47 H λH=>
 zac .add false t37 (.int .i64 1) λt49=>
 Kb5 (zk5 t1 t4 t5 t35 t36 t49) H)
 (zae true 3 t5 H λt50=>
 zak 3 t4 t50 H λH=>
 zae true 3 t4 H λr0=>
 K r0 H)
def zqA(t0 t1:AV)(H:zaa)(K:Kt):Prop:=
 zas t0 H λt2 H=>
 zaw [(.int .i64 0),(.int .i64 0),.snil] H λt4 H=>
 zaf 0 t2 λt8=>
 zae false 1 t8 H λt9=>
 zac .eql false t9 (.int .i64 4) λt10=>
 zad t10 true H (λK'=>zaf 1 t2 (K' · H)) λt12 H=>
 zad t10 true H (λK'=>zae false 1 t12 H (K' · H)) λt13 H=>
 zad t10 true H (λK'=>zac .geq false t13 (.int .i64 0) (K' · H)) λt14 H=>
 zao t10 t14 (.bool false) λt15=>
 zad t15 true H (λK'=>zaf 1 t2 (K' · H)) λt17 H=>
 zad t15 true H (λK'=>zae false 1 t17 H (K' · H)) λt18 H=>
 zad t15 true H (λK'=>K' t1 H) λt19 H=>
 zad t15 true H (λK'=>zah 1 t19 (K' · H)) λt20 H=>
 zad t15 true H (λK'=>zac .lss false t18 t20 (K' · H)) λt21 H=>
 zao t15 t21 (.bool false) λt22=>
 zag t22
 (zaf 1 t2 λt24=>
 zae false 1 t24 H λt25=>
 zai 3 t1 t25 λt26=>
 zae true 3 t26 H λt27=>
 ACalls tP zht [t27,.snil] H λt28 H=>
 zak 3 t4 t28 H λH=>
 zae true 3 t4 H λr0=>
 K r0 H)
 (zaf 0 t2 λt29=>
 zae false 1 t29 H λt30=>
 zaf 1 t2 λt31=>
 zae false 1 t31 H λt32=>
 zaq [(.int .i64 0),(.int .i64 0),.snil] [(0,1),(1,1),(2,1)] [(0,t30),(1,t32)] λt33=>
 zaw [(.int .i64 0),(.int .i64 0),.snil] H λt5 H=>
 zak 3 t5 t33 H λH=>
 zaf 2 t2 λt34=>
 zae false 1 t34 H λt35=>
 zah 1 t35 λt36=>
 zh9 t1 t4 t5 t35 t36 (.int .i64 0) H K)
theorem zIS{t1 t4 t5 t35 t36 t37:AV}{H:zaa}{K:Kt}(Inv:Nat→AV→zaa→Prop)(n:Nat)(h0:HSc H→Inv n t37 H)(round:Rd1 (λt37=>zk5 t1 t4 t5 t35 t36 t37) (λt37=>λH Kb5=>zqB t1 t4 t5 t35 t36 t37 H K Kb5) H Inv):zh9 t1 t4 t5 t35 t36 t37 H K:=
 lp1 (M:=zk4) zIT t37 (by kernel_rfl) Inv n h0 round
theorem zIU{t0 t1:AV}{H:zaa}{K:Kt}(h:HSc H→zqA t0 t1 H K):ACalls tP zht [t0,t1] H K:=
 zap (M:=zk4) Tryz.func144 (c:=zqC) (by kernel_rfl) (λhs=>Eq.mpr (by kernel_rfl) (h hs))
def zml:Nat→List Bool
 |3=>rl false [1,1,1,2,16]
 |_=>[]
noncomputable def zrR:Code:=Tryz.f65.body.getD .skip
noncomputable def zNX:List ResultVar:=Tryz.f65.results.toList
def zmm(t1 t3 t4:AV):List AV:=ux 1 (t1::ux 1 (t3::t4::ux 16 []))
def zNV:List Bool:=zml 3
noncomputable def zNT:Code:=zat [1,1,0,1,0,0] zrR
def zNS(K:Kt):AExit→List AV→zaa→Prop:=zau tP zml [1,1,0,1,0] zrR (zaz tP zNX K)
def zzW(t1 t3 t4:AV)(H:zaa)(K:Kt):Prop:=ALoop tP zNT (zNS K) (zmm t1 t3 t4) H
def zrQ(t1 t3 t4:AV)(H:zaa)(K:Kt)(Kb3:Lt):Prop:=
 zaf 2 t1 λt6=>
 zae false 1 t6 H λt7=>
 zah 1 t7 λt8=>
 zac .lss false t4 t8 λt9=>
 zag t9
 (zaf 2 t1 λt13=>
 zae false 1 t13 H λt14=>
 zai 3 t14 t4 λt16=>
 zae true 3 t16 H λt17=>
 ACalls tP zjH [t17] H λt18 H=>
 zac .add false t3 t18 λt19=>
 zac .add false t4 (.int .i64 1) λt11=>
 Kb3 (zmm t1 t19 t11) H)
 (K t3 H)
def zzV(t0:AV)(H:zaa)(K:Kt):Prop:=
 zas t0 H λt1 H=>
 zzW t1 (.int .i64 1) (.int .i64 0) H K
theorem zNU{t1 t3 t4:AV}{H:zaa}{K:Kt}(Inv:Nat→AV→AV→zaa→Prop)(n:Nat)(h0:HSc H→Inv n t3 t4 H)(round:Rd2 (λt3=>λt4=>zmm t1 t3 t4) (λt3=>λt4=>λH Kb3=>zrQ t1 t3 t4 H K Kb3) H Inv):zzW t1 t3 t4 H K:=
 lp2 (M:=zml) zNV t3 t4 (by kernel_rfl) Inv n h0 round
theorem zNW{t0:AV}{H:zaa}{K:Kt}(h:HSc H→zzV t0 H K):ACalls tP zjH [t0] H K:=
 zap (M:=zml) Tryz.func65 (c:=zrR) (by kernel_rfl) (λhs=>Eq.mpr (by kernel_rfl) (h hs))
def zmp:Nat→List Bool
 |5=>rl false [4,1,3,1,54,3,16]
 |_=>[]
noncomputable def zrW:Code:=Tryz.f68.body.getD .skip
noncomputable def zOa:List ResultVar:=Tryz.f68.results.toList
def zmq(t4 t8 t63 t64 t65:AV):List AV:=ux 4 (t4::ux 3 (t8::ux 54 (t63::t64::t65::ux 16 [])))
def zN8:List Bool:=zmp 5
noncomputable def zN6:Code:=zat [1,1,1,0,1,0,0] zrW
def zN5(K:Kt):AExit→List AV→zaa→Prop:=zau tP zmp [1,1,1,0,1,0] zrW (zaz tP zOa K)
def zmr(t4 t8 t63 t64 t65:AV)(H:zaa)(K:Kt):Prop:=ALoop tP zN6 (zN5 K) (zmq t4 t8 t63 t64 t65) H
def zrV(t4 t8 t63 t64 t65:AV)(H:zaa)(K:Kt)(Kb5:Lt):Prop:=
 zac .lss false t65 t64 λt66=>
 zag t66
 (zai 3 t63 t65 λt67=>
 zae true 3 t67 H λt68=>
 zaw [(.int .i64 0),(.int .i64 0),.snil] H λt10 H=>
 zak 3 t10 t68 H λH=>
 zae true 3 t10 H λt69=>
 zaf 2 t4 λt70=>
 zae false 1 t70 H λt71=>
 ACalls tP zjd [t69,t71] H λt72 H=>
 zaw [(.int .i64 0),(.int .i64 0),.snil] H λt11 H=>
 zak 3 t11 t72 H λH=>
 zae true 3 t11 H λt73=>
 ACalls tP zjH [t73] H λt74 H=>
 zac .gtr false t74 (.int .i64 200) λt75=>
 zag t75
 (zbf [.snil,(.bool false)] (K · H))
 (zae true 3 t11 H λt77=>
 zar 3 [(.int .i64 0),(.int .i64 0),.snil] 1 [(0,t77)] λt78=>
 zay zbe 3 40 t8 t78 H λt79 H=>
 zac .add false t65 (.int .i64 1) λt80=>
 Kb5 (zmq t4 t79 t63 t64 t80) H))
 (zbf [t8,(.bool true)] (K · H))
def zzZ(t0 t1 t2:AV)(H:zaa)(K:Kt):Prop:=
 zas t1 H λt4 H=>
 zab H (λK'=>zaf 0 t4 (K' · H)) λt12=>
 zab H (λK'=>zam false 1 t12 H (K' · H)) λt13=>
 zab H (λK'=>zac .neq false t13 (.int .i64 5) (K' · H)) λt14=>
 zab H (λK'=>K' t14 H) λt15=>
 zad t15 false H (λK'=>zab H (λK''=>zaf 1 t4 (K'' · H)) (K' · H)) λt16 H=>
 zad t15 false H (λK'=>zab H (λK''=>zam false 1 t16 H (K'' · H)) (K' · H)) λt17 H=>
 zad t15 false H (λK'=>zab H (λK''=>zac .lss false t17 (.int .i64 0) (K'' · H)) (K' · H)) λt18 H=>
 zab H (λK'=>zao t15 (.bool true) t18 (K' · H)) λt19=>
 zab H (λK'=>K' t19 H) λt20=>
 zad t20 false H (λK'=>zab H (λK''=>zaf 1 t4 (K'' · H)) (K' · H)) λt21 H=>
 zad t20 false H (λK'=>zab H (λK''=>zam false 1 t21 H (K'' · H)) (K' · H)) λt22 H=>
 zad t20 false H (λK'=>zab H (λK''=>K'' t0 H) (K' · H)) λt23 H=>
 zad t20 false H (λK'=>zab H (λK''=>zah 1 t23 (K'' · H)) (K' · H)) λt24 H=>
 zad t20 false H (λK'=>zab H (λK''=>zac .geq false t22 t24 (K'' · H)) (K' · H)) λt25 H=>
 zab H (λK'=>zao t20 (.bool true) t25 (K' · H)) λt26=>
 zab H (λK'=>K' t26 H) λt27=>
 zad t27 false H (λK'=>zab H (λK''=>zaf 2 t4 (K'' · H)) (K' · H)) λt28 H=>
 zad t27 false H (λK'=>zab H (λK''=>zam false 1 t28 H (K'' · H)) (K' · H)) λt29 H=>
 zad t27 false H (λK'=>zab H (λK''=>zah 1 t29 (K'' · H)) (K' · H)) λt30 H=>
 zad t27 false H (λK'=>zab H (λK''=>K'' t0 H) (K' · H)) λt31 H=>
 zad t27 false H (λK'=>zab H (λK''=>zaf 1 t4 (K'' · H)) (K' · H)) λt32 H=>
 zad t27 false H (λK'=>zab H (λK''=>zam false 1 t32 H (K'' · H)) (K' · H)) λt33 H=>
 zad t27 false H (λK'=>zab H (λK''=>zai 3 t31 t33 (K'' · H)) (K' · H)) λt34 H=>
 zad t27 false H (λK'=>zab H (λK''=>zaf 1 t34 (K'' · H)) (K' · H)) λt35 H=>
 zad t27 false H (λK'=>zab H (λK''=>zam false 1 t35 H (K'' · H)) (K' · H)) λt36 H=>
 zad t27 false H (λK'=>zab H (λK''=>zac .neq false t30 t36 (K'' · H)) (K' · H)) λt37 H=>
 zab H (λK'=>zao t27 (.bool true) t37 (K' · H)) λt38=>
 zab H (λK'=>K' t38 H) λt39=>
 zad t39 false H (λK'=>zab H (λK''=>K'' t2 H) (K' · H)) λt40 H=>
 zad t39 false H (λK'=>zab H (λK''=>zac .lss false t40 (.int .i64 0) (K'' · H)) (K' · H)) λt41 H=>
 zab H (λK'=>zao t39 (.bool true) t41 (K' · H)) λt42=>
 zab H (λK'=>K' t42 H) λt43=>
 zad t43 false H (λK'=>zab H (λK''=>K'' t2 H) (K' · H)) λt44 H=>
 zad t43 false H (λK'=>zab H (λK''=>K'' t0 H) (K' · H)) λt45 H=>
 zad t43 false H (λK'=>zab H (λK''=>zaf 1 t4 (K'' · H)) (K' · H)) λt46 H=>
 zad t43 false H (λK'=>zab H (λK''=>zam false 1 t46 H (K'' · H)) (K' · H)) λt47 H=>
 zad t43 false H (λK'=>zab H (λK''=>zai 3 t45 t47 (K'' · H)) (K' · H)) λt48 H=>
 zad t43 false H (λK'=>zab H (λK''=>zaf 2 t48 (K'' · H)) (K' · H)) λt49 H=>
 zad t43 false H (λK'=>zab H (λK''=>zam false 1 t49 H (K'' · H)) (K' · H)) λt50 H=>
 zad t43 false H (λK'=>zab H (λK''=>zah 1 t50 (K'' · H)) (K' · H)) λt51 H=>
 zad t43 false H (λK'=>zab H (λK''=>zac .geq false t44 t51 (K'' · H)) (K' · H)) λt52 H=>
 zab H (λK'=>zao t43 (.bool true) t52 (K' · H)) λt53=>
 zag t53
 (zbf [.snil,(.bool false)] (K · H))
 (zaf 1 t4 λt55=>
 zae false 1 t55 H λt56=>
 zai 3 t0 t56 λt57=>
 zaf 2 t57 λt58=>
 zae false 1 t58 H λt59=>
 zai 2 t59 t2 λt61=>
 zaf 1 t61 λt62=>
 zae false 1 t62 H λt63=>
 zah 1 t63 λt64=>
 zmr t4 .snil t63 t64 (.int .i64 0) H K)
theorem zN7{t4 t8 t63 t64 t65:AV}{H:zaa}{K:Kt}(Inv:Nat→AV→AV→zaa→Prop)(n:Nat)(h0:HSc H→Inv n t8 t65 H)(round:Rd2 (λt8=>λt65=>zmq t4 t8 t63 t64 t65) (λt8=>λt65=>λH Kb5=>zrV t4 t8 t63 t64 t65 H K Kb5) H Inv):zmr t4 t8 t63 t64 t65 H K:=
 lp2 (M:=zmp) zN8 t8 t65 (by kernel_rfl) Inv n h0 round
theorem zN9{t0 t1 t2:AV}{H:zaa}{K:Kt}(h:HSc H→zzZ t0 t1 t2 H K):ACalls tP zoM [t0,t1,t2] H K:=
 zap (M:=zmp) Tryz.func68 (c:=zrW) (by kernel_rfl) (λhs=>Eq.mpr (by kernel_rfl) (h hs))
def zko:Nat→List Bool
 |5=>rl false [1,2,1,3,46]
 |_=>[]
noncomputable def zpK:Code:=Tryz.f104.body.getD .skip
noncomputable def zGi:List ResultVar:=Tryz.f104.results.toList
def zkp(t1 t2 t4 t5 t6:AV):List AV:=ux 1 (t1::t2::ux 1 (t4::t5::t6::ux 46 []))
def zGg:List Bool:=zko 5
noncomputable def zGe:Code:=zat [1,1,1,0,1,0,0] zpK
def zGd(K:Kt):AExit→List AV→zaa→Prop:=zau tP zko [1,1,1,0,1,0] zpK (zaz tP zGi K)
def zpL(t1 t2 t4 t5 t6:AV)(H:zaa)(K:Kt):Prop:=ALoop tP zGe (zGd K) (zkp t1 t2 t4 t5 t6) H
def zpJ(t1 t2 t4 t5 t6:AV)(H:zaa)(K:Kt)(Kb5:Lt):Prop:=
 zaf 2 t2 λt34=>
 zae false 1 t34 H λt35=>
 zah 1 t35 λt36=>
 zac .lss false t6 t36 λt37=>
 zag t37
 (zab H (λK'=>zaf 2 t5 (K' · H)) λt40=>
 zab H (λK'=>zam false 1 t40 H (K' · H)) λt41=>
 zab H (λK'=>zaf 2 t2 (K' · H)) λt42=>
 zab H (λK'=>zam false 1 t42 H (K' · H)) λt43=>
 zab H (λK'=>K' t6 H) λt44=>
 zab H (λK'=>zai 3 t43 t44 (K' · H)) λt45=>
 zab H (λK'=>zam true 3 t45 H (K' · H)) λt46=>
 zab H (λK'=>K' t1 H) λt47=>
 zaA H (λH K'=>ACalls tP zjd [t46,t47] H K') λt48=>
 zab H (λK'=>zar 3 [(.int .i64 0),(.int .i64 0),.snil] 1 [(0,t48)] (K' · H)) λt49=>
 zay zbe 3 40 t41 t49 H λt50 H=>
 zab H (λK'=>zaf 2 t5 (K' · H)) λt51=>
 zak 1 t51 t50 H λH=>
 zac .add false t6 (.int .i64 1) λt39=>
 Kb5 (zkp t1 t2 t4 t5 t39) H)
 (zae true 3 t5 H λt52=>
 zak 3 t4 t52 H λH=>
 zae true 3 t4 H λr0=>
 K r0 H)
def zpI(t0 t1:AV)(H:zaa)(K:Kt):Prop:=
 zas t0 H λt2 H=>
 zaw [(.int .i64 0),(.int .i64 0),.snil] H λt4 H=>
 zaf 0 t2 λt7=>
 zae false 1 t7 H λt8=>
 zac .eql false t8 (.int .i64 4) λt9=>
 zad t9 true H (λK'=>zaf 1 t2 (K' · H)) λt11 H=>
 zad t9 true H (λK'=>zae false 1 t11 H (K' · H)) λt12 H=>
 zad t9 true H (λK'=>zac .geq false t12 (.int .i64 0) (K' · H)) λt13 H=>
 zao t9 t13 (.bool false) λt14=>
 zad t14 true H (λK'=>zaf 1 t2 (K' · H)) λt16 H=>
 zad t14 true H (λK'=>zae false 1 t16 H (K' · H)) λt17 H=>
 zad t14 true H (λK'=>K' t1 H) λt18 H=>
 zad t14 true H (λK'=>zah 1 t18 (K' · H)) λt19 H=>
 zad t14 true H (λK'=>zac .lss false t17 t19 (K' · H)) λt20 H=>
 zao t14 t20 (.bool false) λt21=>
 zag t21
 (zaf 1 t2 λt23=>
 zae false 1 t23 H λt24=>
 zai 3 t1 t24 λt25=>
 zae true 3 t25 H λt26=>
 ACalls tP zjl [t26] H λt27 H=>
 zak 3 t4 t27 H λH=>
 zae true 3 t4 H λr0=>
 K r0 H)
 (zaf 0 t2 λt28=>
 zae false 1 t28 H λt29=>
 zaf 1 t2 λt30=>
 zae false 1 t30 H λt31=>
 zaq [(.int .i64 0),(.int .i64 0),.snil] [(0,1),(1,1),(2,1)] [(0,t29),(1,t31)] λt32=>
 zaw [(.int .i64 0),(.int .i64 0),.snil] H λt5 H=>
 zak 3 t5 t32 H λH=>
 zpL t1 t2 t4 t5 (.int .i64 0) H K)
theorem zGf{t1 t2 t4 t5 t6:AV}{H:zaa}{K:Kt}(Inv:Nat→AV→zaa→Prop)(n:Nat)(h0:HSc H→Inv n t6 H)(round:Rd1 (λt6=>zkp t1 t2 t4 t5 t6) (λt6=>λH Kb5=>zpJ t1 t2 t4 t5 t6 H K Kb5) H Inv):zpL t1 t2 t4 t5 t6 H K:=
 lp1 (M:=zko) zGg t6 (by kernel_rfl) Inv n h0 round
theorem zGh{t0 t1:AV}{H:zaa}{K:Kt}(h:HSc H→zpI t0 t1 H K):ACalls tP zjd [t0,t1] H K:=
 zap (M:=zko) Tryz.func104 (c:=zpK) (by kernel_rfl) (λhs=>Eq.mpr (by kernel_rfl) (h hs))
def zk6:Nat→List Bool
 |3=>rl false [1,4,24]
 |_=>[]
noncomputable def zqE:Code:=Tryz.f151.body.getD .skip
noncomputable def zI2:List ResultVar:=Tryz.f151.results.toList
def zk7(t1 t2 t3 t4:AV):List AV:=ux 1 (t1::t2::t3::t4::ux 24 [])
def zI0:List Bool:=zk6 3
noncomputable def zIY:Code:=zat [1,1,0,1,0,0] zqE
def zIX(K:Kt):AExit→List AV→zaa→Prop:=zau tP zk6 [1,1,0,1,0] zqE (zaz tP zI2 K)
def zx9(t1 t2 t3 t4:AV)(H:zaa)(K:Kt):Prop:=ALoop tP zIY (zIX K) (zk7 t1 t2 t3 t4) H
def zqD(t1 t2 t3 t4:AV)(H:zaa)(K:Kt)(Kb3:Lt):Prop:=
 zaf 2 t1 λt11=>
 zae false 1 t11 H λt12=>
 zah 1 t12 λt13=>
 zac .lss false t4 t13 λt14=>
 zag t14
 (zab H (λK'=>zaf 2 t3 (K' · H)) λt17=>
 zab H (λK'=>zam false 1 t17 H (K' · H)) λt18=>
 zab H (λK'=>zaf 2 t1 (K' · H)) λt19=>
 zab H (λK'=>zam false 1 t19 H (K' · H)) λt20=>
 zab H (λK'=>K' t4 H) λt21=>
 zab H (λK'=>zai 3 t20 t21 (K' · H)) λt22=>
 zab H (λK'=>zam true 3 t22 H (K' · H)) λt23=>
 zaA H (λH K'=>ACalls tP zjl [t23] H K') λt24=>
 zab H (λK'=>zar 3 [(.int .i64 0),(.int .i64 0),.snil] 1 [(0,t24)] (K' · H)) λt25=>
 zay zbe 3 40 t18 t25 H λt26 H=>
 zab H (λK'=>zaf 2 t3 (K' · H)) λt27=>
 zak 1 t27 t26 H λH=>
 zac .add false t4 (.int .i64 1) λt16=>
 Kb3 (zk7 t1 t2 t3 t16) H)
 (zae true 3 t3 H λt28=>
 zak 3 t2 t28 H λH=>
 zae true 3 t2 H λr0=>
 K r0 H)
def zx8(t0:AV)(H:zaa)(K:Kt):Prop:=
 zas t0 H λt1 H=>
 zaw [(.int .i64 0),(.int .i64 0),.snil] H λt2 H=>
 zaf 0 t1 λt5=>
 zae false 1 t5 H λt6=>
 zaf 1 t1 λt7=>
 zae false 1 t7 H λt8=>
 zaq [(.int .i64 0),(.int .i64 0),.snil] [(0,1),(1,1),(2,1)] [(0,t6),(1,t8)] λt9=>
 zaw [(.int .i64 0),(.int .i64 0),.snil] H λt3 H=>
 zak 3 t3 t9 H λH=>
 zx9 t1 t2 t3 (.int .i64 0) H K
theorem zIZ{t1 t2 t3 t4:AV}{H:zaa}{K:Kt}(Inv:Nat→AV→zaa→Prop)(n:Nat)(h0:HSc H→Inv n t4 H)(round:Rd1 (λt4=>zk7 t1 t2 t3 t4) (λt4=>λH Kb3=>zqD t1 t2 t3 t4 H K Kb3) H Inv):zx9 t1 t2 t3 t4 H K:=
 lp1 (M:=zk6) zI0 t4 (by kernel_rfl) Inv n h0 round
theorem zI1{t0:AV}{H:zaa}{K:Kt}(h:HSc H→zx8 t0 H K):ACalls tP zjl [t0] H K:=
 zap (M:=zk6) Tryz.func151 (c:=zqE) (by kernel_rfl) (λhs=>Eq.mpr (by kernel_rfl) (h hs))
def zfN:Nat→List Bool
 |6=>rl false [0,2,6,1,38,3,56]
 |10=>rl false [0,2,6,2,37,3,28,3,25]
 |_=>[]
noncomputable def zqV:Code:=Tryz.f189.body.getD .skip
noncomputable def zJ3:List ResultVar:=Tryz.f189.results.toList
def zlp(t0 t1 t8 t47 t48 t49:AV):List AV:=t0::t1::ux 6 (t8::ux 38 (t47::t48::t49::ux 56 []))
def zyz:List Bool:=zfN 6
noncomputable def zqW:Code:=zat [1,1,1,1,0,1,0,0] zqV
def zyx(K:Kt):AExit→List AV→zaa→Prop:=zau tP zfN [1,1,1,1,0,1,0] zqV (zaz tP zJ3 K)
def zyy(t0 t1 t8 t47 t48 t49:AV)(H:zaa)(K:Kt):Prop:=ALoop tP zqW (zyx K) (zlp t0 t1 t8 t47 t48 t49) H
def zlo(t0 t1 t8 t9 t47 t48 t49 t78 t79 t80:AV):List AV:=t0::t1::ux 6 (t8::t9::ux 37 (t47::t48::t49::ux 28 (t78::t79::t80::ux 25 [])))
def zJ1:List Bool:=zfN 10
noncomputable def zJY:Code:=zat [1,1,0,0,1,1,1,0,0] zqW
def zJW(K:Kt)(Kb6:Lt):AExit→List AV→zaa→Prop:=zau tP zfN [1,1,0,0,1,1,1,0] zqW (zb1 zyz Kb6 (zyx K))
def zqY(t0 t1 t8 t9 t47 t48 t49 t78 t79 t80:AV)(H:zaa)(K:Kt)(Kb6:Lt):Prop:=ALoop tP zJY (zJW K Kb6) (zlo t0 t1 t8 t9 t47 t48 t49 t78 t79 t80) H
def zqX(t0 t1 t8 t9 t47 t48 t49 t78 t79 t80:AV)(H:zaa)(K:Kt)(Kb6:Lt)(Kb10:Lt):Prop:=
 zac .add false t80 (.int .i64 1) λt103=>
 Kb10 (zlo t0 t1 t8 t9 t47 t48 t49 t78 t79 t103) H
def zgG(t0 t1 t8 t9 t47 t48 t49 t78 t79 t80:AV)(H:zaa)(K:Kt)(Kb6:Lt)(Kb10:Lt):Prop:=
 zqX t0 t1 t8 t9 t47 t48 t49 t78 t79 t80 H K Kb6 Kb10
def zgF(t0 t1 t8 t9 t47 t48 t49 t78 t79 t80:AV)(H:zaa)(K:Kt)(Kb6:Lt)(Kb10:Lt):Prop:=
 zac .lss false t80 t79 λt81=>
 zag t81
 (zai 3 t78 t80 λt83=>
 zae true 3 t83 H λt84=>
 zaw [(.int .i64 0),(.int .i64 0),.snil] H λt12 H=>
 zak 3 t12 t84 H λH=>
 zaf 0 t12 λt85=>
 zae false 1 t85 H λt86=>
 zac .neq false t86 (.int .i64 4) λt87=>
 zad t87 false H (λK'=>zaf 1 t12 (K' · H)) λt89 H=>
 zad t87 false H (λK'=>zae false 1 t89 H (K' · H)) λt90 H=>
 zad t87 false H (λK'=>K' t80 H) λt91 H=>
 zad t87 false H (λK'=>zac .neq false t90 t91 (K' · H)) λt92 H=>
 zao t87 (.bool true) t92 λt93=>
 zad t93 false H (λK'=>zaf 2 t12 (K' · H)) λt95 H=>
 zad t93 false H (λK'=>zae false 1 t95 H (K' · H)) λt96 H=>
 zad t93 false H (λK'=>zah 1 t96 (K' · H)) λt97 H=>
 zad t93 false H (λK'=>zac .gtr false t97 (.int .i64 0) (K' · H)) λt98 H=>
 zao t93 (.bool true) t98 λt99=>
 zag t99
 (zai 1 t8 t9 λt102=>
 zak 1 t102 (.bool false) H λH=>
 zgG t0 t1 t8 t9 t47 t48 t49 t78 t79 t80 H K Kb6 Kb10)
 (zgG t0 t1 t8 t9 t47 t48 t49 t78 t79 t80 H K Kb6 Kb10))
 (zac .add false t49 (.int .i64 1) λt104=>
 Kb6 (zlp t0 t1 t8 t47 t48 t104) H)
def zif(t0 t1 t8 t47 t48 t49:AV)(H:zaa)(K:Kt)(Kb6:Lt):Prop:=
 zac .lss false t49 t48 λt50=>
 zag t50
 (zai 3 t47 t49 λt52=>
 zae true 3 t52 H λt53=>
 zaw [(.int .i64 0),(.int .i64 0),.snil] H λt10 H=>
 zak 3 t10 t53 H λH=>
 zab H (λK'=>K' t8 H) λt54=>
 zab H (λK'=>K' t49 H) λt55=>
 zab H (λK'=>zaf 0 t10 (K' · H)) λt56=>
 zab H (λK'=>zam false 1 t56 H (K' · H)) λt57=>
 zab H (λK'=>zac .eql false t57 (.int .i64 5) (K' · H)) λt58=>
 zab H (λK'=>K' t58 H) λt59=>
 zad t59 true H (λK'=>zab H (λK''=>zaf 1 t10 (K'' · H)) (K' · H)) λt60 H=>
 zad t59 true H (λK'=>zab H (λK''=>zam false 1 t60 H (K'' · H)) (K' · H)) λt61 H=>
 zad t59 true H (λK'=>zab H (λK''=>K'' t1 H) (K' · H)) λt62 H=>
 zad t59 true H (λK'=>zab H (λK''=>zac .eql false t61 t62 (K'' · H)) (K' · H)) λt63 H=>
 zab H (λK'=>zao t59 t63 (.bool false) (K' · H)) λt64=>
 zab H (λK'=>K' t64 H) λt65=>
 zad t65 true H (λK'=>zab H (λK''=>zaf 2 t10 (K'' · H)) (K' · H)) λt66 H=>
 zad t65 true H (λK'=>zab H (λK''=>zam false 1 t66 H (K'' · H)) (K' · H)) λt67 H=>
 zad t65 true H (λK'=>zab H (λK''=>zah 1 t67 (K'' · H)) (K' · H)) λt68 H=>
 zad t65 true H (λK'=>zab H (λK''=>K'' t0 H) (K' · H)) λt69 H=>
 zad t65 true H (λK'=>zab H (λK''=>K'' t1 H) (K' · H)) λt70 H=>
 zad t65 true H (λK'=>zab H (λK''=>zai 3 t69 t70 (K'' · H)) (K' · H)) λt71 H=>
 zad t65 true H (λK'=>zab H (λK''=>zaf 1 t71 (K'' · H)) (K' · H)) λt72 H=>
 zad t65 true H (λK'=>zab H (λK''=>zam false 1 t72 H (K'' · H)) (K' · H)) λt73 H=>
 zad t65 true H (λK'=>zab H (λK''=>zac .eql false t68 t73 (K'' · H)) (K' · H)) λt74 H=>
 zab H (λK'=>zao t65 t74 (.bool false) (K' · H)) λt75=>
 zab H (λK'=>zai 1 t54 t55 (K' · H)) λt76=>
 zak 1 t76 t75 H λH=>
 zaf 2 t10 λt77=>
 zae false 1 t77 H λt78=>
 zah 1 t78 λt79=>
 zqY t0 t1 t8 t49 t47 t48 t49 t78 t79 (.int .i64 0) H K Kb6)
 (K t8 H)
def zyw(t0 t1 t2:AV)(H:zaa)(K:Kt):Prop:=
 zac .lss false t1 (.int .i64 0) λt14=>
 zad t14 false H (λK'=>K' t1 H) λt16 H=>
 zad t14 false H (λK'=>K' t0 H) λt17 H=>
 zad t14 false H (λK'=>zah 1 t17 (K' · H)) λt18 H=>
 zad t14 false H (λK'=>zac .geq false t16 t18 (K' · H)) λt19 H=>
 zao t14 (.bool true) t19 λt20=>
 zad t20 false H (λK'=>K' t2 H) λt22 H=>
 zad t20 false H (λK'=>zac .lss false t22 (.int .i64 0) (K' · H)) λt23 H=>
 zao t20 (.bool true) t23 λt24=>
 zad t24 false H (λK'=>K' t2 H) λt26 H=>
 zad t24 false H (λK'=>K' t0 H) λt27 H=>
 zad t24 false H (λK'=>K' t1 H) λt28 H=>
 zad t24 false H (λK'=>zai 3 t27 t28 (K' · H)) λt29 H=>
 zad t24 false H (λK'=>zaf 2 t29 (K' · H)) λt30 H=>
 zad t24 false H (λK'=>zae false 1 t30 H (K' · H)) λt31 H=>
 zad t24 false H (λK'=>zah 1 t31 (K' · H)) λt32 H=>
 zad t24 false H (λK'=>zac .geq false t26 t32 (K' · H)) λt33 H=>
 zao t24 (.bool true) t33 λt34=>
 zag t34
 (K .snil H)
 (zai 3 t0 t1 λt37=>
 zaf 2 t37 λt38=>
 zae false 1 t38 H λt39=>
 zai 2 t39 t2 λt41=>
 zaf 1 t41 λt42=>
 zae false 1 t42 H λt43=>
 zah 1 t43 λt45=>
 zba 1 [(.bool false)] t45 t45 H λt46 H=>
 zah 1 t43 λt48=>
 zyy t0 t1 t46 t43 t48 (.int .i64 0) H K)
theorem zJZ{t0 t1 t8 t9 t47 t48 t49 t78 t79 t80:AV}{H:zaa}{K:Kt}{Kb6:Lt}(Inv:Nat→AV→zaa→Prop)(n:Nat)(h0:HSc H→Inv n t80 H)(round:Rd1 (λt80=>zlo t0 t1 t8 t9 t47 t48 t49 t78 t79 t80) (λt80=>λH Kb10=>zgF t0 t1 t8 t9 t47 t48 t49 t78 t79 t80 H K Kb6 Kb10) H Inv):zqY t0 t1 t8 t9 t47 t48 t49 t78 t79 t80 H K Kb6:=
 lp1 (M:=zfN) zJ1 t80 (by kernel_rfl) Inv n h0 round
theorem zJ0{t0 t1 t8 t47 t48 t49:AV}{H:zaa}{K:Kt}(Inv:Nat→AV→zaa→Prop)(n:Nat)(h0:HSc H→Inv n t49 H)(round:Rd1 (λt49=>zlp t0 t1 t8 t47 t48 t49) (λt49=>λH Kb6=>zif t0 t1 t8 t47 t48 t49 H K Kb6) H Inv):zyy t0 t1 t8 t47 t48 t49 H K:=
 lp1 (M:=zfN) zyz t49 (by kernel_rfl) Inv n h0 round
theorem zJ2{t0 t1 t2:AV}{H:zaa}{K:Kt}(h:HSc H→zyw t0 t1 t2 H K):ACalls tP zou [t0,t1,t2] H K:=
 zap (M:=zfN) Tryz.func189 (c:=zqV) (by kernel_rfl) (λhs=>Eq.mpr (by kernel_rfl) (h hs))
def zJ4(_:Nat):List Bool:=[]
noncomputable def zJ5:Code:=Tryz.f190.body.getD .skip
def zyA(t0 t1:AV)(H:zaa)(K:Kt):Prop:=
 zas t0 H λt2 H=>
 zas t1 H λt3 H=>
 zaf 0 t2 λt5=>
 zae false 1 t5 H λt6=>
 zac .eql false t6 (.int .i64 5) λt7=>
 zad t7 true H (λK'=>zaf 1 t2 (K' · H)) λt9 H=>
 zad t7 true H (λK'=>zae false 1 t9 H (K' · H)) λt10 H=>
 zad t7 true H (λK'=>zae false 1 t3 H (K' · H)) λt11 H=>
 zad t7 true H (λK'=>zac .eql false t10 t11 (K' · H)) λt12 H=>
 zao t7 t12 (.bool false) λt13=>
 zad t13 false H (λK'=>zaf 2 t2 (K' · H)) λt15 H=>
 zad t13 false H (λK'=>zae false 1 t15 H (K' · H)) λt16 H=>
 zad t13 false H (λK'=>zbV zjs [t3] (K' · H)) λt17 H=>
 zad t13 false H (λK'=>ACalls tP zdR [t16,t17] H K') λt18 H=>
 zao t13 (.bool true) t18 λt19=>
 K t19 H
theorem zJ6{t0 t1:AV}{H:zaa}{K:Kt}(h:HSc H→zyA t0 t1 H K):ACalls tP zjr [t0,t1] H K:=
 zap (M:=zJ4) Tryz.func190 (c:=zJ5) (by kernel_rfl) (λhs=>Eq.mpr (by kernel_rfl) (h hs))
def zKt(_:Nat):List Bool:=[]
noncomputable def zKu:Code:=Tryz.f206.body.getD .skip
def zyL(t0 t1:AV)(H:zaa)(K:Kt):Prop:=
 zas t0 H λt2 H=>
 zae true 3 t2 H λt4=>
 zae false 1 t1 H λt5=>
 ACalls tP zjr [t4,t5] H λt6 H=>
 K t6 H
theorem zKv{t0 t1:AV}{H:zaa}{K:Kt}(h:HSc H→zyL t0 t1 H K):ACalls tP zjs [t0,t1] H K:=
 zap (M:=zKt) Tryz.func206 (c:=zKu) (by kernel_rfl) (λhs=>Eq.mpr (by kernel_rfl) (h hs))
end Go.Proofs.YtaifokkaaahdoaaGreatDoor

namespace Go.Proofs.YtaifokkaaahdoaaGreatDoor
open Go Go.Abs
theorem zNY:∀(m:Nat) (v:VT),v.nodes≤m→v.nodes≤1000000000→∀(H:zaa) (K:AV→zaa→Prop),K (.int .i64 v.nodes) H→ACalls tP zjH [.agg v.cs] H K:=by
 intro m;induction m with
 |zero=>intro v h;have:=v.nodes_pos;omega
 |succ m ih=>
  intro v hv hb H K hK;obtain⟨k,n,ks⟩:=v;have hnl:VT.nodesL ks+1≤1000000000:=by simpa[VT.nodes]using hb
  have hll:=VT.len_le ks;refine ACalls.out (zNW λhs=>?_);simp[VT.cs,zzV];refine zNU (Inv:=λq t3 t4 H'=>∃i:Nat,i≤ks.length∧q=ks.length-i∧t4=.int .i64 i∧t3=.int .i64 (1+VT.nodesL (ks.take i):Nat)∧H'=H++[.cells [.int .i64 k,.int .i64 n,.sl (VT.css ks) .none]]) ks.length ?_ ?_
  ·intro _;exact⟨0,by omega,by omega,rfl,by simp[VT.nodesL],rfl⟩
  ·rintro q t3 t4 H' ⟨i,hi,rfl,rfl,rfl,rfl⟩ hsc hlen hsF Kb hKb;by_cases hlt:i<ks.length
   ·have hki:=VT.kid_lt (k:=k) (n:=n) hlt;have h1:=VT.nodesL_take hlt;have h2:=VT.nodesL_take_le ks (i+1);simp[zrQ,hlt];refine ih ks[i] (by omega) (by omega) _ _ ?_;simp;rw[zaB (by omega) (by omega),zaB (by omega) (by omega)];refine hKb _ _ ⟨ks.length-(i+1),by omega,Back.here (by simp) hsc ?_ ⟨_,_,rfl,i+1,by omega,rfl,by simp,?_,rfl⟩⟩
    ·simp[zmm,AV.sc,AV.scV,AV.scA,AV.scB]
    ·rw[h1];congr 1;omega
   ·obtain rfl:i=ks.length:=by omega
    simp[zrQ];refine Out.int rfl (Nat.le_refl _) hs ?_;simpa[VT.nodes,Int.add_comm]using hK
end Go.Proofs.YtaifokkaaahdoaaGreatDoor

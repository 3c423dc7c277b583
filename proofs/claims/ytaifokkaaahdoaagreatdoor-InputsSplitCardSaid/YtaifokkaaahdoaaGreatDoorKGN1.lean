import Derived.Test.YtaifokkaaahdoaaGreatDoorKY11
import Derived.Test.YtaifokkaaahdoaaGreatDoorKY15
import Derived.Test.YtaifokkaaahdoaaGreatDoorKY5
import Derived.Test.YtaifokkaaahdoaaGreatDoorKNum
import Derived.Test.YtaifokkaaahdoaaGreatDoorProg
import Derived.KernelRfl
set_option linter.unusedSimpArgs false
set_option linter.unusedVariables false
set_option maxRecDepth 8000
namespace Go.Proofs.YtaifokkaaahdoaaGreatDoor
open Go Go.Abs
theorem zfG{data:List Dat}{vars:Int}{t:VT}(h:zaD data vars t=true):t.nodes≤200:=by simp[zaD]at h;exact h.1
theorem zJX(data:List Dat)(d:Nat)(c:Nat)(hd:d<data.length)(hc:c<(data[d]).cons.length)(hl:data.length≤1000000)(hcl:(data[d]).cons.length≤1000000)(hal:((data[d]).cons[c]).args.length≤1000000)(hb:∀ x∈((data[d]).cons[c]).args,za1 x)(H:zaa)(K:AV→zaa→Prop)(hK:K (.sl (((data[d]).cons[c]).args.map λt=>[.bool (zc7 d (data[d]).vars t)]) .none) H):
  ACalls tP zou [.sl (data.map Dat.cs) .none,.int .i64 d,.int .i64 c] H K:=by
 refine ACalls.out (zJ2 λhs=>?_);have e1:(data.map Dat.cs)[d]?=some (data[d]).cs:=by simp[hd]
 have e2:((data[d]).cons.map Con.cs)[c]?=some ((data[d]).cons[c]).cs:=by simp[hc]
 generalize hD:data[d]=D at *;generalize hA:D.cons[c]=C at *;have h1:¬(d:Int)<0:=by omega
 have h2:¬(data.length:Int)≤d:=by omega
 have h3:¬(c:Int)<0:=by omega
 have h4:¬(D.cons.length:Int)≤c:=by omega
 simp[zyw,h1,h2,h3,h4,e1,e2,Dat.cs,Con.cs,hd,hD,hc,hA];simp only[zba,Int.toNat_natCast,ztk];refine⟨⟨by omega,by omega,by omega,by omega⟩,?_⟩;refine zJ0 (Inv:=λq t49 H'=>∃(i:Nat) (bs:List Bool),i≤C.args.length∧q=C.args.length-i∧t49=.int .i64 i∧bs.length=C.args.length∧(∀j (hj:j<i) (h':j<C.args.length),bs[j]?=some (zc7 d D.vars C.args[j]))∧H'=H++[.cells (zaJ bs)]) C.args.length ?_ ?_
 ·intro _;exact⟨0,_,by omega,by omega,rfl,by simp,by omega,rfl⟩
 ·rintro q t49 H' ⟨i,bs,hi,rfl,rfl,hbl,hbs,rfl⟩ hsc hlen hsF Kb hKb;by_cases hlt:i<C.args.length
  ·obtain⟨k,n,ks,hx⟩:∃ k n ks,C.args[i]=.mk k n ks:=by cases h:C.args[i] with | mk a b c=>exact⟨a,b,c,rfl⟩
   have hnb:=hb _ (List.getElem_mem hlt);rw[hx,za1]at hnb;have hll:=hnb.1;have inner:∀ b0:Bool,b0=(k == 5 && n == (d:Int) && (ks.length:Int) == D.vars) →
     zqY (.sl (data.map Dat.cs) .none) (.int .i64 d) (.ms H.length 0 C.args.length C.args.length) (.int .i64 i) (.sl (VT.css C.args) .none) (.int .i64 C.args.length) (.int .i64 i) (.sl (VT.css ks) .none) (.int .i64 ks.length) (.int .i64 0)
      (H++[.cells (zaJ (bs.set i b0)),.cells [.int .i64 k,.int .i64 n,.sl (VT.css ks) .none]]) (Out H.length K) Kb:=by
    intro b0 hb0;refine zJZ (Inv:=λq t80 H'=>∃(j:Nat) (b:Bool),j≤ks.length∧q=ks.length-j∧t80=.int .i64 j∧(b && zgf (ks.drop j) j)=zc7 d D.vars C.args[i]∧H'=H++[.cells (zaJ (bs.set i b)),.cells [.int .i64 k,.int .i64 n,.sl (VT.css ks) .none]]) ks.length ?_ ?_
    ·intro _;exact⟨0,b0,by omega,by omega,rfl,by simp[hx,zc7,hb0],rfl⟩
    ·rintro q t80 H' ⟨j,b,hj,rfl,rfl,hob,rfl⟩ hsc1 hlen1 hsF1 Kb1 hKb1;have hsc0:∀ b:Bool,HSc (H++[.cells (zaJ (bs.set i b))]):=λb=>hs.snoc (by simp[AB.sc,ziI]);have hsc2:∀ b:Bool,HSc (H++[.cells (zaJ (bs.set i b)),.cells [.int .i64 k,.int .i64 n,.sl (VT.css ks) .none]]):=λb=>hs.append (by simp[AB.sc,ziI]);by_cases hjl:j<ks.length
     ·obtain⟨k',n',ks',hx'⟩:∃ k' n' ks',ks[j]=.mk k' n' ks':=by cases h:ks[j] with | mk a b c=>exact⟨a,b,c,rfl⟩
      have hib:i<bs.length:=by omega
      rw[List.drop_eq_getElem_cons hjl,zgf,hx',zuw]at hob;have hback:∀ (b':Bool) J,(b' && zgf (ks.drop (j+1)) (j+1))=zc7 d D.vars C.args[i]→zqX (.sl (data.map Dat.cs) .none) (.int .i64 d) (.ms H.length 0 C.args.length C.args.length) (.int .i64 i) (.sl (VT.css C.args) .none) (.int .i64 C.args.length) (.int .i64 i) (.sl (VT.css ks) .none) (.int .i64 ks.length) (.int .i64 j)
        (H++.cells (zaJ (bs.set i b'))::.cells [.int .i64 k,.int .i64 n,.sl (VT.css ks) .none]::J) (Out H.length K) Kb Kb1:=by
       intro b' J hb';simp[zqX];rw[zaB (by omega) (by omega)];refine hKb1 _ _ ⟨ks.length-(j+1),by omega,Back.at (J:=J) (H2:=H++[.cells (zaJ (bs.set i b')),.cells [.int .i64 k,.int .i64 n,.sl (VT.css ks) .none]]) (by simp) (by simp) (hsc2 _) ?_ ⟨_,rfl,j+1,b',by omega,rfl,by simp,hb',rfl⟩⟩;simp[zlo,AV.sc,AV.scV,AV.scA,AV.scB]
      have hstore:∀l,List.take i (zaJ (bs.set i b))++.bool false::List.drop (i+1) (zaJ (bs.set i b))=l→l=zaJ (bs.set i false):=by rintro _ rfl;rw[znp (by simpa using hib)];simp
      cases g1:(k' == 4) with
      |false=>
       have:(k' != 4)=true:=by simp[bne,g1]
       rw[g1]at hob;simp[zgF,zgG,hjl,hx',VT.cs,this,hlt,hbl,hstore _ rfl];refine⟨by omega,hback _ _ ?_⟩;simpa using hob.symm
      |true=>
      have g1':(k' != 4)=false:=by simp[bne,g1]
      cases g2:(n' == (j:Int)) with
      |false=>
       have:(n' != (j:Int))=true:=by simp[bne,g2]
       rw[g1,g2]at hob;simp[zgF,zgG,hjl,hx',VT.cs,g1',this,hlt,hbl,hstore _ rfl];refine⟨by omega,hback _ _ ?_⟩;simpa using hob.symm
      |true=>
      have g2':(n' != (j:Int))=false:=by simp[bne,g2]
      by_cases g3:ks'.length=0
      ·have g3':¬ (0:Int)<ks'.length:=by omega
       have g3'':¬ 0<ks'.length:=by omega
       simp[zgF,zgG,hjl,hx',VT.cs,g1',g2',g3',g3''];refine hback _ _ ?_;simpa[g1,g2,g3]using hob
      ·have g3':(0:Int)<ks'.length:=by omega
       have g3'':0<ks'.length:=by omega
       have g4:(ks'.length == 0)=false:=by simpa using g3
       rw[g4]at hob;simp[zgF,zgG,hjl,hx',VT.cs,g1',g2',g3',g3'',hlt,hbl,hstore _ rfl];refine⟨by omega,hback _ _ ?_⟩;simpa using hob.symm
     ·obtain rfl:j=ks.length:=by omega
      rw[List.drop_length,zgf,Bool.and_true]at hob;simp[zgF];rw[zaB (by omega) (by omega)];refine hKb _ _ ⟨C.args.length-(i+1),by omega,Back.at (J:=[.cells [.int .i64 k,.int .i64 n,.sl (VT.css ks) .none]]) (H2:=H++[.cells (zaJ (bs.set i b))]) (by simp) (by simp) (hsc0 _) ?_ ⟨_,rfl,i+1,bs.set i b,by omega,rfl,by simp,by simpa using hbl,?_,rfl⟩⟩
      ·simp[zlp,AV.sc,AV.scV,AV.scA,AV.scB]
      ·intro j hj h';by_cases hji:j=i
       ·subst hji;rw[←hob];simp[hbl,hlt]
       ·rw[List.getElem?_set_ne (by omega)];exact hbs j (by omega) h'
   have hstore:∀b l,List.take i (zaJ bs)++.bool b::List.drop (i+1) (zaJ bs)=l→l=zaJ (bs.set i b):=by rintro b _ rfl;rw[znp (by omega)]
   cases h5:(k == 5) with
   |false=>simp[zif,hlt,hx,VT.cs,e1,hd,hD,Dat.cs,h5,hbl,hstore _ _ rfl];refine⟨by omega,inner _ ?_⟩;simp[h5]
   |true=>
   cases hn:(n == (d:Int)) with
   |false=>simp[zif,hlt,hx,VT.cs,e1,hd,hD,Dat.cs,h5,hn,hbl,hstore _ _ rfl];refine⟨by omega,inner _ ?_⟩;simp[h5,hn]
   |true=>simp[zif,hlt,hx,VT.cs,e1,hd,hD,Dat.cs,h5,hn,hbl,hstore _ _ rfl];refine⟨by omega,inner _ ?_⟩;simp[h5,hn]
  ·obtain rfl:i=C.args.length:=by omega
   simp[zif];have hbe:bs=C.args.map (zc7 d D.vars):=by refine List.ext_getElem (by simpa using hbl) λj h1 h2=>?_;have:=hbs j (by omega) (by omega);rw[List.getElem?_eq_getElem h1]at this;simpa using this
   subst hbe;refine⟨_,H,_,rfl,Nat.le_refl _,hs,.one (.frz H.length 0 _ _ 1 (zaJ (C.args.map (zc7 d D.vars))) (C.args.map λt=>[.bool (zc7 d D.vars t)]) (Nat.le_refl _) (by simp) (by simp) ?_ (by simp) (by simp) (Nat.le_refl _)),hK⟩;rw[List.drop_zero,List.take_of_length_le (by simp),zvs,List.map_map];rfl
theorem zJB(data:List Dat)(d:Nat)(c:Nat)(hd:d<data.length)(hc:c<(data[d]).cons.length)(hl:data.length≤1000000)(hcl:(data[d]).cons.length≤1000000)(hal:((data[d]).cons[c]).args.length≤1000000)(hb:∀ x∈((data[d]).cons[c]).args,za1 x)(H:zaa)(K:AV→zaa→Prop)(hK:K (.bool (decide (((data[d]).cons[c]).args.length≤6) && ((data[d]).cons[c]).args.all (zec data d (data[d]).vars))) H):
  ACalls tP zor [.sl (data.map Dat.cs) .none,.int .i64 d,.int .i64 c] H K:=by
 refine ACalls.out (zJF λhs=>?_);have e1:(data.map Dat.cs)[d]?=some (data[d]).cs:=by simp[hd]
 have e2:((data[d]).cons.map Con.cs)[c]?=some ((data[d]).cons[c]).cs:=by simp[hc]
 have hrec:=zJX data d c hd hc hl hcl hal hb;generalize hD:data[d]=D at *;generalize hA:D.cons[c]=C at *;have hO:∀J,Out H.length K (.bool (decide (C.args.length≤6) && C.args.all (zec data d D.vars))) (H++J):=λJ=>Out.bool rfl (Nat.le_refl _) hs hK;simp[zym,e1,e2,Dat.cs,Con.cs,hd,hD,hc,hA];by_cases h6:C.args.length≤6
 ·have h6':¬ (6:Int)<C.args.length:=by omega
  have h6'':¬ 6<C.args.length:=by omega
  simp[h6',h6''];refine hrec _ _ ?_;simp[h6]at hO;refine zJD (Inv:=λq t29 H'=>∃i:Nat,i≤C.args.length∧q=C.args.length-i∧t29=.int .i64 i∧(C.args.drop i).all (zec data d D.vars)=C.args.all (zec data d D.vars)∧H=H') C.args.length ?_ ?_
  ·intro _;exact⟨0,by omega,by omega,rfl,by simp,rfl⟩
  ·rintro q t29 H' ⟨i,hi,rfl,rfl,ho,rfl⟩ hsc hlen hsF Kb hKb;by_cases hlt:i<C.args.length
   ·rw[List.drop_eq_getElem_cons hlt,List.all_cons]at ho;have hnb:=hb _ (List.getElem_mem hlt);obtain⟨x1,x2,x3,hvx,hx1,hx2,hx3⟩:=zaO C.args[i];simp[zqM,hlt,hvx,e1,hd,hD,Dat.cs];refine⟨⟨hx1,hx2,hx3⟩,?_⟩;rw[zaB (by omega) (by omega),show ((d:Int)+1).toNat=d+1 by omega,←List.map_take];refine⟨by omega,by omega,?_⟩;rw[←hvx];refine zaC (.bool (zaD (data.take (d+1)) D.vars C.args[i])) (λJ=>zAR (data.take (d+1)) D.vars _ hnb _ _ ⟨rfl,rfl⟩) ?_;have hao:zec data d D.vars C.args[i]=(zaD (data.take (d+1)) D.vars C.args[i] && (zc7 d D.vars C.args[i] || !zcn d C.args[i])):=rfl;rw[hao]at ho;cases hv:zaD (data.take (d+1)) D.vars C.args[i] with
    |false=>rw[hv]at ho;simp only[Bool.false_and]at ho;rw[←ho]at hO;simp;exact hO _
    |true=>
    rw[hv]at ho;cases hsf:zc7 d D.vars C.args[i] with
    |true=>rw[hsf]at ho;simp[hlt,hsf];rw[zaB (by omega) (by omega)];refine hKb _ _ ⟨C.args.length-(i+1),by omega,Back.same (by simp) hs ?_ ⟨_,rfl,i+1,by omega,rfl,by simp,by simpa using ho,rfl⟩⟩;simp[zie,AV.sc,AV.scV,AV.scA,AV.scB]
    |false=>
     rw[hsf]at ho;simp[hlt,hsf];refine zaC (.bool (zcn d C.args[i])) (λJ=>zJ7 d _ _ (Nat.le_refl _) (by have:=zfG hv;omega) _ _ ⟨rfl,rfl⟩) ?_;cases hm:zcn d C.args[i] with
     |true=>rw[hm]at ho;simp only[Bool.not_true,Bool.or_false,Bool.and_false,Bool.false_and]at ho;rw[←ho]at hO;simp;exact hO _
     |false=>rw[hm]at ho;simp;rw[zaB (by omega) (by omega)];refine hKb _ _ ⟨C.args.length-(i+1),by omega,Back.same (by simp) hs ?_ ⟨_,rfl,i+1,by omega,rfl,by simp,by simpa using ho,rfl⟩⟩;simp[zie,AV.sc,AV.scV,AV.scA,AV.scB]
   ·obtain rfl:i=C.args.length:=by omega
    rw[List.drop_length,List.all_nil]at ho;rw[←ho]at hO;simp[zqM];simpa using hO []
 ·have h6':(6:Int)<C.args.length:=by omega
  have h6'':6<C.args.length:=by omega
  simp[h6',h6''];simp[h6]at hO;simpa using hO []
def zbC(l:List (List UInt8)):List (List UInt8×AV):=l.map λs=>(s,.bool true)
theorem zfE(s:List UInt8):∀ l:List (List UInt8),(zbO (zbC l) s).getD (.bool false)=.bool (decide (s∈l))
 |[]=>by simp[zbC,zbO]
 |a::l=>by
  have:=zfE s l;cases h:a == s with
  |true=>
   have h':a=s:=by simpa using h
   simp[zbC,zbO,h,h']
  |false=>
   have h':a≠s:=by simpa using h
   have h'':s≠a:=λe=>h' e.symm;simp only[zbC,List.map_cons,zbO,h]at this ⊢;rw[this];simp[h'']
theorem zpg(s:List UInt8):∀ l:List (List UInt8),s ∉ l→zcB (zbC l) s (.bool true)=zbC (l++[s])
 |[],_=>rfl
 |a::l,h=>by
  have h1:(a == s)=false:=by simp at h;simpa usingλe=>h.1 e.symm
  have:=zpg s l (by simp at h;exact h.2);simp only[zbC,List.map_cons,zcB,h1,List.cons_append]at this ⊢;rw[this]
theorem zEm(m:Nat)(l:List (List UInt8)):(AB.map (zbC l)).sc m=true:=by simp[AB.sc,zbC,AV.scV]
def zbH(data:List Dat):List (List UInt8):=data.map Dat.name
def zbL(data:List Dat):List (List UInt8):=data.flatMap λD=>D.cons.map Con.name
def zdn(data:List Dat)(d:Nat)(vars:Int)(c:Con):Bool:=zcI c.name && (decide (c.args.length≤6) && c.args.all (zec data d vars))
def zcl(data:List Dat)(d:Nat)(D:Dat):Bool:=zcI D.name && decide (0≤D.vars) && decide (D.vars≤6) && decide (1≤D.cons.length) && decide (D.cons.length≤8) && D.cons.all (zdn data d D.vars)
def zb5(data:List Dat):List Dat→Nat→Bool
 |[],_=>true
 |D::l,d=>zcl data d D && zb5 data l (d+1)
def zaE(data:List Dat):Bool:=decide (data.length≤12) && zb5 data data 0 && !zdw (zbH data) && !zdw (zbL data)
theorem zvH{A R:List (List UInt8)}{s:List UInt8}(h:s∈A):zdw (A++s::R)=true:=by simp only[zdw,Bool.not_eq_true',decide_eq_false_iff_not,List.nodup_append];rintro⟨_,_,h3⟩;exact h3 s h s (by simp) rfl
theorem zvI{l:List (List UInt8)}(h:l.Nodup):zdw l=false:=by simp[zdw,h]
theorem zvd{A:List (List UInt8)}{s:List UInt8}(h:A.Nodup)(hs:s ∉ A):(A++[s]).Nodup:=by rw[List.nodup_append];refine⟨h,by simp,?_⟩;intro a ha b hb;simp at hb;subst hb;exactλe=>hs (e ▸ ha)
def zD7(data:List Dat)(d:Nat)(vars:Int)(t:VT):Bool:=zc7 d vars t || zaD (data.take d) vars t
structure RCon (data:List Dat) (d:Nat) (vars:Int) (c:Con):Prop where
 up:zcI c.name=true
 len:c.args.length≤6
 args:∀x∈c.args,zD7 data d vars x=true
structure RDat (data:List Dat) (d:Nat) (D:Dat):Prop where
 v0:0≤D.vars
 v6:D.vars≤6
 c1:1≤D.cons.length
 c8:D.cons.length≤8
 up:zcI D.name=true
 cons:∀c∈D.cons,RCon data d D.vars c
structure RData (data:List Dat):Prop where
 len:data.length≤12
 dats:∀d (h:d<data.length),RDat data d data[d]
 names:(zbH data).Nodup
 cons:(zbL data).Nodup
mutual
theorem zvU:∀ v w:VT,v.same w=true↔v=w
 |.mk k n ks,.mk k' n' ks'=>by have h:=zvT ks ks';simp only[VT.same,Bool.and_eq_true,beq_iff_eq,VT.mk.injEq,h,and_assoc]
theorem zvT:∀ v w:List VT,VT.sameL v w=true↔v=w
 |v::vs,w::ws=>by have h1:=zvU v w;have h2:=zvT vs ws;simp only[VT.sameL,Bool.and_eq_true,List.cons.injEq,h1,h2]
 |[],[]=>by simp[VT.sameL]
 |[],_::_=>by simp[VT.sameL]
 |_::_,[]=>by simp[VT.sameL]
end
theorem zpt{α:Type}(l:List α)(d n:Nat):(l.take d)[n]?=if n<d then l[n]? else none:=by
 by_cases h:n<d
 ·rw[if_pos h,List.getElem?_take_of_lt h]
 ·rw[if_neg h,List.getElem?_eq_none (by rw[List.length_take];omega)]
theorem zEu{data:List Dat}{d:Nat}{vars k n:Int}{len:Nat}(h:(k == 5 && n == (d:Int))=false):zaR (data.take (d+1)) vars k n len=zaR (data.take d) vars k n len:=by
 unfold zaR;by_cases h5:k=5
 ·subst h5;have hn:n≠d:=by simpa using h
  simp only[zpt];by_cases h0:0≤n
  ·have:(n.toNat<d+1)=(n.toNat<d):=by apply propext;omega
   simp[this]
  ·simp[h0]
 ·have:(k == 5)=false:=by simpa using h5
  simp[this]
mutual
theorem zFK(data:List Dat)(d:Nat)(vars:Int):∀ t:VT,zcn d t=false→zaH (data.take (d+1)) vars t=zaH (data.take d) vars t
 |.mk k n ks=>by intro h;simp only[zcn,Bool.or_eq_false_iff]at h;rw[zaH,zaH,zEu h.1,zwC data d vars ks h.2]
theorem zwC(data:List Dat)(d:Nat)(vars:Int):∀ l:List VT,zeT d l=false→za2 (data.take (d+1)) vars l=za2 (data.take d) vars l
 |[]=>λ_=>rfl
 |t::ts=>by intro h;simp only[zeT,Bool.or_eq_false_iff]at h;rw[za2,za2,zFK data d vars t h.1,zwC data d vars ts h.2]
end
mutual
theorem zDq(data:List Dat)(d:Nat)(vars:Int):∀ t:VT,zaH (data.take d) vars t=true→zcn d t=false
 |.mk k n ks=>by
  intro h;rw[zaH,Bool.and_eq_true]at h;rw[zcn,zuU data d vars ks h.2,Bool.or_false];by_cases h5:k=5
  ·subst h5;have h1:=h.1;simp[zaR,zpt]at h1;obtain⟨h0,h2⟩:=h1;by_cases hn:n=d
   ·subst hn;simp at h2
   ·simpa using hn
  ·have:(k == 5)=false:=by simpa using h5
   simp[this]
theorem zuU(data:List Dat)(d:Nat)(vars:Int):∀ l:List VT,za2 (data.take d) vars l=true→zeT d l=false
 |[]=>λ_=>rfl
 |t::ts=>by intro h;rw[za2,Bool.and_eq_true]at h;rw[zeT,zDq data d vars t h.1,zuU data d vars ts h.2];rfl
end
theorem ztG(data:List Dat):∀ (l:List Dat) (d:Nat),zb5 data l d=true↔∀ j (h:j<l.length),zcl data (d+j) l[j]=true
 |[],d=>by simp[zb5]
 |D::l,d=>by
  rw[zb5,Bool.and_eq_true,ztG data l (d+1)];constructor
  ·rintro⟨h1,h2⟩ j hj;cases j with
   |zero=>exact h1
   |succ j=>have:=h2 j (by simpa using hj);rw[show d+(j+1)=d+1+j by omega];simpa using this
  ·intro h;refine⟨h 0 (by simp),λj hj=>?_⟩;have:=h (j+1) (by simpa using hj);rw[show d+(j+1)=d+1+j by omega]at this;simpa using this
mutual
def zax(data:List Dat):VT→VT→Bool
 |.mk vk vn vks,.mk k n al=>
  if k=1 then vk == 3 && decide (-1099511627776≤vn) && decide (vn≤1099511627776) && vks.length == 0
  else if k=2 then vk == 2 && (vn == 0 || vn == 1) && vks.length == 0
  else if k=3 then vk == 1 && vn == 0 && vks.length == 0
  else if k=6 then vk == 4 && vn == 0 && zbX data vks al
  else if k=5 then vk == 5 && decide (0≤vn) && decide (vn<8) && zeO data vks (zbi data (.mk k n al) vn)
  else if k=7 then vk == 6 && vn == 0 && decide (vks.length≤4096) && zcc data vks (al.getD 0 (.mk 0 0 []))
  else if k=8 then vk == 7 && vn == 0 && zbX data vks al
  else vk == 8 && decide (0≤vn) && decide (vn<64) && vks.length == 0
def zeO(data:List Dat):List VT→Option (List VT)→Bool
 |_,none=>false
 |[],some ts=>ts.isEmpty
 | v::vs,some ts=>match ts with
  |[]=>false
  |t::ts=>zax data v t && zbX data vs ts
def zbX(data:List Dat):List VT→List VT→Bool
 |[],ts=>ts.isEmpty
 | v::vs,ts=>match ts with
  |[]=>false
  |t::ts=>zax data v t && zbX data vs ts
def zcc(data:List Dat):List VT→VT→Bool
 |[],_=>true
 |v::vs,t=>zax data v t && zcc data vs t
end
theorem znM(data:List Dat)(vs ts:List VT):zeO data vs (some ts)=zbX data vs ts:=by
 cases vs with
 |nil=>cases ts <;> rw[zeO,zbX]
 |cons v vs=>cases ts <;> simp only[zeO,zbX]
theorem zub(data:List Dat)(vs:List VT):zeO data vs none=false:=by cases vs <;> rw[zeO]
theorem zEv{data:List Dat}{m:Nat}{vars k n:Int}{len:Nat}(h:zaR (data.take m) vars k n len=true)(h4:k≠4):zaR data 0 k n len=true:=by
 unfold zaR at h ⊢;have h4':(k == 4)=false:=by simpa using h4
 rw[h4']at h ⊢;by_cases h5:k=5
 ·subst h5;simp only[zpt]at h;by_cases hm:n.toNat<m
  ·simpa[hm]using h
  ·simp[hm]at h
 ·have:(k == 5)=false:=by simpa using h5
  simpa[this]using h
theorem zwl(ks:List VT):∀ l:List VT,(zaX ks l).length=l.length
 |[]=>rfl
 |t::ts=>by simp[zaX,zwl ks ts]
mutual
theorem zwF{data:List Dat}{m:Nat}{vars:Int}{ks:List VT}(hk:∀ x∈ks,zaH data 0 x=true)(hl:(ks.length:Int)=vars):∀ a:VT,zaH (data.take m) vars a=true→zaH data 0 (subst ks a)=true
 |.mk k n al=>by
  intro h;rw[zaH,Bool.and_eq_true]at h;unfold subst;by_cases h4:k=4
  ·have h1:=h.1;subst h4;simp[zaR]at h1;rw[if_pos ⟨rfl,by omega,by omega⟩];have hn:n.toNat<ks.length:=by omega
   rw[List.getElem?_eq_getElem hn];exact hk _ (List.getElem_mem hn)
  ·rw[if_neg (λh=>h4 h.1),zaH,Bool.and_eq_true,zwl];exact⟨zEv h.1 h4,zwD hk hl al h.2⟩
theorem zwD{data:List Dat}{m:Nat}{vars:Int}{ks:List VT}(hk:∀ x∈ks,zaH data 0 x=true)(hl:(ks.length:Int)=vars):∀ l:List VT,za2 (data.take m) vars l=true→za2 data 0 (zaX ks l)=true
 |[]=>by intro _;simp[zaX,za2]
 |t::ts=>by intro h;rw[za2,Bool.and_eq_true]at h;rw[zaX,za2,Bool.and_eq_true];exact⟨zwF hk hl t h.1,zwD hk hl ts h.2⟩
end
theorem zwB{data:List Dat}{vars:Int}:∀ {l:List VT},za2 data vars l=true→∀ x∈l,zaH data vars x=true
 |[],_=>by simp
 |t::ts,h=>by
  rw[za2,Bool.and_eq_true]at h;intro x hx;rcases List.mem_cons.1 hx with rfl|hx
  ·exact h.1
  ·exact zwB h.2 x hx
theorem zwE{data:List Dat}{vars:Int}{k n:Int}{ks:List VT}(h:zaH data vars (.mk k n ks)=true):∀x∈ks,zaH data vars x=true:=by rw[zaH,Bool.and_eq_true]at h;exact zwB h.2
theorem ze7{data:List Dat}{vars:Int}{k n:Int}{ks:List VT}(h:zaD data vars (.mk k n ks)=true):∀x∈ks,zaD data vars x=true:=by rw[zaD,Bool.and_eq_true,decide_eq_true_eq]at h;intro x hx;rw[zaD,Bool.and_eq_true,decide_eq_true_eq];exact⟨Nat.le_trans (zgg x hx) h.1,zwE h.2 x hx⟩
theorem zCf{data:List Dat}(hD:zaE data=true){d c:Nat}(hd:d<data.length)(hc:c<data[d].cons.length):∀x∈(data[d].cons[c]).args,zaH (data.take (d+1)) data[d].vars x=true:=by simp only[zaE,Bool.and_eq_true,ztG,Nat.zero_add]at hD;have h1:=hD.1.1.2 d hd;simp only[zcl,Bool.and_eq_true]at h1;have h2:=List.all_eq_true.1 h1.2 _ (List.getElem_mem hc);simp only[zdn,Bool.and_eq_true]at h2;intro x hx;have h3:=List.all_eq_true.1 h2.2.2 x hx;simp only[zec,zaD,Bool.and_eq_true]at h3;exact h3.1.2
theorem ziW{data:List Dat}{k n:Int}{ks:List VT}{c:Int}{l:List VT}(h:zbi data (.mk k n ks) c=some l):
  k=5∧0≤n∧0≤c∧∃(hn:n.toNat<data.length) (hc:c.toNat<(data[n.toNat]).cons.length),(ks.length:Int)=(data[n.toNat]).vars∧l=((data[n.toNat]).cons[c.toNat]).args.map (subst ks)∧∀x∈l,x.nodes≤200:=by
 rw[zcM]at h;split at h
 ·rename_i h5;split at h
  ·rename_i D hD;obtain⟨hn,rfl⟩:=List.getElem?_eq_some_iff.1 hD;split at h
   ·rename_i hv;split at h
    ·rename_i C hC;obtain⟨hc,rfl⟩:=List.getElem?_eq_some_iff.1 hC;split at h
     ·rename_i ha;simp only[Option.some.injEq]at h;subst h;exact⟨h5.1,h5.2.1,h5.2.2,hn,hc,hv,rfl,λx hx=>of_decide_eq_true (List.all_eq_true.1 ha x hx)⟩
     ·cases h
    ·cases h
   ·cases h
  ·cases h
 ·cases h
theorem znF{data:List Dat}(hD:zaE data=true){t:VT}(ht:zaH data 0 t=true){c:Int}{l:List VT}(h:zbi data t c=some l):∀x∈l,zaD data 0 x=true:=by obtain⟨k,n,ks⟩:=t;obtain⟨rfl,h0,hc0,hn,hc,hv,rfl,hsz⟩:=ziW h;intro x hx;rw[zaD,Bool.and_eq_true,decide_eq_true_eq];refine⟨hsz x hx,?_⟩;obtain⟨a,ha,rfl⟩:=List.mem_map.1 hx;exact zwF (zwE ht) hv a (zCf hD hn hc a ha)
mutual
def zo5(rs:List (List Bool)):VT→List VT
 |.mk k n ks=>.mk k n ks::zgs rs ks (rs.getD n.toNat [])
def zgs(rs:List (List Bool)):List VT→List Bool→List VT
 |[],_=>[]
 | v::vs,bs=>match bs with
  |[]=>[]
  |b::bs=>(if b=true then zo5 rs v else [])++zgs rs vs bs
end
mutual
theorem zD4(rs:List (List Bool)):∀ v:VT,(zo5 rs v).length≤v.nodes
 |.mk k n ks=>by have:=zvw rs ks (rs.getD n.toNat []);simp only[zo5,VT.nodes,List.length_cons];omega
theorem zvw(rs:List (List Bool)):∀ (vs:List VT) (bs:List Bool),(zgs rs vs bs).length≤VT.nodesL vs
 |[],_=>by simp[zgs,VT.nodesL]
 |v::vs,[]=>by simp[zgs]
 |v::vs,b::bs=>by
  have h1:=zD4 rs v;have h2:=zvw rs vs bs;simp only[zgs,VT.nodesL,List.length_append];split
  ·omega
  ·simp;omega
end
end Go.Proofs.YtaifokkaaahdoaaGreatDoor
namespace Go.Proofs.YtaifokkaaahdoaaGreatDoor
open Go Go.Abs
set_option maxRecDepth 100000
def zQf(_:Nat):List Bool:=[]
noncomputable def zQh:Code:=Tryz.f96.body.getD .skip
def zAQ(t0:AV)(H:zaa)(K:Kt):Prop:=
 zas t0 H λt1 H=>
 zaf 0 t1 λt3=>
 zae false 1 t3 H λt4=>
 ACalls tP zof [t4] H λt5 H=>
 zad t5 true H (λK'=>zae true 4 t1 H (K' · H)) λt7 H=>
 zad t5 true H (λK'=>ACalls tP zog [t7] H K') λt8 H=>
 zao t5 t8 (.bool false) λt9=>
 zad t9 true H (λK'=>zae true 4 t1 H (K' · H)) λt11 H=>
 zad t9 true H (λK'=>ACalls tP zoh [t11] H K') λt12 H=>
 zao t9 t12 (.bool false) λt13=>
 zad t13 true H (λK'=>zae true 4 t1 H (K' · H)) λt15 H=>
 zad t13 true H (λK'=>ACalls tP zoi [t15] H K') λt16 H=>
 zao t13 t16 (.bool false) λt17=>
 zad t17 true H (λK'=>zae true 4 t1 H (K' · H)) λt19 H=>
 zad t17 true H (λK'=>ACalls tP zoj [t19] H K') λt20 H=>
 zao t17 t20 (.bool false) λt21=>
 zad t21 true H (λK'=>zae true 4 t1 H (K' · H)) λt23 H=>
 zad t21 true H (λK'=>ACalls tP zok [t23] H K') λt24 H=>
 zao t21 t24 (.bool false) λt25=>
 zad t25 true H (λK'=>zae true 4 t1 H (K' · H)) λt27 H=>
 zad t25 true H (λK'=>ACalls tP zol [t27] H K') λt28 H=>
 zao t25 t28 (.bool false) λt29=>
 K t29 H
theorem zQi{t0:AV}{H:zaa}{K:Kt}(h:HSc H→zAQ t0 H K):ACalls tP zoR [t0] H K:=
 zap (M:=zQf) Tryz.func96 (c:=zQh) (by kernel_rfl) (λhs=>Eq.mpr (by kernel_rfl) (h hs))
def zHx(_:Nat):List Bool:=[]
noncomputable def zHy:Code:=Tryz.f132.body.getD .skip
def zxr(t0:AV)(H:zaa)(K:Kt):Prop:=
 zas t0 H λt1 H=>
 zaf 2 t1 λt3=>
 zae false 1 t3 H λt4=>
 zah 1 t4 λt5=>
 zac .leq false t5 (.int .i64 3000) λt6=>
 zad t6 true H (λK'=>zaf 2 t1 (K' · H)) λt8 H=>
 zad t6 true H (λK'=>zae false 1 t8 H (K' · H)) λt9 H=>
 zad t6 true H (λK'=>zbV zu3 [t1] (K' · H)) λt10 H=>
 zad t6 true H (λK'=>ACalls tP zdR [t9,t10] H K') λt11 H=>
 zad t6 true H (λK'=>aUn .not t11 (K' · H)) λt12 H=>
 zao t6 t12 (.bool false) λt13=>
 K t13 H
theorem zHz{t0:AV}{H:zaa}{K:Kt}(h:HSc H→zxr t0 H K):ACalls tP zog [t0] H K:=
 zap (M:=zHx) Tryz.func132 (c:=zHy) (by kernel_rfl) (λhs=>Eq.mpr (by kernel_rfl) (h hs))
def zkO:Nat→List Bool
 |6=>rl false [1,1,1,2,14,3,59]
 |_=>[]
noncomputable def zqc:Code:=Tryz.f133.body.getD .skip
noncomputable def zHF:List ResultVar:=Tryz.f133.results.toList
def zqd(t1 t3 t4 t19 t20 t21:AV):List AV:=ux 1 (t1::ux 1 (t3::t4::ux 14 (t19::t20::t21::ux 59 [])))
def zHD:List Bool:=zkO 6
noncomputable def zHB:Code:=zat [1,1,1,1,0,1,0,0] zqc
def zHA(K:Kt):AExit→List AV→zaa→Prop:=zau tP zkO [1,1,1,1,0,1,0] zqc (zaz tP zHF K)
def zxv(t1 t3 t4 t19 t20 t21:AV)(H:zaa)(K:Kt):Prop:=ALoop tP zHB (zHA K) (zqd t1 t3 t4 t19 t20 t21) H
def zxu(t1 t3 t4 t6 t19 t20 t21:AV)(H:zaa)(K:Kt)(Kb6:Lt):Prop:=
 zaf 0 t6 λt42=>
 zae false 1 t42 H λt43=>
 zcy t3 t43 (.bool true) H λH=>
 zaf 1 t6 λt44=>
 zae false 1 t44 H λt45=>
 zah 1 t45 λt46=>
 zac .gtr false t46 (.int .i64 6) λt47=>
 zad t47 false H (λK'=>zaf 0 t1 (K' · H)) λt49 H=>
 zad t47 false H (λK'=>zae false 1 t49 H (K' · H)) λt50 H=>
 zad t47 false H (λK'=>zaf 3 t6 (K' · H)) λt51 H=>
 zad t47 false H (λK'=>zae true 3 t51 H (K' · H)) λt52 H=>
 zad t47 false H (λK'=>ACalls tP zfB [t50,t52,(.int .i64 0)] H K') λt53 H=>
 zad t47 false H (λK'=>aUn .not t53 (K' · H)) λt54 H=>
 zao t47 (.bool true) t54 λt55=>
 zag t55
 (K (.bool false) H)
 (zab H (λK'=>zaf 6 t6 (K' · H)) λt56=>
 zab H (λK'=>zam false 1 t56 H (K' · H)) λt57=>
 zab H (λK'=>zac .lss false t57 (.int .i64 0) (K' · H)) λt58=>
 zab H (λK'=>K' t58 H) λt59=>
 zad t59 false H (λK'=>zab H (λK''=>zaf 6 t6 (K'' · H)) (K' · H)) λt60 H=>
 zad t59 false H (λK'=>zab H (λK''=>zam false 1 t60 H (K'' · H)) (K' · H)) λt61 H=>
 zad t59 false H (λK'=>zab H (λK''=>zaf 3 t1 (K'' · H)) (K' · H)) λt62 H=>
 zad t59 false H (λK'=>zab H (λK''=>zam false 1 t62 H (K'' · H)) (K' · H)) λt63 H=>
 zad t59 false H (λK'=>zab H (λK''=>zah 1 t63 (K'' · H)) (K' · H)) λt64 H=>
 zad t59 false H (λK'=>zab H (λK''=>zac .geq false t61 t64 (K'' · H)) (K' · H)) λt65 H=>
 zab H (λK'=>zao t59 (.bool true) t65 (K' · H)) λt66=>
 zab H (λK'=>K' t66 H) λt67=>
 zad t67 false H (λK'=>zab H (λK''=>zaf 3 t1 (K'' · H)) (K' · H)) λt68 H=>
 zad t67 false H (λK'=>zab H (λK''=>zam false 1 t68 H (K'' · H)) (K' · H)) λt69 H=>
 zad t67 false H (λK'=>zab H (λK''=>zaf 6 t6 (K'' · H)) (K' · H)) λt70 H=>
 zad t67 false H (λK'=>zab H (λK''=>zam false 1 t70 H (K'' · H)) (K' · H)) λt71 H=>
 zad t67 false H (λK'=>zab H (λK''=>zai 8 t69 t71 (K'' · H)) (K' · H)) λt72 H=>
 zad t67 false H (λK'=>zab H (λK''=>zaf 5 t72 (K'' · H)) (K' · H)) λt73 H=>
 zad t67 false H (λK'=>zab H (λK''=>zam true 3 t73 H (K'' · H)) (K' · H)) λt74 H=>
 zad t67 false H (λK'=>zab H (λK''=>zaf 3 t6 (K'' · H)) (K' · H)) λt75 H=>
 zad t67 false H (λK'=>zab H (λK''=>zam true 3 t75 H (K'' · H)) (K' · H)) λt76 H=>
 zad t67 false H (λK'=>zaA H (λH K''=>ACalls tP zDu [t74,t76] H K'') (K' · H)) λt77 H=>
 zad t67 false H (λK'=>zab H (λK''=>aUn .not t77 (K'' · H)) (K' · H)) λt78 H=>
 zab H (λK'=>zao t67 (.bool true) t78 (K' · H)) λt79=>
 zag t79
 (K (.bool false) H)
 (zac .add false t21 (.int .i64 1) λt80=>
 Kb6 (zqd t1 t3 t4 t19 t20 t80) H))
def zxt(t1 t3 t4 t19 t20 t21:AV)(H:zaa)(K:Kt)(Kb6:Lt):Prop:=
 zac .lss false t21 t20 λt22=>
 zag t22
 (zai 7 t19 t21 λt23=>
 zae true 7 t23 H λt24=>
 zaw [(.str []),.snil,.snil,(.int .i64 0),(.int .i64 0),.snil,(.int .i64 0)] H λt6 H=>
 zak 7 t6 t24 H λH=>
 zaf 0 t6 λt25=>
 zae false 1 t25 H λt26=>
 zac .eql false t26 (.str []) λt27=>
 zag t27
 (zxu t1 t3 (.bool true) t6 t19 t20 t21 H K Kb6)
 (zad t4 false H (λK'=>K' t3 H) λt30 H=>
 zad t4 false H (λK'=>zaf 0 t6 (K' · H)) λt31 H=>
 zad t4 false H (λK'=>zae false 1 t31 H (K' · H)) λt32 H=>
 zad t4 false H (λK'=>zdj (.bool false) false t30 t32 H (K' · H)) λt33 H=>
 zao t4 (.bool true) t33 λt34=>
 zad t34 false H (λK'=>zaf 2 t6 (K' · H)) λt36 H=>
 zad t34 false H (λK'=>zae false 1 t36 H (K' · H)) λt37 H=>
 zad t34 false H (λK'=>zah 1 t37 (K' · H)) λt38 H=>
 zad t34 false H (λK'=>zac .gtr false t38 (.int .i64 0) (K' · H)) λt39 H=>
 zao t34 (.bool true) t39 λt40=>
 zag t40
 (K (.bool false) H)
 (zxu t1 t3 t4 t6 t19 t20 t21 H K Kb6)))
 (K (.bool true) H)
def zxs(t0:AV)(H:zaa)(K:Kt):Prop:=
 zas t0 H λt1 H=>
 zaf 1 t1 λt7=>
 zae false 1 t7 H λt8=>
 zah 1 t8 λt9=>
 zac .gtr false t9 (.int .i64 64) λt10=>
 zad t10 false H (λK'=>zaf 3 t1 (K' · H)) λt12 H=>
 zad t10 false H (λK'=>zae false 1 t12 H (K' · H)) λt13 H=>
 zad t10 false H (λK'=>zah 1 t13 (K' · H)) λt14 H=>
 zad t10 false H (λK'=>zac .gtr false t14 (.int .i64 3000) (K' · H)) λt15 H=>
 zao t10 (.bool true) t15 λt16=>
 zag t16
 (K (.bool false) H)
 (zdG H λt17 H=>
 zaf 1 t1 λt18=>
 zae false 1 t18 H λt19=>
 zah 1 t19 λt20=>
 zxv t1 t17 (.bool false) t19 t20 (.int .i64 0) H K)
theorem zHC{t1 t3 t4 t19 t20 t21:AV}{H:zaa}{K:Kt}(Inv:Nat→AV→AV→zaa→Prop)(n:Nat)(h0:HSc H→Inv n t4 t21 H)(round:Rd2 (λt4=>λt21=>zqd t1 t3 t4 t19 t20 t21) (λt4=>λt21=>λH Kb6=>zxt t1 t3 t4 t19 t20 t21 H K Kb6) H Inv):zxv t1 t3 t4 t19 t20 t21 H K:=
 lp2 (M:=zkO) zHD t4 t21 (by kernel_rfl) Inv n h0 round
theorem zHE{t0:AV}{H:zaa}{K:Kt}(h:HSc H→zxs t0 H K):ACalls tP zoh [t0] H K:=
 zap (M:=zkO) Tryz.func133 (c:=zqc) (by kernel_rfl) (λhs=>Eq.mpr (by kernel_rfl) (h hs))
def zfb:Nat→List Bool
 |5=>rl false [1,1,2,2,12,3,54]
 |11=>rl false [1,1,2,2,25,3,41]
 |16=>rl false [1,1,2,2,2,1,22,3,12,3,26]
 |_=>[]
noncomputable def zh4:Code:=Tryz.f134.body.getD .skip
noncomputable def zxE:List ResultVar:=Tryz.f134.results.toList
def zqf(t1 t4 t5 t18 t19 t20:AV):List AV:=ux 1 (t1::ux 2 (t4::t5::ux 12 (t18::t19::t20::ux 54 [])))
def zHO:List Bool:=zfb 5
noncomputable def zHJ:Code:=zat [1,1,1,1,0,1,0,0] zh4
def zHH(K:Kt):AExit→List AV→zaa→Prop:=zau tP zfb [1,1,1,1,0,1,0] zh4 (zaz tP zxE K)
def zxC(t1 t4 t5 t18 t19 t20:AV)(H:zaa)(K:Kt):Prop:=ALoop tP zHJ (zHH K) (zqf t1 t4 t5 t18 t19 t20) H
def zxA(t1 t4 t5 t31 t32 t33:AV):List AV:=ux 1 (t1::ux 2 (t4::t5::ux 25 (t31::t32::t33::ux 41 [])))
def zxD:List Bool:=zfb 11
noncomputable def zqe:Code:=zat [1,1,1,1,1,0,1,0,0] zh4
def zxx(K:Kt):AExit→List AV→zaa→Prop:=zau tP zfb [1,1,1,1,1,0,1,0] zh4 (zaz tP zxE K)
def zxB(t1 t4 t5 t31 t32 t33:AV)(H:zaa)(K:Kt):Prop:=ALoop tP zqe (zxx K) (zxA t1 t4 t5 t31 t32 t33) H
def zHK(t1 t4 t5 t8 t31 t32 t33 t46 t47 t48:AV):List AV:=ux 1 (t1::ux 2 (t4::t5::ux 2 (t8::ux 22 (t31::t32::t33::ux 12 (t46::t47::t48::ux 26 [])))))
noncomputable def zHI:Code:=zat [1,1,0,0,1,1,1,0,0] zqe
def zHG(K:Kt)(Kb11:Lt):AExit→List AV→zaa→Prop:=zau tP zfb [1,1,0,0,1,1,1,0] zqe (zb1 zxD Kb11 (zxx K))
def zHL(t1 t4 t5 t8 t31 t32 t33 t46 t47 t48:AV)(H:zaa)(K:Kt)(Kb11:Lt):Prop:=ALoop tP zHI (zHG K Kb11) (zHK t1 t4 t5 t8 t31 t32 t33 t46 t47 t48) H
def zxy(t1 t4 t5 t31 t32 t33:AV)(H:zaa)(K:Kt)(Kb11:Lt):Prop:=
 zac .lss false t33 t32 λt34=>
 zag t34
 (zai 8 t31 t33 λt36=>
 zae true 8 t36 H λt37=>
 zaw [(.int .i64 0),(.int .i64 0),.snil,.snil,.snil,(.int .i64 0),(.int .i64 0),.snil] H λt9 H=>
 zak 8 t9 t37 H λH=>
 zaf 3 t9 λt38=>
 zae false 1 t38 H λt39=>
 zah 1 t39 λt40=>
 zaf 4 t9 λt41=>
 zae false 1 t41 H λt42=>
 zah 1 t42 λt43=>
 zac .neq false t40 t43 λt44=>
 zag t44
 (K (.bool false) H)
 (zaf 4 t9 λt45=>
 zae false 1 t45 H λt46=>
 zah 1 t46 λt47=>
 zHL t1 t4 t5 t33 t31 t32 t33 t46 t47 (.int .i64 0) H K Kb11))
 (zae false 1 t4 H λt70=>
 zaf 3 t1 λt71=>
 zae false 1 t71 H λt72=>
 zah 1 t72 λt73=>
 zac .eql false t70 t73 λt74=>
 K t74 H)
def zxz(t1 t4 t5 t18 t19 t20:AV)(H:zaa)(K:Kt)(Kb5:Lt):Prop:=
 zac .lss false t20 t19 λt21=>
 zag t21
 (zai 7 t18 t20 λt22=>
 zae true 7 t22 H λt23=>
 zaw [(.str []),.snil,.snil,(.int .i64 0),(.int .i64 0),.snil,(.int .i64 0)] H λt7 H=>
 zak 7 t7 t23 H λH=>
 zaf 6 t7 λt25=>
 zae false 1 t25 H λt26=>
 aCallV tP t5 [t26] H λt27 H=>
 aUn .not t27 λt28=>
 zag t28
 (K (.bool false) H)
 (zac .add false t20 (.int .i64 1) λt29=>
 Kb5 (zqf t1 t4 t5 t18 t19 t29) H))
 (zaf 3 t1 λt30=>
 zae false 1 t30 H λt31=>
 zah 1 t31 λt32=>
 zxB t1 t4 t5 t31 t32 (.int .i64 0) H K)
def zxw(t0:AV)(H:zaa)(K:Kt):Prop:=
 zas t0 H λt1 H=>
 zaf 3 t1 λt12=>
 zae false 1 t12 H λt13=>
 zah 1 t13 λt14=>
 zba 1 [(.bool false)] t14 t14 H λt15 H=>
 zaw [.snil] H λt3 H=>
 zak 1 t3 t15 H λH=>
 zaw [(.int .i64 0)] H λt4 H=>
 zak 1 t4 (.int .i64 0) H λH=>
 zbV zDv [t3,t4] λt16=>
 zaf 1 t1 λt17=>
 zae false 1 t17 H λt18=>
 zah 1 t18 λt19=>
 zxC t1 t4 t16 t18 t19 (.int .i64 0) H K
theorem zHM{t1 t4 t5 t31 t32 t33:AV}{H:zaa}{K:Kt}(Inv:Nat→AV→zaa→Prop)(n:Nat)(h0:HSc H→Inv n t33 H)(round:Rd1 (λt33=>zxA t1 t4 t5 t31 t32 t33) (λt33=>λH Kb11=>zxy t1 t4 t5 t31 t32 t33 H K Kb11) H Inv):zxB t1 t4 t5 t31 t32 t33 H K:=
 lp1 (M:=zfb) zxD t33 (by kernel_rfl) Inv n h0 round
theorem zHN{t1 t4 t5 t18 t19 t20:AV}{H:zaa}{K:Kt}(Inv:Nat→AV→zaa→Prop)(n:Nat)(h0:HSc H→Inv n t20 H)(round:Rd1 (λt20=>zqf t1 t4 t5 t18 t19 t20) (λt20=>λH Kb5=>zxz t1 t4 t5 t18 t19 t20 H K Kb5) H Inv):zxC t1 t4 t5 t18 t19 t20 H K:=
 lp1 (M:=zfb) zHO t20 (by kernel_rfl) Inv n h0 round
theorem zHP{t0:AV}{H:zaa}{K:Kt}(h:HSc H→zxw t0 H K):ACalls tP zoi [t0] H K:=
 zap (M:=zfb) Tryz.func134 (c:=zh4) (by kernel_rfl) (λhs=>Eq.mpr (by kernel_rfl) (h hs))
def zfc:Nat→List Bool
 |5=>rl false [1,1,2,2,12,3,41]
 |11=>rl false [1,1,2,2,32,3,21]
 |14=>rl false [1,1,2,2,32,3,4,3,14]
 |_=>[]
noncomputable def zh5:Code:=Tryz.f135.body.getD .skip
noncomputable def zxN:List ResultVar:=Tryz.f135.results.toList
def zqh(t1 t4 t5 t18 t19 t20:AV):List AV:=ux 1 (t1::ux 2 (t4::t5::ux 12 (t18::t19::t20::ux 41 [])))
def zHY:List Bool:=zfc 5
noncomputable def zHT:Code:=zat [1,1,1,1,0,1,0,0] zh5
def zHR(K:Kt):AExit→List AV→zaa→Prop:=zau tP zfc [1,1,1,1,0,1,0] zh5 (zaz tP zxN K)
def zxL(t1 t4 t5 t18 t19 t20:AV)(H:zaa)(K:Kt):Prop:=ALoop tP zHT (zHR K) (zqh t1 t4 t5 t18 t19 t20) H
def zxJ(t1 t4 t5 t38 t39 t40:AV):List AV:=ux 1 (t1::ux 2 (t4::t5::ux 32 (t38::t39::t40::ux 21 [])))
def zxM:List Bool:=zfc 11
noncomputable def zqg:Code:=zat [1,1,1,1,1,0,1,0,0] zh5
def zxG(K:Kt):AExit→List AV→zaa→Prop:=zau tP zfc [1,1,1,1,1,0,1,0] zh5 (zaz tP zxN K)
def zxK(t1 t4 t5 t38 t39 t40:AV)(H:zaa)(K:Kt):Prop:=ALoop tP zqg (zxG K) (zxJ t1 t4 t5 t38 t39 t40) H
def zHU(t1 t4 t5 t38 t39 t40 t45 t46 t47:AV):List AV:=ux 1 (t1::ux 2 (t4::t5::ux 32 (t38::t39::t40::ux 4 (t45::t46::t47::ux 14 []))))
noncomputable def zHS:Code:=zat [1,1,0,0,1,1,0,0] zqg
def zHQ(K:Kt)(Kb11:Lt):AExit→List AV→zaa→Prop:=zau tP zfc [1,1,0,0,1,1,0] zqg (zb1 zxM Kb11 (zxG K))
def zHV(t1 t4 t5 t38 t39 t40 t45 t46 t47:AV)(H:zaa)(K:Kt)(Kb11:Lt):Prop:=ALoop tP zHS (zHQ K Kb11) (zHU t1 t4 t5 t38 t39 t40 t45 t46 t47) H
def zxH(t1 t4 t5 t38 t39 t40:AV)(H:zaa)(K:Kt)(Kb11:Lt):Prop:=
 zac .lss false t40 t39 λt41=>
 zag t41
 (zai 8 t38 t40 λt42=>
 zae true 8 t42 H λt43=>
 zaw [(.int .i64 0),(.int .i64 0),.snil,.snil,.snil,(.int .i64 0),(.int .i64 0),.snil] H λt9 H=>
 zak 8 t9 t43 H λH=>
 zaf 3 t9 λt44=>
 zae false 1 t44 H λt45=>
 zah 1 t45 λt46=>
 zHV t1 t4 t5 t38 t39 t40 t45 t46 (.int .i64 0) H K Kb11)
 (zae false 1 t4 H λt57=>
 zaf 2 t1 λt58=>
 zae false 1 t58 H λt59=>
 zah 1 t59 λt60=>
 zac .eql false t57 t60 λt61=>
 K t61 H)
def zxI(t1 t4 t5 t18 t19 t20:AV)(H:zaa)(K:Kt)(Kb5:Lt):Prop:=
 zac .lss false t20 t19 λt21=>
 zag t21
 (zai 7 t18 t20 λt22=>
 zae true 7 t22 H λt23=>
 zaw [(.str []),.snil,.snil,(.int .i64 0),(.int .i64 0),.snil,(.int .i64 0)] H λt7 H=>
 zak 7 t7 t23 H λH=>
 zaf 1 t7 λt25=>
 zae false 1 t25 H λt26=>
 aCallV tP t5 [t26] H λt27 H=>
 aUn .not t27 λt28=>
 zad t28 false H (λK'=>K' t5 H) λt30 H=>
 zad t28 false H (λK'=>zaf 2 t7 (K' · H)) λt31 H=>
 zad t28 false H (λK'=>zae false 1 t31 H (K' · H)) λt32 H=>
 zad t28 false H (λK'=>aCallV tP t30 [t32] H K') λt33 H=>
 zad t28 false H (λK'=>aUn .not t33 (K' · H)) λt34 H=>
 zao t28 (.bool true) t34 λt35=>
 zag t35
 (K (.bool false) H)
 (zac .add false t20 (.int .i64 1) λt36=>
 Kb5 (zqh t1 t4 t5 t18 t19 t36) H))
 (zaf 3 t1 λt37=>
 zae false 1 t37 H λt38=>
 zah 1 t38 λt39=>
 zxK t1 t4 t5 t38 t39 (.int .i64 0) H K)
def zxF(t0:AV)(H:zaa)(K:Kt):Prop:=
 zas t0 H λt1 H=>
 zaf 2 t1 λt12=>
 zae false 1 t12 H λt13=>
 zah 1 t13 λt14=>
 zba 1 [(.bool false)] t14 t14 H λt15 H=>
 zaw [.snil] H λt3 H=>
 zak 1 t3 t15 H λH=>
 zaw [(.int .i64 0)] H λt4 H=>
 zak 1 t4 (.int .i64 0) H λH=>
 zbV zDw [t3,t4] λt16=>
 zaf 1 t1 λt17=>
 zae false 1 t17 H λt18=>
 zah 1 t18 λt19=>
 zxL t1 t4 t16 t18 t19 (.int .i64 0) H K
theorem zHW{t1 t4 t5 t38 t39 t40:AV}{H:zaa}{K:Kt}(Inv:Nat→AV→zaa→Prop)(n:Nat)(h0:HSc H→Inv n t40 H)(round:Rd1 (λt40=>zxJ t1 t4 t5 t38 t39 t40) (λt40=>λH Kb11=>zxH t1 t4 t5 t38 t39 t40 H K Kb11) H Inv):zxK t1 t4 t5 t38 t39 t40 H K:=
 lp1 (M:=zfc) zxM t40 (by kernel_rfl) Inv n h0 round
theorem zHX{t1 t4 t5 t18 t19 t20:AV}{H:zaa}{K:Kt}(Inv:Nat→AV→zaa→Prop)(n:Nat)(h0:HSc H→Inv n t20 H)(round:Rd1 (λt20=>zqh t1 t4 t5 t18 t19 t20) (λt20=>λH Kb5=>zxI t1 t4 t5 t18 t19 t20 H K Kb5) H Inv):zxL t1 t4 t5 t18 t19 t20 H K:=
 lp1 (M:=zfc) zHY t20 (by kernel_rfl) Inv n h0 round
theorem zHZ{t0:AV}{H:zaa}{K:Kt}(h:HSc H→zxF t0 H K):ACalls tP zoj [t0] H K:=
 zap (M:=zfc) Tryz.func135 (c:=zh5) (by kernel_rfl) (λhs=>Eq.mpr (by kernel_rfl) (h hs))
def zkP:Nat→List Bool
 |6=>rl false [4,2,9,3,25]
 |_=>[]
noncomputable def zqi:Code:=Tryz.f136.body.getD .skip
noncomputable def zH5:List ResultVar:=Tryz.f136.results.toList
def zqj(t4 t5 t15 t16 t17:AV):List AV:=ux 4 (t4::t5::ux 9 (t15::t16::t17::ux 25 []))
def zH3:List Bool:=zkP 6
noncomputable def zH1:Code:=zat [1,1,1,1,1,0,1,0,0] zqi
def zH0(K:Kt):AExit→List AV→zaa→Prop:=zau tP zkP [1,1,1,1,1,0,1,0] zqi (zaz tP zH5 K)
def zxQ(t4 t5 t15 t16 t17:AV)(H:zaa)(K:Kt):Prop:=ALoop tP zH1 (zH0 K) (zqj t4 t5 t15 t16 t17) H
def zxP(t4 t5 t15 t16 t17:AV)(H:zaa)(K:Kt)(Kb6:Lt):Prop:=
 zac .lss false t17 t16 λt18=>
 zag t18
 (zai 7 t15 t17 λt19=>
 zae true 7 t19 H λt20=>
 zaw [(.str []),.snil,.snil,(.int .i64 0),(.int .i64 0),.snil,(.int .i64 0)] H λt7 H=>
 zak 7 t7 t20 H λH=>
 zae false 1 t4 H λt21=>
 zaf 1 t7 λt22=>
 zae false 1 t22 H λt23=>
 aCallV tP t21 [t23,(.bool true)] H λt24 H=>
 zae false 1 t4 H λt25=>
 zaf 2 t7 λt26=>
 zae false 1 t26 H λt27=>
 aCallV tP t25 [t27,(.bool true)] H λt28 H=>
 zae false 1 t5 H λt29=>
 zaf 6 t7 λt30=>
 zae false 1 t30 H λt31=>
 aCallV tP t29 [t31] H λt32 H=>
 aUn .not t32 λt33=>
 zag t33
 (K (.bool false) H)
 (zae false 1 t4 H λt34=>
 zaf 1 t7 λt35=>
 zae false 1 t35 H λt36=>
 aCallV tP t34 [t36,(.bool false)] H λt37 H=>
 zae false 1 t4 H λt38=>
 zaf 2 t7 λt39=>
 zae false 1 t39 H λt40=>
 aCallV tP t38 [t40,(.bool false)] H λt41 H=>
 zac .add false t17 (.int .i64 1) λt42=>
 Kb6 (zqj t4 t5 t15 t16 t42) H))
 (K (.bool true) H)
def zxO(t0:AV)(H:zaa)(K:Kt):Prop:=
 zas t0 H λt1 H=>
 zaf 2 t1 λt8=>
 zae false 1 t8 H λt9=>
 zah 1 t9 λt10=>
 zba 1 [(.bool false)] t10 t10 H λt11 H=>
 zaw [.snil] H λt3 H=>
 zak 1 t3 t11 H λH=>
 zbV zDx [t3] λt12=>
 zaw [.nilfn] H λt4 H=>
 zak 1 t4 t12 H λH=>
 zaw [.nilfn] H λt5 H=>
 zbV zDy [t1,t3,t4,t5] λt13=>
 zak 1 t5 t13 H λH=>
 zaf 1 t1 λt14=>
 zae false 1 t14 H λt15=>
 zah 1 t15 λt16=>
 zxQ t4 t5 t15 t16 (.int .i64 0) H K
theorem zH2{t4 t5 t15 t16 t17:AV}{H:zaa}{K:Kt}(Inv:Nat→AV→zaa→Prop)(n:Nat)(h0:HSc H→Inv n t17 H)(round:Rd1 (λt17=>zqj t4 t5 t15 t16 t17) (λt17=>λH Kb6=>zxP t4 t5 t15 t16 t17 H K Kb6) H Inv):zxQ t4 t5 t15 t16 t17 H K:=
 lp1 (M:=zkP) zH3 t17 (by kernel_rfl) Inv n h0 round
theorem zH4{t0:AV}{H:zaa}{K:Kt}(h:HSc H→zxO t0 H K):ACalls tP zok [t0] H K:=
 zap (M:=zkP) Tryz.func136 (c:=zqi) (by kernel_rfl) (λhs=>Eq.mpr (by kernel_rfl) (h hs))
def zfJ:Nat→List Bool
 |3=>rl false [1,1,1,1,12,3,30]
 |9=>rl false [3,1,24,3,18]
 |_=>[]
noncomputable def zh6:Code:=Tryz.f137.body.getD .skip
noncomputable def zxW:List ResultVar:=Tryz.f137.results.toList
def zqk(t1 t3 t16 t17 t18:AV):List AV:=ux 1 (t1::ux 1 (t3::ux 12 (t16::t17::t18::ux 30 [])))
def zIc:List Bool:=zfJ 3
noncomputable def zH8:Code:=zat [1,1,0,1,0,0] zh6
def zH6(K:Kt):AExit→List AV→zaa→Prop:=zau tP zfJ [1,1,0,1,0] zh6 (zaz tP zxW K)
def zxU(t1 t3 t16 t17 t18:AV)(H:zaa)(K:Kt):Prop:=ALoop tP zH8 (zH6 K) (zqk t1 t3 t16 t17 t18) H
def zql(t3 t28 t29 t30:AV):List AV:=ux 3 (t3::ux 24 (t28::t29::t30::ux 18 []))
def zId:List Bool:=zfJ 9
noncomputable def zH9:Code:=zat [1,1,1,0,1,0,0] zh6
def zH7(K:Kt):AExit→List AV→zaa→Prop:=zau tP zfJ [1,1,1,0,1,0] zh6 (zaz tP zxW K)
def zxV(t3 t28 t29 t30:AV)(H:zaa)(K:Kt):Prop:=ALoop tP zH9 (zH7 K) (zql t3 t28 t29 t30) H
def zxT(t3 t28 t29 t30:AV)(H:zaa)(K:Kt)(Kb9:Lt):Prop:=
 zac .lss false t30 t29 λt31=>
 zag t31
 (zai 7 t28 t30 λt33=>
 zae true 7 t33 H λt34=>
 zaw [(.str []),.snil,.snil,(.int .i64 0),(.int .i64 0),.snil,(.int .i64 0)] H λt7 H=>
 zak 7 t7 t34 H λH=>
 zaf 0 t7 λt35=>
 zae false 1 t35 H λt36=>
 zac .eql false t36 (.str []) λt37=>
 zad t37 true H (λK'=>K' t3 H) λt39 H=>
 zad t37 true H (λK'=>zaI t39 (K' · H)) λt40 H=>
 zad t37 true H (λK'=>zaf 4 t40 (K' · H)) λt41 H=>
 zad t37 true H (λK'=>zae false 1 t41 H (K' · H)) λt42 H=>
 zad t37 true H (λK'=>K' t30 H) λt43 H=>
 zad t37 true H (λK'=>zai 1 t42 t43 (K' · H)) λt44 H=>
 zad t37 true H (λK'=>zae false 1 t44 H (K' · H)) λt45 H=>
 zad t37 true H (λK'=>zac .neq false t45 (.int .i64 1) (K' · H)) λt46 H=>
 zao t37 t46 (.bool false) λt47=>
 zag t47
 (K (.bool false) H)
 (zac .add false t30 (.int .i64 1) λt48=>
 Kb9 (zql t3 t28 t29 t48) H))
 (K (.bool true) H)
def zxS(t1 t3 t16 t17 t18:AV)(H:zaa)(K:Kt)(Kb3:Lt):Prop:=
 zac .lss false t18 t17 λt19=>
 zag t19
 (zai 8 t16 t18 λt20=>
 zae true 8 t20 H λt21=>
 zaw [(.int .i64 0),(.int .i64 0),.snil,.snil,.snil,(.int .i64 0),(.int .i64 0),.snil] H λt5 H=>
 zak 8 t5 t21 H λH=>
 zae true 8 t5 H λt23=>
 ACalls tP zDz [t3,t23] H λt24 H=>
 aUn .not t24 λt25=>
 zag t25
 (K (.bool false) H)
 (zac .add false t18 (.int .i64 1) λt26=>
 Kb3 (zqk t1 t3 t16 t17 t26) H))
 (zaf 1 t1 λt27=>
 zae false 1 t27 H λt28=>
 zah 1 t28 λt29=>
 zxV t3 t28 t29 (.int .i64 0) H K)
def zxR(t0:AV)(H:zaa)(K:Kt):Prop:=
 zas t0 H λt1 H=>
 zab H (λK'=>zam true 4 t1 H (K' · H)) λt8=>
 zab H (λK'=>zaf 1 t1 (K' · H)) λt9=>
 zab H (λK'=>zam false 1 t9 H (K' · H)) λt10=>
 zab H (λK'=>zah 1 t10 (K' · H)) λt11=>
 zba 8 [(.int .i64 0)] t11 t11 H λt12 H=>
 zab H (λK'=>zaq [.snil,.snil,.snil,.snil,.snil] [(0,4),(4,1)] [(0,t8),(1,t12)] (K' · H)) λt13=>
 zas t13 H λt14 H=>
 zab H (λK'=>K' t14 H) λt3=>
 zaf 3 t1 λt15=>
 zae false 1 t15 H λt16=>
 zah 1 t16 λt17=>
 zxU t1 t3 t16 t17 (.int .i64 0) H K
theorem zIb{t3 t28 t29 t30:AV}{H:zaa}{K:Kt}(Inv:Nat→AV→zaa→Prop)(n:Nat)(h0:HSc H→Inv n t30 H)(round:Rd1 (λt30=>zql t3 t28 t29 t30) (λt30=>λH Kb9=>zxT t3 t28 t29 t30 H K Kb9) H Inv):zxV t3 t28 t29 t30 H K:=
 lp1 (M:=zfJ) zId t30 (by kernel_rfl) Inv n h0 round
theorem zIa{t1 t3 t16 t17 t18:AV}{H:zaa}{K:Kt}(Inv:Nat→AV→zaa→Prop)(n:Nat)(h0:HSc H→Inv n t18 H)(round:Rd1 (λt18=>zqk t1 t3 t16 t17 t18) (λt18=>λH Kb3=>zxS t1 t3 t16 t17 t18 H K Kb3) H Inv):zxU t1 t3 t16 t17 t18 H K:=
 lp1 (M:=zfJ) zIc t18 (by kernel_rfl) Inv n h0 round
theorem zIe{t0:AV}{H:zaa}{K:Kt}(h:HSc H→zxR t0 H K):ACalls tP zol [t0] H K:=
 zap (M:=zfJ) Tryz.func137 (c:=zh6) (by kernel_rfl) (λhs=>Eq.mpr (by kernel_rfl) (h hs))
end Go.Proofs.YtaifokkaaahdoaaGreatDoor

namespace Go.Proofs.YtaifokkaaahdoaaGreatDoor
open Go Go.Abs
set_option maxRecDepth 100000
def zKw(_:Nat):List Bool:=[]
noncomputable def zKx:Code:=Tryz.f22.body.getD .skip
def zyI(t0 t1 t2:AV)(H:zaa)(K:Kt):Prop:=
 zas t1 H λt4 H=>
 zas t2 H λt5 H=>
 zaw [(.int .i64 0)] H λt7 H=>
 zak 1 t7 (.int .i64 5000) H λH=>
 zae true 3 t5 H λt9=>
 ACalls tP zjF [t0,t9] H λt10 H=>
 zad t10 true H (λK'=>zae true 3 t4 H (K' · H)) λt12 H=>
 zad t10 true H (λK'=>ACalls tP zjG [t12,t7] H K') λt13 H=>
 zao t10 t13 (.bool false) λt14=>
 zad t14 true H (λK'=>K' t0 H) λt16 H=>
 zad t14 true H (λK'=>zae true 3 t4 H (K' · H)) λt17 H=>
 zad t14 true H (λK'=>zae true 3 t5 H (K' · H)) λt18 H=>
 zad t14 true H (λK'=>ACalls tP zhE [t16,t17,t18] H K') λt19 H=>
 zao t14 t19 (.bool false) λt20=>
 K t20 H
theorem zKy{t0 t1 t2:AV}{H:zaa}{K:Kt}(h:HSc H→zyI t0 t1 t2 H K):ACalls tP zow [t0,t1,t2] H K:=
 zap (M:=zKw) Tryz.func22 (c:=zKx) (by kernel_rfl) (λhs=>Eq.mpr (by kernel_rfl) (h hs))
def zNE(_:Nat):List Bool:=[]
noncomputable def zNF:Code:=Tryz.f59.body.getD .skip
def zzR(t0 t1:AV)(H:zaa)(K:Kt):Prop:=
 zas t1 H λt3 H=>
 zaq [.snil,.snil,.snil,.snil] [(0,1),(1,1),(2,1),(3,1)] [(0,t0)] λt6=>
 ACalls tP zoR [t6] H λt7 H=>
 zad t7 true H (λK'=>K' t0 H) λt9 H=>
 zad t7 true H (λK'=>zae true 3 t3 H (K' · H)) λt10 H=>
 zad t7 true H (λK'=>ACalls tP zfB [t9,t10,(.int .i64 0)] H K') λt11 H=>
 zao t7 t11 (.bool false) λt12=>
 K t12 H
theorem zNG{t0 t1:AV}{H:zaa}{K:Kt}(h:HSc H→zzR t0 t1 H K):ACalls tP zjF [t0,t1] H K:=
 zap (M:=zNE) Tryz.func59 (c:=zNF) (by kernel_rfl) (λhs=>Eq.mpr (by kernel_rfl) (h hs))
def zNH(_:Nat):List Bool:=[]
noncomputable def zNI:Code:=Tryz.f60.body.getD .skip
def zzT(t0 t1:AV)(H:zaa)(K:Kt):Prop:=
 zas t0 H λt2 H=>
 zas t1 H λt3 H=>
 zae false 1 t3 H λt5=>
 zaI t5 λt6=>
 zae false 1 t6 H λt7=>
 zac .sub false t7 (.int .i64 1) λt8=>
 zaI t5 λt9=>
 zak 1 t9 t8 H λH=>
 zae false 1 t3 H λt10=>
 zaI t10 λt11=>
 zae false 1 t11 H λt12=>
 zac .lss false t12 (.int .i64 0) λt13=>
 zag t13
 (K (.bool false) H)
 (zaf 2 t2 λt14=>
 zae false 1 t14 H λt15=>
 zbV zoS [t3] λt16=>
 ACalls tP zjQ [t15,t16] H λt17 H=>
 aUn .not t17 λt18=>
 K t18 H)
theorem zNJ{t0 t1:AV}{H:zaa}{K:Kt}(h:HSc H→zzT t0 t1 H K):ACalls tP zjG [t0,t1] H K:=
 zap (M:=zNH) Tryz.func60 (c:=zNI) (by kernel_rfl) (λhs=>Eq.mpr (by kernel_rfl) (h hs))
def zQp(_:Nat):List Bool:=[]
noncomputable def zQq:Code:=Tryz.f99.body.getD .skip
def zAU(t0 t1:AV)(H:zaa)(K:Kt):Prop:=
 zas t0 H λt2 H=>
 zae true 3 t2 H λt4=>
 zae false 1 t1 H λt5=>
 ACalls tP zjG [t4,t5] H λt6 H=>
 aUn .not t6 λt7=>
 K t7 H
theorem zQr{t0 t1:AV}{H:zaa}{K:Kt}(h:HSc H→zAU t0 t1 H K):ACalls tP zoS [t0,t1] H K:=
 zap (M:=zQp) Tryz.func99 (c:=zQq) (by kernel_rfl) (λhs=>Eq.mpr (by kernel_rfl) (h hs))
def zQm(_:Nat):List Bool:=[]
noncomputable def zQn:Code:=Tryz.f98.body.getD .skip
def zAT(t0 t1:AV)(H:zaa)(K:Kt):Prop:=
 ACalls tP zom [t0,t1] H λt7 H=>
 zac .geq false t7 (.int .i64 0) λt8=>
 K t8 H
theorem zQo{t0 t1:AV}{H:zaa}{K:Kt}(h:HSc H→zAT t0 t1 H K):ACalls tP zjQ [t0,t1] H K:=
 zap (M:=zQm) Tryz.func98 (c:=zQn) (by kernel_rfl) (λhs=>Eq.mpr (by kernel_rfl) (h hs))
def zkV:Nat→List Bool
 |2=>rl false [0,2,5,2,10]
 |_=>[]
noncomputable def zqp:Code:=Tryz.f139.body.getD .skip
noncomputable def zIs:List ResultVar:=Tryz.f139.results.toList
def zkW(t0 t1 t7 t8:AV):List AV:=t0::t1::ux 5 (t7::t8::ux 10 [])
def zIq:List Bool:=zkV 2
noncomputable def zIo:Code:=zat [1,0,1,0,0] zqp
def zIn(K:Kt):AExit→List AV→zaa→Prop:=zau tP zkV [1,0,1,0] zqp (zaz tP zIs K)
def zx2(t0 t1 t7 t8:AV)(H:zaa)(K:Kt):Prop:=ALoop tP zIo (zIn K) (zkW t0 t1 t7 t8) H
def zqo(t0 t1 t7 t8:AV)(H:zaa)(K:Kt)(Kb2:Lt):Prop:=
 zac .lss false t8 t7 λt9=>
 zag t9
 (zai 3 t0 t8 λt14=>
 zae true 3 t14 H λt15=>
 aCallV tP t1 [t15] H λt16 H=>
 zag t16
 (K t8 H)
 (zac .add false t8 (.int .i64 1) λt18=>
 Kb2 (zkW t0 t1 t7 t18) H))
 (K (.int .i64 (-1)) H)
def zx1(t0 t1:AV)(H:zaa)(K:Kt):Prop:=
 zah 1 t0 λt7=>
 zx2 t0 t1 t7 (.int .i64 0) H K
theorem zIp{t0 t1 t7 t8:AV}{H:zaa}{K:Kt}(Inv:Nat→AV→zaa→Prop)(n:Nat)(h0:HSc H→Inv n t8 H)(round:Rd1 (λt8=>zkW t0 t1 t7 t8) (λt8=>λH Kb2=>zqo t0 t1 t7 t8 H K Kb2) H Inv):zx2 t0 t1 t7 t8 H K:=
 lp1 (M:=zkV) zIq t8 (by kernel_rfl) Inv n h0 round
theorem zIr{t0 t1:AV}{H:zaa}{K:Kt}(h:HSc H→zx1 t0 t1 H K):ACalls tP zom [t0,t1] H K:=
 zap (M:=zkV) Tryz.func139 (c:=zqp) (by kernel_rfl) (λhs=>Eq.mpr (by kernel_rfl) (h hs))
def zNL(_:Nat):List Bool:=[]
noncomputable def zNM:Code:=Tryz.f61.body.getD .skip
def zex(t0 t1 t2:AV)(H:zaa)(K:Kt):Prop:=
 zas t0 H λt3 H=>
 zas t1 H λt4 H=>
 zas t2 H λt5 H=>
 zaf 0 t5 λt9=>
 zae false 1 t9 H λt10=>
 zac .eql false t10 (.int .i64 1) λt12=>
 zag t12
 (zaf 0 t4 λt13=>
 zae false 1 t13 H λt14=>
 zac .eql false t14 (.int .i64 3) λt15=>
 zad t15 true H (λK'=>zaf 1 t4 (K' · H)) λt17 H=>
 zad t15 true H (λK'=>zae false 1 t17 H (K' · H)) λt18 H=>
 zad t15 true H (λK'=>zac .leq false (.int .i64 (-1099511627776)) t18 (K' · H)) λt19 H=>
 zao t15 t19 (.bool false) λt20=>
 zad t20 true H (λK'=>zaf 1 t4 (K' · H)) λt22 H=>
 zad t20 true H (λK'=>zae false 1 t22 H (K' · H)) λt23 H=>
 zad t20 true H (λK'=>zac .leq false t23 (.int .i64 1099511627776) (K' · H)) λt24 H=>
 zao t20 t24 (.bool false) λt25=>
 zad t25 true H (λK'=>zaf 2 t4 (K' · H)) λt27 H=>
 zad t25 true H (λK'=>zae false 1 t27 H (K' · H)) λt28 H=>
 zad t25 true H (λK'=>zah 1 t28 (K' · H)) λt29 H=>
 zad t25 true H (λK'=>zac .eql false t29 (.int .i64 0) (K' · H)) λt30 H=>
 zao t25 t30 (.bool false) λt31=>
 K t31 H)
 (zac .eql false t10 (.int .i64 2) λt33=>
 zag t33
 (zaf 0 t4 λt34=>
 zae false 1 t34 H λt35=>
 zac .eql false t35 (.int .i64 2) λt36=>
 zad t36 true H (λK'=>zaf 1 t4 (K' · H)) λt38 H=>
 zad t36 true H (λK'=>zae false 1 t38 H (K' · H)) λt39 H=>
 zad t36 true H (λK'=>zac .eql false t39 (.int .i64 0) (K' · H)) λt40 H=>
 zad t36 true H (λK'=>K' t40 H) λt41 H=>
 zad t41 false H (λK'=>zaf 1 t4 (K' · H)) λt42 H=>
 zad t41 false H (λK'=>zae false 1 t42 H (K' · H)) λt43 H=>
 zad t41 false H (λK'=>zac .eql false t43 (.int .i64 1) (K' · H)) λt44 H=>
 zad t36 true H (λK'=>zao t41 (.bool true) t44 (K' · H)) λt45 H=>
 zao t36 t45 (.bool false) λt46=>
 zad t46 true H (λK'=>zaf 2 t4 (K' · H)) λt48 H=>
 zad t46 true H (λK'=>zae false 1 t48 H (K' · H)) λt49 H=>
 zad t46 true H (λK'=>zah 1 t49 (K' · H)) λt50 H=>
 zad t46 true H (λK'=>zac .eql false t50 (.int .i64 0) (K' · H)) λt51 H=>
 zao t46 t51 (.bool false) λt52=>
 K t52 H)
 (zac .eql false t10 (.int .i64 3) λt54=>
 zag t54
 (zaf 0 t4 λt55=>
 zae false 1 t55 H λt56=>
 zac .eql false t56 (.int .i64 1) λt57=>
 zad t57 true H (λK'=>zaf 1 t4 (K' · H)) λt59 H=>
 zad t57 true H (λK'=>zae false 1 t59 H (K' · H)) λt60 H=>
 zad t57 true H (λK'=>zac .eql false t60 (.int .i64 0) (K' · H)) λt61 H=>
 zao t57 t61 (.bool false) λt62=>
 zad t62 true H (λK'=>zaf 2 t4 (K' · H)) λt64 H=>
 zad t62 true H (λK'=>zae false 1 t64 H (K' · H)) λt65 H=>
 zad t62 true H (λK'=>zah 1 t65 (K' · H)) λt66 H=>
 zad t62 true H (λK'=>zac .eql false t66 (.int .i64 0) (K' · H)) λt67 H=>
 zao t62 t67 (.bool false) λt68=>
 K t68 H)
 (zac .eql false t10 (.int .i64 6) λt70=>
 zag t70
 (zaf 0 t4 λt71=>
 zae false 1 t71 H λt72=>
 zac .eql false t72 (.int .i64 4) λt73=>
 zad t73 true H (λK'=>zaf 1 t4 (K' · H)) λt75 H=>
 zad t73 true H (λK'=>zae false 1 t75 H (K' · H)) λt76 H=>
 zad t73 true H (λK'=>zac .eql false t76 (.int .i64 0) (K' · H)) λt77 H=>
 zao t73 t77 (.bool false) λt78=>
 zad t78 true H (λK'=>zae false 1 t3 H (K' · H)) λt80 H=>
 zad t78 true H (λK'=>zaf 2 t4 (K' · H)) λt81 H=>
 zad t78 true H (λK'=>zae false 1 t81 H (K' · H)) λt82 H=>
 zad t78 true H (λK'=>zaf 2 t5 (K' · H)) λt83 H=>
 zad t78 true H (λK'=>zae false 1 t83 H (K' · H)) λt84 H=>
 zad t78 true H (λK'=>ACalls tP zhL [t80,t82,t84] H K') λt85 H=>
 zao t78 t85 (.bool false) λt86=>
 K t86 H)
 (zac .eql false t10 (.int .i64 5) λt88=>
 zag t88
 (zaf 0 t4 λt89=>
 zae false 1 t89 H λt90=>
 zac .neq false t90 (.int .i64 5) λt91=>
 zad t91 false H (λK'=>zaf 1 t4 (K' · H)) λt93 H=>
 zad t91 false H (λK'=>zae false 1 t93 H (K' · H)) λt94 H=>
 zad t91 false H (λK'=>zac .lss false t94 (.int .i64 0) (K' · H)) λt95 H=>
 zao t91 (.bool true) t95 λt96=>
 zad t96 false H (λK'=>zaf 1 t4 (K' · H)) λt98 H=>
 zad t96 false H (λK'=>zae false 1 t98 H (K' · H)) λt99 H=>
 zad t96 false H (λK'=>zac .geq false t99 (.int .i64 8) (K' · H)) λt100 H=>
 zao t96 (.bool true) t100 λt101=>
 zag t101
 (K (.bool false) H)
 (zae false 1 t3 H λt103=>
 zae true 3 t5 H λt104=>
 zaf 1 t4 λt105=>
 zae false 1 t105 H λt106=>
 ACalls tP zjR [t103,t104,t106] H λt107 H=>
 zaG t107 0 λt108=>
 zaG t107 1 λt109=>
 zad t109 true H (λK'=>zae false 1 t3 H (K' · H)) λt112 H=>
 zad t109 true H (λK'=>zaf 2 t4 (K' · H)) λt113 H=>
 zad t109 true H (λK'=>zae false 1 t113 H (K' · H)) λt114 H=>
 zad t109 true H (λK'=>K' t108 H) λt115 H=>
 zad t109 true H (λK'=>ACalls tP zhL [t112,t114,t115] H K') λt116 H=>
 zao t109 t116 (.bool false) λt117=>
 K t117 H))
 (zac .eql false t10 (.int .i64 7) λt119=>
 zag t119
 (zaf 0 t4 λt120=>
 zae false 1 t120 H λt121=>
 zac .eql false t121 (.int .i64 6) λt122=>
 zad t122 true H (λK'=>zaf 1 t4 (K' · H)) λt124 H=>
 zad t122 true H (λK'=>zae false 1 t124 H (K' · H)) λt125 H=>
 zad t122 true H (λK'=>zac .eql false t125 (.int .i64 0) (K' · H)) λt126 H=>
 zao t122 t126 (.bool false) λt127=>
 zad t127 true H (λK'=>zaf 2 t4 (K' · H)) λt129 H=>
 zad t127 true H (λK'=>zae false 1 t129 H (K' · H)) λt130 H=>
 zad t127 true H (λK'=>zah 1 t130 (K' · H)) λt131 H=>
 zad t127 true H (λK'=>zac .leq false t131 (.int .i64 4096) (K' · H)) λt132 H=>
 zao t127 t132 (.bool false) λt133=>
 zad t133 true H (λK'=>zaf 2 t4 (K' · H)) λt135 H=>
 zad t133 true H (λK'=>zae false 1 t135 H (K' · H)) λt136 H=>
 zad t133 true H (λK'=>zbV zoa [t3,t5] (K' · H)) λt137 H=>
 zad t133 true H (λK'=>ACalls tP zjQ [t136,t137] H K') λt138 H=>
 zad t133 true H (λK'=>aUn .not t138 (K' · H)) λt139 H=>
 zao t133 t139 (.bool false) λt140=>
 K t140 H)
 (zac .eql false t10 (.int .i64 8) λt142=>
 zag t142
 (zaf 0 t4 λt143=>
 zae false 1 t143 H λt144=>
 zac .eql false t144 (.int .i64 7) λt145=>
 zad t145 true H (λK'=>zaf 1 t4 (K' · H)) λt147 H=>
 zad t145 true H (λK'=>zae false 1 t147 H (K' · H)) λt148 H=>
 zad t145 true H (λK'=>zac .eql false t148 (.int .i64 0) (K' · H)) λt149 H=>
 zao t145 t149 (.bool false) λt150=>
 zad t150 true H (λK'=>zae false 1 t3 H (K' · H)) λt152 H=>
 zad t150 true H (λK'=>zaf 2 t4 (K' · H)) λt153 H=>
 zad t150 true H (λK'=>zae false 1 t153 H (K' · H)) λt154 H=>
 zad t150 true H (λK'=>zaf 2 t5 (K' · H)) λt155 H=>
 zad t150 true H (λK'=>zae false 1 t155 H (K' · H)) λt156 H=>
 zad t150 true H (λK'=>ACalls tP zhL [t152,t154,t156] H K') λt157 H=>
 zao t150 t157 (.bool false) λt158=>
 K t158 H)
 (zac .eql false t10 (.int .i64 9) λt160=>
 zag t160
 (zaf 0 t4 λt161=>
 zae false 1 t161 H λt162=>
 zac .eql false t162 (.int .i64 8) λt163=>
 zad t163 true H (λK'=>zaf 1 t4 (K' · H)) λt165 H=>
 zad t163 true H (λK'=>zae false 1 t165 H (K' · H)) λt166 H=>
 zad t163 true H (λK'=>zac .leq false (.int .i64 0) t166 (K' · H)) λt167 H=>
 zao t163 t167 (.bool false) λt168=>
 zad t168 true H (λK'=>zaf 1 t4 (K' · H)) λt170 H=>
 zad t168 true H (λK'=>zae false 1 t170 H (K' · H)) λt171 H=>
 zad t168 true H (λK'=>zac .lss false t171 (.int .i64 64) (K' · H)) λt172 H=>
 zao t168 t172 (.bool false) λt173=>
 zad t173 true H (λK'=>zaf 2 t4 (K' · H)) λt175 H=>
 zad t173 true H (λK'=>zae false 1 t175 H (K' · H)) λt176 H=>
 zad t173 true H (λK'=>zah 1 t176 (K' · H)) λt177 H=>
 zad t173 true H (λK'=>zac .eql false t177 (.int .i64 0) (K' · H)) λt178 H=>
 zao t173 t178 (.bool false) λt179=>
 K t179 H)
 (K (.bool false) H))))))))
theorem zNN{t0 t1 t2:AV}{H:zaa}{K:Kt}(h:HSc H→zex t0 t1 t2 H K):ACalls tP zhE [t0,t1,t2] H K:=
 zap (M:=zNL) Tryz.func61 (c:=zNM) (by kernel_rfl) (λhs=>Eq.mpr (by kernel_rfl) (h hs))
def zQs(_:Nat):List Bool:=[]
noncomputable def zQt:Code:=Tryz.f100.body.getD .skip
def zAV(t0 t1 t2:AV)(H:zaa)(K:Kt):Prop:=
 zas t0 H λt3 H=>
 zbV zoo [t3] λt9=>
 ACalls tP zon [t1,t2,t9] H λt10 H=>
 K t10 H
theorem zQu{t0 t1 t2:AV}{H:zaa}{K:Kt}(h:HSc H→zAV t0 t1 t2 H K):ACalls tP zhL [t0,t1,t2] H K:=
 zap (M:=zQs) Tryz.func100 (c:=zQt) (by kernel_rfl) (λhs=>Eq.mpr (by kernel_rfl) (h hs))
def zGa(_:Nat):List Bool:=[]
noncomputable def zGb:Code:=Tryz.f102.body.getD .skip
def zw4(t0 t1 t2:AV)(H:zaa)(K:Kt):Prop:=
 zas t0 H λt3 H=>
 zab H (λK'=>zam false 1 t1 H (K' · H)) λt5=>
 zab H (λK'=>zam true 3 t3 H (K' · H)) λt6=>
 zab H (λK'=>zaf 2 t2 (K' · H)) λt7=>
 zab H (λK'=>zam false 1 t7 H (K' · H)) λt8=>
 zab H (λK'=>zai 3 t8 (.int .i64 0) (K' · H)) λt9=>
 zab H (λK'=>zam true 3 t9 H (K' · H)) λt10=>
 zaA H (λH K'=>ACalls tP zhE [t5,t6,t10] H K') λt11=>
 zab H (λK'=>aUn .not t11 (K' · H)) λt12=>
 zab H (λK'=>K' t12 H) λt4=>
 K t4 H
theorem zGc{t0 t1 t2:AV}{H:zaa}{K:Kt}(h:HSc H→zw4 t0 t1 t2 H K):ACalls tP zoa [t0,t1,t2] H K:=
 zap (M:=zGa) Tryz.func102 (c:=zGb) (by kernel_rfl) (λhs=>Eq.mpr (by kernel_rfl) (h hs))
def zkX:Nat→List Bool
 |4=>rl false [1,2,12,3,14]
 |_=>[]
noncomputable def zqs:Code:=Tryz.f140.body.getD .skip
noncomputable def zIy:List ResultVar:=Tryz.f140.results.toList
def zkY(t1 t2 t15 t16 t17:AV):List AV:=ux 1 (t1::t2::ux 12 (t15::t16::t17::ux 14 []))
def zIw:List Bool:=zkX 4
noncomputable def zIu:Code:=zat [1,1,0,1,0,0] zqs
def zIt(K:Kt):AExit→List AV→zaa→Prop:=zau tP zkX [1,1,0,1,0] zqs (zaz tP zIy K)
def zx3(t1 t2 t15 t16 t17:AV)(H:zaa)(K:Kt):Prop:=ALoop tP zIu (zIt K) (zkY t1 t2 t15 t16 t17) H
def zqr(t1 t2 t15 t16 t17:AV)(H:zaa)(K:Kt)(Kb4:Lt):Prop:=
 zac .lss false t17 t16 λt18=>
 zag t18
 (zai 3 t15 t17 λt20=>
 zae true 3 t20 H λt21=>
 zaw [(.int .i64 0),(.int .i64 0),.snil] H λt8 H=>
 zak 3 t8 t21 H λH=>
 zai 3 t1 t17 λt24=>
 zae true 3 t24 H λt25=>
 zaw [(.int .i64 0),(.int .i64 0),.snil] H λt9 H=>
 zak 3 t9 t25 H λH=>
 zae true 3 t8 H λt27=>
 zae true 3 t9 H λt28=>
 aCallV tP t2 [t27,t28] H λt29 H=>
 aUn .not t29 λt30=>
 zag t30
 (K (.bool false) H)
 (zac .add false t17 (.int .i64 1) λt31=>
 Kb4 (zkY t1 t2 t15 t16 t31) H))
 (K (.bool true) H)
def zqq(t0 t1 t2:AV)(H:zaa)(K:Kt):Prop:=
 zah 1 t0 λt11=>
 zah 1 t1 λt13=>
 zac .neq false t11 t13 λt14=>
 zag t14
 (K (.bool false) H)
 (zah 1 t0 λt16=>
 zx3 t1 t2 t0 t16 (.int .i64 0) H K)
theorem zIv{t1 t2 t15 t16 t17:AV}{H:zaa}{K:Kt}(Inv:Nat→AV→zaa→Prop)(n:Nat)(h0:HSc H→Inv n t17 H)(round:Rd1 (λt17=>zkY t1 t2 t15 t16 t17) (λt17=>λH Kb4=>zqr t1 t2 t15 t16 t17 H K Kb4) H Inv):zx3 t1 t2 t15 t16 t17 H K:=
 lp1 (M:=zkX) zIw t17 (by kernel_rfl) Inv n h0 round
theorem zIx{t0 t1 t2:AV}{H:zaa}{K:Kt}(h:HSc H→zqq t0 t1 t2 H K):ACalls tP zon [t0,t1,t2] H K:=
 zap (M:=zkX) Tryz.func140 (c:=zqs) (by kernel_rfl) (λhs=>Eq.mpr (by kernel_rfl) (h hs))
def zIz(_:Nat):List Bool:=[]
noncomputable def zIA:Code:=Tryz.f141.body.getD .skip
def zx4(t0 t1 t2:AV)(H:zaa)(K:Kt):Prop:=
 zas t0 H λt3 H=>
 zas t1 H λt4 H=>
 zae false 1 t2 H λt6=>
 zae true 3 t3 H λt7=>
 zae true 3 t4 H λt8=>
 ACalls tP zhE [t6,t7,t8] H λt9 H=>
 K t9 H
theorem zIB{t0 t1 t2:AV}{H:zaa}{K:Kt}(h:HSc H→zx4 t0 t1 t2 H K):ACalls tP zoo [t0,t1,t2] H K:=
 zap (M:=zIz) Tryz.func141 (c:=zIA) (by kernel_rfl) (λhs=>Eq.mpr (by kernel_rfl) (h hs))
end Go.Proofs.YtaifokkaaahdoaaGreatDoor

import Derived.Test.YtdmamdnkcefmmaaGreatDoorKY11
import Derived.Test.YtdmamdnkcefmmaaGreatDoorVT
import Derived.Test.YtdmamdnkcefmmaaGreatDoorKNum
import Derived.Test.YtdmamdnkcefmmaaGreatDoorProg
import Derived.KernelRfl
import Derived.Test.YtdmamdnkcefmmaaGreatDoorAbsQ1
set_option linter.unusedSimpArgs false
set_option linter.unusedVariables false
set_option maxRecDepth 8000
namespace Go.Proofs.YtdmamdnkcefmmaaGreatDoor
open Go Go.Abs
def zgN (i:Nat):VT→Bool
 | .mk k n ks=>k == 4 && n == i && ks.length == 0
def zcC:List VT→Nat→Bool
 | [],_=>true
 | x::l,i=>zgN i x && zcC l (i+1)
def zbU (d vars:Int):VT→Bool
 | .mk k n ks=>k == 5 && n == d && (ks.length:Int) == vars && zcC ks 0
mutual
def zck (d:Int):VT→Bool
 | .mk k n ks=>(k == 5 && n == d) || zez d ks
def zez (d:Int):List VT→Bool
 | []=>false
 | t::ts=>zck d t || zez d ts
end
theorem ztf (v:VT) (d vars:Int) (hb:v.nodes≤1000000) (H:zaa) (K:AV→zaa→Prop) (hK:K (.bool (zbU d vars v)) H):ACalls tP zi4 [.agg v.cs,.int .i64 d,.int .i64 vars] H K:=by
 refine ACalls.out (zR7 fun hs=>?_)
 obtain⟨k,n,ks⟩:=v
 have hnl:VT.nodesL ks+1≤1000000:=by simpa[VT.nodes]using hb
 have hll:=VT.len_le ks
 have hO:∀ J,Out H.length K (.bool (k == 5 && n == d && (ks.length:Int) == vars && zcC ks 0)) (H++J):=fun J=>Out.bool rfl (Nat.le_refl _) hs (by simpa[zbU]using hK)
 simp only[VT.cs,zBr]
 cases h5:(k == 5) with
 | false=>
  have:(k != 5)=true:=by simp[bne,h5]
  rw[h5]at hO
  simp[this]
  exact hO _
 | true=>
 have h5':(k != 5)=false:=by simp[bne,h5]
 cases hn:(n == d) with
 | false=>
  have:(n != d)=true:=by simp[bne,hn]
  rw[h5,hn]at hO
  simp[h5',this]
  exact hO _
 | true=>
 have hn':(n != d)=false:=by simp[bne,hn]
 cases hv:((ks.length:Int) == vars) with
 | false=>
  have:((ks.length:Int) != vars)=true:=by simp[bne,hv]
  rw[h5,hn,hv]at hO
  simp[h5',hn',this]
  exact hO _
 | true=>
 have hv':((ks.length:Int) != vars)=false:=by simp[bne,hv]
 rw[h5,hn,hv]at hO
 simp only[Bool.true_and]at hO
 simp[h5',hn',hv']
 refine zR5 (Inv:=fun q t7 H'=>∃ i:Nat,i≤ks.length∧q=ks.length-i∧t7=.int .i64 i∧zcC (ks.drop i) i=zcC ks 0∧H'=H++[.cells [.int .i64 k,.int .i64 n,.sl (VT.css ks) .none]]) ks.length ?_ ?_
 ·intro _;exact⟨0,by omega,by omega,rfl,by simp,rfl⟩
 ·rintro q t7 H' ⟨i,hi,rfl,rfl,ho,rfl⟩ hsc hlen hsF Kb hKb
  by_cases hlt:i<ks.length
  ·rw[List.drop_eq_getElem_cons hlt,zcC]at ho
   obtain⟨k',n',ks',hx⟩:∃ k' n' ks',ks[i]=.mk k' n' ks':=by cases h:ks[i] with | mk a b c=>exact⟨a,b,c,rfl⟩
   rw[hx,zgN]at ho
   cases g1:(k' == 4) with
   | false=>
    have:(k' != 4)=true:=by simp[bne,g1]
    rw[g1]at ho
    simp only[Bool.false_and]at ho
    rw[←ho]at hO
    simp[zgk,hlt,hx,VT.cs,this]
    exact hO _
   | true=>
   have g1':(k' != 4)=false:=by simp[bne,g1]
   cases g2:(n' == (i:Int)) with
   | false=>
    have:(n' != (i:Int))=true:=by simp[bne,g2]
    rw[g1,g2]at ho
    simp only[Bool.false_and,Bool.and_false]at ho
    rw[←ho]at hO
    simp[zgk,hlt,hx,VT.cs,g1',this]
    exact hO _
   | true=>
   have g2':(n' != (i:Int))=false:=by simp[bne,g2]
   by_cases g3:ks'.length=0
   ·have g3':¬ (0:Int)<ks'.length:=by omega
    have g3'':¬ 0<ks'.length:=by omega
    rw[g1,g2,g3]at ho
    simp only[Bool.true_and,BEq.rfl]at ho
    simp[zgk,hlt,hx,VT.cs,g1',g2',g3',g3'']
    rw[zat (by omega) (by omega)]
    refine hKb _ _ ⟨ks.length-(i+1),by omega,Back.here (by simp) hsc ?_ ⟨_,rfl,i+1,by omega,rfl,by simp,ho,rfl⟩⟩
    simp[zmM,AV.sc,AV.scV,AV.scA,AV.scB]
   ·have g3':(0:Int)<ks'.length:=by omega
    have g3'':0<ks'.length:=by omega
    have g4:(ks'.length == 0)=false:=by simpa using g3
    rw[g4]at ho
    simp only[Bool.and_false,Bool.false_and]at ho
    rw[←ho]at hO
    simp[zgk,hlt,hx,VT.cs,g1',g2',g3',g3'']
    exact hO _
  ·obtain rfl:i=ks.length:=by omega
   rw[List.drop_length,zcC]at ho
   rw[←ho]at hO
   simp[zgk]
   exact hO _
theorem zCx:zd1 tP ziM=true:=by kernel_rfl
theorem zvd (d:Int):∀ l:List VT,zez d l=l.any (zck d)
 | []=>rfl
 | t::ts=>by simp[zez,zvd d ts]
theorem zNT (d:Int):∀ (m:Nat) (v:VT),v.nodes≤m→v.nodes≤1000000→∀ (H:zaa) (K:AV→zaa→Prop),K (.bool (zck d v)) H→ACalls tP ziL [.agg v.cs,.int .i64 d] H K:=by
 intro m
 induction m with
 | zero=>intro v h;have:=v.nodes_pos;omega
 | succ m ih=>
  intro v hv hb H K hK
  obtain⟨k,n,ks⟩:=v
  have hnl:VT.nodesL ks+1≤1000000:=by simpa[VT.nodes]using hb
  have hll:=VT.len_le ks
  refine ACalls.out (zNS fun hs=>?_)
  have hO:∀ J,Out H.length K (.bool ((k == 5 && n == d) || ks.any (zck d))) (H++J):=fun J=>Out.bool rfl (Nat.le_refl _) hs (by simpa[zck,zvd]using hK)
  have go:(k == 5 && n == d)=false→∀ KK:AV→zaa→Prop,(∀ b,Out H.length K (.bool b) (H++[.cells [.int .i64 k,.int .i64 n,.sl (VT.css ks) .none],.cells [.int .i64 d]])→KK (.bool b) (H++[.cells [.int .i64 k,.int .i64 n,.sl (VT.css ks) .none],.cells [.int .i64 d]])) →
    ACalls tP ze8 [.sl (VT.css ks) .none,.fn ziM [.ptr (H.length+1) 0]] (H++[.cells [.int .i64 k,.int .i64 n,.sl (VT.css ks) .none],.cells [.int .i64 d]]) KK:=by
   intro hno KK hKK
   rw[hno,Bool.false_or]at hO
   refine znq ks (by omega) _ _ _ (by simp[AV.sc,AV.scV,AV.scA,AV.scB]) (fun i H'=>(ks.drop i).any (zck d)=ks.any (zck d)∧H'=H++[.cells [.int .i64 k,.int .i64 n,.sl (VT.css ks) .none],.cells [.int .i64 d]]) ⟨by simp,rfl⟩ ?_ ?_
   ·rintro i hi H' hle ⟨ho,rfl⟩
    have hki:=VT.kid_lt (k:=k) (n:=n) hi
    rw[List.drop_eq_getElem_cons hi,List.any_cons]at ho
    simp only[aCallV,zCx,List.singleton_append]
    refine ACalls.out (zOk fun hs1=>?_)
    obtain⟨x1,x2,x3,hvx,hx1,hx2,hx3⟩:=zbt ks[i]
    simp[zz7,hvx]
    rw[←hvx]
    refine ih ks[i] (by omega) (by omega) _ _ ?_
    refine Out.bool (J:=[_]) (H2:=H++[.cells [.int .i64 k,.int .i64 n,.sl (VT.css ks) .none],.cells [.int .i64 d]]) (by simp;rfl) (by simp) hs1 ?_
    cases hb:zck d ks[i] with
    | false=>
     rw[hb,Bool.false_or]at ho
     exact .inl ⟨rfl,ho,rfl⟩
    | true=>
     rw[hb,Bool.true_or]at ho
     rw[←ho]at hO
     exact .inr ⟨rfl,hKK _ (hO _)⟩
   ·rintro H' ⟨ho,rfl⟩
    rw[List.drop_length,List.any_nil]at ho
    rw[←ho]at hO
    exact hKK _ (hO _)
  simp only[VT.cs,zz1]
  cases h5:(k == 5) with
  | false=>
   simp[h5,AV.isB]
   refine go (by rw[h5];rfl) _ fun b hb=>?_
   simpa using hb
  | true=>
   cases hn:(n == d) with
   | false=>
    simp[h5,hn,AV.isB]
    refine go (by rw[hn];simp) _ fun b hb=>?_
    simpa using hb
   | true=>
    rw[h5,hn]at hO
    simp[h5,hn]
    exact hO _
def zbu (l:List Bool):List AV:=l.map AV.bool
@[simp] theorem zVr (l:List Bool):(zbu l).length=l.length:=by simp[zbu]
theorem zCs (n:Nat):(List.replicate n [AV.bool false]).flatten=zbu (List.replicate n false):=by
 induction n with
 | zero=>rfl
 | succ n ih=>simp[List.replicate_succ,ih,zbu]
theorem zt2 {l:List Bool} {i:Nat} (h:i<l.length) (b:Bool):(zbu l).take i++.bool b::(zbu l).drop (i+1)=zbu (l.set i b):=by
 simp[zbu,List.set_eq_take_append_cons_drop,h]
theorem zt1 (m:Nat) (l:List Bool):(zbu l).all (AV.scA m)=true:=by simp[zbu]
theorem zvV:∀ l:List Bool,plain (zbu l)=some (l.map fun b=>[AV.bool b]).flatten
 | []=>rfl
 | b::l=>by
  have:=zvV l
  simp[zbu]at this ⊢
  simp[plain,this,AV.pd]
theorem zrb (data:List Dat) (d:Nat) (c:Nat) (hd:d<data.length) (hc:c<(data[d]).cons.length) (hl:data.length≤1000000) (hcl:(data[d]).cons.length≤1000000) (hal:((data[d]).cons[c]).args.length≤1000000)
  (hb:∀ x∈((data[d]).cons[c]).args,x.nodes≤1000000) (H:zaa) (K:AV→zaa→Prop)
  (hK:K (.sl (((data[d]).cons[c]).args.map fun t=>[.bool (zbU d (data[d]).vars t)]) .none) H) :
  ACalls tP ze7 [.sl (data.map Dat.cs) .none,.int .i64 d,.int .i64 c] H K:=by
 refine ACalls.out (zLk fun hs=>?_)
 have e1:(data.map Dat.cs)[d]?=some (data[d]).cs:=by simp[hd]
 have e2:((data[d]).cons.map Con.cs)[c]?=some ((data[d]).cons[c]).cs:=by simp[hc]
 generalize hD:data[d]=D at *
 generalize hA:D.cons[c]=C at *
 have h1:¬ (d:Int)<0:=by omega
 have h2:¬ (data.length:Int)≤d:=by omega
 have h3:¬ (c:Int)<0:=by omega
 have h4:¬ (D.cons.length:Int)≤c:=by omega
 simp[zzf,h1,h2,h3,h4,e1,e2,Dat.cs,Con.cs,hd,hD,hc,hA]
 simp only[zbh,Int.toNat_natCast,zCs]
 refine⟨⟨by omega,by omega,by omega,by omega⟩,?_⟩
 refine zLi (Inv:=fun q t49 H'=>∃ (i:Nat) (bs:List Bool),i≤C.args.length∧q=C.args.length-i∧t49=.int .i64 i∧bs.length=C.args.length∧(∀ j (hj:j<i) (h':j<C.args.length),bs[j]?=some (zbU d D.vars C.args[j]))∧H'=H++[.cells (zbu bs)]) C.args.length ?_ ?_
 ·intro _;exact⟨0,_,by omega,by omega,rfl,by simp,by omega,rfl⟩
 ·rintro q t49 H' ⟨i,bs,hi,rfl,rfl,hbl,hbs,rfl⟩ hsc hlen hsF Kb hKb
  by_cases hlt:i<C.args.length
  ·obtain⟨k,n,ks,hx⟩:∃ k n ks,C.args[i]=.mk k n ks:=by cases h:C.args[i] with | mk a b c=>exact⟨a,b,c,rfl⟩
   have hnb:=hb _ (List.getElem_mem hlt)
   rw[hx,VT.nodes]at hnb
   have hll:=VT.len_le ks
   have inner:∀ b0:Bool,b0=(k == 5 && n == (d:Int) && (ks.length:Int) == D.vars) →
     zra (.sl (data.map Dat.cs) .none) (.int .i64 d) (.ms H.length 0 C.args.length C.args.length) (.int .i64 i) (.sl (VT.css C.args) .none) (.int .i64 C.args.length) (.int .i64 i) (.sl (VT.css ks) .none) (.int .i64 ks.length) (.int .i64 0)
      (H++[.cells (zbu (bs.set i b0)),.cells [.int .i64 k,.int .i64 n,.sl (VT.css ks) .none]]) (Out H.length K) Kb:=by
    intro b0 hb0
    refine zLh (Inv:=fun q t80 H'=>∃ (j:Nat) (b:Bool),j≤ks.length∧q=ks.length-j∧t80=.int .i64 j∧(b && zcC (ks.drop j) j)=zbU d D.vars C.args[i]∧H'=H++[.cells (zbu (bs.set i b)),.cells [.int .i64 k,.int .i64 n,.sl (VT.css ks) .none]]) ks.length ?_ ?_
    ·intro _;exact⟨0,b0,by omega,by omega,rfl,by simp[hx,zbU,hb0],rfl⟩
    ·rintro q t80 H' ⟨j,b,hj,rfl,rfl,hob,rfl⟩ hsc1 hlen1 hsF1 Kb1 hKb1
     have hsc0:∀ b:Bool,HSc (H++[.cells (zbu (bs.set i b))]):=fun b=>hs.snoc (by simp[AB.sc,zt1])
     have hsc2:∀ b:Bool,HSc (H++[.cells (zbu (bs.set i b)),.cells [.int .i64 k,.int .i64 n,.sl (VT.css ks) .none]]):=fun b=>hs.append (by simp[AB.sc,zt1])
     by_cases hjl:j<ks.length
     ·obtain⟨k',n',ks',hx'⟩:∃ k' n' ks',ks[j]=.mk k' n' ks':=by cases h:ks[j] with | mk a b c=>exact⟨a,b,c,rfl⟩
      have hib:i<bs.length:=by omega
      rw[List.drop_eq_getElem_cons hjl,zcC,hx',zgN]at hob
      have hback:∀ (b':Bool) J,(b' && zcC (ks.drop (j+1)) (j+1))=zbU d D.vars C.args[i]→zq7 (.sl (data.map Dat.cs) .none) (.int .i64 d) (.ms H.length 0 C.args.length C.args.length) (.int .i64 i) (.sl (VT.css C.args) .none) (.int .i64 C.args.length) (.int .i64 i) (.sl (VT.css ks) .none) (.int .i64 ks.length) (.int .i64 j)
        (H++.cells (zbu (bs.set i b'))::.cells [.int .i64 k,.int .i64 n,.sl (VT.css ks) .none]::J) (Out H.length K) Kb Kb1:=by
       intro b' J hb'
       simp[zq7]
       rw[zat (by omega) (by omega)]
       refine hKb1 _ _ ⟨ks.length-(j+1),by omega,Back.at (J:=J) (H2:=H++[.cells (zbu (bs.set i b')),.cells [.int .i64 k,.int .i64 n,.sl (VT.css ks) .none]]) (by simp) (by simp) (hsc2 _) ?_ ⟨_,rfl,j+1,b',by omega,rfl,by simp,hb',rfl⟩⟩
       simp[zk4,AV.sc,AV.scV,AV.scA,AV.scB]
      have hstore:∀ l,List.take i (zbu (bs.set i b))++.bool false::List.drop (i+1) (zbu (bs.set i b))=l→l=zbu (bs.set i false):=by
       rintro _ rfl
       rw[zt2 (by simpa using hib)];simp
      cases g1:(k' == 4) with
      | false=>
       have:(k' != 4)=true:=by simp[bne,g1]
       rw[g1]at hob
       simp[zgc,zgd,hjl,hx',VT.cs,this,hlt,hbl,hstore _ rfl]
       refine⟨by omega,hback _ _ ?_⟩;simpa using hob.symm
      | true=>
      have g1':(k' != 4)=false:=by simp[bne,g1]
      cases g2:(n' == (j:Int)) with
      | false=>
       have:(n' != (j:Int))=true:=by simp[bne,g2]
       rw[g1,g2]at hob
       simp[zgc,zgd,hjl,hx',VT.cs,g1',this,hlt,hbl,hstore _ rfl]
       refine⟨by omega,hback _ _ ?_⟩;simpa using hob.symm
      | true=>
      have g2':(n' != (j:Int))=false:=by simp[bne,g2]
      by_cases g3:ks'.length=0
      ·have g3':¬ (0:Int)<ks'.length:=by omega
       have g3'':¬ 0<ks'.length:=by omega
       simp[zgc,zgd,hjl,hx',VT.cs,g1',g2',g3',g3'']
       refine hback _ _ ?_;simpa[g1,g2,g3]using hob
      ·have g3':(0:Int)<ks'.length:=by omega
       have g3'':0<ks'.length:=by omega
       have g4:(ks'.length == 0)=false:=by simpa using g3
       rw[g4]at hob
       simp[zgc,zgd,hjl,hx',VT.cs,g1',g2',g3',g3'',hlt,hbl,hstore _ rfl]
       refine⟨by omega,hback _ _ ?_⟩;simpa using hob.symm
     ·obtain rfl:j=ks.length:=by omega
      rw[List.drop_length,zcC,Bool.and_true]at hob
      simp[zgc]
      rw[zat (by omega) (by omega)]
      refine hKb _ _ ⟨C.args.length-(i+1),by omega,Back.at (J:=[.cells [.int .i64 k,.int .i64 n,.sl (VT.css ks) .none]]) (H2:=H++[.cells (zbu (bs.set i b))]) (by simp) (by simp) (hsc0 _) ?_ ⟨_,rfl,i+1,bs.set i b,by omega,rfl,by simp,by simpa using hbl,?_,rfl⟩⟩
      ·simp[zk5,AV.sc,AV.scV,AV.scA,AV.scB]
      ·intro j hj h'
       by_cases hji:j=i
       ·subst hji;rw[←hob];simp[hbl,hlt]
       ·rw[List.getElem?_set_ne (by omega)];exact hbs j (by omega) h'
   have hstore:∀ b l,List.take i (zbu bs)++.bool b::List.drop (i+1) (zbu bs)=l→l=zbu (bs.set i b):=by
    rintro b _ rfl
    rw[zt2 (by omega)]
   cases h5:(k == 5) with
   | false=>simp[zhI,hlt,hx,VT.cs,e1,hd,hD,Dat.cs,h5,hbl,hstore _ _ rfl];refine⟨by omega,inner _ ?_⟩;simp[h5]
   | true=>
   cases hn:(n == (d:Int)) with
   | false=>simp[zhI,hlt,hx,VT.cs,e1,hd,hD,Dat.cs,h5,hn,hbl,hstore _ _ rfl];refine⟨by omega,inner _ ?_⟩;simp[h5,hn]
   | true=>simp[zhI,hlt,hx,VT.cs,e1,hd,hD,Dat.cs,h5,hn,hbl,hstore _ _ rfl];refine⟨by omega,inner _ ?_⟩;simp[h5,hn]
  ·obtain rfl:i=C.args.length:=by omega
   simp[zhI]
   have hbe:bs=C.args.map (zbU d D.vars):=by
    refine List.ext_getElem (by simpa using hbl) fun j h1 h2=>?_
    have:=hbs j (by omega) (by omega)
    rw[List.getElem?_eq_getElem h1]at this
    simpa using this
   subst hbe
   refine⟨_,H,_,rfl,Nat.le_refl _,hs,.one (.frz H.length 0 _ _ 1 (zbu (C.args.map (zbU d D.vars))) (C.args.map fun t=>[.bool (zbU d D.vars t)]) (Nat.le_refl _) (by simp) (by simp) ?_ (by simp) (by simp) (Nat.le_refl _)),hK⟩
   rw[List.drop_zero,List.take_of_length_le (by simp),zvV,List.map_map]
   rfl
end Go.Proofs.YtdmamdnkcefmmaaGreatDoor
namespace Go.Abs
open Go
def zbT (b:UInt8):Bool:=decide (97≤(b.toNat:Int)) && decide ((b.toNat:Int)≤122)
def bUp (b:UInt8):Bool:=decide (65≤(b.toNat:Int)) && decide ((b.toNat:Int)≤90)
def zaW (b:UInt8):Bool:=decide (48≤(b.toNat:Int)) && decide ((b.toNat:Int)≤57)
def bIn (b:UInt8):Bool:=zbT b || bUp b || zaW b || b == 95
def zdc (b:UInt8):Bool:=b == 9 || b == 10 || b == 13 || b == 32
def zb5:List UInt8→Int→Bool
 | [],_=>true
 | b::l,n=>let m:=n*10+((b.toNat:Int)-48)
  if m>1000000 then false else zb5 l m
def zdk (r:List UInt8):Bool:=r.take 2 == [45,62] || r.take 2 == [60,61] || r.take 2 == [61,61]
def sgns:List UInt8:=[40,41,44,61,124,43,45,42,47,37,60,59,95]
def sgn (r:List UInt8):Nat:=
 if zdk r=true then 2 else match r with
 | []=>0
 | b::_=>if sgns.contains b=true then 1 else 0
structure Tk where
 kind:Int
 text:List UInt8
 pos:Nat
def tok (kw:List UInt8→Bool) (b:UInt8) (r:List UInt8):Except Int (Int × Nat):=
 if (zbT b || bUp b)=true then
  let n:=(r.takeWhile bIn).length+1
  if n>24 then .error 9 else .ok (if bUp b=true then 2 else if kw ((b::r).take n)=true then 4 else 1,n)
 else if zaW b=true then
  let n:=(r.takeWhile zaW).length+1
  if b == 48 && decide (n>1) then .error 2 else if zb5 ((b::r).take n) 0=true then .ok (3,n) else .error 9
 else
  let n:=sgn (b::r)
  if n=0 then .error 2 else .ok (5,n)
theorem zpC {kw:List UInt8→Bool} {b:UInt8} {r:List UInt8} {k:Int} {n:Nat} (h:tok kw b r=.ok (k,n)):0<n:=by
 unfold tok at h
 split at h
 ·simp only at h;split at h <;> simp at h;omega
 ·split at h
  ·simp only at h;split at h
   ·simp at h
   ·split at h <;> simp at h;omega
  ·simp only at h;split at h <;> simp at h;omega
def zbs (kw:List UInt8→Bool) (r:List UInt8) (pos:Nat):Except (Nat × Int) (List Tk):=
 match r with
 | []=>.ok [⟨6,[],pos⟩]
 | b::r'=>
  if zdc b=true then zbs kw r' (pos+1)
  else if b == 35 then zbs kw (r'.dropWhile (· != 10)) (pos+1+(r'.takeWhile (· != 10)).length)
  else match tok kw b r' with
   | .error e=>.error (pos,e)
   | .ok (k,n)=>match zbs kw (r'.drop (n-1)) (pos+n) with
    | .error e=>.error e
    | .ok l=>.ok (⟨k,(b::r').take n,pos⟩::l)
termination_by r.length
decreasing_by
 ·simp
 ·have:=(List.dropWhile_sublist (p:=(· != 10)) (l:=r')).length_le;simp;omega
 ·simp;omega
end Go.Abs
namespace Go.Proofs.YtdmamdnkcefmmaaGreatDoor
open Go Go.Abs
set_option maxRecDepth 100000
def zfx:Nat→List Bool
 | 5=>rl false [0,1,4,2,54]
 | 9=>rl false [0,1,4,2,54]
 | _=>[]
noncomputable def zrT:Code:=Tryz.f227.body.getD .skip
noncomputable def zNP:List ResultVar:=Tryz.f227.results.toList
def zgf (t0 t5 t6:AV):List AV:=t0::ux 4 (t5::t6::ux 54 [])
def zz0:List Bool:=zfx 5
noncomputable def zrU:Code:=zaq [1,0,1,1,1,1,0,0,0] zrT
def zzX (K:Kt):AExit→List AV→zaa→Prop:=zar tP zfx [1,0,1,1,1,1,0,0] zrT (zax tP zNP K)
def zlM (t0 t5 t6:AV) (H:zaa) (K:Kt):Prop:=ALoop tP zrU (zzX K) (zgf t0 t5 t6) H
def zgg (t0 t5 t6:AV) (H:zaa) (K:Kt) (Kb5:Lt):Prop:=
 Kb5 (zgf t0 t5 t6) H
def zlK (t0 t5 t6:AV):List AV:=t0::ux 4 (t5::t6::ux 54 [])
def zNN:List Bool:=zfx 9
noncomputable def zNK:Code:=zaq [1,0,1,0,1,0,0,0,0] zrU
def zNJ (K:Kt) (Kb5:Lt):AExit→List AV→zaa→Prop:=zar tP zfx [1,0,1,0,1,0,0,0] zrU (zb0 zz0 Kb5 (zzX K))
def zzZ (t0 t5 t6:AV) (H:zaa) (K:Kt) (Kb5:Lt):Prop:=ALoop tP zNK (zNJ K Kb5) (zlK t0 t5 t6) H
def zzY (t0 t5:AV) (H:zaa) (K:Kt):Prop:=
 zah 0 t0 fun t57=>
 zas [(.int .i64 0),(.str []),(.int .i64 0)] [(0,1),(1,1),(2,1)] [(0,(.int .i64 6)),(2,t57)] fun t58=>
 zau 3 [(.int .i64 0),(.str []),(.int .i64 0)] 1 [(0,t58)] fun t59=>
 zaw zew 3 32 t5 t59 H fun t60 H=>
 zaC [t60,(.int .i64 0),(.int .i64 0)] (K · H)
def zlL (t0 t5:AV) (H:zaa) (K:Kt):Prop:=
 zzY t0 t5 H K
def zrS (t0 t5 t6:AV) (H:zaa) (K:Kt) (Kb5:Lt) (Kb9:Lt):Prop:=
 zah 0 t0 fun t28=>
 zab .lss false t6 t28 fun t29=>
 zag t29
 (zbx t0 t6 fun t34=>
 zab .eql false t34 (.int .u8 10) fun t35=>
 zag t35
 (zgg t0 t5 t6 H K Kb5)
 (zab .add false t6 (.int .i64 1) fun t31=>
 Kb9 (zlK t0 t5 t31) H))
 (zlL t0 t5 H K)
def zrR (t0 t5 t6:AV) (H:zaa) (K:Kt) (Kb5:Lt):Prop:=
 zah 0 t0 fun t14=>
 zab .lss false t6 t14 fun t15=>
 zag t15
 (zbx t0 t6 fun t18=>
 ACalls tP zox [t18] H fun t19 H=>
 zag t19
 (zab .add false t6 (.int .i64 1) fun t21=>
 zgg t0 t5 t21 H K Kb5)
 (zbx t0 t6 fun t24=>
 zab .eql false t24 (.int .u8 35) fun t25=>
 zag t25
 (zzZ t0 t5 t6 H K Kb5)
 (ACalls tP zoy [t0,t6] H fun t39 H=>
 zaz t39 0 fun t40=>
 zaz t39 1 fun t41=>
 zay [(.int .i64 0),(.str []),(.int .i64 0)] H fun t7 H=>
 zan 3 t7 t40 H fun H=>
 zab .neq false t41 (.int .i64 0) fun t43=>
 zag t43
 (zaC [.snil,t6,t41] (K · H))
 (zae true 3 t7 H fun t47=>
 zau 3 [(.int .i64 0),(.str []),(.int .i64 0)] 1 [(0,t47)] fun t48=>
 zaw zew 3 32 t5 t48 H fun t49 H=>
 zaf 1 t7 fun t51=>
 zae false 1 t51 H fun t52=>
 zah 0 t52 fun t53=>
 zab .add false t6 t53 fun t54=>
 zgg t0 t49 t54 H K Kb5))))
 (zlL t0 t5 H K)
def zrQ (t0:AV) (H:zaa) (K:Kt):Prop:=
 zah 0 t0 fun t10=>
 zab .gtr false t10 (.int .i64 16384) fun t11=>
 zag t11
 (zaC [.snil,(.int .i64 0),(.int .i64 9)] (K · H))
 (zlM t0 .snil (.int .i64 0) H K)
theorem zNM {t0 t5 t6:AV} {H:zaa} {K:Kt} {Kb5:Lt} (Inv:Nat→AV→zaa→Prop) (n:Nat) (h0:HSc H→Inv n t6 H)
  (round:Rd1 (fun t6=>zlK t0 t5 t6) (fun t6=>fun H Kb9=>zrS t0 t5 t6 H K Kb5 Kb9) H Inv):zzZ t0 t5 t6 H K Kb5:=
 lp1 (M:=zfx) zNN t6 (by kernel_rfl) Inv n h0 round
theorem zNL {t0 t5 t6:AV} {H:zaa} {K:Kt} (Inv:Nat→AV→AV→zaa→Prop) (n:Nat) (h0:HSc H→Inv n t5 t6 H)
  (round:Rd2 (fun t5=>fun t6=>zgf t0 t5 t6) (fun t5=>fun t6=>fun H Kb5=>zrR t0 t5 t6 H K Kb5) H Inv):zlM t0 t5 t6 H K:=
 lp2 (M:=zfx) zz0 t5 t6 (by kernel_rfl) Inv n h0 round
theorem zNO {t0:AV} {H:zaa} {K:Kt} (h:HSc H→zrQ t0 H K):ACalls tP zot [t0] H K:=
 zao (M:=zfx) Tryz.func227 (c:=zrT) (by kernel_rfl) (fun hs=>Eq.mpr (by kernel_rfl) (h hs))
def zc3:Nat→List Bool
 | 5=>rl false [0,1,4,2,193]
 | 10=>rl false [0,1,4,2,193]
 | 18=>rl false [0,1,4,4,191]
 | 29=>rl false [0,1,4,4,191]
 | _=>[]
noncomputable def zqt:Code:=Tryz.f145.body.getD .skip
noncomputable def zJl:List ResultVar:=Tryz.f145.results.toList
def zfr (t0 t5 t6:AV):List AV:=t0::ux 4 (t5::t6::ux 193 [])
def zky:List Bool:=zc3 5
noncomputable def zfq:Code:=zaq [1,1,1,0,1,0,0] zqt
def zks (K:Kt):AExit→List AV→zaa→Prop:=zar tP zc3 [1,1,1,0,1,0] zqt (zax tP zJl K)
def zkx (t0 t5 t6:AV) (H:zaa) (K:Kt):Prop:=ALoop tP zfq (zks K) (zfr t0 t5 t6) H
def zeH (t0 t5 t6:AV) (H:zaa) (K:Kt) (Kb5:Lt):Prop:=
 Kb5 (zfr t0 t5 t6) H
def zkv (t0 t5 t6:AV):List AV:=t0::ux 4 (t5::t6::ux 193 [])
def zJh:List Bool:=zc3 10
noncomputable def zJa:Code:=zaq [1,0,1,1,0,1,0,0,0,0] zfq
def zI7 (K:Kt) (Kb5:Lt):AExit→List AV→zaa→Prop:=zar tP zc3 [1,0,1,1,0,1,0,0,0] zfq (zb0 zky Kb5 (zks K))
def zym (t0 t5 t6:AV) (H:zaa) (K:Kt) (Kb5:Lt):Prop:=ALoop tP zJa (zI7 K Kb5) (zkv t0 t5 t6) H
def zqq (t0 t5 t6:AV) (H:zaa) (K:Kt) (Kb5:Lt) (Kb10:Lt):Prop:=
 zah 0 t0 fun t42=>
 zab .lss false t6 t42 fun t43=>
 zac t43 true H (fun K'=>K' t0 H) fun t45 H=>
 zac t43 true H (fun K'=>K' t6 H) fun t46 H=>
 zac t43 true H (fun K'=>zbx t45 t46 (K' · H)) fun t47 H=>
 zac t43 true H (fun K'=>zab .neq false t47 (.int .u8 10) (K' · H)) fun t48 H=>
 zaj t43 t48 (.bool false) fun t49=>
 zag t49
 (zab .add false t6 (.int .i64 1) fun t51=>
 Kb10 (zkv t0 t5 t51) H)
 (zeH t0 t5 t6 H K Kb5)
def zhD (t0 t5 t6 t7 t8:AV):List AV:=t0::ux 4 (t5::t6::t7::t8::ux 191 [])
def zJi:List Bool:=zc3 18
noncomputable def zJb:Code:=zaq [1,0,1,1,1,1,0,0,1,0,0,0,0] zfq
def zI8 (K:Kt) (Kb5:Lt):AExit→List AV→zaa→Prop:=zar tP zc3 [1,0,1,1,1,1,0,0,1,0,0,0] zfq (zb0 zky Kb5 (zks K))
def zqu (t0 t5 t6 t7 t8:AV) (H:zaa) (K:Kt) (Kb5:Lt):Prop:=ALoop tP zJb (zI8 K Kb5) (zhD t0 t5 t6 t7 t8) H
def zhE (t0 t5 t6 t8:AV) (H:zaa) (K:Kt) (Kb5:Lt):Prop:=
 zab .add false t6 t8 fun t193=>
 zeH t0 t5 t193 H K Kb5
def zeJ (t0 t5 t6 t8:AV) (H:zaa) (K:Kt) (Kb5:Lt):Prop:=
 zhE t0 t5 t6 t8 H K Kb5
def zeI (t0 t5 t6 t8 t9:AV) (H:zaa) (K:Kt) (Kb5:Lt):Prop:=
 zab .add false t6 t8 fun t135=>
 zaN 0 0 t0 (some t6) (some t135) fun t136=>
 zas [(.int .i64 0),(.str []),(.int .i64 0)] [(0,1),(1,1),(2,1)] [(0,t9),(1,t136),(2,t6)] fun t138=>
 zau 3 [(.int .i64 0),(.str []),(.int .i64 0)] 1 [(0,t138)] fun t139=>
 zaw zbl 3 32 t5 t139 H fun t140 H=>
 zeJ t0 t140 t6 t8 H K Kb5
def zqr (t0 t5 t6 t7 t8:AV) (H:zaa) (K:Kt) (Kb5:Lt) (Kb18:Lt):Prop:=
 zab .add false t6 t8 fun t79=>
 zah 0 t0 fun t81=>
 zab .lss false t79 t81 fun t82=>
 zac t82 true H (fun K'=>K' t0 H) fun t84 H=>
 zac t82 true H (fun K'=>K' t6 H) fun t85 H=>
 zac t82 true H (fun K'=>K' t8 H) fun t86 H=>
 zac t82 true H (fun K'=>zab .add false t85 t86 (K' · H)) fun t87 H=>
 zac t82 true H (fun K'=>zbx t84 t87 (K' · H)) fun t88 H=>
 zac t82 true H (fun K'=>ACalls tP ziC [t88] H K') fun t89 H=>
 zac t82 true H (fun K'=>K' t89 H) fun t90 H=>
 zac t90 false H (fun K'=>K' t0 H) fun t91 H=>
 zac t90 false H (fun K'=>K' t6 H) fun t92 H=>
 zac t90 false H (fun K'=>K' t8 H) fun t93 H=>
 zac t90 false H (fun K'=>zab .add false t92 t93 (K' · H)) fun t94 H=>
 zac t90 false H (fun K'=>zbx t91 t94 (K' · H)) fun t95 H=>
 zac t90 false H (fun K'=>ACalls tP zfT [t95] H K') fun t96 H=>
 zac t82 true H (fun K'=>zaj t90 (.bool true) t96 (K' · H)) fun t97 H=>
 zac t82 true H (fun K'=>K' t97 H) fun t98 H=>
 zac t98 false H (fun K'=>K' t0 H) fun t99 H=>
 zac t98 false H (fun K'=>K' t6 H) fun t100 H=>
 zac t98 false H (fun K'=>K' t8 H) fun t101 H=>
 zac t98 false H (fun K'=>zab .add false t100 t101 (K' · H)) fun t102 H=>
 zac t98 false H (fun K'=>zbx t99 t102 (K' · H)) fun t103 H=>
 zac t98 false H (fun K'=>ACalls tP zg0 [t103] H K') fun t104 H=>
 zac t82 true H (fun K'=>zaj t98 (.bool true) t104 (K' · H)) fun t105 H=>
 zac t82 true H (fun K'=>K' t105 H) fun t106 H=>
 zac t106 false H (fun K'=>K' t0 H) fun t107 H=>
 zac t106 false H (fun K'=>K' t6 H) fun t108 H=>
 zac t106 false H (fun K'=>K' t8 H) fun t109 H=>
 zac t106 false H (fun K'=>zab .add false t108 t109 (K' · H)) fun t110 H=>
 zac t106 false H (fun K'=>zbx t107 t110 (K' · H)) fun t111 H=>
 zac t106 false H (fun K'=>zab .eql false t111 (.int .u8 95) (K' · H)) fun t112 H=>
 zac t82 true H (fun K'=>zaj t106 (.bool true) t112 (K' · H)) fun t113 H=>
 zaj t82 t113 (.bool false) fun t114=>
 zag t114
 (zab .add false t8 (.int .i64 1) fun t116=>
 Kb18 (zhD t0 t5 t6 t7 t116) H)
 (zab .gtr false t8 (.int .i64 24) fun t118=>
 zag t118
 (zaC [.snil,t6,(.int .i64 9)] (K · H))
 (ACalls tP zfT [t7] H fun t121 H=>
 zag t121
 (zeI t0 t5 t6 t8 (.int .i64 2) H K Kb5)
 (zab .add false t6 t8 fun t126=>
 zaN 0 0 t0 (some t6) (some t126) fun t127=>
 ACalls tP ziD [t127] H fun t128 H=>
 zag t128
 (zeI t0 t5 t6 t8 (.int .i64 4) H K Kb5)
 (zeI t0 t5 t6 t8 (.int .i64 1) H K Kb5))))
def zkw (t0 t5 t6 t7 t8:AV):List AV:=t0::ux 4 (t5::t6::t7::t8::ux 191 [])
def zJj:List Bool:=zc3 29
noncomputable def zJc:Code:=zaq [1,0,1,1,1,1,0,0,1,1,1,0,0,0,0] zfq
def zI9 (K:Kt) (Kb5:Lt):AExit→List AV→zaa→Prop:=zar tP zc3 [1,0,1,1,1,1,0,0,1,1,1,0,0,0] zfq (zb0 zky Kb5 (zks K))
def zqv (t0 t5 t6 t7 t8:AV) (H:zaa) (K:Kt) (Kb5:Lt):Prop:=ALoop tP zJc (zI9 K Kb5) (zkw t0 t5 t6 t7 t8) H
def zqs (t0 t5 t6 t7 t8:AV) (H:zaa) (K:Kt) (Kb5:Lt) (Kb29:Lt):Prop:=
 zab .add false t6 t8 fun t146=>
 zah 0 t0 fun t148=>
 zab .lss false t146 t148 fun t149=>
 zac t149 true H (fun K'=>K' t0 H) fun t151 H=>
 zac t149 true H (fun K'=>K' t6 H) fun t152 H=>
 zac t149 true H (fun K'=>K' t8 H) fun t153 H=>
 zac t149 true H (fun K'=>zab .add false t152 t153 (K' · H)) fun t154 H=>
 zac t149 true H (fun K'=>zbx t151 t154 (K' · H)) fun t155 H=>
 zac t149 true H (fun K'=>ACalls tP zg0 [t155] H K') fun t156 H=>
 zaj t149 t156 (.bool false) fun t157=>
 zag t157
 (zab .add false t8 (.int .i64 1) fun t159=>
 Kb29 (zkw t0 t5 t6 t7 t159) H)
 (zab .gtr false t8 (.int .i64 1) fun t161=>
 zac t161 true H (fun K'=>K' t7 H) fun t163 H=>
 zac t161 true H (fun K'=>zab .eql false t163 (.int .u8 48) (K' · H)) fun t164 H=>
 zaj t161 t164 (.bool false) fun t165=>
 zag t165
 (zaC [.snil,t6,(.int .i64 2)] (K · H))
 (zab .add false t6 t8 fun t172=>
 zaN 0 0 t0 (some t6) (some t172) fun t173=>
 ACalls tP zfU [t173] H fun t174 H=>
 zaz t174 0 fun t175=>
 zaz t174 1 fun t176=>
 aUn .not t176 fun t178=>
 zag t178
 (zaC [.snil,t6,(.int .i64 9)] (K · H))
 (zab .add false t6 t8 fun t185=>
 zaN 0 0 t0 (some t6) (some t185) fun t186=>
 zas [(.int .i64 0),(.str []),(.int .i64 0)] [(0,1),(1,1),(2,1)] [(0,(.int .i64 3)),(1,t186),(2,t6)] fun t188=>
 zau 3 [(.int .i64 0),(.str []),(.int .i64 0)] 1 [(0,t188)] fun t189=>
 zaw zbl 3 32 t5 t189 H fun t190 H=>
 zeJ t0 t190 t6 t8 H K Kb5)))
def zkt (t0 t5 t6:AV) (H:zaa) (K:Kt) (Kb5:Lt):Prop:=
 zah 0 t0 fun t17=>
 zab .lss false t6 t17 fun t18=>
 zag t18
 (zbx t0 t6 fun t21=>
 zab .eql false t21 (.int .u8 9) fun t23=>
 zac t23 false H (fun K'=>K' t21 H) fun t25 H=>
 zac t23 false H (fun K'=>zab .eql false t25 (.int .u8 10) (K' · H)) fun t26 H=>
 zaj t23 (.bool true) t26 fun t27=>
 zac t27 false H (fun K'=>K' t21 H) fun t29 H=>
 zac t27 false H (fun K'=>zab .eql false t29 (.int .u8 13) (K' · H)) fun t30 H=>
 zaj t27 (.bool true) t30 fun t31=>
 zac t31 false H (fun K'=>K' t21 H) fun t33 H=>
 zac t31 false H (fun K'=>zab .eql false t33 (.int .u8 32) (K' · H)) fun t34 H=>
 zaj t31 (.bool true) t34 fun t35=>
 zag t35
 (zab .add false t6 (.int .i64 1) fun t37=>
 zeH t0 t5 t37 H K Kb5)
 (zab .eql false t21 (.int .u8 35) fun t39=>
 zag t39
 (zym t0 t5 t6 H K Kb5)
 (ACalls tP ziC [t21] H fun t72 H=>
 zac t72 false H (fun K'=>K' t21 H) fun t74 H=>
 zac t72 false H (fun K'=>ACalls tP zfT [t74] H K') fun t75 H=>
 zaj t72 (.bool true) t75 fun t76=>
 zag t76
 (zqu t0 t5 t6 t21 (.int .i64 1) H K Kb5)
 (ACalls tP zg0 [t21] H fun t143 H=>
 zag t143
 (zqv t0 t5 t6 t21 (.int .i64 1) H K Kb5)
 (zaN 0 0 t0 (some t6) none fun t54=>
 ACalls tP zom [t54] H fun t55 H=>
 zab .eql false t55 (.int .i64 0) fun t57=>
 zag t57
 (zaC [.snil,t6,(.int .i64 2)] (K · H))
 (zab .add false t6 t55 fun t64=>
 zaN 0 0 t0 (some t6) (some t64) fun t65=>
 zas [(.int .i64 0),(.str []),(.int .i64 0)] [(0,1),(1,1),(2,1)] [(0,(.int .i64 5)),(1,t65),(2,t6)] fun t67=>
 zau 3 [(.int .i64 0),(.str []),(.int .i64 0)] 1 [(0,t67)] fun t68=>
 zaw zbl 3 32 t5 t68 H fun t69 H=>
 zeJ t0 t69 t6 t55 H K Kb5))))))
 (zah 0 t0 fun t196=>
 zas [(.int .i64 0),(.str []),(.int .i64 0)] [(0,1),(1,1),(2,1)] [(0,(.int .i64 6)),(1,(.str [])),(2,t196)] fun t197=>
 zau 3 [(.int .i64 0),(.str []),(.int .i64 0)] 1 [(0,t197)] fun t198=>
 zaw zbl 3 32 t5 t198 H fun t199 H=>
 zaC [t199,(.int .i64 0),(.int .i64 0)] (K · H))
def zqp (t0:AV) (H:zaa) (K:Kt):Prop:=
 zah 0 t0 fun t13=>
 zab .gtr false t13 (.int .i64 16384) fun t14=>
 zag t14
 (zaC [.snil,(.int .i64 0),(.int .i64 9)] (K · H))
 (zkx t0 .snil (.int .i64 0) H K)
theorem zJd {t0 t5 t6:AV} {H:zaa} {K:Kt} {Kb5:Lt} (Inv:Nat→AV→zaa→Prop) (n:Nat) (h0:HSc H→Inv n t6 H)
  (round:Rd1 (fun t6=>zkv t0 t5 t6) (fun t6=>fun H Kb10=>zqq t0 t5 t6 H K Kb5 Kb10) H Inv):zym t0 t5 t6 H K Kb5:=
 lp1 (M:=zc3) zJh t6 (by kernel_rfl) Inv n h0 round
theorem zJe {t0 t5 t6 t7 t8:AV} {H:zaa} {K:Kt} {Kb5:Lt} (Inv:Nat→AV→zaa→Prop) (n:Nat) (h0:HSc H→Inv n t8 H)
  (round:Rd1 (fun t8=>zhD t0 t5 t6 t7 t8) (fun t8=>fun H Kb18=>zqr t0 t5 t6 t7 t8 H K Kb5 Kb18) H Inv):zqu t0 t5 t6 t7 t8 H K Kb5:=
 lp1 (M:=zc3) zJi t8 (by kernel_rfl) Inv n h0 round
theorem zJf {t0 t5 t6 t7 t8:AV} {H:zaa} {K:Kt} {Kb5:Lt} (Inv:Nat→AV→zaa→Prop) (n:Nat) (h0:HSc H→Inv n t8 H)
  (round:Rd1 (fun t8=>zkw t0 t5 t6 t7 t8) (fun t8=>fun H Kb29=>zqs t0 t5 t6 t7 t8 H K Kb5 Kb29) H Inv):zqv t0 t5 t6 t7 t8 H K Kb5:=
 lp1 (M:=zc3) zJj t8 (by kernel_rfl) Inv n h0 round
theorem zJg {t0 t5 t6:AV} {H:zaa} {K:Kt} (Inv:Nat→AV→AV→zaa→Prop) (n:Nat) (h0:HSc H→Inv n t5 t6 H)
  (round:Rd2 (fun t5=>fun t6=>zfr t0 t5 t6) (fun t5=>fun t6=>fun H Kb5=>zkt t0 t5 t6 H K Kb5) H Inv):zkx t0 t5 t6 H K:=
 lp2 (M:=zc3) zky t5 t6 (by kernel_rfl) Inv n h0 round
theorem zJk {t0:AV} {H:zaa} {K:Kt} (h:HSc H→zqp t0 H K):ACalls tP zn9 [t0] H K:=
 zao (M:=zc3) Tryz.func145 (c:=zqt) (by kernel_rfl) (fun hs=>Eq.mpr (by kernel_rfl) (h hs))
def zOb (_:Nat):List Bool:=[]
noncomputable def zOc:Code:=Tryz.f245.body.getD .skip
def zz5 (t0:AV) (H:zaa) (K:Kt):Prop:=
 zab .eql false t0 (.int .u8 9) fun t4=>
 zac t4 false H (fun K'=>K' t0 H) fun t6 H=>
 zac t4 false H (fun K'=>zab .eql false t6 (.int .u8 10) (K' · H)) fun t7 H=>
 zaj t4 (.bool true) t7 fun t8=>
 zac t8 false H (fun K'=>K' t0 H) fun t10 H=>
 zac t8 false H (fun K'=>zab .eql false t10 (.int .u8 13) (K' · H)) fun t11 H=>
 zaj t8 (.bool true) t11 fun t12=>
 zac t12 false H (fun K'=>K' t0 H) fun t14 H=>
 zac t12 false H (fun K'=>zab .eql false t14 (.int .u8 32) (K' · H)) fun t15 H=>
 zaj t12 (.bool true) t15 fun t16=>
 K t16 H
theorem zOd {t0:AV} {H:zaa} {K:Kt} (h:HSc H→zz5 t0 H K):ACalls tP zox [t0] H K:=
 zao (M:=zOb) Tryz.func245 (c:=zOc) (by kernel_rfl) (fun hs=>Eq.mpr (by kernel_rfl) (h hs))
def zOe (_:Nat):List Bool:=[]
noncomputable def zOg:Code:=Tryz.f246.body.getD .skip
def zz6 (t4 t6:AV) (H:zaa) (K:Kt):Prop:=
 zae true 3 t6 H fun t74=>
 zan 3 t4 t74 H fun H=>
 zae true 3 t4 H fun r0=>
 zaC [r0,(.int .i64 0)] (K · H)
def zgi (t4 t6:AV) (H:zaa) (K:Kt):Prop:=
 zz6 t4 t6 H K
def zgh (t4 t6:AV) (H:zaa) (K:Kt):Prop:=
 zgi t4 t6 H K
def zrY (t0 t1:AV) (H:zaa) (K:Kt):Prop:=
 zay [(.int .i64 0),(.str []),(.int .i64 0)] H fun t4 H=>
 zas [(.int .i64 0),(.str []),(.int .i64 0)] [(0,1),(1,1),(2,1)] [(2,t1)] fun t9=>
 zay [(.int .i64 0),(.str []),(.int .i64 0)] H fun t6 H=>
 zan 3 t6 t9 H fun H=>
 zbx t0 t1 fun t12=>
 ACalls tP ziN [t12] H fun t25 H=>
 zac t25 false H (fun K'=>K' t12 H) fun t27 H=>
 zac t25 false H (fun K'=>ACalls tP zg4 [t27] H K') fun t28 H=>
 zaj t25 (.bool true) t28 fun t29=>
 zag t29
 (zaN 0 0 t0 (some t1) none fun t32=>
 ACalls tP ziO [t32,(.fn zg5 [])] H fun t33 H=>
 zaf 1 t6 fun t34=>
 zan 1 t34 t33 H fun H=>
 zaf 1 t6 fun t37=>
 zae false 1 t37 H fun t38=>
 zah 0 t38 fun t39=>
 zab .gtr false t39 (.int .i64 24) fun t40=>
 zag t40
 (zas [(.int .i64 0),(.str []),(.int .i64 0)] [(0,1),(1,1),(2,1)] [] fun t41=>
 zan 3 t4 t41 H fun H=>
 zae true 3 t4 H fun r0=>
 zaC [r0,(.int .i64 9)] (K · H))
 (ACalls tP zg4 [t12] H fun t44 H=>
 zag t44
 (zaf 0 t6 fun t45=>
 zan 1 t45 (.int .i64 2) H fun H=>
 zgh t4 t6 H K)
 (zaf 1 t6 fun t47=>
 zae false 1 t47 H fun t48=>
 ACalls tP zoz [t48] H fun t49 H=>
 zag t49
 (zaf 0 t6 fun t50=>
 zan 1 t50 (.int .i64 4) H fun H=>
 zgh t4 t6 H K)
 (zaf 0 t6 fun t35=>
 zan 1 t35 (.int .i64 1) H fun H=>
 zgh t4 t6 H K))))
 (ACalls tP ze9 [t12] H fun t53 H=>
 zag t53
 (zaf 0 t6 fun t54=>
 zan 1 t54 (.int .i64 3) H fun H=>
 zaN 0 0 t0 (some t1) none fun t57=>
 ACalls tP ziO [t57,(.fn ze9 [])] H fun t58 H=>
 zaf 1 t6 fun t59=>
 zan 1 t59 t58 H fun H=>
 zab .eql false t12 (.int .u8 48) fun t61=>
 zac t61 true H (fun K'=>zaf 1 t6 (K' · H)) fun t63 H=>
 zac t61 true H (fun K'=>zae false 1 t63 H (K' · H)) fun t64 H=>
 zac t61 true H (fun K'=>zah 0 t64 (K' · H)) fun t65 H=>
 zac t61 true H (fun K'=>zab .gtr false t65 (.int .i64 1) (K' · H)) fun t66 H=>
 zaj t61 t66 (.bool false) fun t67=>
 zag t67
 (zas [(.int .i64 0),(.str []),(.int .i64 0)] [(0,1),(1,1),(2,1)] [] fun t68=>
 zan 3 t4 t68 H fun H=>
 zae true 3 t4 H fun r0=>
 zaC [r0,(.int .i64 2)] (K · H))
 (zaf 1 t6 fun t69=>
 zae false 1 t69 H fun t70=>
 ACalls tP zg6 [t70] H fun t71 H=>
 aUn .not t71 fun t72=>
 zag t72
 (zas [(.int .i64 0),(.str []),(.int .i64 0)] [(0,1),(1,1),(2,1)] [] fun t73=>
 zan 3 t4 t73 H fun H=>
 zae true 3 t4 H fun r0=>
 zaC [r0,(.int .i64 9)] (K · H))
 (zgi t4 t6 H K)))
 (zaf 0 t6 fun t13=>
 zan 1 t13 (.int .i64 5) H fun H=>
 zaN 0 0 t0 (some t1) none fun t16=>
 ACalls tP zoA [t16] H fun t17 H=>
 zaf 1 t6 fun t18=>
 zan 1 t18 t17 H fun H=>
 zaf 1 t6 fun t19=>
 zae false 1 t19 H fun t20=>
 zab .eql false t20 (.str []) fun t21=>
 zag t21
 (zas [(.int .i64 0),(.str []),(.int .i64 0)] [(0,1),(1,1),(2,1)] [] fun t22=>
 zan 3 t4 t22 H fun H=>
 zae true 3 t4 H fun r0=>
 zaC [r0,(.int .i64 2)] (K · H))
 (zgi t4 t6 H K)))
theorem zOh {t0 t1:AV} {H:zaa} {K:Kt} (h:HSc H→zrY t0 t1 H K):ACalls tP zoy [t0,t1] H K:=
 zao (M:=zOe) Tryz.func246 (c:=zOg) (by kernel_rfl) (fun hs=>Eq.mpr (by kernel_rfl) (h hs))
def zLS (_:Nat):List Bool:=[]
noncomputable def zLT:Code:=Tryz.f188.body.getD .skip
def zzq (t0:AV) (H:zaa) (K:Kt):Prop:=
 zab .geq false t0 (.int .u8 97) fun t4=>
 zac t4 true H (fun K'=>K' t0 H) fun t6 H=>
 zac t4 true H (fun K'=>zab .leq false t6 (.int .u8 122) (K' · H)) fun t7 H=>
 zaj t4 t7 (.bool false) fun t8=>
 K t8 H
theorem zLU {t0:AV} {H:zaa} {K:Kt} (h:HSc H→zzq t0 H K):ACalls tP ziC [t0] H K:=
 zao (M:=zLS) Tryz.func188 (c:=zLT) (by kernel_rfl) (fun hs=>Eq.mpr (by kernel_rfl) (h hs))
def zLV (_:Nat):List Bool:=[]
noncomputable def zLW:Code:=Tryz.f189.body.getD .skip
def zzr (t0:AV) (H:zaa) (K:Kt):Prop:=
 zab .geq false t0 (.int .u8 65) fun t4=>
 zac t4 true H (fun K'=>K' t0 H) fun t6 H=>
 zac t4 true H (fun K'=>zab .leq false t6 (.int .u8 90) (K' · H)) fun t7 H=>
 zaj t4 t7 (.bool false) fun t8=>
 K t8 H
theorem zLX {t0:AV} {H:zaa} {K:Kt} (h:HSc H→zzr t0 H K):ACalls tP zfT [t0] H K:=
 zao (M:=zLV) Tryz.func189 (c:=zLW) (by kernel_rfl) (fun hs=>Eq.mpr (by kernel_rfl) (h hs))
def zLY (_:Nat):List Bool:=[]
noncomputable def zLZ:Code:=Tryz.f190.body.getD .skip
def zzs (t0:AV) (H:zaa) (K:Kt):Prop:=
 zab .geq false t0 (.int .u8 48) fun t4=>
 zac t4 true H (fun K'=>K' t0 H) fun t6 H=>
 zac t4 true H (fun K'=>zab .leq false t6 (.int .u8 57) (K' · H)) fun t7 H=>
 zaj t4 t7 (.bool false) fun t8=>
 K t8 H
theorem zL0 {t0:AV} {H:zaa} {K:Kt} (h:HSc H→zzs t0 H K):ACalls tP zg0 [t0] H K:=
 zao (M:=zLY) Tryz.func190 (c:=zLZ) (by kernel_rfl) (fun hs=>Eq.mpr (by kernel_rfl) (h hs))
def zlj:Nat→List Bool
 | 3=>rl false [0,1,2,2,13]
 | _=>[]
noncomputable def zri:Code:=Tryz.f191.body.getD .skip
noncomputable def zL6:List ResultVar:=Tryz.f191.results.toList
def zll (t0 t3 t4:AV):List AV:=t0::ux 2 (t3::t4::ux 13 [])
def zL4:List Bool:=zlj 3
noncomputable def zL2:Code:=zaq [1,1,0,1,0,0] zri
def zL1 (K:Kt):AExit→List AV→zaa→Prop:=zar tP zlj [1,1,0,1,0] zri (zax tP zL6 K)
def zrj (t0 t3 t4:AV) (H:zaa) (K:Kt):Prop:=ALoop tP zL2 (zL1 K) (zll t0 t3 t4) H
def zlk (t0 t3 t4:AV) (H:zaa) (K:Kt) (Kb3:Lt):Prop:=
 zah 1 t3 fun t8=>
 zab .lss false t4 t8 fun t9=>
 zag t9
 (zai 1 t3 t4 fun t14=>
 zae false 1 t14 H fun t15=>
 zab .eql false t15 t0 fun t17=>
 zag t17
 (K (.bool true) H)
 (zab .add false t4 (.int .i64 1) fun t11=>
 Kb3 (zll t0 t3 t11) H))
 (K (.bool false) H)
def zzt (t0:AV) (H:zaa) (K:Kt):Prop:=
 zau 1 [(.str [])] 28 [(0,(.str [97,114,114,97,121])),(1,(.str [98,111,111,108])),(2,(.str [99,97,116,99,104])),(3,(.str [100,97,116,97])),(4,(.str [101,108,115,101])),(5,(.str [101,110,100])),(6,(.str [102,97,108,115,101])),(7,(.str [102,110])),(8,(.str [102,117,110])),(9,(.str [103,101,116])),(10,(.str [105,102])),(11,(.str [105,110])),(12,(.str [105,110,116])),(13,(.str [108,101,110])),(14,(.str [108,101,116])),(15,(.str [109,97,116,99,104])),(16,(.str [110,101,119])),(17,(.str [114,97,105,115,101])),(18,(.str [114,101,97,100])),(19,(.str [114,101,102])),(20,(.str [115,101,116])),(21,(.str [116,104,101,110])),(22,(.str [116,105,99,107])),(23,(.str [116,114,117,101])),(24,(.str [116,114,121])),(25,(.str [117,110,105,116])),(26,(.str [119,105,116,104])),(27,(.str [119,114,105,116,101]))] fun t5=>
 zrj t0 t5 (.int .i64 0) H K
theorem zL3 {t0 t3 t4:AV} {H:zaa} {K:Kt} (Inv:Nat→AV→zaa→Prop) (n:Nat) (h0:HSc H→Inv n t4 H)
  (round:Rd1 (fun t4=>zll t0 t3 t4) (fun t4=>fun H Kb3=>zlk t0 t3 t4 H K Kb3) H Inv):zrj t0 t3 t4 H K:=
 lp1 (M:=zlj) zL4 t4 (by kernel_rfl) Inv n h0 round
theorem zL5 {t0:AV} {H:zaa} {K:Kt} (h:HSc H→zzt t0 H K):ACalls tP ziD [t0] H K:=
 zao (M:=zlj) Tryz.func191 (c:=zri) (by kernel_rfl) (fun hs=>Eq.mpr (by kernel_rfl) (h hs))
def zlm:Nat→List Bool
 | 3=>rl false [0,1,3,2,17]
 | _=>[]
noncomputable def zrl:Code:=Tryz.f192.body.getD .skip
noncomputable def zMc:List ResultVar:=Tryz.f192.results.toList
def zln (t0 t4 t5:AV):List AV:=t0::ux 3 (t4::t5::ux 17 [])
def zMa:List Bool:=zlm 3
noncomputable def zL8:Code:=zaq [1,1,0,1,0,0] zrl
def zL7 (K:Kt):AExit→List AV→zaa→Prop:=zar tP zlm [1,1,0,1,0] zrl (zax tP zMc K)
def zzw (t0 t4 t5:AV) (H:zaa) (K:Kt):Prop:=ALoop tP zL8 (zL7 K) (zln t0 t4 t5) H
def zrk (t0 t4 t5:AV) (H:zaa) (K:Kt) (Kb3:Lt):Prop:=
 zah 0 t0 fun t8=>
 zab .lss false t5 t8 fun t9=>
 zag t9
 (zab .mul false t4 (.int .i64 10) fun t13=>
 zbx t0 t5 fun t16=>
 zab .sub false t16 (.int .u8 48) fun t17=>
 za0 .i64 t17 fun t18=>
 zab .add false t13 t18 fun t19=>
 zab .gtr false t19 (.int .i64 1000000) fun t21=>
 zag t21
 (zaC [(.int .i64 0),(.bool false)] (K · H))
 (zab .add false t5 (.int .i64 1) fun t11=>
 Kb3 (zln t0 t19 t11) H))
 (zaC [t4,(.bool true)] (K · H))
def zzv (t0:AV) (H:zaa) (K:Kt):Prop:=
 zzw t0 (.int .i64 0) (.int .i64 0) H K
theorem zL9 {t0 t4 t5:AV} {H:zaa} {K:Kt} (Inv:Nat→AV→AV→zaa→Prop) (n:Nat) (h0:HSc H→Inv n t4 t5 H)
  (round:Rd2 (fun t4=>fun t5=>zln t0 t4 t5) (fun t4=>fun t5=>fun H Kb3=>zrk t0 t4 t5 H K Kb3) H Inv):zzw t0 t4 t5 H K:=
 lp2 (M:=zlm) zMa t4 t5 (by kernel_rfl) Inv n h0 round
theorem zMb {t0:AV} {H:zaa} {K:Kt} (h:HSc H→zzv t0 H K):ACalls tP zfU [t0] H K:=
 zao (M:=zlm) Tryz.func192 (c:=zrl) (by kernel_rfl) (fun hs=>Eq.mpr (by kernel_rfl) (h hs))
def zlo:Nat→List Bool
 | 5=>rl false [0,1,2,2,30]
 | _=>[]
noncomputable def zrm:Code:=Tryz.f193.body.getD .skip
noncomputable def zMi:List ResultVar:=Tryz.f193.results.toList
def zlq (t0 t3 t4:AV):List AV:=t0::ux 2 (t3::t4::ux 30 [])
def zMg:List Bool:=zlo 5
noncomputable def zMe:Code:=zaq [1,1,1,0,1,0,0] zrm
def zMd (K:Kt):AExit→List AV→zaa→Prop:=zar tP zlo [1,1,1,0,1,0] zrm (zax tP zMi K)
def zrn (t0 t3 t4:AV) (H:zaa) (K:Kt):Prop:=ALoop tP zMe (zMd K) (zlq t0 t3 t4) H
def zlp (t0 t3 t4:AV) (H:zaa) (K:Kt) (Kb5:Lt):Prop:=
 zah 0 t3 fun t25=>
 zab .lss false t4 t25 fun t26=>
 zag t26
 (zad H (fun K'=>K' t0 H) fun t29=>
 zad H (fun K'=>zbx t29 (.int .i64 0) (K' · H)) fun t30=>
 zad H (fun K'=>K' t3 H) fun t31=>
 zad H (fun K'=>K' t4 H) fun t32=>
 zad H (fun K'=>zbx t31 t32 (K' · H)) fun t33=>
 zad H (fun K'=>zab .eql false t30 t33 (K' · H)) fun t34=>
 zag t34
 (K (.int .i64 1) H)
 (zab .add false t4 (.int .i64 1) fun t28=>
 Kb5 (zlq t0 t3 t28) H))
 (K (.int .i64 0) H)
def zge (t0:AV) (H:zaa) (K:Kt):Prop:=
 zah 0 t0 fun t6=>
 zab .geq false t6 (.int .i64 2) fun t7=>
 zac t7 true H (fun K'=>K' t0 H) fun t9 H=>
 zac t7 true H (fun K'=>zaN 0 0 t9 none (some (.int .i64 2)) (K' · H)) fun t10 H=>
 zac t7 true H (fun K'=>zab .eql false t10 (.str [45,62]) (K' · H)) fun t11 H=>
 zac t7 true H (fun K'=>K' t11 H) fun t12 H=>
 zac t12 false H (fun K'=>K' t0 H) fun t13 H=>
 zac t12 false H (fun K'=>zaN 0 0 t13 none (some (.int .i64 2)) (K' · H)) fun t14 H=>
 zac t12 false H (fun K'=>zab .eql false t14 (.str [60,61]) (K' · H)) fun t15 H=>
 zac t7 true H (fun K'=>zaj t12 (.bool true) t15 (K' · H)) fun t16 H=>
 zac t7 true H (fun K'=>K' t16 H) fun t17 H=>
 zac t17 false H (fun K'=>K' t0 H) fun t18 H=>
 zac t17 false H (fun K'=>zaN 0 0 t18 none (some (.int .i64 2)) (K' · H)) fun t19 H=>
 zac t17 false H (fun K'=>zab .eql false t19 (.str [61,61]) (K' · H)) fun t20 H=>
 zac t7 true H (fun K'=>zaj t17 (.bool true) t20 (K' · H)) fun t21 H=>
 zaj t7 t21 (.bool false) fun t22=>
 zag t22
 (K (.int .i64 2) H)
 (zrn t0 (.str [40,41,44,61,124,43,45,42,47,37,60,59,95]) (.int .i64 0) H K)
theorem zMf {t0 t3 t4:AV} {H:zaa} {K:Kt} (Inv:Nat→AV→zaa→Prop) (n:Nat) (h0:HSc H→Inv n t4 H)
  (round:Rd1 (fun t4=>zlq t0 t3 t4) (fun t4=>fun H Kb5=>zlp t0 t3 t4 H K Kb5) H Inv):zrn t0 t3 t4 H K:=
 lp1 (M:=zlo) zMg t4 (by kernel_rfl) Inv n h0 round
theorem zMh {t0:AV} {H:zaa} {K:Kt} (h:HSc H→zge t0 H K):ACalls tP zom [t0] H K:=
 zao (M:=zlo) Tryz.func193 (c:=zrm) (by kernel_rfl) (fun hs=>Eq.mpr (by kernel_rfl) (h hs))
def zOl (_:Nat):List Bool:=[]
noncomputable def zOm:Code:=Tryz.f255.body.getD .skip
def zz8 (t0:AV) (H:zaa) (K:Kt):Prop:=
 zab .geq false t0 (.int .u8 97) fun t4=>
 zac t4 true H (fun K'=>K' t0 H) fun t6 H=>
 zac t4 true H (fun K'=>zab .leq false t6 (.int .u8 122) (K' · H)) fun t7 H=>
 zaj t4 t7 (.bool false) fun t8=>
 K t8 H
theorem zOn {t0:AV} {H:zaa} {K:Kt} (h:HSc H→zz8 t0 H K):ACalls tP ziN [t0] H K:=
 zao (M:=zOl) Tryz.func255 (c:=zOm) (by kernel_rfl) (fun hs=>Eq.mpr (by kernel_rfl) (h hs))
def zOo (_:Nat):List Bool:=[]
noncomputable def zOp:Code:=Tryz.f256.body.getD .skip
def zz9 (t0:AV) (H:zaa) (K:Kt):Prop:=
 zab .geq false t0 (.int .u8 65) fun t4=>
 zac t4 true H (fun K'=>K' t0 H) fun t6 H=>
 zac t4 true H (fun K'=>zab .leq false t6 (.int .u8 90) (K' · H)) fun t7 H=>
 zaj t4 t7 (.bool false) fun t8=>
 K t8 H
theorem zOq {t0:AV} {H:zaa} {K:Kt} (h:HSc H→zz9 t0 H K):ACalls tP zg4 [t0] H K:=
 zao (M:=zOo) Tryz.func256 (c:=zOp) (by kernel_rfl) (fun hs=>Eq.mpr (by kernel_rfl) (h hs))
def zlQ:Nat→List Bool
 | 2=>rl false [0,2,3,1,16]
 | _=>[]
noncomputable def zr0:Code:=Tryz.f257.body.getD .skip
noncomputable def zOw:List ResultVar:=Tryz.f257.results.toList
def zlR (t0 t1 t5:AV):List AV:=t0::t1::ux 3 (t5::ux 16 [])
def zOu:List Bool:=zlQ 2
noncomputable def zOs:Code:=zaq [1,1,0,0,0] zr0
def zOr (K:Kt):AExit→List AV→zaa→Prop:=zar tP zlQ [1,1,0,0] zr0 (zax tP zOw K)
def zAb (t0 t1 t5:AV) (H:zaa) (K:Kt):Prop:=ALoop tP zOs (zOr K) (zlR t0 t1 t5) H
def zrZ (t0 t1 t5:AV) (H:zaa) (K:Kt) (Kb2:Lt):Prop:=
 zah 0 t0 fun t8=>
 zab .lss false t5 t8 fun t9=>
 zac t9 true H (fun K'=>K' t1 H) fun t11 H=>
 zac t9 true H (fun K'=>K' t0 H) fun t12 H=>
 zac t9 true H (fun K'=>K' t5 H) fun t13 H=>
 zac t9 true H (fun K'=>zbx t12 t13 (K' · H)) fun t14 H=>
 zac t9 true H (fun K'=>aCallV tP t11 [t14] H K') fun t15 H=>
 zaj t9 t15 (.bool false) fun t16=>
 zag t16
 (zab .add false t5 (.int .i64 1) fun t18=>
 Kb2 (zlR t0 t1 t18) H)
 (zaN 0 0 t0 none (some t5) fun t21=>
 K t21 H)
def zAa (t0 t1:AV) (H:zaa) (K:Kt):Prop:=
 zAb t0 t1 (.int .i64 0) H K
theorem zOt {t0 t1 t5:AV} {H:zaa} {K:Kt} (Inv:Nat→AV→zaa→Prop) (n:Nat) (h0:HSc H→Inv n t5 H)
  (round:Rd1 (fun t5=>zlR t0 t1 t5) (fun t5=>fun H Kb2=>zrZ t0 t1 t5 H K Kb2) H Inv):zAb t0 t1 t5 H K:=
 lp1 (M:=zlQ) zOu t5 (by kernel_rfl) Inv n h0 round
theorem zOv {t0 t1:AV} {H:zaa} {K:Kt} (h:HSc H→zAa t0 t1 H K):ACalls tP ziO [t0,t1] H K:=
 zao (M:=zlQ) Tryz.func257 (c:=zr0) (by kernel_rfl) (fun hs=>Eq.mpr (by kernel_rfl) (h hs))
def zOx (_:Nat):List Bool:=[]
noncomputable def zOy:Code:=Tryz.f258.body.getD .skip
def zAc (t0:AV) (H:zaa) (K:Kt):Prop:=
 ACalls tP ziN [t0] H fun t4 H=>
 zac t4 false H (fun K'=>K' t0 H) fun t6 H=>
 zac t4 false H (fun K'=>ACalls tP zg4 [t6] H K') fun t7 H=>
 zaj t4 (.bool true) t7 fun t8=>
 zac t8 false H (fun K'=>K' t0 H) fun t10 H=>
 zac t8 false H (fun K'=>ACalls tP ze9 [t10] H K') fun t11 H=>
 zaj t8 (.bool true) t11 fun t12=>
 zac t12 false H (fun K'=>K' t0 H) fun t14 H=>
 zac t12 false H (fun K'=>zab .eql false t14 (.int .u8 95) (K' · H)) fun t15 H=>
 zaj t12 (.bool true) t15 fun t16=>
 K t16 H
theorem zOz {t0:AV} {H:zaa} {K:Kt} (h:HSc H→zAc t0 H K):ACalls tP zg5 [t0] H K:=
 zao (M:=zOx) Tryz.func258 (c:=zOy) (by kernel_rfl) (fun hs=>Eq.mpr (by kernel_rfl) (h hs))
def zOA (_:Nat):List Bool:=[]
noncomputable def zOB:Code:=Tryz.f259.body.getD .skip
def zbf (t4:AV) (H:zaa) (K:Kt):Prop:=
 zag t4
 (K (.bool true) H)
 (K (.bool false) H)
def zAd (t0:AV) (H:zaa) (K:Kt):Prop:=
 zab .eql false t0 (.str [97,114,114,97,121]) fun t5=>
 zag t5
 (zbf t5 H K)
 (zab .eql false t0 (.str [98,111,111,108]) fun t6=>
 zag t6
 (zbf t6 H K)
 (zab .eql false t0 (.str [99,97,116,99,104]) fun t7=>
 zag t7
 (zbf t7 H K)
 (zab .eql false t0 (.str [100,97,116,97]) fun t8=>
 zag t8
 (zbf t8 H K)
 (zab .eql false t0 (.str [101,108,115,101]) fun t9=>
 zag t9
 (zbf t9 H K)
 (zab .eql false t0 (.str [101,110,100]) fun t10=>
 zag t10
 (zbf t10 H K)
 (zab .eql false t0 (.str [102,97,108,115,101]) fun t11=>
 zag t11
 (zbf t11 H K)
 (zab .eql false t0 (.str [102,110]) fun t12=>
 zag t12
 (zbf t12 H K)
 (zab .eql false t0 (.str [102,117,110]) fun t13=>
 zag t13
 (zbf t13 H K)
 (zab .eql false t0 (.str [103,101,116]) fun t14=>
 zag t14
 (zbf t14 H K)
 (zab .eql false t0 (.str [105,102]) fun t15=>
 zag t15
 (zbf t15 H K)
 (zab .eql false t0 (.str [105,110]) fun t16=>
 zag t16
 (zbf t16 H K)
 (zab .eql false t0 (.str [105,110,116]) fun t17=>
 zag t17
 (zbf t17 H K)
 (zab .eql false t0 (.str [108,101,110]) fun t18=>
 zag t18
 (zbf t18 H K)
 (zab .eql false t0 (.str [108,101,116]) fun t19=>
 zag t19
 (zbf t19 H K)
 (zab .eql false t0 (.str [109,97,116,99,104]) fun t20=>
 zag t20
 (zbf t20 H K)
 (zab .eql false t0 (.str [110,101,119]) fun t21=>
 zag t21
 (zbf t21 H K)
 (zab .eql false t0 (.str [114,97,105,115,101]) fun t22=>
 zag t22
 (zbf t22 H K)
 (zab .eql false t0 (.str [114,101,97,100]) fun t23=>
 zag t23
 (zbf t23 H K)
 (zab .eql false t0 (.str [114,101,102]) fun t24=>
 zag t24
 (zbf t24 H K)
 (zab .eql false t0 (.str [115,101,116]) fun t25=>
 zag t25
 (zbf t25 H K)
 (zab .eql false t0 (.str [116,104,101,110]) fun t26=>
 zag t26
 (zbf t26 H K)
 (zab .eql false t0 (.str [116,105,99,107]) fun t27=>
 zag t27
 (zbf t27 H K)
 (zab .eql false t0 (.str [116,114,117,101]) fun t28=>
 zag t28
 (zbf t28 H K)
 (zab .eql false t0 (.str [116,114,121]) fun t29=>
 zag t29
 (zbf t29 H K)
 (zab .eql false t0 (.str [117,110,105,116]) fun t30=>
 zag t30
 (zbf t30 H K)
 (zab .eql false t0 (.str [119,105,116,104]) fun t31=>
 zag t31
 (zbf t31 H K)
 (zab .eql false t0 (.str [119,114,105,116,101]) fun t32=>
 zbf t32 H K)))))))))))))))))))))))))))
theorem zOC {t0:AV} {H:zaa} {K:Kt} (h:HSc H→zAd t0 H K):ACalls tP zoz [t0] H K:=
 zao (M:=zOA) Tryz.func259 (c:=zOB) (by kernel_rfl) (fun hs=>Eq.mpr (by kernel_rfl) (h hs))
def zOD (_:Nat):List Bool:=[]
noncomputable def zOE:Code:=Tryz.f260.body.getD .skip
def zAe (t0:AV) (H:zaa) (K:Kt):Prop:=
 zab .geq false t0 (.int .u8 48) fun t4=>
 zac t4 true H (fun K'=>K' t0 H) fun t6 H=>
 zac t4 true H (fun K'=>zab .leq false t6 (.int .u8 57) (K' · H)) fun t7 H=>
 zaj t4 t7 (.bool false) fun t8=>
 K t8 H
theorem zOF {t0:AV} {H:zaa} {K:Kt} (h:HSc H→zAe t0 H K):ACalls tP ze9 [t0] H K:=
 zao (M:=zOD) Tryz.func260 (c:=zOE) (by kernel_rfl) (fun hs=>Eq.mpr (by kernel_rfl) (h hs))
def zlS:Nat→List Bool
 | 3=>rl false [0,1,2,1,2,2,13]
 | _=>[]
noncomputable def zr2:Code:=Tryz.f261.body.getD .skip
noncomputable def zOL:List ResultVar:=Tryz.f261.results.toList
def zlT (t0 t3 t6 t7:AV):List AV:=t0::ux 2 (t3::ux 2 (t6::t7::ux 13 []))
def zOJ:List Bool:=zlS 3
noncomputable def zOH:Code:=zaq [1,1,0,1,0,0] zr2
def zOG (K:Kt):AExit→List AV→zaa→Prop:=zar tP zlS [1,1,0,1,0] zr2 (zax tP zOL K)
def zAg (t0 t3 t6 t7:AV) (H:zaa) (K:Kt):Prop:=ALoop tP zOH (zOG K) (zlT t0 t3 t6 t7) H
def zr1 (t0 t3 t6 t7:AV) (H:zaa) (K:Kt) (Kb3:Lt):Prop:=
 zab .lss false t7 t6 fun t8=>
 zag t8
 (zab .mul false t3 (.int .i64 10) fun t11=>
 zbx t0 t7 fun t14=>
 zab .sub false t14 (.int .u8 48) fun t15=>
 za0 .i64 t15 fun t16=>
 zab .add false t11 t16 fun t17=>
 zab .gtr false t17 (.int .i64 1000000) fun t19=>
 zag t19
 (K (.bool false) H)
 (zab .add false t7 (.int .i64 1) fun t20=>
 Kb3 (zlT t0 t17 t6 t20) H))
 (K (.bool true) H)
def zAf (t0:AV) (H:zaa) (K:Kt):Prop:=
 zah 0 t0 fun t6=>
 zAg t0 (.int .i64 0) t6 (.int .i64 0) H K
theorem zOI {t0 t3 t6 t7:AV} {H:zaa} {K:Kt} (Inv:Nat→AV→AV→zaa→Prop) (n:Nat) (h0:HSc H→Inv n t3 t7 H)
  (round:Rd2 (fun t3=>fun t7=>zlT t0 t3 t6 t7) (fun t3=>fun t7=>fun H Kb3=>zr1 t0 t3 t6 t7 H K Kb3) H Inv):zAg t0 t3 t6 t7 H K:=
 lp2 (M:=zlS) zOJ t3 t7 (by kernel_rfl) Inv n h0 round
theorem zOK {t0:AV} {H:zaa} {K:Kt} (h:HSc H→zAf t0 H K):ACalls tP zg6 [t0] H K:=
 zao (M:=zlS) Tryz.func261 (c:=zr2) (by kernel_rfl) (fun hs=>Eq.mpr (by kernel_rfl) (h hs))
def zOM (_:Nat):List Bool:=[]
noncomputable def zON:Code:=Tryz.f262.body.getD .skip
def zcp (t0 t16:AV) (H:zaa) (K:Kt):Prop:=
 zag t16
 (zaN 0 0 t0 none (some (.int .i64 1)) fun t31=>
 K t31 H)
 (K (.str []) H)
def zlU (t0:AV) (H:zaa) (K:Kt):Prop:=
 zaN 0 0 t0 none (some (.int .i64 1)) fun t15=>
 zab .eql false t15 (.str [40]) fun t17=>
 zag t17
 (zcp t0 t17 H K)
 (zab .eql false t15 (.str [41]) fun t18=>
 zag t18
 (zcp t0 t18 H K)
 (zab .eql false t15 (.str [44]) fun t19=>
 zag t19
 (zcp t0 t19 H K)
 (zab .eql false t15 (.str [61]) fun t20=>
 zag t20
 (zcp t0 t20 H K)
 (zab .eql false t15 (.str [124]) fun t21=>
 zag t21
 (zcp t0 t21 H K)
 (zab .eql false t15 (.str [43]) fun t22=>
 zag t22
 (zcp t0 t22 H K)
 (zab .eql false t15 (.str [45]) fun t23=>
 zag t23
 (zcp t0 t23 H K)
 (zab .eql false t15 (.str [42]) fun t24=>
 zag t24
 (zcp t0 t24 H K)
 (zab .eql false t15 (.str [47]) fun t25=>
 zag t25
 (zcp t0 t25 H K)
 (zab .eql false t15 (.str [37]) fun t26=>
 zag t26
 (zcp t0 t26 H K)
 (zab .eql false t15 (.str [60]) fun t27=>
 zag t27
 (zcp t0 t27 H K)
 (zab .eql false t15 (.str [59]) fun t28=>
 zag t28
 (zcp t0 t28 H K)
 (zab .eql false t15 (.str [95]) fun t29=>
 zcp t0 t29 H K))))))))))))
def zfy (t0 t8:AV) (H:zaa) (K:Kt):Prop:=
 zag t8
 (zaN 0 0 t0 none (some (.int .i64 2)) fun t13=>
 K t13 H)
 (zlU t0 H K)
def zgj (t0:AV) (H:zaa) (K:Kt):Prop:=
 zah 0 t0 fun t4=>
 zab .geq false t4 (.int .i64 2) fun t5=>
 zag t5
 (zaN 0 0 t0 none (some (.int .i64 2)) fun t7=>
 zab .eql false t7 (.str [45,62]) fun t9=>
 zag t9
 (zfy t0 t9 H K)
 (zab .eql false t7 (.str [60,61]) fun t10=>
 zag t10
 (zfy t0 t10 H K)
 (zab .eql false t7 (.str [61,61]) fun t11=>
 zfy t0 t11 H K)))
 (zlU t0 H K)
theorem zOO {t0:AV} {H:zaa} {K:Kt} (h:HSc H→zgj t0 H K):ACalls tP zoA [t0] H K:=
 zao (M:=zOM) Tryz.func262 (c:=zON) (by kernel_rfl) (fun hs=>Eq.mpr (by kernel_rfl) (h hs))
def zML (_:Nat):List Bool:=[]
noncomputable def zMM:Code:=Tryz.f200.body.getD .skip
def zzI (t0:AV) (H:zaa) (K:Kt):Prop:=
 ACalls tP zot [t0] H fun t8 H=>
 zaz t8 0 fun t9=>
 zaz t8 1 fun t10=>
 zaz t8 2 fun t11=>
 zab .eql false t11 (.int .i64 0) fun t13=>
 zac t13 true H (fun K'=>K' t9 H) fun t15 H=>
 zac t13 true H (fun K'=>zah 1 t15 (K' · H)) fun t16 H=>
 zac t13 true H (fun K'=>zab .eql false t16 (.int .i64 2) (K' · H)) fun t17 H=>
 zaj t13 t17 (.bool false) fun t18=>
 zac t18 true H (fun K'=>K' t9 H) fun t20 H=>
 zac t18 true H (fun K'=>zai 3 t20 (.int .i64 0) (K' · H)) fun t21 H=>
 zac t18 true H (fun K'=>zaf 0 t21 (K' · H)) fun t22 H=>
 zac t18 true H (fun K'=>zae false 1 t22 H (K' · H)) fun t23 H=>
 zac t18 true H (fun K'=>zab .eql false t23 (.int .i64 2) (K' · H)) fun t24 H=>
 zaj t18 t24 (.bool false) fun t25=>
 zac t25 true H (fun K'=>K' t9 H) fun t27 H=>
 zac t25 true H (fun K'=>zai 3 t27 (.int .i64 0) (K' · H)) fun t28 H=>
 zac t25 true H (fun K'=>zaf 1 t28 (K' · H)) fun t29 H=>
 zac t25 true H (fun K'=>zae false 1 t29 H (K' · H)) fun t30 H=>
 zac t25 true H (fun K'=>K' t0 H) fun t31 H=>
 zac t25 true H (fun K'=>zab .eql false t30 t31 (K' · H)) fun t32 H=>
 zaj t25 t32 (.bool false) fun t33=>
 K t33 H
theorem zMN {t0:AV} {H:zaa} {K:Kt} (h:HSc H→zzI t0 H K):ACalls tP ziG [t0] H K:=
 zao (M:=zML) Tryz.func200 (c:=zMM) (by kernel_rfl) (fun hs=>Eq.mpr (by kernel_rfl) (h hs))
def zR0 (_:Nat):List Bool:=[]
noncomputable def zR1:Code:=Tryz.f92.body.getD .skip
def zBp (t0:AV) (H:zaa) (K:Kt):Prop:=
 ACalls tP zn9 [t0] H fun t8 H=>
 zaz t8 0 fun t9=>
 zaz t8 1 fun t10=>
 zaz t8 2 fun t11=>
 zab .eql false t11 (.int .i64 0) fun t13=>
 zac t13 true H (fun K'=>K' t9 H) fun t15 H=>
 zac t13 true H (fun K'=>zah 1 t15 (K' · H)) fun t16 H=>
 zac t13 true H (fun K'=>zab .eql false t16 (.int .i64 2) (K' · H)) fun t17 H=>
 zaj t13 t17 (.bool false) fun t18=>
 zac t18 true H (fun K'=>K' t9 H) fun t20 H=>
 zac t18 true H (fun K'=>zai 3 t20 (.int .i64 0) (K' · H)) fun t21 H=>
 zac t18 true H (fun K'=>zaf 0 t21 (K' · H)) fun t22 H=>
 zac t18 true H (fun K'=>zae false 1 t22 H (K' · H)) fun t23 H=>
 zac t18 true H (fun K'=>zab .eql false t23 (.int .i64 2) (K' · H)) fun t24 H=>
 zaj t18 t24 (.bool false) fun t25=>
 zac t25 true H (fun K'=>K' t9 H) fun t27 H=>
 zac t25 true H (fun K'=>zai 3 t27 (.int .i64 0) (K' · H)) fun t28 H=>
 zac t25 true H (fun K'=>zaf 1 t28 (K' · H)) fun t29 H=>
 zac t25 true H (fun K'=>zae false 1 t29 H (K' · H)) fun t30 H=>
 zac t25 true H (fun K'=>K' t0 H) fun t31 H=>
 zac t25 true H (fun K'=>zab .eql false t30 t31 (K' · H)) fun t32 H=>
 zaj t25 t32 (.bool false) fun t33=>
 K t33 H
theorem zR2 {t0:AV} {H:zaa} {K:Kt} (h:HSc H→zBp t0 H K):ACalls tP zi3 [t0] H K:=
 zao (M:=zR0) Tryz.func92 (c:=zR1) (by kernel_rfl) (fun hs=>Eq.mpr (by kernel_rfl) (h hs))
end Go.Proofs.YtdmamdnkcefmmaaGreatDoor

namespace Go.Proofs.YtdmamdnkcefmmaaGreatDoor
open Go Go.Abs
def kwds:List (List UInt8):=[[97,114,114,97,121],[98,111,111,108],[99,97,116,99,104],[100,97,116,97],[101,108,115,101],[101,110,100],[102,97,108,115,101],[102,110],[102,117,110],[103,101,116],[105,102],[105,110],[105,110,116],[108,101,110],[108,101,116],[109,97,116,99,104],[110,101,119],[114,97,105,115,101],[114,101,97,100],[114,101,102],[115,101,116],[116,104,101,110],[116,105,99,107],[116,114,117,101],[116,114,121],[117,110,105,116],[119,105,116,104],[119,114,105,116,101]]
def kwF (ws:List (List UInt8)) (s:List UInt8):Bool:=ws.any (s == ·)
theorem zcM {H:zaa} {K:AV→zaa→Prop} {r:AV} (hsc:HSc H) (hv:r.isV=true) (hr:r.scV H.length=true) (h:K r H):Out H.length K r H:=by
 have:=Out.same (J:=[]) rfl hsc hv hr h
 simpa using this
theorem zco (b c:UInt8):((b.toNat:Int) == (c.toNat:Int))=(b == c):=by
 rw[Bool.eq_iff_iff]
 simp only[beq_iff_eq]
 constructor
 ·intro h;exact UInt8.toNat_inj.mp (by omega)
 ·rintro rfl;rfl
theorem zu6 (b:UInt8) (H:zaa) (K:AV→zaa→Prop) (hK:K (.bool (zbT b)) H):ACalls tP ziC [.int .u8 b.toNat] H K:=by
 refine ACalls.out (zLU fun hs=>?_)
 have hO:=zcM (K:=K) (H:=H) (r:=.bool (zbT b)) hs rfl rfl hK
 unfold zbT at hO
 cases h1:decide (97≤(b.toNat:Int)) <;> simp[zzq,h1] <;> simpa[h1]using hO
theorem zjG (b:UInt8) (H:zaa) (K:AV→zaa→Prop) (hK:K (.bool (bUp b)) H):ACalls tP zfT [.int .u8 b.toNat] H K:=by
 refine ACalls.out (zLX fun hs=>?_)
 have hO:=zcM (K:=K) (H:=H) (r:=.bool (bUp b)) hs rfl rfl hK
 unfold bUp at hO
 cases h1:decide (65≤(b.toNat:Int)) <;> simp[zzr,h1] <;> simpa[h1]using hO
theorem znu (b:UInt8) (H:zaa) (K:AV→zaa→Prop) (hK:K (.bool (zaW b)) H):ACalls tP zg0 [.int .u8 b.toNat] H K:=by
 refine ACalls.out (zL0 fun hs=>?_)
 have hO:=zcM (K:=K) (H:=H) (r:=.bool (zaW b)) hs rfl rfl hK
 unfold zaW at hO
 cases h1:decide (48≤(b.toNat:Int)) <;> simp[zzs,h1] <;> simpa[h1]using hO
theorem znO (b:UInt8) (H:zaa) (K:AV→zaa→Prop) (hK:K (.bool (zbT b)) H):ACalls tP ziN [.int .u8 b.toNat] H K:=by
 refine ACalls.out (zOn fun hs=>?_)
 have hO:=zcM (K:=K) (H:=H) (r:=.bool (zbT b)) hs rfl rfl hK
 unfold zbT at hO
 cases h1:decide (97≤(b.toNat:Int)) <;> simp[zz8,h1] <;> simpa[h1]using hO
theorem zjH (b:UInt8) (H:zaa) (K:AV→zaa→Prop) (hK:K (.bool (bUp b)) H):ACalls tP zg4 [.int .u8 b.toNat] H K:=by
 refine ACalls.out (zOq fun hs=>?_)
 have hO:=zcM (K:=K) (H:=H) (r:=.bool (bUp b)) hs rfl rfl hK
 unfold bUp at hO
 cases h1:decide (65≤(b.toNat:Int)) <;> simp[zz9,h1] <;> simpa[h1]using hO
theorem znv (b:UInt8) (H:zaa) (K:AV→zaa→Prop) (hK:K (.bool (zaW b)) H):ACalls tP ze9 [.int .u8 b.toNat] H K:=by
 refine ACalls.out (zOF fun hs=>?_)
 have hO:=zcM (K:=K) (H:=H) (r:=.bool (zaW b)) hs rfl rfl hK
 unfold zaW at hO
 cases h1:decide (48≤(b.toNat:Int)) <;> simp[zAe,h1] <;> simpa[h1]using hO
theorem zCr (b:UInt8) (H:zaa) (K:AV→zaa→Prop) (hK:K (.bool (zdc b)) H):ACalls tP zox [.int .u8 b.toNat] H K:=by
 refine ACalls.out (zOd fun hs=>?_)
 have hO:=zcM (K:=K) (H:=H) (r:=.bool (zdc b)) hs rfl rfl hK
 unfold zdc at hO
 have e1:((b.toNat:Int) == 9)=(b == 9):=zco b 9
 have e2:((b.toNat:Int) == 10)=(b == 10):=zco b 10
 have e3:((b.toNat:Int) == 13)=(b == 13):=zco b 13
 have e4:((b.toNat:Int) == 32)=(b == 32):=zco b 32
 cases h1:(b == 9) <;> cases h2:(b == 10) <;> cases h3:(b == 13) <;> simp[zz5,e1,e2,e3,e4,h1,h2,h3] <;> simpa[h1,h2,h3]using hO
theorem zGB (b:UInt8) (H:zaa) (K:AV→zaa→Prop) (hK:K (.bool (bIn b)) H):ACalls tP zg5 [.int .u8 b.toNat] H K:=by
 refine ACalls.out (zOz fun hs=>?_)
 have hO:=zcM (K:=K) (H:=H) (r:=.bool (bIn b)) hs rfl rfl hK
 unfold bIn at hO
 have e1:((b.toNat:Int) == 95)=(b == 95):=zco b 95
 unfold zAc
 refine znO b _ _ ?_
 cases h1:zbT b with
 | true=>simp;simpa[h1]using hO
 | false=>
  simp
  refine zjH b _ _ ?_
  cases h2:bUp b with
  | true=>simp;simpa[h1,h2]using hO
  | false=>
   simp
   refine znv b _ _ ?_
   cases h3:zaW b with
   | true=>simp;simpa[h1,h2,h3]using hO
   | false=>simp[e1];simpa[h1,h2,h3]using hO
theorem zDz (s:List UInt8) (H:zaa) (K:AV→zaa→Prop) (hK:K (.bool (kwF kwds s)) H):ACalls tP zoz [.str s] H K:=by
 refine ACalls.out (zOC fun hs=>?_)
 have hO:=zcM (K:=K) (H:=H) (r:=.bool (kwF kwds s)) hs rfl rfl hK
 have step:∀ (w:List UInt8) (ws:List (List UInt8)) (rest:Prop),(Out H.length K (.bool (kwF ws s)) H→rest)→Out H.length K (.bool (kwF (w::ws) s)) H →
   zab .eql false (.str s) (.str w) fun t=>zag t (zbf t H (Out H.length K)) rest:=by
  intro w ws rest h h'
  simp only[kwF,List.any_cons]at h h'
  cases e:(s == w) with
  | true=>simpa[zbf,e]using h'
  | false=>rw[e,Bool.false_or]at h';simpa[zbf,e]using h h'
 unfold zAd
 revert hO
 unfold kwds
 iterate 27 refine step _ _ _ ?_
 intro h'
 simp only[kwF,List.any_cons,List.any_nil,Bool.or_false]at h'
 cases e:(s == [119,114,105,116,101]) <;> rw[e]at h' <;> simpa[zbf,e]using h'
theorem zDA (s:List UInt8) (H:zaa) (K:AV→zaa→Prop) (hK:K (.bool (kwF kwds s)) H):ACalls tP ziD [.str s] H K:=by
 refine ACalls.out (zL5 fun hs=>?_)
 have hO:=zcM (K:=K) (H:=H) (r:=.bool (kwF kwds s)) hs rfl rfl hK
 have e:zzt (.str s) H (Out H.length K)=zrj (.str s) (.sl (kwds.map fun w=>[.str w]) .full) (.int .i64 0) H (Out H.length K):=rfl
 rw[e]
 have hlen:kwds.length=28:=rfl
 generalize kwds=ws at *
 refine zL3 (Inv:=fun q t4 H'=>∃ i:Nat,i≤ws.length∧q=ws.length-i∧t4=.int .i64 i∧kwF (ws.drop i) s=kwF ws s∧H'=H) ws.length ?_ ?_
 ·intro _;exact⟨0,by omega,by omega,rfl,by simp,rfl⟩
 ·rintro q t8 H' ⟨i,hi,rfl,rfl,ho,rfl⟩ hsc _ hsF Kb hKb
  by_cases hlt:i<ws.length
  ·rw[List.drop_eq_getElem_cons hlt]at ho
   simp only[kwF,List.any_cons]at ho
   cases hz:(ws[i] == s) with
   | true=>
    have hz':(s == ws[i])=true:=by rw[beq_iff_eq]at hz ⊢;exact hz.symm
    rw[hz',Bool.true_or]at ho
    simp[zlk,hlt,hz]
    unfold kwF at hO
    rw[←ho]at hO
    exact hO
   | false=>
    have hz':(s == ws[i])=false:=by rw[beq_eq_false_iff_ne]at hz ⊢;exact fun h=>hz h.symm
    rw[hz',Bool.false_or]at ho
    simp[zlk,hlt,hz]
    rw[zat (by omega) (by omega)]
    refine hKb _ _ ⟨ws.length-(i+1),by omega,Back.here (Nat.le_refl _) hs ?_ ⟨_,rfl,i+1,by omega,rfl,by simp,ho,rfl⟩⟩
    simp[zll,AV.sc,AV.scV,AV.scA,AV.scB]
  ·simp[zlk,hlt]
   obtain rfl:i=ws.length:=by omega
   rw[List.drop_length]at ho
   rw[←ho]at hO
   exact hO
theorem ztW {b:UInt8} (h:zaW b=true):48≤(b.toNat:Int)∧(b.toNat:Int)≤57:=by simpa[zaW]using h
theorem zFk (s:List UInt8) (hd:∀ b∈s,zaW b=true) (hl:s.length≤1000000) (H:zaa) (K:AV→zaa→Prop) (hK:K (.bool (zb5 s 0)) H):ACalls tP zg6 [.str s] H K:=by
 refine ACalls.out (zOK fun hs=>?_)
 have hO:=zcM (K:=K) (H:=H) (r:=.bool (zb5 s 0)) hs rfl rfl hK
 simp[zAf]
 refine zOI (Inv:=fun q t3 t7 H'=>∃ (i:Nat) (n:Int),i≤s.length∧q=s.length-i∧t7=.int .i64 i∧t3=.int .i64 n∧0≤n∧n≤1000000∧zb5 (s.drop i) n=zb5 s 0∧H'=H) s.length ?_ ?_
 ·intro _;exact⟨0,0,by omega,by omega,rfl,rfl,by omega,by omega,by simp,rfl⟩
 ·rintro q t3 t7 H' ⟨i,n,hi,rfl,rfl,rfl,hn0,hn1,ho,rfl⟩ hsc _ hsF Kb hKb
  by_cases hlt:i<s.length
  ·have hb:=ztW (hd s[i] (List.getElem_mem hlt))
   rw[List.drop_eq_getElem_cons hlt,zb5]at ho
   simp[zr1,hlt]
   rw[IntWalk.u8_in _ (by omega),zat (n:=n*10) (by omega) (by omega),zat (n:=(s[i].toNat:Int)-48) (by omega) (by omega),zat (by omega) (by omega),zat (by omega) (by omega)]
   by_cases hg:1000000<n*10+((s[i].toNat:Int)-48)
   ·rw[if_pos hg]at ho
    have hg':decide (1000000<n*10+((s[i].toNat:Int)-48))=true:=by simpa using hg
    rw[←ho]at hO
    rw[hg']
    simpa using hO
   ·rw[if_neg hg]at ho
    have hg':decide (1000000<n*10+((s[i].toNat:Int)-48))=false:=by simpa using hg
    rw[hg']
    simp only[ztA,Bool.false_eq_true,if_false]
    refine hKb _ _ ⟨s.length-(i+1),by omega,Back.here (Nat.le_refl _) hs ?_ ⟨_,_,rfl,i+1,_,by omega,rfl,by simp,rfl,by omega,by omega,ho,rfl⟩⟩
    simp[zlT,AV.sc,AV.scV,AV.scA,AV.scB]
  ·simp[zr1,hlt]
   obtain rfl:i=s.length:=by omega
   rw[List.drop_length,zb5]at ho
   rw[←ho]at hO
   exact hO
theorem zv1 (cl:UInt8→Bool) (f:FuncId) (hcl:zd1 tP f=true) (hf:∀ (b:UInt8) (H:zaa) (K:AV→zaa→Prop),K (.bool (cl b)) H→ACalls tP f [.int .u8 b.toNat] H K)
  (s:List UInt8) (hl:s.length≤1000000) (H:zaa) (K:AV→zaa→Prop) (hK:K (.str (s.takeWhile cl)) H):ACalls tP ziO [.str s,.fn f []] H K:=by
 refine ACalls.out (zOv fun hs=>?_)
 have hO:=zcM (K:=K) (H:=H) (r:=.str (s.takeWhile cl)) hs rfl rfl hK
 simp[zAa]
 refine zOt (Inv:=fun q t5 H'=>∃ i:Nat,i≤s.length∧q=s.length-i∧t5=.int .i64 i∧s.take i++(s.drop i).takeWhile cl=s.takeWhile cl∧H'=H) s.length ?_ ?_
 ·intro _;exact⟨0,by omega,by omega,rfl,by simp,rfl⟩
 ·rintro q t5 H' ⟨i,hi,rfl,rfl,ho,rfl⟩ hsc _ hsF Kb hKb
  by_cases hlt:i<s.length
  ·rw[List.drop_eq_getElem_cons hlt,List.takeWhile_cons]at ho
   simp[zrZ,hlt]
   simp only[aCallV,hcl,List.append_nil]
   refine hf _ _ _ ?_
   cases hc:cl s[i] with
   | true=>
    rw[hc,if_pos rfl,List.append_cons,←List.take_succ_eq_append_getElem hlt]at ho
    simp
    rw[zat (by omega) (by omega)]
    refine hKb _ _ ⟨s.length-(i+1),by omega,Back.here (Nat.le_refl _) hs ?_ ⟨_,rfl,i+1,by omega,rfl,by simp,ho,rfl⟩⟩
    simp[zlR,AV.sc,AV.scV,AV.scA,AV.scB]
   | false=>
    rw[hc,if_neg (by simp),List.append_nil]at ho
    rw[←ho]at hO
    simp[hi]
    exact hO
  ·simp[zrZ,hlt]
   obtain rfl:i=s.length:=by omega
   rw[List.drop_length,List.takeWhile_nil,List.append_nil,List.take_length]at ho
   rw[←ho]at hO
   simpa using hO
theorem zGu (s:List UInt8) (hd:∀ b∈s,zaW b=true) (hl:s.length≤1000000) (H:zaa) (K:AV→zaa→Prop) (hK:∀ n,K (.tup [.int .i64 n,.bool (zb5 s 0)]) H):ACalls tP zfU [.str s] H K:=by
 refine ACalls.out (zMb fun hs=>?_)
 have hO:∀ n,Out H.length K (.tup [.int .i64 n,.bool (zb5 s 0)]) H:=fun n=>Out.tup0 hs (hK n) ⟨za3 rfl rfl,za3 rfl rfl,trivial⟩
 simp only[zzv]
 refine zL9 (Inv:=fun q t3 t7 H'=>∃ (i:Nat) (n:Int),i≤s.length∧q=s.length-i∧t7=.int .i64 i∧t3=.int .i64 n∧0≤n∧n≤1000000∧zb5 (s.drop i) n=zb5 s 0∧H'=H) s.length ?_ ?_
 ·intro _;exact⟨0,0,by omega,by omega,rfl,rfl,by omega,by omega,by simp,rfl⟩
 ·rintro q t3 t7 H' ⟨i,n,hi,rfl,rfl,rfl,hn0,hn1,ho,rfl⟩ hsc _ hsF Kb hKb
  by_cases hlt:i<s.length
  ·have hb:=ztW (hd s[i] (List.getElem_mem hlt))
   rw[List.drop_eq_getElem_cons hlt,zb5]at ho
   simp[zrk,hlt]
   rw[IntWalk.u8_in _ (by omega),zat (n:=n*10) (by omega) (by omega),zat (n:=(s[i].toNat:Int)-48) (by omega) (by omega),zat (by omega) (by omega),zat (by omega) (by omega)]
   by_cases hg:1000000<n*10+((s[i].toNat:Int)-48)
   ·rw[if_pos hg]at ho
    have hg':decide (1000000<n*10+((s[i].toNat:Int)-48))=true:=by simpa using hg
    rw[←ho]at hO
    rw[hg']
    simpa[AV.isV]using hO 0
   ·rw[if_neg hg]at ho
    have hg':decide (1000000<n*10+((s[i].toNat:Int)-48))=false:=by simpa using hg
    rw[hg']
    simp only[ztA,Bool.false_eq_true,if_false]
    refine hKb _ _ ⟨s.length-(i+1),by omega,Back.here (Nat.le_refl _) hs ?_ ⟨_,_,rfl,i+1,_,by omega,rfl,by simp,rfl,by omega,by omega,ho,rfl⟩⟩
    simp[zln,AV.sc,AV.scV,AV.scA,AV.scB]
  ·simp[zrk,hlt,AV.isV]
   obtain rfl:i=s.length:=by omega
   rw[List.drop_length,zb5]at ho
   rw[←ho]at hO
   exact hO n
theorem zGe (b:UInt8) (r:List UInt8):(b::r).take 1=[b]:=by simp
theorem zpj {s:List UInt8} (h:¬ 2≤s.length):zdk s=false:=by
 match s,h with
 | [],_=>rfl
 | [b],_=>simp[zdk]
 | _::_::_,h=>simp at h
theorem zwt (b:UInt8) (r:List UInt8) (h:zdk (b::r)=false):sgn (b::r)=if sgns.contains b=true then 1 else 0:=by simp[sgn,h]
theorem zE9 (b:UInt8) (r:List UInt8) (H:zaa) (K:AV→zaa→Prop) (hK:K (.str ((b::r).take (sgn (b::r)))) H):ACalls tP zoA [.str (b::r)] H K:=by
 refine ACalls.out (zOO fun hs=>?_)
 have hO:=zcM (K:=K) (H:=H) (r:=.str ((b::r).take (sgn (b::r)))) hs rfl rfl hK
 have one:zdk (b::r)=false→zlU (.str (b::r)) H (Out H.length K):=by
  intro h2
  rw[zwt b r h2]at hO
  have hO:Out H.length K (.str (if sgns.contains b=true then [b] else [])) H:=by
   cases hc:sgns.contains b <;> rw[hc]at hO <;> simpa using hO
  have step:∀ (c:UInt8) (cs:List UInt8) (rest:Prop),(Out H.length K (.str (if cs.contains b=true then [b] else [])) H→rest)→Out H.length K (.str (if (c::cs).contains b=true then [b] else [])) H →
    zab .eql false (.str [b]) (.str [c]) fun t=>zag t (zcp (.str (b::r)) t H (Out H.length K)) rest:=by
   intro c cs rest h h'
   rw[List.contains_cons]at h'
   cases e:(b == c) with
   | true=>rw[e]at h';simpa[zcp,e]using h'
   | false=>
    rw[e,Bool.false_or]at h'
    simpa[zcp,e]using h h'
  unfold zlU
  simp only[zB4,zBX,zBW,Int.toNat_one,zGe,List.drop_zero]
  refine⟨by decide,⟨by omega,by simp⟩,?_⟩
  revert hO
  unfold sgns
  iterate 12 refine step _ _ _ ?_
  intro h'
  rw[List.contains_cons]at h'
  cases e:(b == 95) <;> rw[e]at h' <;> simpa[zcp,e]using h'
 by_cases hl:2≤(b::r).length
 ·have hl':(2:Int)≤r.length+1:=by simp only[List.length_cons]at hl;omega
  have hl2:1≤r.length:=by simp only[List.length_cons]at hl;omega
  cases h2:zdk (b::r) with
  | true=>
   have h3:sgn (b::r)=2:=by simp[sgn,h2]
   rw[h3]at hO
   unfold zdk at h2
   simp only[List.take_succ_cons]at h2 hO
   cases e1:(b::List.take 1 r == [45,62]) with
   | true=>simpa[zgj,hl',hl2,zfy,e1]using hO
   | false=>
    cases e2:(b::List.take 1 r == [60,61]) with
    | true=>simpa[zgj,hl',hl2,zfy,e1,e2]using hO
    | false=>
     rw[e1,e2]at h2
     simp only[Bool.false_or]at h2
     simpa[zgj,hl',hl2,zfy,e1,e2,h2]using hO
  | false=>
   have ho:=one h2
   unfold zdk at h2
   simp only[List.take_succ_cons]at h2
   rw[Bool.or_eq_false_iff,Bool.or_eq_false_iff]at h2
   simpa[zgj,hl',hl2,zfy,h2.1.1,h2.1.2,h2.2]using ho
 ·have ho:=one (zpj hl)
  have:¬ ((2:Int)≤r.length+1):=by simp only[List.length_cons]at hl;omega
  simpa[zgj,this]using ho
end Go.Proofs.YtdmamdnkcefmmaaGreatDoor

import Derived.Test.YtjkkonpjecoieaaGreatKY11
import Derived.Test.YtjkkonpjecoieaaGreatVT
import Derived.Test.YtjkkonpjecoieaaGreatKNum
import Derived.Test.YtjkkonpjecoieaaGreatProg
import Derived.KernelRfl
import Derived.Test.YtjkkonpjecoieaaGreatAbsQ1
set_option linter.unusedSimpArgs false
set_option linter.unusedVariables false
namespace Go.Proofs.YtjkkonpjecoieaaGreat
open Go Go.Abs
set_option maxRecDepth 8000
def zhr (i:Nat):VT→Bool
 | .mk k n ks=>k == 4 && n == i && ks.length == 0
def zcL:List VT→Nat→Bool
 | [],_=>true
 | x::l,i=>zhr i x && zcL l (i+1)
def zbP (d vars:Int):VT→Bool
 | .mk k n ks=>k == 5 && n == d && (ks.length:Int) == vars && zcL ks 0
mutual
def zcv (d:Int):VT→Bool
 | .mk k n ks=>(k == 5 && n == d) || zeO d ks
def zeO (d:Int):List VT→Bool
 | []=>false
 | t::ts=>zcv d t || zeO d ts
end
theorem zuG (v:VT) (d vars:Int) (hb:v.nodes≤1000000) (H:zaa) (K:AV→zaa→Prop) (hK:K (.bool (zbP d vars v)) H):ACalls tP zjN [.agg v.cs,.int .i64 d,.int .i64 vars] H K:=by
 refine ACalls.out (zSn fun hs=>?_)
 obtain⟨k,n,ks⟩:=v
 have hnl:VT.nodesL ks+1≤1000000:=by simpa[VT.nodes]using hb
 have hll:=VT.len_le ks
 have hO:∀ J,Out H.length K (.bool (k == 5 && n == d && (ks.length:Int) == vars && zcL ks 0)) (H++J):=fun J=>Out.bool rfl (Nat.le_refl _) hs (by simpa[zbP]using hK)
 simp only[VT.cs,zCw]
 cases h5:(k == 5) with
 | false=>
  have:(k != 5)=true:=by simp[bne,h5]
  rw[h5]at hO
  simp[this]
  exact hO _
 | true=>
 have h5':(k != 5)=false:=by simp[bne,h5]
 cases hn:(n == d) with
 | false=>
  have:(n != d)=true:=by simp[bne,hn]
  rw[h5,hn]at hO
  simp[h5',this]
  exact hO _
 | true=>
 have hn':(n != d)=false:=by simp[bne,hn]
 cases hv:((ks.length:Int) == vars) with
 | false=>
  have:((ks.length:Int) != vars)=true:=by simp[bne,hv]
  rw[h5,hn,hv]at hO
  simp[h5',hn',this]
  exact hO _
 | true=>
 have hv':((ks.length:Int) != vars)=false:=by simp[bne,hv]
 rw[h5,hn,hv]at hO
 simp only[Bool.true_and]at hO
 simp[h5',hn',hv']
 refine zSl (Inv:=fun q t7 H'=>∃ i:Nat,i≤ks.length∧q=ks.length-i∧t7=.int .i64 i∧zcL (ks.drop i) i=zcL ks 0∧H'=H++[.cells [.int .i64 k,.int .i64 n,.sl (VT.css ks) .none]]) ks.length ?_ ?_
 ·intro _;exact⟨0,by omega,by omega,rfl,by simp,rfl⟩
 ·rintro q t7 H' ⟨i,hi,rfl,rfl,ho,rfl⟩ hsc hlen hsF Kb hKb
  by_cases hlt:i<ks.length
  ·rw[List.drop_eq_getElem_cons hlt,zcL]at ho
   obtain⟨k',n',ks',hx⟩:∃ k' n' ks',ks[i]=.mk k' n' ks':=by cases h:ks[i] with | mk a b c=>exact⟨a,b,c,rfl⟩
   rw[hx,zhr]at ho
   cases g1:(k' == 4) with
   | false=>
    have:(k' != 4)=true:=by simp[bne,g1]
    rw[g1]at ho
    simp only[Bool.false_and]at ho
    rw[←ho]at hO
    simp[zgW,hlt,hx,VT.cs,this]
    exact hO _
   | true=>
   have g1':(k' != 4)=false:=by simp[bne,g1]
   cases g2:(n' == (i:Int)) with
   | false=>
    have:(n' != (i:Int))=true:=by simp[bne,g2]
    rw[g1,g2]at ho
    simp only[Bool.false_and,Bool.and_false]at ho
    rw[←ho]at hO
    simp[zgW,hlt,hx,VT.cs,g1',this]
    exact hO _
   | true=>
   have g2':(n' != (i:Int))=false:=by simp[bne,g2]
   by_cases g3:ks'.length=0
   ·have g3':¬ (0:Int)<ks'.length:=by omega
    have g3'':¬ 0<ks'.length:=by omega
    rw[g1,g2,g3]at ho
    simp only[Bool.true_and,BEq.rfl]at ho
    simp[zgW,hlt,hx,VT.cs,g1',g2',g3',g3'']
    rw[zau (by omega) (by omega)]
    refine hKb _ _ ⟨ks.length-(i+1),by omega,Back.here (by simp) hsc ?_ ⟨_,rfl,i+1,by omega,rfl,by simp,ho,rfl⟩⟩
    simp[znC,AV.sc,AV.scV,AV.scA,AV.scB]
   ·have g3':(0:Int)<ks'.length:=by omega
    have g3'':0<ks'.length:=by omega
    have g4:(ks'.length == 0)=false:=by simpa using g3
    rw[g4]at ho
    simp only[Bool.and_false,Bool.false_and]at ho
    rw[←ho]at hO
    simp[zgW,hlt,hx,VT.cs,g1',g2',g3',g3'']
    exact hO _
  ·obtain rfl:i=ks.length:=by omega
   rw[List.drop_length,zcL]at ho
   rw[←ho]at hO
   simp[zgW]
   exact hO _
theorem zDE:zdY tP zjv=true:=by kernel_rfl
theorem zwq (d:Int):∀ l:List VT,zeO d l=l.any (zcv d)
 | []=>rfl
 | t::ts=>by simp[zeO,zwq d ts]
theorem zNg (d:Int):∀ (m:Nat) (v:VT),v.nodes≤m→v.nodes≤1000000→∀ (H:zaa) (K:AV→zaa→Prop),K (.bool (zcv d v)) H→ACalls tP zju [.agg v.cs,.int .i64 d] H K:=by
 intro m
 induction m with
 | zero=>intro v h;have:=v.nodes_pos;omega
 | succ m ih=>
  intro v hv hb H K hK
  obtain⟨k,n,ks⟩:=v
  have hnl:VT.nodesL ks+1≤1000000:=by simpa[VT.nodes]using hb
  have hll:=VT.len_le ks
  refine ACalls.out (zNf fun hs=>?_)
  have hO:∀ J,Out H.length K (.bool ((k == 5 && n == d) || ks.any (zcv d))) (H++J):=fun J=>Out.bool rfl (Nat.le_refl _) hs (by simpa[zcv,zwq]using hK)
  have go:(k == 5 && n == d)=false→∀ KK:AV→zaa→Prop,(∀ b,Out H.length K (.bool b) (H++[.cells [.int .i64 k,.int .i64 n,.sl (VT.css ks) .none],.cells [.int .i64 d]])→KK (.bool b) (H++[.cells [.int .i64 k,.int .i64 n,.sl (VT.css ks) .none],.cells [.int .i64 d]])) →
    ACalls tP zfr [.sl (VT.css ks) .none,.fn zjv [.ptr (H.length+1) 0]] (H++[.cells [.int .i64 k,.int .i64 n,.sl (VT.css ks) .none],.cells [.int .i64 d]]) KK:=by
   intro hno KK hKK
   rw[hno,Bool.false_or]at hO
   refine zov ks (by omega) _ _ _ (by simp[AV.sc,AV.scV,AV.scA,AV.scB]) (fun i H'=>(ks.drop i).any (zcv d)=ks.any (zcv d)∧H'=H++[.cells [.int .i64 k,.int .i64 n,.sl (VT.css ks) .none],.cells [.int .i64 d]]) ⟨by simp,rfl⟩ ?_ ?_
   ·rintro i hi H' hle ⟨ho,rfl⟩
    have hki:=VT.kid_lt (k:=k) (n:=n) hi
    rw[List.drop_eq_getElem_cons hi,List.any_cons]at ho
    simp only[aCallV,zDE,List.singleton_append]
    refine ACalls.out (zNy fun hs1=>?_)
    obtain⟨x1,x2,x3,hvx,hx1,hx2,hx3⟩:=zaO ks[i]
    simp[zAP,hvx]
    rw[←hvx]
    refine ih ks[i] (by omega) (by omega) _ _ ?_
    refine Out.bool (J:=[_]) (H2:=H++[.cells [.int .i64 k,.int .i64 n,.sl (VT.css ks) .none],.cells [.int .i64 d]]) (by simp;rfl) (by simp) hs1 ?_
    cases hb:zcv d ks[i] with
    | false=>
     rw[hb,Bool.false_or]at ho
     exact .inl ⟨rfl,ho,rfl⟩
    | true=>
     rw[hb,Bool.true_or]at ho
     rw[←ho]at hO
     exact .inr ⟨rfl,hKK _ (hO _)⟩
   ·rintro H' ⟨ho,rfl⟩
    rw[List.drop_length,List.any_nil]at ho
    rw[←ho]at hO
    exact hKK _ (hO _)
  simp only[VT.cs,zAK]
  cases h5:(k == 5) with
  | false=>
   simp[h5,AV.isB]
   refine go (by rw[h5];rfl) _ fun b hb=>?_
   simpa using hb
  | true=>
   cases hn:(n == d) with
   | false=>
    simp[h5,hn,AV.isB]
    refine go (by rw[hn];simp) _ fun b hb=>?_
    simpa using hb
   | true=>
    rw[h5,hn]at hO
    simp[h5,hn]
    exact hO _
def zbC (l:List Bool):List AV:=l.map AV.bool
@[simp] theorem zWA (l:List Bool):(zbC l).length=l.length:=by simp[zbC]
theorem zDB (n:Nat):(List.replicate n [AV.bool false]).flatten=zbC (List.replicate n false):=by
 induction n with
 | zero=>rfl
 | succ n ih=>simp[List.replicate_succ,ih,zbC]
theorem zvj {l:List Bool} {i:Nat} (h:i<l.length) (b:Bool):(zbC l).take i++.bool b::(zbC l).drop (i+1)=zbC (l.set i b):=by
 simp[zbC,List.set_eq_take_append_cons_drop,h]
theorem zvi (m:Nat) (l:List Bool):(zbC l).all (AV.scA m)=true:=by simp[zbC]
theorem zwT:∀ l:List Bool,zaF (zbC l)=some (l.map fun b=>[AV.bool b]).flatten
 | []=>rfl
 | b::l=>by
  have:=zwT l
  simp[zbC]at this ⊢
  simp[zaF,this,AV.pd]
theorem zt8 (data:List Dat) (d:Nat) (c:Nat) (hd:d<data.length) (hc:c<(data[d]).cons.length) (hl:data.length≤1000000) (hcl:(data[d]).cons.length≤1000000) (hal:((data[d]).cons[c]).args.length≤1000000)
  (hb:∀ x∈((data[d]).cons[c]).args,x.nodes≤1000000) (H:zaa) (K:AV→zaa→Prop)
  (hK:K (.sl (((data[d]).cons[c]).args.map fun t=>[.bool (zbP d (data[d]).vars t)]) .none) H) :
  ACalls tP zek [.sl (data.map Dat.cs) .none,.int .i64 d,.int .i64 c] H K:=by
 refine ACalls.out (zR7 fun hs=>?_)
 have e1:(data.map Dat.cs)[d]?=some (data[d]).cs:=by simp[hd]
 have e2:((data[d]).cons.map Con.cs)[c]?=some ((data[d]).cons[c]).cs:=by simp[hc]
 generalize hD:data[d]=D at *
 generalize hA:D.cons[c]=C at *
 have h1:¬ (d:Int)<0:=by omega
 have h2:¬ (data.length:Int)≤d:=by omega
 have h3:¬ (c:Int)<0:=by omega
 have h4:¬ (D.cons.length:Int)≤c:=by omega
 simp[zCo,h1,h2,h3,h4,e1,e2,Dat.cs,Con.cs,hd,hD,hc,hA]
 simp only[zbr,Int.toNat_natCast,zDB]
 refine⟨⟨by omega,by omega,by omega,by omega⟩,?_⟩
 refine zR5 (Inv:=fun q t49 H'=>∃ (i:Nat) (bs:List Bool),i≤C.args.length∧q=C.args.length-i∧t49=.int .i64 i∧bs.length=C.args.length∧(∀ j (hj:j<i) (h':j<C.args.length),bs[j]?=some (zbP d D.vars C.args[j]))∧H'=H++[.cells (zbC bs)]) C.args.length ?_ ?_
 ·intro _;exact⟨0,_,by omega,by omega,rfl,by simp,by omega,rfl⟩
 ·rintro q t49 H' ⟨i,bs,hi,rfl,rfl,hbl,hbs,rfl⟩ hsc hlen hsF Kb hKb
  by_cases hlt:i<C.args.length
  ·obtain⟨k,n,ks,hx⟩:∃ k n ks,C.args[i]=.mk k n ks:=by cases h:C.args[i] with | mk a b c=>exact⟨a,b,c,rfl⟩
   have hnb:=hb _ (List.getElem_mem hlt)
   rw[hx,VT.nodes]at hnb
   have hll:=VT.len_le ks
   have inner:∀ b0:Bool,b0=(k == 5 && n == (d:Int) && (ks.length:Int) == D.vars) →
     zt7 (.sl (data.map Dat.cs) .none) (.int .i64 d) (.ms H.length 0 C.args.length C.args.length) (.int .i64 i) (.sl (VT.css C.args) .none) (.int .i64 C.args.length) (.int .i64 i) (.sl (VT.css ks) .none) (.int .i64 ks.length) (.int .i64 0)
      (H++[.cells (zbC (bs.set i b0)),.cells [.int .i64 k,.int .i64 n,.sl (VT.css ks) .none]]) (Out H.length K) Kb:=by
    intro b0 hb0
    refine zR4 (Inv:=fun q t80 H'=>∃ (j:Nat) (b:Bool),j≤ks.length∧q=ks.length-j∧t80=.int .i64 j∧(b && zcL (ks.drop j) j)=zbP d D.vars C.args[i]∧H'=H++[.cells (zbC (bs.set i b)),.cells [.int .i64 k,.int .i64 n,.sl (VT.css ks) .none]]) ks.length ?_ ?_
    ·intro _;exact⟨0,b0,by omega,by omega,rfl,by simp[hx,zbP,hb0],rfl⟩
    ·rintro q t80 H' ⟨j,b,hj,rfl,rfl,hob,rfl⟩ hsc1 hlen1 hsF1 Kb1 hKb1
     have hsc0:∀ b:Bool,HSc (H++[.cells (zbC (bs.set i b))]):=fun b=>hs.snoc (by simp[AB.sc,zvi])
     have hsc2:∀ b:Bool,HSc (H++[.cells (zbC (bs.set i b)),.cells [.int .i64 k,.int .i64 n,.sl (VT.css ks) .none]]):=fun b=>hs.append (by simp[AB.sc,zvi])
     by_cases hjl:j<ks.length
     ·obtain⟨k',n',ks',hx'⟩:∃ k' n' ks',ks[j]=.mk k' n' ks':=by cases h:ks[j] with | mk a b c=>exact⟨a,b,c,rfl⟩
      have hib:i<bs.length:=by omega
      rw[List.drop_eq_getElem_cons hjl,zcL,hx',zhr]at hob
      have hback:∀ (b':Bool) J,(b' && zcL (ks.drop (j+1)) (j+1))=zbP d D.vars C.args[i]→zt6 (.sl (data.map Dat.cs) .none) (.int .i64 d) (.ms H.length 0 C.args.length C.args.length) (.int .i64 i) (.sl (VT.css C.args) .none) (.int .i64 C.args.length) (.int .i64 i) (.sl (VT.css ks) .none) (.int .i64 ks.length) (.int .i64 j)
        (H++.cells (zbC (bs.set i b'))::.cells [.int .i64 k,.int .i64 n,.sl (VT.css ks) .none]::J) (Out H.length K) Kb Kb1:=by
       intro b' J hb'
       simp[zt6]
       rw[zau (by omega) (by omega)]
       refine hKb1 _ _ ⟨ks.length-(j+1),by omega,Back.at (J:=J) (H2:=H++[.cells (zbC (bs.set i b')),.cells [.int .i64 k,.int .i64 n,.sl (VT.css ks) .none]]) (by simp) (by simp) (hsc2 _) ?_ ⟨_,rfl,j+1,b',by omega,rfl,by simp,hb',rfl⟩⟩
       simp[znx,AV.sc,AV.scV,AV.scA,AV.scB]
      have hstore:∀ l,List.take i (zbC (bs.set i b))++.bool false::List.drop (i+1) (zbC (bs.set i b))=l→l=zbC (bs.set i false):=by
       rintro _ rfl
       rw[zvj (by simpa using hib)];simp
      cases g1:(k' == 4) with
      | false=>
       have:(k' != 4)=true:=by simp[bne,g1]
       rw[g1]at hob
       simp[zgU,zgV,hjl,hx',VT.cs,this,hlt,hbl,hstore _ rfl]
       refine⟨by omega,hback _ _ ?_⟩;simpa using hob.symm
      | true=>
      have g1':(k' != 4)=false:=by simp[bne,g1]
      cases g2:(n' == (j:Int)) with
      | false=>
       have:(n' != (j:Int))=true:=by simp[bne,g2]
       rw[g1,g2]at hob
       simp[zgU,zgV,hjl,hx',VT.cs,g1',this,hlt,hbl,hstore _ rfl]
       refine⟨by omega,hback _ _ ?_⟩;simpa using hob.symm
      | true=>
      have g2':(n' != (j:Int))=false:=by simp[bne,g2]
      by_cases g3:ks'.length=0
      ·have g3':¬ (0:Int)<ks'.length:=by omega
       have g3'':¬ 0<ks'.length:=by omega
       simp[zgU,zgV,hjl,hx',VT.cs,g1',g2',g3',g3'']
       refine hback _ _ ?_;simpa[g1,g2,g3]using hob
      ·have g3':(0:Int)<ks'.length:=by omega
       have g3'':0<ks'.length:=by omega
       have g4:(ks'.length == 0)=false:=by simpa using g3
       rw[g4]at hob
       simp[zgU,zgV,hjl,hx',VT.cs,g1',g2',g3',g3'',hlt,hbl,hstore _ rfl]
       refine⟨by omega,hback _ _ ?_⟩;simpa using hob.symm
     ·obtain rfl:j=ks.length:=by omega
      rw[List.drop_length,zcL,Bool.and_true]at hob
      simp[zgU]
      rw[zau (by omega) (by omega)]
      refine hKb _ _ ⟨C.args.length-(i+1),by omega,Back.at (J:=[.cells [.int .i64 k,.int .i64 n,.sl (VT.css ks) .none]]) (H2:=H++[.cells (zbC (bs.set i b))]) (by simp) (by simp) (hsc0 _) ?_ ⟨_,rfl,i+1,bs.set i b,by omega,rfl,by simp,by simpa using hbl,?_,rfl⟩⟩
      ·simp[zny,AV.sc,AV.scV,AV.scA,AV.scB]
      ·intro j hj h'
       by_cases hji:j=i
       ·subst hji;rw[←hob];simp[hbl,hlt]
       ·rw[List.getElem?_set_ne (by omega)];exact hbs j (by omega) h'
   have hstore:∀ b l,List.take i (zbC bs)++.bool b::List.drop (i+1) (zbC bs)=l→l=zbC (bs.set i b):=by
    rintro b _ rfl
    rw[zvj (by omega)]
   cases h5:(k == 5) with
   | false=>simp[ziA,hlt,hx,VT.cs,e1,hd,hD,Dat.cs,h5,hbl,hstore _ _ rfl];refine⟨by omega,inner _ ?_⟩;simp[h5]
   | true=>
   cases hn:(n == (d:Int)) with
   | false=>simp[ziA,hlt,hx,VT.cs,e1,hd,hD,Dat.cs,h5,hn,hbl,hstore _ _ rfl];refine⟨by omega,inner _ ?_⟩;simp[h5,hn]
   | true=>simp[ziA,hlt,hx,VT.cs,e1,hd,hD,Dat.cs,h5,hn,hbl,hstore _ _ rfl];refine⟨by omega,inner _ ?_⟩;simp[h5,hn]
  ·obtain rfl:i=C.args.length:=by omega
   simp[ziA]
   have hbe:bs=C.args.map (zbP d D.vars):=by
    refine List.ext_getElem (by simpa using hbl) fun j h1 h2=>?_
    have:=hbs j (by omega) (by omega)
    rw[List.getElem?_eq_getElem h1]at this
    simpa using this
   subst hbe
   refine⟨_,H,_,rfl,Nat.le_refl _,hs,.one (.frz H.length 0 _ _ 1 (zbC (C.args.map (zbP d D.vars))) (C.args.map fun t=>[.bool (zbP d D.vars t)]) (Nat.le_refl _) (by simp) (by simp) ?_ (by simp) (by simp) (Nat.le_refl _)),hK⟩
   rw[List.drop_zero,List.take_of_length_le (by simp),zwT,List.map_map]
   rfl
end Go.Proofs.YtjkkonpjecoieaaGreat
namespace Go.Abs
open Go
def zbZ (b:UInt8):Bool:=decide (97≤(b.toNat:Int)) && decide ((b.toNat:Int)≤122)
def bUp (b:UInt8):Bool:=decide (65≤(b.toNat:Int)) && decide ((b.toNat:Int)≤90)
def za3 (b:UInt8):Bool:=decide (48≤(b.toNat:Int)) && decide ((b.toNat:Int)≤57)
def bIn (b:UInt8):Bool:=zbZ b || bUp b || za3 b || b == 95
def zds (b:UInt8):Bool:=b == 9 || b == 10 || b == 13 || b == 32
def zcg:List UInt8→Int→Bool
 | [],_=>true
 | b::l,n=>let m:=n*10+((b.toNat:Int)-48)
  if m>1000000 then false else zcg l m
def zdA (r:List UInt8):Bool:=r.take 2 == [45,62] || r.take 2 == [60,61] || r.take 2 == [61,61]
def sgns:List UInt8:=[40,41,44,61,124,43,45,42,47,37,60,59,95]
def sgn (r:List UInt8):Nat:=
 if zdA r=true then 2 else match r with
 | []=>0
 | b::_=>if sgns.contains b=true then 1 else 0
structure Tk where
 kind:Int
 text:List UInt8
 pos:Nat
def tok (kw:List UInt8→Bool) (b:UInt8) (r:List UInt8):Except Int (Int × Nat):=
 if (zbZ b || bUp b)=true then
  let n:=(r.takeWhile bIn).length+1
  if n>24 then .error 9 else .ok (if bUp b=true then 2 else if kw ((b::r).take n)=true then 4 else 1,n)
 else if za3 b=true then
  let n:=(r.takeWhile za3).length+1
  if b == 48 && decide (n>1) then .error 2 else if zcg ((b::r).take n) 0=true then .ok (3,n) else .error 9
 else
  let n:=sgn (b::r)
  if n=0 then .error 2 else .ok (5,n)
theorem zqF {kw:List UInt8→Bool} {b:UInt8} {r:List UInt8} {k:Int} {n:Nat} (h:tok kw b r=.ok (k,n)):0<n:=by
 unfold tok at h
 split at h
 ·simp only at h;split at h <;> simp at h;omega
 ·split at h
  ·simp only at h;split at h
   ·simp at h
   ·split at h <;> simp at h;omega
  ·simp only at h;split at h <;> simp at h;omega
def zbB (kw:List UInt8→Bool) (r:List UInt8) (pos:Nat):Except (Nat × Int) (List Tk):=
 match r with
 | []=>.ok [⟨6,[],pos⟩]
 | b::r'=>
  if zds b=true then zbB kw r' (pos+1)
  else if b == 35 then zbB kw (r'.dropWhile (· != 10)) (pos+1+(r'.takeWhile (· != 10)).length)
  else match tok kw b r' with
   | .error e=>.error (pos,e)
   | .ok (k,n)=>match zbB kw (r'.drop (n-1)) (pos+n) with
    | .error e=>.error e
    | .ok l=>.ok (⟨k,(b::r').take n,pos⟩::l)
termination_by r.length
decreasing_by
 ·simp
 ·have:=(List.dropWhile_sublist (p:=(· != 10)) (l:=r')).length_le;simp;omega
 ·simp;omega
end Go.Abs
namespace Go.Proofs.YtjkkonpjecoieaaGreat
open Go Go.Abs
set_option maxRecDepth 100000
def zfM:Nat→List Bool
 | 5=>rl false [0,1,4,2,54]
 | 9=>rl false [0,1,4,2,54]
 | _=>[]
noncomputable def zsB:Code:=Tryz.f206.body.getD .skip
noncomputable def zNc:List ResultVar:=Tryz.f206.results.toList
def zgN (t0 t5 t6:AV):List AV:=t0::ux 4 (t5::t6::ux 54 [])
def zAJ:List Bool:=zfM 5
noncomputable def zsC:Code:=zap [1,0,1,1,1,1,0,0,0] zsB
def zAG (K:Kt):AExit→List AV→zaa→Prop:=zaq tP zfM [1,0,1,1,1,1,0,0] zsB (zaA tP zNc K)
def zl3 (t0 t5 t6:AV) (H:zaa) (K:Kt):Prop:=ALoop tP zsC (zAG K) (zgN t0 t5 t6) H
def zgO (t0 t5 t6:AV) (H:zaa) (K:Kt) (Kb5:Lt):Prop:=
 Kb5 (zgN t0 t5 t6) H
def zl1 (t0 t5 t6:AV):List AV:=t0::ux 4 (t5::t6::ux 54 [])
def zNa:List Bool:=zfM 9
noncomputable def zM7:Code:=zap [1,0,1,0,1,0,0,0,0] zsC
def zM6 (K:Kt) (Kb5:Lt):AExit→List AV→zaa→Prop:=zaq tP zfM [1,0,1,0,1,0,0,0] zsC (zbD zAJ Kb5 (zAG K))
def zAI (t0 t5 t6:AV) (H:zaa) (K:Kt) (Kb5:Lt):Prop:=ALoop tP zM7 (zM6 K Kb5) (zl1 t0 t5 t6) H
def zAH (t0 t5:AV) (H:zaa) (K:Kt):Prop:=
 zah 0 t0 fun t57=>
 zaz [(.int .i64 0),(.str []),(.int .i64 0)] [(0,1),(1,1),(2,1)] [(0,(.int .i64 6)),(2,t57)] fun t58=>
 zaB 3 [(.int .i64 0),(.str []),(.int .i64 0)] 1 [(0,t58)] fun t59=>
 zax zeG 3 32 t5 t59 H fun t60 H=>
 zaI [t60,(.int .i64 0),(.int .i64 0)] (K · H)
def zl2 (t0 t5:AV) (H:zaa) (K:Kt):Prop:=
 zAH t0 t5 H K
def zsA (t0 t5 t6:AV) (H:zaa) (K:Kt) (Kb5:Lt) (Kb9:Lt):Prop:=
 zah 0 t0 fun t28=>
 zac .lss false t6 t28 fun t29=>
 zag t29
 (zbH t0 t6 fun t34=>
 zac .eql false t34 (.int .u8 10) fun t35=>
 zag t35
 (zgO t0 t5 t6 H K Kb5)
 (zac .add false t6 (.int .i64 1) fun t31=>
 Kb9 (zl1 t0 t5 t31) H))
 (zl2 t0 t5 H K)
def zsz (t0 t5 t6:AV) (H:zaa) (K:Kt) (Kb5:Lt):Prop:=
 zah 0 t0 fun t14=>
 zac .lss false t6 t14 fun t15=>
 zag t15
 (zbH t0 t6 fun t18=>
 ACalls tP zpw [t18] H fun t19 H=>
 zag t19
 (zac .add false t6 (.int .i64 1) fun t21=>
 zgO t0 t5 t21 H K Kb5)
 (zbH t0 t6 fun t24=>
 zac .eql false t24 (.int .u8 35) fun t25=>
 zag t25
 (zAI t0 t5 t6 H K Kb5)
 (ACalls tP zpx [t0,t6] H fun t39 H=>
 zay t39 0 fun t40=>
 zay t39 1 fun t41=>
 zaw [(.int .i64 0),(.str []),(.int .i64 0)] H fun t7 H=>
 zam 3 t7 t40 H fun H=>
 zac .neq false t41 (.int .i64 0) fun t43=>
 zag t43
 (zaI [.snil,t6,t41] (K · H))
 (zae true 3 t7 H fun t47=>
 zaB 3 [(.int .i64 0),(.str []),(.int .i64 0)] 1 [(0,t47)] fun t48=>
 zax zeG 3 32 t5 t48 H fun t49 H=>
 zaf 1 t7 fun t51=>
 zae false 1 t51 H fun t52=>
 zah 0 t52 fun t53=>
 zac .add false t6 t53 fun t54=>
 zgO t0 t49 t54 H K Kb5))))
 (zl2 t0 t5 H K)
def zsy (t0:AV) (H:zaa) (K:Kt):Prop:=
 zah 0 t0 fun t10=>
 zac .gtr false t10 (.int .i64 16384) fun t11=>
 zag t11
 (zaI [.snil,(.int .i64 0),(.int .i64 9)] (K · H))
 (zl3 t0 .snil (.int .i64 0) H K)
theorem zM9 {t0 t5 t6:AV} {H:zaa} {K:Kt} {Kb5:Lt} (Inv:Nat→AV→zaa→Prop) (n:Nat) (h0:HSc H→Inv n t6 H)
  (round:Rd1 (fun t6=>zl1 t0 t5 t6) (fun t6=>fun H Kb9=>zsA t0 t5 t6 H K Kb5 Kb9) H Inv):zAI t0 t5 t6 H K Kb5:=
 lp1 (M:=zfM) zNa t6 (by kernel_rfl) Inv n h0 round
theorem zM8 {t0 t5 t6:AV} {H:zaa} {K:Kt} (Inv:Nat→AV→AV→zaa→Prop) (n:Nat) (h0:HSc H→Inv n t5 t6 H)
  (round:Rd2 (fun t5=>fun t6=>zgN t0 t5 t6) (fun t5=>fun t6=>fun H Kb5=>zsz t0 t5 t6 H K Kb5) H Inv):zl3 t0 t5 t6 H K:=
 lp2 (M:=zfM) zAJ t5 t6 (by kernel_rfl) Inv n h0 round
theorem zNb {t0:AV} {H:zaa} {K:Kt} (h:HSc H→zsy t0 H K):ACalls tP zpu [t0] H K:=
 zan (M:=zfM) Tryz.func206 (c:=zsB) (by kernel_rfl) (fun hs=>Eq.mpr (by kernel_rfl) (h hs))
def zdk:Nat→List Bool
 | 5=>rl false [0,1,4,2,193]
 | 10=>rl false [0,1,4,2,193]
 | 18=>rl false [0,1,4,4,191]
 | 29=>rl false [0,1,4,4,191]
 | _=>[]
noncomputable def zrq:Code:=Tryz.f129.body.getD .skip
noncomputable def zI8:List ResultVar:=Tryz.f129.results.toList
def zfI (t0 t5 t6:AV):List AV:=t0::ux 4 (t5::t6::ux 193 [])
def zk5:List Bool:=zdk 5
noncomputable def zfH:Code:=zap [1,1,1,0,1,0,0] zrq
def zkZ (K:Kt):AExit→List AV→zaa→Prop:=zaq tP zdk [1,1,1,0,1,0] zrq (zaA tP zI8 K)
def zk4 (t0 t5 t6:AV) (H:zaa) (K:Kt):Prop:=ALoop tP zfH (zkZ K) (zfI t0 t5 t6) H
def ze0 (t0 t5 t6:AV) (H:zaa) (K:Kt) (Kb5:Lt):Prop:=
 Kb5 (zfI t0 t5 t6) H
def zk2 (t0 t5 t6:AV):List AV:=t0::ux 4 (t5::t6::ux 193 [])
def zI4:List Bool:=zdk 10
noncomputable def zIX:Code:=zap [1,0,1,1,0,1,0,0,0,0] zfH
def zIU (K:Kt) (Kb5:Lt):AExit→List AV→zaa→Prop:=zaq tP zdk [1,0,1,1,0,1,0,0,0] zfH (zbD zk5 Kb5 (zkZ K))
def zy9 (t0 t5 t6:AV) (H:zaa) (K:Kt) (Kb5:Lt):Prop:=ALoop tP zIX (zIU K Kb5) (zk2 t0 t5 t6) H
def zrn (t0 t5 t6:AV) (H:zaa) (K:Kt) (Kb5:Lt) (Kb10:Lt):Prop:=
 zah 0 t0 fun t42=>
 zac .lss false t6 t42 fun t43=>
 zab t43 true H (fun K'=>K' t0 H) fun t45 H=>
 zab t43 true H (fun K'=>K' t6 H) fun t46 H=>
 zab t43 true H (fun K'=>zbH t45 t46 (K' · H)) fun t47 H=>
 zab t43 true H (fun K'=>zac .neq false t47 (.int .u8 10) (K' · H)) fun t48 H=>
 zaj t43 t48 (.bool false) fun t49=>
 zag t49
 (zac .add false t6 (.int .i64 1) fun t51=>
 Kb10 (zk2 t0 t5 t51) H)
 (ze0 t0 t5 t6 H K Kb5)
def zig (t0 t5 t6 t7 t8:AV):List AV:=t0::ux 4 (t5::t6::t7::t8::ux 191 [])
def zI5:List Bool:=zdk 18
noncomputable def zIY:Code:=zap [1,0,1,1,1,1,0,0,1,0,0,0,0] zfH
def zIV (K:Kt) (Kb5:Lt):AExit→List AV→zaa→Prop:=zaq tP zdk [1,0,1,1,1,1,0,0,1,0,0,0] zfH (zbD zk5 Kb5 (zkZ K))
def zrr (t0 t5 t6 t7 t8:AV) (H:zaa) (K:Kt) (Kb5:Lt):Prop:=ALoop tP zIY (zIV K Kb5) (zig t0 t5 t6 t7 t8) H
def zih (t0 t5 t6 t8:AV) (H:zaa) (K:Kt) (Kb5:Lt):Prop:=
 zac .add false t6 t8 fun t193=>
 ze0 t0 t5 t193 H K Kb5
def ze2 (t0 t5 t6 t8:AV) (H:zaa) (K:Kt) (Kb5:Lt):Prop:=
 zih t0 t5 t6 t8 H K Kb5
def ze1 (t0 t5 t6 t8 t9:AV) (H:zaa) (K:Kt) (Kb5:Lt):Prop:=
 zac .add false t6 t8 fun t135=>
 zaJ 0 0 t0 (some t6) (some t135) fun t136=>
 zaz [(.int .i64 0),(.str []),(.int .i64 0)] [(0,1),(1,1),(2,1)] [(0,t9),(1,t136),(2,t6)] fun t138=>
 zaB 3 [(.int .i64 0),(.str []),(.int .i64 0)] 1 [(0,t138)] fun t139=>
 zax zbu 3 32 t5 t139 H fun t140 H=>
 ze2 t0 t140 t6 t8 H K Kb5
def zro (t0 t5 t6 t7 t8:AV) (H:zaa) (K:Kt) (Kb5:Lt) (Kb18:Lt):Prop:=
 zac .add false t6 t8 fun t79=>
 zah 0 t0 fun t81=>
 zac .lss false t79 t81 fun t82=>
 zab t82 true H (fun K'=>K' t0 H) fun t84 H=>
 zab t82 true H (fun K'=>K' t6 H) fun t85 H=>
 zab t82 true H (fun K'=>K' t8 H) fun t86 H=>
 zab t82 true H (fun K'=>zac .add false t85 t86 (K' · H)) fun t87 H=>
 zab t82 true H (fun K'=>zbH t84 t87 (K' · H)) fun t88 H=>
 zab t82 true H (fun K'=>ACalls tP zjo [t88] H K') fun t89 H=>
 zab t82 true H (fun K'=>K' t89 H) fun t90 H=>
 zab t90 false H (fun K'=>K' t0 H) fun t91 H=>
 zab t90 false H (fun K'=>K' t6 H) fun t92 H=>
 zab t90 false H (fun K'=>K' t8 H) fun t93 H=>
 zab t90 false H (fun K'=>zac .add false t92 t93 (K' · H)) fun t94 H=>
 zab t90 false H (fun K'=>zbH t91 t94 (K' · H)) fun t95 H=>
 zab t90 false H (fun K'=>ACalls tP zgl [t95] H K') fun t96 H=>
 zab t82 true H (fun K'=>zaj t90 (.bool true) t96 (K' · H)) fun t97 H=>
 zab t82 true H (fun K'=>K' t97 H) fun t98 H=>
 zab t98 false H (fun K'=>K' t0 H) fun t99 H=>
 zab t98 false H (fun K'=>K' t6 H) fun t100 H=>
 zab t98 false H (fun K'=>K' t8 H) fun t101 H=>
 zab t98 false H (fun K'=>zac .add false t100 t101 (K' · H)) fun t102 H=>
 zab t98 false H (fun K'=>zbH t99 t102 (K' · H)) fun t103 H=>
 zab t98 false H (fun K'=>ACalls tP zhC [t103] H K') fun t104 H=>
 zab t82 true H (fun K'=>zaj t98 (.bool true) t104 (K' · H)) fun t105 H=>
 zab t82 true H (fun K'=>K' t105 H) fun t106 H=>
 zab t106 false H (fun K'=>K' t0 H) fun t107 H=>
 zab t106 false H (fun K'=>K' t6 H) fun t108 H=>
 zab t106 false H (fun K'=>K' t8 H) fun t109 H=>
 zab t106 false H (fun K'=>zac .add false t108 t109 (K' · H)) fun t110 H=>
 zab t106 false H (fun K'=>zbH t107 t110 (K' · H)) fun t111 H=>
 zab t106 false H (fun K'=>zac .eql false t111 (.int .u8 95) (K' · H)) fun t112 H=>
 zab t82 true H (fun K'=>zaj t106 (.bool true) t112 (K' · H)) fun t113 H=>
 zaj t82 t113 (.bool false) fun t114=>
 zag t114
 (zac .add false t8 (.int .i64 1) fun t116=>
 Kb18 (zig t0 t5 t6 t7 t116) H)
 (zac .gtr false t8 (.int .i64 24) fun t118=>
 zag t118
 (zaI [.snil,t6,(.int .i64 9)] (K · H))
 (ACalls tP zgl [t7] H fun t121 H=>
 zag t121
 (ze1 t0 t5 t6 t8 (.int .i64 2) H K Kb5)
 (zac .add false t6 t8 fun t126=>
 zaJ 0 0 t0 (some t6) (some t126) fun t127=>
 ACalls tP zjp [t127] H fun t128 H=>
 zag t128
 (ze1 t0 t5 t6 t8 (.int .i64 4) H K Kb5)
 (ze1 t0 t5 t6 t8 (.int .i64 1) H K Kb5))))
def zk3 (t0 t5 t6 t7 t8:AV):List AV:=t0::ux 4 (t5::t6::t7::t8::ux 191 [])
def zI6:List Bool:=zdk 29
noncomputable def zIZ:Code:=zap [1,0,1,1,1,1,0,0,1,1,1,0,0,0,0] zfH
def zIW (K:Kt) (Kb5:Lt):AExit→List AV→zaa→Prop:=zaq tP zdk [1,0,1,1,1,1,0,0,1,1,1,0,0,0] zfH (zbD zk5 Kb5 (zkZ K))
def zrs (t0 t5 t6 t7 t8:AV) (H:zaa) (K:Kt) (Kb5:Lt):Prop:=ALoop tP zIZ (zIW K Kb5) (zk3 t0 t5 t6 t7 t8) H
def zrp (t0 t5 t6 t7 t8:AV) (H:zaa) (K:Kt) (Kb5:Lt) (Kb29:Lt):Prop:=
 zac .add false t6 t8 fun t146=>
 zah 0 t0 fun t148=>
 zac .lss false t146 t148 fun t149=>
 zab t149 true H (fun K'=>K' t0 H) fun t151 H=>
 zab t149 true H (fun K'=>K' t6 H) fun t152 H=>
 zab t149 true H (fun K'=>K' t8 H) fun t153 H=>
 zab t149 true H (fun K'=>zac .add false t152 t153 (K' · H)) fun t154 H=>
 zab t149 true H (fun K'=>zbH t151 t154 (K' · H)) fun t155 H=>
 zab t149 true H (fun K'=>ACalls tP zhC [t155] H K') fun t156 H=>
 zaj t149 t156 (.bool false) fun t157=>
 zag t157
 (zac .add false t8 (.int .i64 1) fun t159=>
 Kb29 (zk3 t0 t5 t6 t7 t159) H)
 (zac .gtr false t8 (.int .i64 1) fun t161=>
 zab t161 true H (fun K'=>K' t7 H) fun t163 H=>
 zab t161 true H (fun K'=>zac .eql false t163 (.int .u8 48) (K' · H)) fun t164 H=>
 zaj t161 t164 (.bool false) fun t165=>
 zag t165
 (zaI [.snil,t6,(.int .i64 2)] (K · H))
 (zac .add false t6 t8 fun t172=>
 zaJ 0 0 t0 (some t6) (some t172) fun t173=>
 ACalls tP zgm [t173] H fun t174 H=>
 zay t174 0 fun t175=>
 zay t174 1 fun t176=>
 aUn .not t176 fun t178=>
 zag t178
 (zaI [.snil,t6,(.int .i64 9)] (K · H))
 (zac .add false t6 t8 fun t185=>
 zaJ 0 0 t0 (some t6) (some t185) fun t186=>
 zaz [(.int .i64 0),(.str []),(.int .i64 0)] [(0,1),(1,1),(2,1)] [(0,(.int .i64 3)),(1,t186),(2,t6)] fun t188=>
 zaB 3 [(.int .i64 0),(.str []),(.int .i64 0)] 1 [(0,t188)] fun t189=>
 zax zbu 3 32 t5 t189 H fun t190 H=>
 ze2 t0 t190 t6 t8 H K Kb5)))
def zk0 (t0 t5 t6:AV) (H:zaa) (K:Kt) (Kb5:Lt):Prop:=
 zah 0 t0 fun t17=>
 zac .lss false t6 t17 fun t18=>
 zag t18
 (zbH t0 t6 fun t21=>
 zac .eql false t21 (.int .u8 9) fun t23=>
 zab t23 false H (fun K'=>K' t21 H) fun t25 H=>
 zab t23 false H (fun K'=>zac .eql false t25 (.int .u8 10) (K' · H)) fun t26 H=>
 zaj t23 (.bool true) t26 fun t27=>
 zab t27 false H (fun K'=>K' t21 H) fun t29 H=>
 zab t27 false H (fun K'=>zac .eql false t29 (.int .u8 13) (K' · H)) fun t30 H=>
 zaj t27 (.bool true) t30 fun t31=>
 zab t31 false H (fun K'=>K' t21 H) fun t33 H=>
 zab t31 false H (fun K'=>zac .eql false t33 (.int .u8 32) (K' · H)) fun t34 H=>
 zaj t31 (.bool true) t34 fun t35=>
 zag t35
 (zac .add false t6 (.int .i64 1) fun t37=>
 ze0 t0 t5 t37 H K Kb5)
 (zac .eql false t21 (.int .u8 35) fun t39=>
 zag t39
 (zy9 t0 t5 t6 H K Kb5)
 (ACalls tP zjo [t21] H fun t72 H=>
 zab t72 false H (fun K'=>K' t21 H) fun t74 H=>
 zab t72 false H (fun K'=>ACalls tP zgl [t74] H K') fun t75 H=>
 zaj t72 (.bool true) t75 fun t76=>
 zag t76
 (zrr t0 t5 t6 t21 (.int .i64 1) H K Kb5)
 (ACalls tP zhC [t21] H fun t143 H=>
 zag t143
 (zrs t0 t5 t6 t21 (.int .i64 1) H K Kb5)
 (zaJ 0 0 t0 (some t6) none fun t54=>
 ACalls tP zpq [t54] H fun t55 H=>
 zac .eql false t55 (.int .i64 0) fun t57=>
 zag t57
 (zaI [.snil,t6,(.int .i64 2)] (K · H))
 (zac .add false t6 t55 fun t64=>
 zaJ 0 0 t0 (some t6) (some t64) fun t65=>
 zaz [(.int .i64 0),(.str []),(.int .i64 0)] [(0,1),(1,1),(2,1)] [(0,(.int .i64 5)),(1,t65),(2,t6)] fun t67=>
 zaB 3 [(.int .i64 0),(.str []),(.int .i64 0)] 1 [(0,t67)] fun t68=>
 zax zbu 3 32 t5 t68 H fun t69 H=>
 ze2 t0 t69 t6 t55 H K Kb5))))))
 (zah 0 t0 fun t196=>
 zaz [(.int .i64 0),(.str []),(.int .i64 0)] [(0,1),(1,1),(2,1)] [(0,(.int .i64 6)),(1,(.str [])),(2,t196)] fun t197=>
 zaB 3 [(.int .i64 0),(.str []),(.int .i64 0)] 1 [(0,t197)] fun t198=>
 zax zbu 3 32 t5 t198 H fun t199 H=>
 zaI [t199,(.int .i64 0),(.int .i64 0)] (K · H))
def zrm (t0:AV) (H:zaa) (K:Kt):Prop:=
 zah 0 t0 fun t13=>
 zac .gtr false t13 (.int .i64 16384) fun t14=>
 zag t14
 (zaI [.snil,(.int .i64 0),(.int .i64 9)] (K · H))
 (zk4 t0 .snil (.int .i64 0) H K)
theorem zI0 {t0 t5 t6:AV} {H:zaa} {K:Kt} {Kb5:Lt} (Inv:Nat→AV→zaa→Prop) (n:Nat) (h0:HSc H→Inv n t6 H)
  (round:Rd1 (fun t6=>zk2 t0 t5 t6) (fun t6=>fun H Kb10=>zrn t0 t5 t6 H K Kb5 Kb10) H Inv):zy9 t0 t5 t6 H K Kb5:=
 lp1 (M:=zdk) zI4 t6 (by kernel_rfl) Inv n h0 round
theorem zI1 {t0 t5 t6 t7 t8:AV} {H:zaa} {K:Kt} {Kb5:Lt} (Inv:Nat→AV→zaa→Prop) (n:Nat) (h0:HSc H→Inv n t8 H)
  (round:Rd1 (fun t8=>zig t0 t5 t6 t7 t8) (fun t8=>fun H Kb18=>zro t0 t5 t6 t7 t8 H K Kb5 Kb18) H Inv):zrr t0 t5 t6 t7 t8 H K Kb5:=
 lp1 (M:=zdk) zI5 t8 (by kernel_rfl) Inv n h0 round
theorem zI2 {t0 t5 t6 t7 t8:AV} {H:zaa} {K:Kt} {Kb5:Lt} (Inv:Nat→AV→zaa→Prop) (n:Nat) (h0:HSc H→Inv n t8 H)
  (round:Rd1 (fun t8=>zk3 t0 t5 t6 t7 t8) (fun t8=>fun H Kb29=>zrp t0 t5 t6 t7 t8 H K Kb5 Kb29) H Inv):zrs t0 t5 t6 t7 t8 H K Kb5:=
 lp1 (M:=zdk) zI6 t8 (by kernel_rfl) Inv n h0 round
theorem zI3 {t0 t5 t6:AV} {H:zaa} {K:Kt} (Inv:Nat→AV→AV→zaa→Prop) (n:Nat) (h0:HSc H→Inv n t5 t6 H)
  (round:Rd2 (fun t5=>fun t6=>zfI t0 t5 t6) (fun t5=>fun t6=>fun H Kb5=>zk0 t0 t5 t6 H K Kb5) H Inv):zk4 t0 t5 t6 H K:=
 lp2 (M:=zdk) zk5 t5 t6 (by kernel_rfl) Inv n h0 round
theorem zI7 {t0:AV} {H:zaa} {K:Kt} (h:HSc H→zrm t0 H K):ACalls tP zpb [t0] H K:=
 zan (M:=zdk) Tryz.func129 (c:=zrq) (by kernel_rfl) (fun hs=>Eq.mpr (by kernel_rfl) (h hs))
def zNq (_:Nat):List Bool:=[]
noncomputable def zNr:Code:=Tryz.f219.body.getD .skip
def zAN (t0:AV) (H:zaa) (K:Kt):Prop:=
 zac .eql false t0 (.int .u8 9) fun t4=>
 zab t4 false H (fun K'=>K' t0 H) fun t6 H=>
 zab t4 false H (fun K'=>zac .eql false t6 (.int .u8 10) (K' · H)) fun t7 H=>
 zaj t4 (.bool true) t7 fun t8=>
 zab t8 false H (fun K'=>K' t0 H) fun t10 H=>
 zab t8 false H (fun K'=>zac .eql false t10 (.int .u8 13) (K' · H)) fun t11 H=>
 zaj t8 (.bool true) t11 fun t12=>
 zab t12 false H (fun K'=>K' t0 H) fun t14 H=>
 zab t12 false H (fun K'=>zac .eql false t14 (.int .u8 32) (K' · H)) fun t15 H=>
 zaj t12 (.bool true) t15 fun t16=>
 K t16 H
theorem zNs {t0:AV} {H:zaa} {K:Kt} (h:HSc H→zAN t0 H K):ACalls tP zpw [t0] H K:=
 zan (M:=zNq) Tryz.func219 (c:=zNr) (by kernel_rfl) (fun hs=>Eq.mpr (by kernel_rfl) (h hs))
end Go.Proofs.YtjkkonpjecoieaaGreat
namespace Go.Proofs.YtjkkonpjecoieaaGreat
open Go Go.Abs
set_option maxRecDepth 100000
def zNt (_:Nat):List Bool:=[]
noncomputable def zNu:Code:=Tryz.f220.body.getD .skip
def zAO (t4 t6:AV) (H:zaa) (K:Kt):Prop:=
 zae true 3 t6 H fun t74=>
 zam 3 t4 t74 H fun H=>
 zae true 3 t4 H fun r0=>
 zaI [r0,(.int .i64 0)] (K · H)
def zgQ (t4 t6:AV) (H:zaa) (K:Kt):Prop:=
 zAO t4 t6 H K
def zgP (t4 t6:AV) (H:zaa) (K:Kt):Prop:=
 zgQ t4 t6 H K
def zsF (t0 t1:AV) (H:zaa) (K:Kt):Prop:=
 zaw [(.int .i64 0),(.str []),(.int .i64 0)] H fun t4 H=>
 zaz [(.int .i64 0),(.str []),(.int .i64 0)] [(0,1),(1,1),(2,1)] [(2,t1)] fun t9=>
 zaw [(.int .i64 0),(.str []),(.int .i64 0)] H fun t6 H=>
 zam 3 t6 t9 H fun H=>
 zbH t0 t1 fun t12=>
 ACalls tP zjx [t12] H fun t25 H=>
 zab t25 false H (fun K'=>K' t12 H) fun t27 H=>
 zab t25 false H (fun K'=>ACalls tP zhD [t27] H K') fun t28 H=>
 zaj t25 (.bool true) t28 fun t29=>
 zag t29
 (zaJ 0 0 t0 (some t1) none fun t32=>
 ACalls tP zjy [t32,(.fn zhE [])] H fun t33 H=>
 zaf 1 t6 fun t34=>
 zam 1 t34 t33 H fun H=>
 zaf 1 t6 fun t37=>
 zae false 1 t37 H fun t38=>
 zah 0 t38 fun t39=>
 zac .gtr false t39 (.int .i64 24) fun t40=>
 zag t40
 (zaz [(.int .i64 0),(.str []),(.int .i64 0)] [(0,1),(1,1),(2,1)] [] fun t41=>
 zam 3 t4 t41 H fun H=>
 zae true 3 t4 H fun r0=>
 zaI [r0,(.int .i64 9)] (K · H))
 (ACalls tP zhD [t12] H fun t44 H=>
 zag t44
 (zaf 0 t6 fun t45=>
 zam 1 t45 (.int .i64 2) H fun H=>
 zgP t4 t6 H K)
 (zaf 1 t6 fun t47=>
 zae false 1 t47 H fun t48=>
 ACalls tP zpy [t48] H fun t49 H=>
 zag t49
 (zaf 0 t6 fun t50=>
 zam 1 t50 (.int .i64 4) H fun H=>
 zgP t4 t6 H K)
 (zaf 0 t6 fun t35=>
 zam 1 t35 (.int .i64 1) H fun H=>
 zgP t4 t6 H K))))
 (ACalls tP zft [t12] H fun t53 H=>
 zag t53
 (zaf 0 t6 fun t54=>
 zam 1 t54 (.int .i64 3) H fun H=>
 zaJ 0 0 t0 (some t1) none fun t57=>
 ACalls tP zjy [t57,(.fn zft [])] H fun t58 H=>
 zaf 1 t6 fun t59=>
 zam 1 t59 t58 H fun H=>
 zac .eql false t12 (.int .u8 48) fun t61=>
 zab t61 true H (fun K'=>zaf 1 t6 (K' · H)) fun t63 H=>
 zab t61 true H (fun K'=>zae false 1 t63 H (K' · H)) fun t64 H=>
 zab t61 true H (fun K'=>zah 0 t64 (K' · H)) fun t65 H=>
 zab t61 true H (fun K'=>zac .gtr false t65 (.int .i64 1) (K' · H)) fun t66 H=>
 zaj t61 t66 (.bool false) fun t67=>
 zag t67
 (zaz [(.int .i64 0),(.str []),(.int .i64 0)] [(0,1),(1,1),(2,1)] [] fun t68=>
 zam 3 t4 t68 H fun H=>
 zae true 3 t4 H fun r0=>
 zaI [r0,(.int .i64 2)] (K · H))
 (zaf 1 t6 fun t69=>
 zae false 1 t69 H fun t70=>
 ACalls tP zhF [t70] H fun t71 H=>
 aUn .not t71 fun t72=>
 zag t72
 (zaz [(.int .i64 0),(.str []),(.int .i64 0)] [(0,1),(1,1),(2,1)] [] fun t73=>
 zam 3 t4 t73 H fun H=>
 zae true 3 t4 H fun r0=>
 zaI [r0,(.int .i64 9)] (K · H))
 (zgQ t4 t6 H K)))
 (zaf 0 t6 fun t13=>
 zam 1 t13 (.int .i64 5) H fun H=>
 zaJ 0 0 t0 (some t1) none fun t16=>
 ACalls tP zpA [t16] H fun t17 H=>
 zaf 1 t6 fun t18=>
 zam 1 t18 t17 H fun H=>
 zaf 1 t6 fun t19=>
 zae false 1 t19 H fun t20=>
 zac .eql false t20 (.str []) fun t21=>
 zag t21
 (zaz [(.int .i64 0),(.str []),(.int .i64 0)] [(0,1),(1,1),(2,1)] [] fun t22=>
 zam 3 t4 t22 H fun H=>
 zae true 3 t4 H fun r0=>
 zaI [r0,(.int .i64 2)] (K · H))
 (zgQ t4 t6 H K)))
theorem zNv {t0 t1:AV} {H:zaa} {K:Kt} (h:HSc H→zsF t0 t1 H K):ACalls tP zpx [t0,t1] H K:=
 zan (M:=zNt) Tryz.func220 (c:=zNu) (by kernel_rfl) (fun hs=>Eq.mpr (by kernel_rfl) (h hs))
def zLN (_:Nat):List Bool:=[]
noncomputable def zLO:Code:=Tryz.f171.body.getD .skip
def zAk (t0:AV) (H:zaa) (K:Kt):Prop:=
 zac .geq false t0 (.int .u8 97) fun t4=>
 zab t4 true H (fun K'=>K' t0 H) fun t6 H=>
 zab t4 true H (fun K'=>zac .leq false t6 (.int .u8 122) (K' · H)) fun t7 H=>
 zaj t4 t7 (.bool false) fun t8=>
 K t8 H
theorem zLP {t0:AV} {H:zaa} {K:Kt} (h:HSc H→zAk t0 H K):ACalls tP zjo [t0] H K:=
 zan (M:=zLN) Tryz.func171 (c:=zLO) (by kernel_rfl) (fun hs=>Eq.mpr (by kernel_rfl) (h hs))
def zLU (_:Nat):List Bool:=[]
noncomputable def zLV:Code:=Tryz.f172.body.getD .skip
def zAm (t0:AV) (H:zaa) (K:Kt):Prop:=
 zac .geq false t0 (.int .u8 65) fun t4=>
 zab t4 true H (fun K'=>K' t0 H) fun t6 H=>
 zab t4 true H (fun K'=>zac .leq false t6 (.int .u8 90) (K' · H)) fun t7 H=>
 zaj t4 t7 (.bool false) fun t8=>
 K t8 H
theorem zLW {t0:AV} {H:zaa} {K:Kt} (h:HSc H→zAm t0 H K):ACalls tP zgl [t0] H K:=
 zan (M:=zLU) Tryz.func172 (c:=zLV) (by kernel_rfl) (fun hs=>Eq.mpr (by kernel_rfl) (h hs))
def zLX (_:Nat):List Bool:=[]
noncomputable def zLY:Code:=Tryz.f173.body.getD .skip
def zAn (t0:AV) (H:zaa) (K:Kt):Prop:=
 zac .geq false t0 (.int .u8 48) fun t4=>
 zab t4 true H (fun K'=>K' t0 H) fun t6 H=>
 zab t4 true H (fun K'=>zac .leq false t6 (.int .u8 57) (K' · H)) fun t7 H=>
 zaj t4 t7 (.bool false) fun t8=>
 K t8 H
theorem zLZ {t0:AV} {H:zaa} {K:Kt} (h:HSc H→zAn t0 H K):ACalls tP zhC [t0] H K:=
 zan (M:=zLX) Tryz.func173 (c:=zLY) (by kernel_rfl) (fun hs=>Eq.mpr (by kernel_rfl) (h hs))
def zlG:Nat→List Bool
 | 3=>rl false [0,1,2,2,13]
 | _=>[]
noncomputable def zsg:Code:=Tryz.f174.body.getD .skip
noncomputable def zL5:List ResultVar:=Tryz.f174.results.toList
def zlI (t0 t3 t4:AV):List AV:=t0::ux 2 (t3::t4::ux 13 [])
def zL3:List Bool:=zlG 3
noncomputable def zL1:Code:=zap [1,1,0,1,0,0] zsg
def zL0 (K:Kt):AExit→List AV→zaa→Prop:=zaq tP zlG [1,1,0,1,0] zsg (zaA tP zL5 K)
def zsh (t0 t3 t4:AV) (H:zaa) (K:Kt):Prop:=ALoop tP zL1 (zL0 K) (zlI t0 t3 t4) H
def zlH (t0 t3 t4:AV) (H:zaa) (K:Kt) (Kb3:Lt):Prop:=
 zah 1 t3 fun t8=>
 zac .lss false t4 t8 fun t9=>
 zag t9
 (zai 1 t3 t4 fun t14=>
 zae false 1 t14 H fun t15=>
 zac .eql false t15 t0 fun t17=>
 zag t17
 (K (.bool true) H)
 (zac .add false t4 (.int .i64 1) fun t11=>
 Kb3 (zlI t0 t3 t11) H))
 (K (.bool false) H)
def zAo (t0:AV) (H:zaa) (K:Kt):Prop:=
 zaB 1 [(.str [])] 28 [(0,(.str [97,114,114,97,121])),(1,(.str [98,111,111,108])),(2,(.str [99,97,116,99,104])),(3,(.str [100,97,116,97])),(4,(.str [101,108,115,101])),(5,(.str [101,110,100])),(6,(.str [102,97,108,115,101])),(7,(.str [102,110])),(8,(.str [102,117,110])),(9,(.str [103,101,116])),(10,(.str [105,102])),(11,(.str [105,110])),(12,(.str [105,110,116])),(13,(.str [108,101,110])),(14,(.str [108,101,116])),(15,(.str [109,97,116,99,104])),(16,(.str [110,101,119])),(17,(.str [114,97,105,115,101])),(18,(.str [114,101,97,100])),(19,(.str [114,101,102])),(20,(.str [115,101,116])),(21,(.str [116,104,101,110])),(22,(.str [116,105,99,107])),(23,(.str [116,114,117,101])),(24,(.str [116,114,121])),(25,(.str [117,110,105,116])),(26,(.str [119,105,116,104])),(27,(.str [119,114,105,116,101]))] fun t5=>
 zsh t0 t5 (.int .i64 0) H K
theorem zL2 {t0 t3 t4:AV} {H:zaa} {K:Kt} (Inv:Nat→AV→zaa→Prop) (n:Nat) (h0:HSc H→Inv n t4 H)
  (round:Rd1 (fun t4=>zlI t0 t3 t4) (fun t4=>fun H Kb3=>zlH t0 t3 t4 H K Kb3) H Inv):zsh t0 t3 t4 H K:=
 lp1 (M:=zlG) zL3 t4 (by kernel_rfl) Inv n h0 round
theorem zL4 {t0:AV} {H:zaa} {K:Kt} (h:HSc H→zAo t0 H K):ACalls tP zjp [t0] H K:=
 zan (M:=zlG) Tryz.func174 (c:=zsg) (by kernel_rfl) (fun hs=>Eq.mpr (by kernel_rfl) (h hs))
def zlJ:Nat→List Bool
 | 3=>rl false [0,1,3,2,17]
 | _=>[]
noncomputable def zsj:Code:=Tryz.f175.body.getD .skip
noncomputable def zMb:List ResultVar:=Tryz.f175.results.toList
def zlK (t0 t4 t5:AV):List AV:=t0::ux 3 (t4::t5::ux 17 [])
def zL9:List Bool:=zlJ 3
noncomputable def zL7:Code:=zap [1,1,0,1,0,0] zsj
def zL6 (K:Kt):AExit→List AV→zaa→Prop:=zaq tP zlJ [1,1,0,1,0] zsj (zaA tP zMb K)
def zAq (t0 t4 t5:AV) (H:zaa) (K:Kt):Prop:=ALoop tP zL7 (zL6 K) (zlK t0 t4 t5) H
def zsi (t0 t4 t5:AV) (H:zaa) (K:Kt) (Kb3:Lt):Prop:=
 zah 0 t0 fun t8=>
 zac .lss false t5 t8 fun t9=>
 zag t9
 (zac .mul false t4 (.int .i64 10) fun t13=>
 zbH t0 t5 fun t16=>
 zac .sub false t16 (.int .u8 48) fun t17=>
 zbG .i64 t17 fun t18=>
 zac .add false t13 t18 fun t19=>
 zac .gtr false t19 (.int .i64 1000000) fun t21=>
 zag t21
 (zaI [(.int .i64 0),(.bool false)] (K · H))
 (zac .add false t5 (.int .i64 1) fun t11=>
 Kb3 (zlK t0 t19 t11) H))
 (zaI [t4,(.bool true)] (K · H))
def zAp (t0:AV) (H:zaa) (K:Kt):Prop:=
 zAq t0 (.int .i64 0) (.int .i64 0) H K
theorem zL8 {t0 t4 t5:AV} {H:zaa} {K:Kt} (Inv:Nat→AV→AV→zaa→Prop) (n:Nat) (h0:HSc H→Inv n t4 t5 H)
  (round:Rd2 (fun t4=>fun t5=>zlK t0 t4 t5) (fun t4=>fun t5=>fun H Kb3=>zsi t0 t4 t5 H K Kb3) H Inv):zAq t0 t4 t5 H K:=
 lp2 (M:=zlJ) zL9 t4 t5 (by kernel_rfl) Inv n h0 round
theorem zMa {t0:AV} {H:zaa} {K:Kt} (h:HSc H→zAp t0 H K):ACalls tP zgm [t0] H K:=
 zan (M:=zlJ) Tryz.func175 (c:=zsj) (by kernel_rfl) (fun hs=>Eq.mpr (by kernel_rfl) (h hs))
def zlL:Nat→List Bool
 | 5=>rl false [0,1,2,2,30]
 | _=>[]
noncomputable def zsk:Code:=Tryz.f176.body.getD .skip
noncomputable def zMh:List ResultVar:=Tryz.f176.results.toList
def zlN (t0 t3 t4:AV):List AV:=t0::ux 2 (t3::t4::ux 30 [])
def zMf:List Bool:=zlL 5
noncomputable def zMd:Code:=zap [1,1,1,0,1,0,0] zsk
def zMc (K:Kt):AExit→List AV→zaa→Prop:=zaq tP zlL [1,1,1,0,1,0] zsk (zaA tP zMh K)
def zsl (t0 t3 t4:AV) (H:zaa) (K:Kt):Prop:=ALoop tP zMd (zMc K) (zlN t0 t3 t4) H
def zlM (t0 t3 t4:AV) (H:zaa) (K:Kt) (Kb5:Lt):Prop:=
 zah 0 t3 fun t25=>
 zac .lss false t4 t25 fun t26=>
 zag t26
 (zad H (fun K'=>K' t0 H) fun t29=>
 zad H (fun K'=>zbH t29 (.int .i64 0) (K' · H)) fun t30=>
 zad H (fun K'=>K' t3 H) fun t31=>
 zad H (fun K'=>K' t4 H) fun t32=>
 zad H (fun K'=>zbH t31 t32 (K' · H)) fun t33=>
 zad H (fun K'=>zac .eql false t30 t33 (K' · H)) fun t34=>
 zag t34
 (K (.int .i64 1) H)
 (zac .add false t4 (.int .i64 1) fun t28=>
 Kb5 (zlN t0 t3 t28) H))
 (K (.int .i64 0) H)
def zgM (t0:AV) (H:zaa) (K:Kt):Prop:=
 zah 0 t0 fun t6=>
 zac .geq false t6 (.int .i64 2) fun t7=>
 zab t7 true H (fun K'=>K' t0 H) fun t9 H=>
 zab t7 true H (fun K'=>zaJ 0 0 t9 none (some (.int .i64 2)) (K' · H)) fun t10 H=>
 zab t7 true H (fun K'=>zac .eql false t10 (.str [45,62]) (K' · H)) fun t11 H=>
 zab t7 true H (fun K'=>K' t11 H) fun t12 H=>
 zab t12 false H (fun K'=>K' t0 H) fun t13 H=>
 zab t12 false H (fun K'=>zaJ 0 0 t13 none (some (.int .i64 2)) (K' · H)) fun t14 H=>
 zab t12 false H (fun K'=>zac .eql false t14 (.str [60,61]) (K' · H)) fun t15 H=>
 zab t7 true H (fun K'=>zaj t12 (.bool true) t15 (K' · H)) fun t16 H=>
 zab t7 true H (fun K'=>K' t16 H) fun t17 H=>
 zab t17 false H (fun K'=>K' t0 H) fun t18 H=>
 zab t17 false H (fun K'=>zaJ 0 0 t18 none (some (.int .i64 2)) (K' · H)) fun t19 H=>
 zab t17 false H (fun K'=>zac .eql false t19 (.str [61,61]) (K' · H)) fun t20 H=>
 zab t7 true H (fun K'=>zaj t17 (.bool true) t20 (K' · H)) fun t21 H=>
 zaj t7 t21 (.bool false) fun t22=>
 zag t22
 (K (.int .i64 2) H)
 (zsl t0 (.str [40,41,44,61,124,43,45,42,47,37,60,59,95]) (.int .i64 0) H K)
theorem zMe {t0 t3 t4:AV} {H:zaa} {K:Kt} (Inv:Nat→AV→zaa→Prop) (n:Nat) (h0:HSc H→Inv n t4 H)
  (round:Rd1 (fun t4=>zlN t0 t3 t4) (fun t4=>fun H Kb5=>zlM t0 t3 t4 H K Kb5) H Inv):zsl t0 t3 t4 H K:=
 lp1 (M:=zlL) zMf t4 (by kernel_rfl) Inv n h0 round
theorem zMg {t0:AV} {H:zaa} {K:Kt} (h:HSc H→zgM t0 H K):ACalls tP zpq [t0] H K:=
 zan (M:=zlL) Tryz.func176 (c:=zsk) (by kernel_rfl) (fun hs=>Eq.mpr (by kernel_rfl) (h hs))
def zNz (_:Nat):List Bool:=[]
noncomputable def zNA:Code:=Tryz.f225.body.getD .skip
def zAR (t0:AV) (H:zaa) (K:Kt):Prop:=
 zac .geq false t0 (.int .u8 97) fun t4=>
 zab t4 true H (fun K'=>K' t0 H) fun t6 H=>
 zab t4 true H (fun K'=>zac .leq false t6 (.int .u8 122) (K' · H)) fun t7 H=>
 zaj t4 t7 (.bool false) fun t8=>
 K t8 H
theorem zNB {t0:AV} {H:zaa} {K:Kt} (h:HSc H→zAR t0 H K):ACalls tP zjx [t0] H K:=
 zan (M:=zNz) Tryz.func225 (c:=zNA) (by kernel_rfl) (fun hs=>Eq.mpr (by kernel_rfl) (h hs))
def zNC (_:Nat):List Bool:=[]
noncomputable def zND:Code:=Tryz.f226.body.getD .skip
def zAS (t0:AV) (H:zaa) (K:Kt):Prop:=
 zac .geq false t0 (.int .u8 65) fun t4=>
 zab t4 true H (fun K'=>K' t0 H) fun t6 H=>
 zab t4 true H (fun K'=>zac .leq false t6 (.int .u8 90) (K' · H)) fun t7 H=>
 zaj t4 t7 (.bool false) fun t8=>
 K t8 H
theorem zNE {t0:AV} {H:zaa} {K:Kt} (h:HSc H→zAS t0 H K):ACalls tP zhD [t0] H K:=
 zan (M:=zNC) Tryz.func226 (c:=zND) (by kernel_rfl) (fun hs=>Eq.mpr (by kernel_rfl) (h hs))
def zl7:Nat→List Bool
 | 2=>rl false [0,2,3,1,16]
 | _=>[]
noncomputable def zsH:Code:=Tryz.f227.body.getD .skip
noncomputable def zNK:List ResultVar:=Tryz.f227.results.toList
def zl8 (t0 t1 t5:AV):List AV:=t0::t1::ux 3 (t5::ux 16 [])
def zNI:List Bool:=zl7 2
noncomputable def zNG:Code:=zap [1,1,0,0,0] zsH
def zNF (K:Kt):AExit→List AV→zaa→Prop:=zaq tP zl7 [1,1,0,0] zsH (zaA tP zNK K)
def zAU (t0 t1 t5:AV) (H:zaa) (K:Kt):Prop:=ALoop tP zNG (zNF K) (zl8 t0 t1 t5) H
def zsG (t0 t1 t5:AV) (H:zaa) (K:Kt) (Kb2:Lt):Prop:=
 zah 0 t0 fun t8=>
 zac .lss false t5 t8 fun t9=>
 zab t9 true H (fun K'=>K' t1 H) fun t11 H=>
 zab t9 true H (fun K'=>K' t0 H) fun t12 H=>
 zab t9 true H (fun K'=>K' t5 H) fun t13 H=>
 zab t9 true H (fun K'=>zbH t12 t13 (K' · H)) fun t14 H=>
 zab t9 true H (fun K'=>aCallV tP t11 [t14] H K') fun t15 H=>
 zaj t9 t15 (.bool false) fun t16=>
 zag t16
 (zac .add false t5 (.int .i64 1) fun t18=>
 Kb2 (zl8 t0 t1 t18) H)
 (zaJ 0 0 t0 none (some t5) fun t21=>
 K t21 H)
def zAT (t0 t1:AV) (H:zaa) (K:Kt):Prop:=
 zAU t0 t1 (.int .i64 0) H K
theorem zNH {t0 t1 t5:AV} {H:zaa} {K:Kt} (Inv:Nat→AV→zaa→Prop) (n:Nat) (h0:HSc H→Inv n t5 H)
  (round:Rd1 (fun t5=>zl8 t0 t1 t5) (fun t5=>fun H Kb2=>zsG t0 t1 t5 H K Kb2) H Inv):zAU t0 t1 t5 H K:=
 lp1 (M:=zl7) zNI t5 (by kernel_rfl) Inv n h0 round
theorem zNJ {t0 t1:AV} {H:zaa} {K:Kt} (h:HSc H→zAT t0 t1 H K):ACalls tP zjy [t0,t1] H K:=
 zan (M:=zl7) Tryz.func227 (c:=zsH) (by kernel_rfl) (fun hs=>Eq.mpr (by kernel_rfl) (h hs))
def zNL (_:Nat):List Bool:=[]
noncomputable def zNM:Code:=Tryz.f228.body.getD .skip
def zAV (t0:AV) (H:zaa) (K:Kt):Prop:=
 ACalls tP zjx [t0] H fun t4 H=>
 zab t4 false H (fun K'=>K' t0 H) fun t6 H=>
 zab t4 false H (fun K'=>ACalls tP zhD [t6] H K') fun t7 H=>
 zaj t4 (.bool true) t7 fun t8=>
 zab t8 false H (fun K'=>K' t0 H) fun t10 H=>
 zab t8 false H (fun K'=>ACalls tP zft [t10] H K') fun t11 H=>
 zaj t8 (.bool true) t11 fun t12=>
 zab t12 false H (fun K'=>K' t0 H) fun t14 H=>
 zab t12 false H (fun K'=>zac .eql false t14 (.int .u8 95) (K' · H)) fun t15 H=>
 zaj t12 (.bool true) t15 fun t16=>
 K t16 H
theorem zNN {t0:AV} {H:zaa} {K:Kt} (h:HSc H→zAV t0 H K):ACalls tP zhE [t0] H K:=
 zan (M:=zNL) Tryz.func228 (c:=zNM) (by kernel_rfl) (fun hs=>Eq.mpr (by kernel_rfl) (h hs))
def zNO (_:Nat):List Bool:=[]
noncomputable def zNP:Code:=Tryz.f229.body.getD .skip
def zbp (t4:AV) (H:zaa) (K:Kt):Prop:=
 zag t4
 (K (.bool true) H)
 (K (.bool false) H)
def zAW (t0:AV) (H:zaa) (K:Kt):Prop:=
 zac .eql false t0 (.str [97,114,114,97,121]) fun t5=>
 zag t5
 (zbp t5 H K)
 (zac .eql false t0 (.str [98,111,111,108]) fun t6=>
 zag t6
 (zbp t6 H K)
 (zac .eql false t0 (.str [99,97,116,99,104]) fun t7=>
 zag t7
 (zbp t7 H K)
 (zac .eql false t0 (.str [100,97,116,97]) fun t8=>
 zag t8
 (zbp t8 H K)
 (zac .eql false t0 (.str [101,108,115,101]) fun t9=>
 zag t9
 (zbp t9 H K)
 (zac .eql false t0 (.str [101,110,100]) fun t10=>
 zag t10
 (zbp t10 H K)
 (zac .eql false t0 (.str [102,97,108,115,101]) fun t11=>
 zag t11
 (zbp t11 H K)
 (zac .eql false t0 (.str [102,110]) fun t12=>
 zag t12
 (zbp t12 H K)
 (zac .eql false t0 (.str [102,117,110]) fun t13=>
 zag t13
 (zbp t13 H K)
 (zac .eql false t0 (.str [103,101,116]) fun t14=>
 zag t14
 (zbp t14 H K)
 (zac .eql false t0 (.str [105,102]) fun t15=>
 zag t15
 (zbp t15 H K)
 (zac .eql false t0 (.str [105,110]) fun t16=>
 zag t16
 (zbp t16 H K)
 (zac .eql false t0 (.str [105,110,116]) fun t17=>
 zag t17
 (zbp t17 H K)
 (zac .eql false t0 (.str [108,101,110]) fun t18=>
 zag t18
 (zbp t18 H K)
 (zac .eql false t0 (.str [108,101,116]) fun t19=>
 zag t19
 (zbp t19 H K)
 (zac .eql false t0 (.str [109,97,116,99,104]) fun t20=>
 zag t20
 (zbp t20 H K)
 (zac .eql false t0 (.str [110,101,119]) fun t21=>
 zag t21
 (zbp t21 H K)
 (zac .eql false t0 (.str [114,97,105,115,101]) fun t22=>
 zag t22
 (zbp t22 H K)
 (zac .eql false t0 (.str [114,101,97,100]) fun t23=>
 zag t23
 (zbp t23 H K)
 (zac .eql false t0 (.str [114,101,102]) fun t24=>
 zag t24
 (zbp t24 H K)
 (zac .eql false t0 (.str [115,101,116]) fun t25=>
 zag t25
 (zbp t25 H K)
 (zac .eql false t0 (.str [116,104,101,110]) fun t26=>
 zag t26
 (zbp t26 H K)
 (zac .eql false t0 (.str [116,105,99,107]) fun t27=>
 zag t27
 (zbp t27 H K)
 (zac .eql false t0 (.str [116,114,117,101]) fun t28=>
 zag t28
 (zbp t28 H K)
 (zac .eql false t0 (.str [116,114,121]) fun t29=>
 zag t29
 (zbp t29 H K)
 (zac .eql false t0 (.str [117,110,105,116]) fun t30=>
 zag t30
 (zbp t30 H K)
 (zac .eql false t0 (.str [119,105,116,104]) fun t31=>
 zag t31
 (zbp t31 H K)
 (zac .eql false t0 (.str [119,114,105,116,101]) fun t32=>
 zbp t32 H K)))))))))))))))))))))))))))
theorem zNQ {t0:AV} {H:zaa} {K:Kt} (h:HSc H→zAW t0 H K):ACalls tP zpy [t0] H K:=
 zan (M:=zNO) Tryz.func229 (c:=zNP) (by kernel_rfl) (fun hs=>Eq.mpr (by kernel_rfl) (h hs))
def zNR (_:Nat):List Bool:=[]
noncomputable def zNS:Code:=Tryz.f230.body.getD .skip
def zAX (t0:AV) (H:zaa) (K:Kt):Prop:=
 zac .geq false t0 (.int .u8 48) fun t4=>
 zab t4 true H (fun K'=>K' t0 H) fun t6 H=>
 zab t4 true H (fun K'=>zac .leq false t6 (.int .u8 57) (K' · H)) fun t7 H=>
 zaj t4 t7 (.bool false) fun t8=>
 K t8 H
theorem zNT {t0:AV} {H:zaa} {K:Kt} (h:HSc H→zAX t0 H K):ACalls tP zft [t0] H K:=
 zan (M:=zNR) Tryz.func230 (c:=zNS) (by kernel_rfl) (fun hs=>Eq.mpr (by kernel_rfl) (h hs))
def zl9:Nat→List Bool
 | 3=>rl false [0,1,2,1,2,2,13]
 | _=>[]
noncomputable def zsJ:Code:=Tryz.f231.body.getD .skip
noncomputable def zNZ:List ResultVar:=Tryz.f231.results.toList
def zma (t0 t3 t6 t7:AV):List AV:=t0::ux 2 (t3::ux 2 (t6::t7::ux 13 []))
def zNX:List Bool:=zl9 3
noncomputable def zNV:Code:=zap [1,1,0,1,0,0] zsJ
def zNU (K:Kt):AExit→List AV→zaa→Prop:=zaq tP zl9 [1,1,0,1,0] zsJ (zaA tP zNZ K)
def zAZ (t0 t3 t6 t7:AV) (H:zaa) (K:Kt):Prop:=ALoop tP zNV (zNU K) (zma t0 t3 t6 t7) H
def zsI (t0 t3 t6 t7:AV) (H:zaa) (K:Kt) (Kb3:Lt):Prop:=
 zac .lss false t7 t6 fun t8=>
 zag t8
 (zac .mul false t3 (.int .i64 10) fun t11=>
 zbH t0 t7 fun t14=>
 zac .sub false t14 (.int .u8 48) fun t15=>
 zbG .i64 t15 fun t16=>
 zac .add false t11 t16 fun t17=>
 zac .gtr false t17 (.int .i64 1000000) fun t19=>
 zag t19
 (K (.bool false) H)
 (zac .add false t7 (.int .i64 1) fun t20=>
 Kb3 (zma t0 t17 t6 t20) H))
 (K (.bool true) H)
def zAY (t0:AV) (H:zaa) (K:Kt):Prop:=
 zah 0 t0 fun t6=>
 zAZ t0 (.int .i64 0) t6 (.int .i64 0) H K
theorem zNW {t0 t3 t6 t7:AV} {H:zaa} {K:Kt} (Inv:Nat→AV→AV→zaa→Prop) (n:Nat) (h0:HSc H→Inv n t3 t7 H)
  (round:Rd2 (fun t3=>fun t7=>zma t0 t3 t6 t7) (fun t3=>fun t7=>fun H Kb3=>zsI t0 t3 t6 t7 H K Kb3) H Inv):zAZ t0 t3 t6 t7 H K:=
 lp2 (M:=zl9) zNX t3 t7 (by kernel_rfl) Inv n h0 round
theorem zNY {t0:AV} {H:zaa} {K:Kt} (h:HSc H→zAY t0 H K):ACalls tP zhF [t0] H K:=
 zan (M:=zl9) Tryz.func231 (c:=zsJ) (by kernel_rfl) (fun hs=>Eq.mpr (by kernel_rfl) (h hs))
def zN3 (_:Nat):List Bool:=[]
noncomputable def zN4:Code:=Tryz.f232.body.getD .skip
def zcB (t0 t16:AV) (H:zaa) (K:Kt):Prop:=
 zag t16
 (zaJ 0 0 t0 none (some (.int .i64 1)) fun t31=>
 K t31 H)
 (K (.str []) H)
def zmb (t0:AV) (H:zaa) (K:Kt):Prop:=
 zaJ 0 0 t0 none (some (.int .i64 1)) fun t15=>
 zac .eql false t15 (.str [40]) fun t17=>
 zag t17
 (zcB t0 t17 H K)
 (zac .eql false t15 (.str [41]) fun t18=>
 zag t18
 (zcB t0 t18 H K)
 (zac .eql false t15 (.str [44]) fun t19=>
 zag t19
 (zcB t0 t19 H K)
 (zac .eql false t15 (.str [61]) fun t20=>
 zag t20
 (zcB t0 t20 H K)
 (zac .eql false t15 (.str [124]) fun t21=>
 zag t21
 (zcB t0 t21 H K)
 (zac .eql false t15 (.str [43]) fun t22=>
 zag t22
 (zcB t0 t22 H K)
 (zac .eql false t15 (.str [45]) fun t23=>
 zag t23
 (zcB t0 t23 H K)
 (zac .eql false t15 (.str [42]) fun t24=>
 zag t24
 (zcB t0 t24 H K)
 (zac .eql false t15 (.str [47]) fun t25=>
 zag t25
 (zcB t0 t25 H K)
 (zac .eql false t15 (.str [37]) fun t26=>
 zag t26
 (zcB t0 t26 H K)
 (zac .eql false t15 (.str [60]) fun t27=>
 zag t27
 (zcB t0 t27 H K)
 (zac .eql false t15 (.str [59]) fun t28=>
 zag t28
 (zcB t0 t28 H K)
 (zac .eql false t15 (.str [95]) fun t29=>
 zcB t0 t29 H K))))))))))))
def zfN (t0 t8:AV) (H:zaa) (K:Kt):Prop:=
 zag t8
 (zaJ 0 0 t0 none (some (.int .i64 2)) fun t13=>
 K t13 H)
 (zmb t0 H K)
def zgR (t0:AV) (H:zaa) (K:Kt):Prop:=
 zah 0 t0 fun t4=>
 zac .geq false t4 (.int .i64 2) fun t5=>
 zag t5
 (zaJ 0 0 t0 none (some (.int .i64 2)) fun t7=>
 zac .eql false t7 (.str [45,62]) fun t9=>
 zag t9
 (zfN t0 t9 H K)
 (zac .eql false t7 (.str [60,61]) fun t10=>
 zag t10
 (zfN t0 t10 H K)
 (zac .eql false t7 (.str [61,61]) fun t11=>
 zfN t0 t11 H K)))
 (zmb t0 H K)
theorem zN5 {t0:AV} {H:zaa} {K:Kt} (h:HSc H→zgR t0 H K):ACalls tP zpA [t0] H K:=
 zan (M:=zN3) Tryz.func232 (c:=zN4) (by kernel_rfl) (fun hs=>Eq.mpr (by kernel_rfl) (h hs))
def zMK (_:Nat):List Bool:=[]
noncomputable def zML:Code:=Tryz.f189.body.getD .skip
def zAy (t0:AV) (H:zaa) (K:Kt):Prop:=
 ACalls tP zpu [t0] H fun t8 H=>
 zay t8 0 fun t9=>
 zay t8 1 fun t10=>
 zay t8 2 fun t11=>
 zac .eql false t11 (.int .i64 0) fun t13=>
 zab t13 true H (fun K'=>K' t9 H) fun t15 H=>
 zab t13 true H (fun K'=>zah 1 t15 (K' · H)) fun t16 H=>
 zab t13 true H (fun K'=>zac .eql false t16 (.int .i64 2) (K' · H)) fun t17 H=>
 zaj t13 t17 (.bool false) fun t18=>
 zab t18 true H (fun K'=>K' t9 H) fun t20 H=>
 zab t18 true H (fun K'=>zai 3 t20 (.int .i64 0) (K' · H)) fun t21 H=>
 zab t18 true H (fun K'=>zaf 0 t21 (K' · H)) fun t22 H=>
 zab t18 true H (fun K'=>zae false 1 t22 H (K' · H)) fun t23 H=>
 zab t18 true H (fun K'=>zac .eql false t23 (.int .i64 2) (K' · H)) fun t24 H=>
 zaj t18 t24 (.bool false) fun t25=>
 zab t25 true H (fun K'=>K' t9 H) fun t27 H=>
 zab t25 true H (fun K'=>zai 3 t27 (.int .i64 0) (K' · H)) fun t28 H=>
 zab t25 true H (fun K'=>zaf 1 t28 (K' · H)) fun t29 H=>
 zab t25 true H (fun K'=>zae false 1 t29 H (K' · H)) fun t30 H=>
 zab t25 true H (fun K'=>K' t0 H) fun t31 H=>
 zab t25 true H (fun K'=>zac .eql false t30 t31 (K' · H)) fun t32 H=>
 zaj t25 t32 (.bool false) fun t33=>
 K t33 H
theorem zMM {t0:AV} {H:zaa} {K:Kt} (h:HSc H→zAy t0 H K):ACalls tP zjs [t0] H K:=
 zan (M:=zMK) Tryz.func189 (c:=zML) (by kernel_rfl) (fun hs=>Eq.mpr (by kernel_rfl) (h hs))
def zSg (_:Nat):List Bool:=[]
noncomputable def zSh:Code:=Tryz.f82.body.getD .skip
def zCu (t0:AV) (H:zaa) (K:Kt):Prop:=
 ACalls tP zpb [t0] H fun t8 H=>
 zay t8 0 fun t9=>
 zay t8 1 fun t10=>
 zay t8 2 fun t11=>
 zac .eql false t11 (.int .i64 0) fun t13=>
 zab t13 true H (fun K'=>K' t9 H) fun t15 H=>
 zab t13 true H (fun K'=>zah 1 t15 (K' · H)) fun t16 H=>
 zab t13 true H (fun K'=>zac .eql false t16 (.int .i64 2) (K' · H)) fun t17 H=>
 zaj t13 t17 (.bool false) fun t18=>
 zab t18 true H (fun K'=>K' t9 H) fun t20 H=>
 zab t18 true H (fun K'=>zai 3 t20 (.int .i64 0) (K' · H)) fun t21 H=>
 zab t18 true H (fun K'=>zaf 0 t21 (K' · H)) fun t22 H=>
 zab t18 true H (fun K'=>zae false 1 t22 H (K' · H)) fun t23 H=>
 zab t18 true H (fun K'=>zac .eql false t23 (.int .i64 2) (K' · H)) fun t24 H=>
 zaj t18 t24 (.bool false) fun t25=>
 zab t25 true H (fun K'=>K' t9 H) fun t27 H=>
 zab t25 true H (fun K'=>zai 3 t27 (.int .i64 0) (K' · H)) fun t28 H=>
 zab t25 true H (fun K'=>zaf 1 t28 (K' · H)) fun t29 H=>
 zab t25 true H (fun K'=>zae false 1 t29 H (K' · H)) fun t30 H=>
 zab t25 true H (fun K'=>K' t0 H) fun t31 H=>
 zab t25 true H (fun K'=>zac .eql false t30 t31 (K' · H)) fun t32 H=>
 zaj t25 t32 (.bool false) fun t33=>
 K t33 H
theorem zSi {t0:AV} {H:zaa} {K:Kt} (h:HSc H→zCu t0 H K):ACalls tP zjM [t0] H K:=
 zan (M:=zSg) Tryz.func82 (c:=zSh) (by kernel_rfl) (fun hs=>Eq.mpr (by kernel_rfl) (h hs))
end Go.Proofs.YtjkkonpjecoieaaGreat

namespace Go.Proofs.YtjkkonpjecoieaaGreat
open Go Go.Abs
def kwds:List (List UInt8):=[[97,114,114,97,121],[98,111,111,108],[99,97,116,99,104],[100,97,116,97],[101,108,115,101],[101,110,100],[102,97,108,115,101],[102,110],[102,117,110],[103,101,116],[105,102],[105,110],[105,110,116],[108,101,110],[108,101,116],[109,97,116,99,104],[110,101,119],[114,97,105,115,101],[114,101,97,100],[114,101,102],[115,101,116],[116,104,101,110],[116,105,99,107],[116,114,117,101],[116,114,121],[117,110,105,116],[119,105,116,104],[119,114,105,116,101]]
def kwF (ws:List (List UInt8)) (s:List UInt8):Bool:=ws.any (s == ·)
theorem zcY {H:zaa} {K:AV→zaa→Prop} {r:AV} (hsc:HSc H) (hv:r.isV=true) (hr:r.scV H.length=true) (h:K r H):Out H.length K r H:=by
 have:=Out.same (J:=[]) rfl hsc hv hr h
 simpa using this
theorem zcz (b c:UInt8):((b.toNat:Int) == (c.toNat:Int))=(b == c):=by
 rw[Bool.eq_iff_iff]
 simp only[beq_iff_eq]
 constructor
 ·intro h;exact UInt8.toNat_inj.mp (by omega)
 ·rintro rfl;rfl
theorem zwg (b:UInt8) (H:zaa) (K:AV→zaa→Prop) (hK:K (.bool (zbZ b)) H):ACalls tP zjo [.int .u8 b.toNat] H K:=by
 refine ACalls.out (zLP fun hs=>?_)
 have hO:=zcY (K:=K) (H:=H) (r:=.bool (zbZ b)) hs rfl rfl hK
 unfold zbZ at hO
 cases h1:decide (97≤(b.toNat:Int)) <;> simp[zAk,h1] <;> simpa[h1]using hO
theorem zkr (b:UInt8) (H:zaa) (K:AV→zaa→Prop) (hK:K (.bool (bUp b)) H):ACalls tP zgl [.int .u8 b.toNat] H K:=by
 refine ACalls.out (zLW fun hs=>?_)
 have hO:=zcY (K:=K) (H:=H) (r:=.bool (bUp b)) hs rfl rfl hK
 unfold bUp at hO
 cases h1:decide (65≤(b.toNat:Int)) <;> simp[zAm,h1] <;> simpa[h1]using hO
theorem zoE (b:UInt8) (H:zaa) (K:AV→zaa→Prop) (hK:K (.bool (za3 b)) H):ACalls tP zhC [.int .u8 b.toNat] H K:=by
 refine ACalls.out (zLZ fun hs=>?_)
 have hO:=zcY (K:=K) (H:=H) (r:=.bool (za3 b)) hs rfl rfl hK
 unfold za3 at hO
 cases h1:decide (48≤(b.toNat:Int)) <;> simp[zAn,h1] <;> simpa[h1]using hO
theorem zoX (b:UInt8) (H:zaa) (K:AV→zaa→Prop) (hK:K (.bool (zbZ b)) H):ACalls tP zjx [.int .u8 b.toNat] H K:=by
 refine ACalls.out (zNB fun hs=>?_)
 have hO:=zcY (K:=K) (H:=H) (r:=.bool (zbZ b)) hs rfl rfl hK
 unfold zbZ at hO
 cases h1:decide (97≤(b.toNat:Int)) <;> simp[zAR,h1] <;> simpa[h1]using hO
theorem zks (b:UInt8) (H:zaa) (K:AV→zaa→Prop) (hK:K (.bool (bUp b)) H):ACalls tP zhD [.int .u8 b.toNat] H K:=by
 refine ACalls.out (zNE fun hs=>?_)
 have hO:=zcY (K:=K) (H:=H) (r:=.bool (bUp b)) hs rfl rfl hK
 unfold bUp at hO
 cases h1:decide (65≤(b.toNat:Int)) <;> simp[zAS,h1] <;> simpa[h1]using hO
theorem zoF (b:UInt8) (H:zaa) (K:AV→zaa→Prop) (hK:K (.bool (za3 b)) H):ACalls tP zft [.int .u8 b.toNat] H K:=by
 refine ACalls.out (zNT fun hs=>?_)
 have hO:=zcY (K:=K) (H:=H) (r:=.bool (za3 b)) hs rfl rfl hK
 unfold za3 at hO
 cases h1:decide (48≤(b.toNat:Int)) <;> simp[zAX,h1] <;> simpa[h1]using hO
theorem zDA (b:UInt8) (H:zaa) (K:AV→zaa→Prop) (hK:K (.bool (zds b)) H):ACalls tP zpw [.int .u8 b.toNat] H K:=by
 refine ACalls.out (zNs fun hs=>?_)
 have hO:=zcY (K:=K) (H:=H) (r:=.bool (zds b)) hs rfl rfl hK
 unfold zds at hO
 have e1:((b.toNat:Int) == 9)=(b == 9):=zcz b 9
 have e2:((b.toNat:Int) == 10)=(b == 10):=zcz b 10
 have e3:((b.toNat:Int) == 13)=(b == 13):=zcz b 13
 have e4:((b.toNat:Int) == 32)=(b == 32):=zcz b 32
 cases h1:(b == 9) <;> cases h2:(b == 10) <;> cases h3:(b == 13) <;> simp[zAN,e1,e2,e3,e4,h1,h2,h3] <;> simpa[h1,h2,h3]using hO
theorem zG7 (b:UInt8) (H:zaa) (K:AV→zaa→Prop) (hK:K (.bool (bIn b)) H):ACalls tP zhE [.int .u8 b.toNat] H K:=by
 refine ACalls.out (zNN fun hs=>?_)
 have hO:=zcY (K:=K) (H:=H) (r:=.bool (bIn b)) hs rfl rfl hK
 unfold bIn at hO
 have e1:((b.toNat:Int) == 95)=(b == 95):=zcz b 95
 unfold zAV
 refine zoX b _ _ ?_
 cases h1:zbZ b with
 | true=>simp;simpa[h1]using hO
 | false=>
  simp
  refine zks b _ _ ?_
  cases h2:bUp b with
  | true=>simp;simpa[h1,h2]using hO
  | false=>
   simp
   refine zoF b _ _ ?_
   cases h3:za3 b with
   | true=>simp;simpa[h1,h2,h3]using hO
   | false=>simp[e1];simpa[h1,h2,h3]using hO
theorem zEr (s:List UInt8) (H:zaa) (K:AV→zaa→Prop) (hK:K (.bool (kwF kwds s)) H):ACalls tP zpy [.str s] H K:=by
 refine ACalls.out (zNQ fun hs=>?_)
 have hO:=zcY (K:=K) (H:=H) (r:=.bool (kwF kwds s)) hs rfl rfl hK
 have step:∀ (w:List UInt8) (ws:List (List UInt8)) (rest:Prop),(Out H.length K (.bool (kwF ws s)) H→rest)→Out H.length K (.bool (kwF (w::ws) s)) H →
   zac .eql false (.str s) (.str w) fun t=>zag t (zbp t H (Out H.length K)) rest:=by
  intro w ws rest h h'
  simp only[kwF,List.any_cons]at h h'
  cases e:(s == w) with
  | true=>simpa[zbp,e]using h'
  | false=>rw[e,Bool.false_or]at h';simpa[zbp,e]using h h'
 unfold zAW
 revert hO
 unfold kwds
 iterate 27 refine step _ _ _ ?_
 intro h'
 simp only[kwF,List.any_cons,List.any_nil,Bool.or_false]at h'
 cases e:(s == [119,114,105,116,101]) <;> rw[e]at h' <;> simpa[zbp,e]using h'
theorem zEs (s:List UInt8) (H:zaa) (K:AV→zaa→Prop) (hK:K (.bool (kwF kwds s)) H):ACalls tP zjp [.str s] H K:=by
 refine ACalls.out (zL4 fun hs=>?_)
 have hO:=zcY (K:=K) (H:=H) (r:=.bool (kwF kwds s)) hs rfl rfl hK
 have e:zAo (.str s) H (Out H.length K)=zsh (.str s) (.sl (kwds.map fun w=>[.str w]) .full) (.int .i64 0) H (Out H.length K):=rfl
 rw[e]
 have hlen:kwds.length=28:=rfl
 generalize kwds=ws at *
 refine zL2 (Inv:=fun q t4 H'=>∃ i:Nat,i≤ws.length∧q=ws.length-i∧t4=.int .i64 i∧kwF (ws.drop i) s=kwF ws s∧H'=H) ws.length ?_ ?_
 ·intro _;exact⟨0,by omega,by omega,rfl,by simp,rfl⟩
 ·rintro q t8 H' ⟨i,hi,rfl,rfl,ho,rfl⟩ hsc _ hsF Kb hKb
  by_cases hlt:i<ws.length
  ·rw[List.drop_eq_getElem_cons hlt]at ho
   simp only[kwF,List.any_cons]at ho
   cases hz:(ws[i] == s) with
   | true=>
    have hz':(s == ws[i])=true:=by rw[beq_iff_eq]at hz ⊢;exact hz.symm
    rw[hz',Bool.true_or]at ho
    simp[zlH,hlt,hz]
    unfold kwF at hO
    rw[←ho]at hO
    exact hO
   | false=>
    have hz':(s == ws[i])=false:=by rw[beq_eq_false_iff_ne]at hz ⊢;exact fun h=>hz h.symm
    rw[hz',Bool.false_or]at ho
    simp[zlH,hlt,hz]
    rw[zau (by omega) (by omega)]
    refine hKb _ _ ⟨ws.length-(i+1),by omega,Back.here (Nat.le_refl _) hs ?_ ⟨_,rfl,i+1,by omega,rfl,by simp,ho,rfl⟩⟩
    simp[zlI,AV.sc,AV.scV,AV.scA,AV.scB]
  ·simp[zlH,hlt]
   obtain rfl:i=ws.length:=by omega
   rw[List.drop_length]at ho
   rw[←ho]at hO
   exact hO
end Go.Proofs.YtjkkonpjecoieaaGreat
namespace Go.Proofs.YtjkkonpjecoieaaGreat
open Go Go.Abs
theorem zvg {b:UInt8} (h:za3 b=true):48≤(b.toNat:Int)∧(b.toNat:Int)≤57:=by simpa[za3]using h
theorem zFX (s:List UInt8) (hd:∀ b∈s,za3 b=true) (hl:s.length≤1000000) (H:zaa) (K:AV→zaa→Prop) (hK:K (.bool (zcg s 0)) H):ACalls tP zhF [.str s] H K:=by
 refine ACalls.out (zNY fun hs=>?_)
 have hO:=zcY (K:=K) (H:=H) (r:=.bool (zcg s 0)) hs rfl rfl hK
 simp[zAY]
 refine zNW (Inv:=fun q t3 t7 H'=>∃ (i:Nat) (n:Int),i≤s.length∧q=s.length-i∧t7=.int .i64 i∧t3=.int .i64 n∧0≤n∧n≤1000000∧zcg (s.drop i) n=zcg s 0∧H'=H) s.length ?_ ?_
 ·intro _;exact⟨0,0,by omega,by omega,rfl,rfl,by omega,by omega,by simp,rfl⟩
 ·rintro q t3 t7 H' ⟨i,n,hi,rfl,rfl,rfl,hn0,hn1,ho,rfl⟩ hsc _ hsF Kb hKb
  by_cases hlt:i<s.length
  ·have hb:=zvg (hd s[i] (List.getElem_mem hlt))
   rw[List.drop_eq_getElem_cons hlt,zcg]at ho
   simp[zsI,hlt]
   rw[IntWalk.u8_in _ (by omega),zau (n:=n*10) (by omega) (by omega),zau (n:=(s[i].toNat:Int)-48) (by omega) (by omega),zau (by omega) (by omega),zau (by omega) (by omega)]
   by_cases hg:1000000<n*10+((s[i].toNat:Int)-48)
   ·rw[if_pos hg]at ho
    have hg':decide (1000000<n*10+((s[i].toNat:Int)-48))=true:=by simpa using hg
    rw[←ho]at hO
    rw[hg']
    simpa using hO
   ·rw[if_neg hg]at ho
    have hg':decide (1000000<n*10+((s[i].toNat:Int)-48))=false:=by simpa using hg
    rw[hg']
    simp only[zuZ,Bool.false_eq_true,if_false]
    refine hKb _ _ ⟨s.length-(i+1),by omega,Back.here (Nat.le_refl _) hs ?_ ⟨_,_,rfl,i+1,_,by omega,rfl,by simp,rfl,by omega,by omega,ho,rfl⟩⟩
    simp[zma,AV.sc,AV.scV,AV.scA,AV.scB]
  ·simp[zsI,hlt]
   obtain rfl:i=s.length:=by omega
   rw[List.drop_length,zcg]at ho
   rw[←ho]at hO
   exact hO
theorem zw2 (cl:UInt8→Bool) (f:FuncId) (hcl:zdY tP f=true) (hf:∀ (b:UInt8) (H:zaa) (K:AV→zaa→Prop),K (.bool (cl b)) H→ACalls tP f [.int .u8 b.toNat] H K)
  (s:List UInt8) (hl:s.length≤1000000) (H:zaa) (K:AV→zaa→Prop) (hK:K (.str (s.takeWhile cl)) H):ACalls tP zjy [.str s,.fn f []] H K:=by
 refine ACalls.out (zNJ fun hs=>?_)
 have hO:=zcY (K:=K) (H:=H) (r:=.str (s.takeWhile cl)) hs rfl rfl hK
 simp[zAT]
 refine zNH (Inv:=fun q t5 H'=>∃ i:Nat,i≤s.length∧q=s.length-i∧t5=.int .i64 i∧s.take i++(s.drop i).takeWhile cl=s.takeWhile cl∧H'=H) s.length ?_ ?_
 ·intro _;exact⟨0,by omega,by omega,rfl,by simp,rfl⟩
 ·rintro q t5 H' ⟨i,hi,rfl,rfl,ho,rfl⟩ hsc _ hsF Kb hKb
  by_cases hlt:i<s.length
  ·rw[List.drop_eq_getElem_cons hlt,List.takeWhile_cons]at ho
   simp[zsG,hlt]
   simp only[aCallV,hcl,List.append_nil]
   refine hf _ _ _ ?_
   cases hc:cl s[i] with
   | true=>
    rw[hc,if_pos rfl,List.append_cons,←List.take_succ_eq_append_getElem hlt]at ho
    simp
    rw[zau (by omega) (by omega)]
    refine hKb _ _ ⟨s.length-(i+1),by omega,Back.here (Nat.le_refl _) hs ?_ ⟨_,rfl,i+1,by omega,rfl,by simp,ho,rfl⟩⟩
    simp[zl8,AV.sc,AV.scV,AV.scA,AV.scB]
   | false=>
    rw[hc,if_neg (by simp),List.append_nil]at ho
    rw[←ho]at hO
    simp[hi]
    exact hO
  ·simp[zsG,hlt]
   obtain rfl:i=s.length:=by omega
   rw[List.drop_length,List.takeWhile_nil,List.append_nil,List.take_length]at ho
   rw[←ho]at hO
   simpa using hO
theorem zG4 (s:List UInt8) (hd:∀ b∈s,za3 b=true) (hl:s.length≤1000000) (H:zaa) (K:AV→zaa→Prop) (hK:∀ n,K (.tup [.int .i64 n,.bool (zcg s 0)]) H):ACalls tP zgm [.str s] H K:=by
 refine ACalls.out (zMa fun hs=>?_)
 have hO:∀ n,Out H.length K (.tup [.int .i64 n,.bool (zcg s 0)]) H:=fun n=>Out.tup0 hs (hK n) ⟨za4 rfl rfl,za4 rfl rfl,trivial⟩
 simp only[zAp]
 refine zL8 (Inv:=fun q t3 t7 H'=>∃ (i:Nat) (n:Int),i≤s.length∧q=s.length-i∧t7=.int .i64 i∧t3=.int .i64 n∧0≤n∧n≤1000000∧zcg (s.drop i) n=zcg s 0∧H'=H) s.length ?_ ?_
 ·intro _;exact⟨0,0,by omega,by omega,rfl,rfl,by omega,by omega,by simp,rfl⟩
 ·rintro q t3 t7 H' ⟨i,n,hi,rfl,rfl,rfl,hn0,hn1,ho,rfl⟩ hsc _ hsF Kb hKb
  by_cases hlt:i<s.length
  ·have hb:=zvg (hd s[i] (List.getElem_mem hlt))
   rw[List.drop_eq_getElem_cons hlt,zcg]at ho
   simp[zsi,hlt]
   rw[IntWalk.u8_in _ (by omega),zau (n:=n*10) (by omega) (by omega),zau (n:=(s[i].toNat:Int)-48) (by omega) (by omega),zau (by omega) (by omega),zau (by omega) (by omega)]
   by_cases hg:1000000<n*10+((s[i].toNat:Int)-48)
   ·rw[if_pos hg]at ho
    have hg':decide (1000000<n*10+((s[i].toNat:Int)-48))=true:=by simpa using hg
    rw[←ho]at hO
    rw[hg']
    simpa[AV.isV]using hO 0
   ·rw[if_neg hg]at ho
    have hg':decide (1000000<n*10+((s[i].toNat:Int)-48))=false:=by simpa using hg
    rw[hg']
    simp only[zuZ,Bool.false_eq_true,if_false]
    refine hKb _ _ ⟨s.length-(i+1),by omega,Back.here (Nat.le_refl _) hs ?_ ⟨_,_,rfl,i+1,_,by omega,rfl,by simp,rfl,by omega,by omega,ho,rfl⟩⟩
    simp[zlK,AV.sc,AV.scV,AV.scA,AV.scB]
  ·simp[zsi,hlt,AV.isV]
   obtain rfl:i=s.length:=by omega
   rw[List.drop_length,zcg]at ho
   rw[←ho]at hO
   exact hO n
theorem zGI (b:UInt8) (r:List UInt8):(b::r).take 1=[b]:=by simp
theorem zqp {s:List UInt8} (h:¬ 2≤s.length):zdA s=false:=by
 match s,h with
 | [],_=>rfl
 | [b],_=>simp[zdA]
 | _::_::_,h=>simp at h
theorem zxC (b:UInt8) (r:List UInt8) (h:zdA (b::r)=false):sgn (b::r)=if sgns.contains b=true then 1 else 0:=by simp[sgn,h]
theorem zFU (b:UInt8) (r:List UInt8) (H:zaa) (K:AV→zaa→Prop) (hK:K (.str ((b::r).take (sgn (b::r)))) H):ACalls tP zpA [.str (b::r)] H K:=by
 refine ACalls.out (zN5 fun hs=>?_)
 have hO:=zcY (K:=K) (H:=H) (r:=.str ((b::r).take (sgn (b::r)))) hs rfl rfl hK
 have one:zdA (b::r)=false→zmb (.str (b::r)) H (Out H.length K):=by
  intro h2
  rw[zxC b r h2]at hO
  have hO:Out H.length K (.str (if sgns.contains b=true then [b] else [])) H:=by
   cases hc:sgns.contains b <;> rw[hc]at hO <;> simpa using hO
  have step:∀ (c:UInt8) (cs:List UInt8) (rest:Prop),(Out H.length K (.str (if cs.contains b=true then [b] else [])) H→rest)→Out H.length K (.str (if (c::cs).contains b=true then [b] else [])) H →
    zac .eql false (.str [b]) (.str [c]) fun t=>zag t (zcB (.str (b::r)) t H (Out H.length K)) rest:=by
   intro c cs rest h h'
   rw[List.contains_cons]at h'
   cases e:(b == c) with
   | true=>rw[e]at h';simpa[zcB,e]using h'
   | false=>
    rw[e,Bool.false_or]at h'
    simpa[zcB,e]using h h'
  unfold zmb
  simp only[zDb,zC2,zC1,Int.toNat_one,zGI,List.drop_zero]
  refine⟨by decide,⟨by omega,by simp⟩,?_⟩
  revert hO
  unfold sgns
  iterate 12 refine step _ _ _ ?_
  intro h'
  rw[List.contains_cons]at h'
  cases e:(b == 95) <;> rw[e]at h' <;> simpa[zcB,e]using h'
 by_cases hl:2≤(b::r).length
 ·have hl':(2:Int)≤r.length+1:=by simp only[List.length_cons]at hl;omega
  have hl2:1≤r.length:=by simp only[List.length_cons]at hl;omega
  cases h2:zdA (b::r) with
  | true=>
   have h3:sgn (b::r)=2:=by simp[sgn,h2]
   rw[h3]at hO
   unfold zdA at h2
   simp only[List.take_succ_cons]at h2 hO
   cases e1:(b::List.take 1 r == [45,62]) with
   | true=>simpa[zgR,hl',hl2,zfN,e1]using hO
   | false=>
    cases e2:(b::List.take 1 r == [60,61]) with
    | true=>simpa[zgR,hl',hl2,zfN,e1,e2]using hO
    | false=>
     rw[e1,e2]at h2
     simp only[Bool.false_or]at h2
     simpa[zgR,hl',hl2,zfN,e1,e2,h2]using hO
  | false=>
   have ho:=one h2
   unfold zdA at h2
   simp only[List.take_succ_cons]at h2
   rw[Bool.or_eq_false_iff,Bool.or_eq_false_iff]at h2
   simpa[zgR,hl',hl2,zfN,h2.1.1,h2.1.2,h2.2]using ho
 ·have ho:=one (zqp hl)
  have:¬ ((2:Int)≤r.length+1):=by simp only[List.length_cons]at hl;omega
  simpa[zgR,this]using ho
end Go.Proofs.YtjkkonpjecoieaaGreat

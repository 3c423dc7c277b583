import Derived.Test.YtdmamdnkcefmmaaGreatDoorAbsB
set_option linter.unusedSimpArgs false
set_option linter.unusedVariables false
set_option maxRecDepth 8000
namespace Go.Proofs.YtdmamdnkcefmmaaGreatDoor
section
open Go.RowKit

def zgc:Value→AV
 |.bool b=>.bool b
 |.int k n=>.int k n
 |.string s=>.str s.data.toList
 |.pointer none=>.nilp
 |.slice none 0 0=>.snil
 |.nilFunc=>.nilfn
 |.nilIface=>.nili
 |_=>.unk
def zen:Value→AV
 |.agg cs=>.agg (cs.toList.map zgc)
 |v=>zgc v
def zbx:Value→List AV
 |.agg cs=>cs.toList.map zgc
 |v=>[zgc v]

def ev(F:List AV):Operand→AV
 |.tmp t=>F.getD t .unk
 |.const v=>zen v
 |.global _=>.unk
 |.func f=>.fn f []

def AV.cs?:AV→Option (List AV)
 |.tup _=>none
 |.unk=>none
 |.agg cs=>some cs
 |a=>some [a]
def AV.pd:AV→Option AV
 |.bool b=>some (.bool b)
 |.int k n=>some (.int k n)
 |.str s=>some (.str s)
 |.snil=>some (.sl [] .none)
 |.sl es _=>some (.sl es .none)
 |_=>none
def plain:List AV→Option (List AV)
 |[]=>some []
 | a::asx=>match a.pd,plain asx with
  |some d,some ds=>some (d::ds)
  |_,_=>none
def AV.known:AV→Bool
 |.unk=>false
 |_=>true
def AV.isB:AV→Bool
 |.fn _ _|.agg _|.tup _=>false
 |_=>true

def aIf(b:Bool)(p q:Prop):Prop:=if b=true then p else q
def zak(c a b:AV)(K:AV→Prop):Prop:=
 match c with
 |.bool t=>K (if t=true then a else b)
 |_=>False
def zaz(cs:List AV)(H:zaa)(K:AV→zaa→Prop):Prop:=K (.ptr H.length 0) (H++[.cells cs])
def zaw(x:AV)(H:zaa)(K:AV→zaa→Prop):Prop:=
 match x.cs? with
 |some cs=>K (.ptr H.length 0) (H++[.cells cs])
 |none=>False
def zbt(agg:Bool)(n off:Nat)(cs:List AV)(K:AV→Prop):Prop:=
 match agg with
 |true=>off+n≤cs.length∧K (.agg ((cs.drop off).take n))
 | false=>match cs[off]? with
  |some c=>K c
  |none=>False
def loadAt(a:AV)(H:zaa):Option (List AV×Nat):=
 match a with
 | .ptr id off=>(match H[id]? with
  |some (.cells cs)=>some (cs,off)
  |_=>none)
 |.view cs=>some (cs,0)
 | .vp id m off=>(match H[id]? with
  | some (.vec _ _ m' cs)=>(match m' == m with
   |true=>some (cs,off)
   |false=>none)
  |_=>none)
 |_=>none
def zae(agg:Bool)(n:Nat)(a:AV)(H:zaa)(K:AV→Prop):Prop:=
 match loadAt a H with
 |some p=>zbt agg n p.2 p.1 K
 |none=>False
theorem zg2(agg:Bool)(n:Nat)(a:AV)(H:zaa)(K:AV→Prop):zae agg n a H K=(match a with
  | .ptr id off=>match H[id]? with
   |some (.cells cs)=>zbt agg n off cs K
   |_=>False
  |.view cs=>zbt agg n 0 cs K
  | .vp id m off=>match H[id]? with
   |some (.vec _ _ m' cs)=>m'=m∧zbt agg n off cs K
   |_=>False
  |_=>False):=by
 cases a with
 |ptr id off=>
  simp only[zae,loadAt];cases h:H[id]? with
  |none=>rfl
  |some b=>cases b <;> rfl
 |vp id m off=>
  simp only[zae,loadAt];cases h:H[id]? with
  |none=>rfl
  |some b=>
   cases b with
   |vec e s m' cs=>
    simp only[];by_cases hm:m'=m
    ·subst hm;simp
    ·have:(m' == m)=false:=by simpa using hm
     simp[this,hm]
   |_=>rfl
 |_=>rfl
def zal(agg:Bool)(n:Nat)(a:AV)(H:zaa)(K:AV→Prop):Prop:=
 match a with
 |.vp _ _ _=>False
 |a=>zae agg n a H K
def zyD(n:Nat)(a x:AV)(H:zaa):Option zaa:=
 match x.cs? with
 | some xs=>(match xs.length == n && xs.all AV.known with
  | true=>(match a with
   | .ptr id off=>(match H[id]? with
    | some (.cells cs)=>(match decide (off+n≤cs.length) with
     |true=>some (H.set id (.cells (cs.take off++xs++cs.drop (off+n))))
     |false=>none)
    |_=>none)
   | .vp id m off=>(match H[id]? with
    | some (.vec e s m' cs)=>(match m' == m && decide (off+n≤cs.length) with
     |true=>some (H.set id (.vec e s m' (cs.take off++xs++cs.drop (off+n))))
     |false=>none)
    |_=>none)
   |_=>none)
  |false=>none)
 |none=>none
def zao(n:Nat)(a x:AV)(H:zaa)(K:zaa→Prop):Prop:=
 match zyD n a x H with
 |some H'=>K H'
 |none=>False
theorem zeN(n:Nat)(a x:AV)(H:zaa)(K:zaa→Prop):zao n a x H K=(match a,x.cs? with
  | .ptr id off,some xs=>match H[id]? with
   |some (.cells cs)=>(xs.length=n∧off+n≤cs.length∧xs.all AV.known=true)∧K (H.set id (.cells (cs.take off++xs++cs.drop (off+n))))
   |_=>False
  | .vp id m off,some xs=>match H[id]? with
   |some (.vec e s m' cs)=>(m'=m∧xs.length=n∧off+n≤cs.length∧xs.all AV.known=true)∧K (H.set id (.vec e s m' (cs.take off++xs++cs.drop (off+n))))
   |_=>False
  |_,_=>False):=by
 unfold zao zyD;cases hx:x.cs? with
 |none=>cases a <;> rfl
 |some xs=>
  simp only[];cases hk:(xs.length == n && xs.all AV.known) with
  |false=>
   have hn:¬(xs.length=n∧xs.all AV.known=true):=by intro h;rw[h.2,h.1]at hk;simp at hk
   cases a with
   |ptr id off=>
    simp only[];cases h:H[id]? with
    |none=>rfl
    |some b=>
     cases b with
     |cells cs=>simp only[];exact propext ⟨λh=>h.elim,λh=>(hn ⟨h.1.1,h.1.2.2⟩).elim⟩
     |_=>rfl
   |vp id m off=>
    simp only[];cases h:H[id]? with
    |none=>rfl
    |some b=>
     cases b with
     |vec e s m' cs=>simp only[];exact propext ⟨λh=>h.elim,λh=>(hn ⟨h.1.2.1,h.1.2.2.2⟩).elim⟩
     |_=>rfl
   |_=>rfl
  |true=>
   have hn:xs.length=n∧xs.all AV.known=true:=by rw[ai,a6]at hk;exact hk
   cases a with
   |ptr id off=>
    simp only[];cases h:H[id]? with
    |none=>rfl
    |some b=>
     cases b with
     |cells cs=>
      simp only[];by_cases hf:off+n≤cs.length
      ·rw[bq hf];exact propext ⟨λh=>⟨⟨hn.1,hf,hn.2⟩,h⟩,λh=>h.2⟩
      ·rw[bk hf];exact propext ⟨λh=>h.elim,λh=>(hf h.1.2.1).elim⟩
     |_=>rfl
   |vp id m off=>
    simp only[];cases h:H[id]? with
    |none=>rfl
    |some b=>
     cases b with
     |vec e s m' cs=>
      simp only[];by_cases hm:m'=m
      ·subst hm;by_cases hf:off+n≤cs.length
       ·rw[bq hf,dI,ce];exact propext ⟨λh=>⟨⟨rfl,hn.1,hf,hn.2⟩,h⟩,λh=>h.2⟩
       ·rw[bk hf,bz];exact propext ⟨λh=>h.elim,λh=>(hf h.1.2.2.1).elim⟩
      ·have:(m' == m)=false:=by simpa using hm
       rw[this,aY];exact propext ⟨λh=>h.elim,λh=>(hm h.1.1).elim⟩
     |_=>rfl
   |_=>rfl
def zwz(off:Nat)(a:AV):Option AV:=
 match a with
 |.ptr id o=>some (.ptr id (o+off))
 | .view cs=>(match decide (off≤cs.length) with
  |true=>some (.view (cs.drop off))
  |false=>none)
 |.vp id n o=>some (.vp id n (o+off))
 |_=>none
def zaf(off:Nat)(a:AV)(K:AV→Prop):Prop:=
 match zwz off a with
 |some v=>K v
 |none=>False
theorem zvl(off:Nat)(a:AV)(K:AV→Prop):zaf off a K=(match a with
  |.ptr id o=>K (.ptr id (o+off))
  |.view cs=>off≤cs.length∧K (.view (cs.drop off))
  |.vp id n o=>K (.vp id n (o+off))
  |_=>False):=by
 cases a with
 |view cs=>
  simp only[zaf,zwz];by_cases h:off≤cs.length
  ·simp[h]
  ·simp[h]
 |_=>rfl
def zdX(agg:Bool)(n off:Nat)(a:AV)(K:AV→Prop):Prop:=
 match a with
 |.agg cs=>zbt agg n off cs K
 |_=>False
def zjd(dY:Nat)(x i:AV):Option AV:=
 match i with
 | .int _ n=>(match x with
  | .sl es _=>(match decide (0≤n) && decide (n<es.length) && (es.getD n.toNat []).length == dY with
   |true=>some (.view (es.getD n.toNat []))
   |false=>none)
  | .ms id off len _=>(match decide (0≤n) && decide (n<len) with
   |true=>some (.ptr id (off+n.toNat*dY))
   |false=>none)
  | .ov id m=>(match decide (0≤n) && decide (n<m) with
   |true=>some (.vp id m (n.toNat*dY))
   |false=>none)
  |_=>none)
 |_=>none
def zaj(dY:Nat)(x i:AV)(K:AV→Prop):Prop:=
 match zjd dY x i with
 |some v=>K v
 |none=>False
theorem ziZ(dY:Nat)(x i:AV)(K:AV→Prop):zaj dY x i K=(match x,i with
  |.sl es _,.int _ n=>(0≤n∧n<es.length)∧((es.getD n.toNat []).length=dY∧K (.view (es.getD n.toNat [])))
  |.ms id off len _,.int _ n=>(0≤n∧n<len)∧K (.ptr id (off+n.toNat*dY))
  |.ov id m,.int _ n=>(0≤n∧n<m)∧K (.vp id m (n.toNat*dY))
  |_,_=>False):=by
 cases i with
 |int k n=>
  cases x with
  |sl es tok=>
   simp only[zaj,zjd];by_cases h1:0≤n
   ·by_cases h2:n<es.length
    ·by_cases h3:(es.getD n.toNat []).length=dY
     ·simp only[bq h1,bq h2,a6.2 h3,dA];exact propext ⟨λh=>⟨⟨h1,h2⟩,h3,h⟩,λh=>h.2.2⟩
     ·simp only[cC.2 h3,bz];exact propext ⟨λh=>h.elim,λh=>(h3 h.2.1).elim⟩
    ·simp only[bk h2,bz,aY];exact propext ⟨λh=>h.elim,λh=>(h2 h.1.2).elim⟩
   ·simp only[bk h1,aY];exact propext ⟨λh=>h.elim,λh=>(h1 h.1.1).elim⟩
  |ms id off len cap=>
   simp only[zaj,zjd];by_cases h1:0≤n
   ·by_cases h2:n<len
    ·simp only[bq h1,bq h2,dA];exact propext ⟨λh=>⟨⟨h1,h2⟩,h⟩,λh=>h.2⟩
    ·simp only[bk h2,bz];exact propext ⟨λh=>h.elim,λh=>(h2 h.1.2).elim⟩
   ·simp only[bk h1,aY];exact propext ⟨λh=>h.elim,λh=>(h1 h.1.1).elim⟩
  |ov id m=>
   simp only[zaj,zjd];by_cases h1:0≤n
   ·by_cases h2:n<m
    ·simp only[bq h1,bq h2,dA];exact propext ⟨λh=>⟨⟨h1,h2⟩,h⟩,λh=>h.2⟩
    ·simp only[bk h2,bz];exact propext ⟨λh=>h.elim,λh=>(h2 h.1.2).elim⟩
   ·simp only[bk h1,aY];exact propext ⟨λh=>h.elim,λh=>(h1 h.1.1).elim⟩
  |_=>rfl
 |_=>cases x <;> rfl
def zbI(x i:AV)(K:AV→Prop):Prop:=
 match x,i with
 |.str s,.int _ n=>(0≤n∧n<s.length)∧K (.int .u8 (s.getD n.toNat 0).toNat)
 |_,_=>False
def lenOf(u:Nat)(x:AV):Option Int:=
 match u with
 | 0=>(match x with
  |.str s=>some s.length
  |_=>none)
 | 1=>(match x with
  |.sl es _=>some es.length
  |.snil=>some 0
  |.ms _ _ len _=>some len
  |.ov _ n=>some n
  |_=>none)
 |_=>none
def zai(u:Nat)(x:AV)(K:AV→Prop):Prop:=
 match lenOf u x with
 |some n=>K (.int .i64 n)
 |none=>False
theorem zEr(u:Nat)(x:AV)(K:AV→Prop):zai u x K=(match u,x with
  |0,.str s=>K (.int .i64 s.length)
  |1,.sl es _=>K (.int .i64 es.length)
  |1,.snil=>K (.int .i64 0)
  |1,.ms _ _ len _=>K (.int .i64 len)
  |1,.ov _ n=>K (.int .i64 n)
  |_,_=>False):=by
 unfold zai lenOf
 match u with
 |0=>cases x <;> rfl
 |1=>cases x <;> rfl
 |_+2=>cases x <;> rfl
def zbN(x:Option AV)(d:Nat)(K:Nat→Prop):Prop:=
 match x with
 |none=>K d
 |some (.int _ n)=>0≤n∧K n.toNat
 |_=>False
def zaS(u dY:Nat)(x:AV)(lo hi:Option AV)(K:AV→Prop):Prop:=
 match u,x with
 |0,.str s=>zbN hi s.length λh=>zbN lo 0 λl=>(l≤h∧h≤s.length)∧K (.str ((s.take h).drop l))
 |1,.sl es _=>zbN hi es.length λh=>zbN lo 0 λl=>(l≤h∧h≤es.length∧∀c∈es,c.length=dY)∧K (.sl ((es.take h).drop l) .none)
 |1,.snil=>zbN hi 0 λh=>zbN lo 0 λl=>(l≤h∧h≤0)∧K .snil
 |1,.ov id n=>zbN hi n λh=>zbN lo 0 λl=>(l≤h∧h=n)∧K (.os id n l dY)
 |1,.ms id off len cap=>zbN hi len λh=>zbN lo 0 λl=>(l≤h∧h≤cap)∧K (.ms id (if cap=l then off else off+l*dY) (h-l) (cap-l))
 |_,_=>False
def zi3(op:BinOp)(b:Bool)(x y:AV):Option AV:=
 match x with
 | .int k m=>(match y with
  | .int k' n=>(match decide (k=k') with
   | true=>(match op with
    |.add=>some (.int k (k.wrap (m+n)))
    |.sub=>some (.int k (k.wrap (m-n)))
    |.mul=>some (.int k (k.wrap (m*n)))
    | .quo=>(match n == 0 with
     |true=>none
     |false=>some (.int k (k.wrap (m.tdiv n))))
    | .rem=>(match n == 0 with
     |true=>none
     |false=>some (.int k (m.tmod n)))
    |.eql=>some (.bool (m == n))
    |.neq=>some (.bool (m != n))
    |.lss=>some (.bool (decide (m<n)))
    |.leq=>some (.bool (decide (m≤n)))
    |.gtr=>some (.bool (decide (m>n)))
    |.geq=>some (.bool (decide (m≥n)))
    |_=>none)
   |false=>none)
  |_=>none)
 | .str s=>(match y with
  | .str t=>(match op with
   | .add=>(match decide (s.length+t.length≤9223372036854775807) with
    |true=>some (.str (s++t))
    |false=>none)
   |.eql=>some (.bool (s == t))
   |.neq=>some (.bool (!(s == t)))
   |.lss=>some (.bool (Op.bytesLess s t))
   |.leq=>some (.bool (Op.bytesLess s t || s == t))
   |.gtr=>some (.bool (!(Op.bytesLess s t || s == t)))
   |.geq=>some (.bool (!Op.bytesLess s t))
   |_=>none)
  |_=>none)
 | .bool m=>(match y with
  | .bool n=>(match b with
   | true=>(match op with
    |.eql=>some (.bool (m == n))
    |.neq=>some (.bool (!(m == n)))
    |_=>none)
   |false=>none)
  |_=>none)
 |_=>none
def zad(op:BinOp)(b:Bool)(x y:AV)(K:AV→Prop):Prop:=
 match zi3 op b x y with
 |some v=>K v
 |none=>False
theorem zcg(op:BinOp)(b:Bool)(x y:AV)(K:AV→Prop):zad op b x y K=(match x,y with
  | .int k m,.int k' n=>k=k'∧(match op with
   |.add=>K (.int k (k.wrap (m+n)))
   |.sub=>K (.int k (k.wrap (m-n)))
   |.mul=>K (.int k (k.wrap (m*n)))
   |.quo=>n≠0∧K (.int k (k.wrap (m.tdiv n)))
   |.rem=>n≠0∧K (.int k (m.tmod n))
   |.eql=>K (.bool (m == n))
   |.neq=>K (.bool (m != n))
   |.lss=>K (.bool (decide (m<n)))
   |.leq=>K (.bool (decide (m≤n)))
   |.gtr=>K (.bool (decide (m>n)))
   |.geq=>K (.bool (decide (m≥n)))
   |_=>False)
  | .str s,.str t=>(match op with
   |.add=>s.length+t.length≤9223372036854775807∧K (.str (s++t))
   |.eql=>K (.bool (s == t))
   |.neq=>K (.bool (!(s == t)))
   |.lss=>K (.bool (Op.bytesLess s t))
   |.leq=>K (.bool (Op.bytesLess s t || s == t))
   |.gtr=>K (.bool (!(Op.bytesLess s t || s == t)))
   |.geq=>K (.bool (!Op.bytesLess s t))
   |_=>False)
  | .bool m,.bool n=>b=true∧(match op with
   |.eql=>K (.bool (m == n))
   |.neq=>K (.bool (!(m == n)))
   |_=>False)
  |_,_=>False):=by
 cases x with
 |int k m=>
  cases y with
  |int k' n=>
   simp only[zad,zi3];by_cases hk:k=k'
   ·subst hk;simp only[cQ,dT];cases op with
    |quo=>
     by_cases h0:n=0
     ·subst h0;simp
     ·have:(n == 0)=false:=by simpa using h0
      simp[this,h0]
    |rem=>
     by_cases h0:n=0
     ·subst h0;simp
     ·have:(n == 0)=false:=by simpa using h0
      simp[this,h0]
    |_=>rfl
   ·simp only[bk hk];exact propext ⟨λh=>h.elim,λh=>(hk h.1).elim⟩
  |_=>rfl
 |str s=>
  cases y with
  |str t=>
   simp only[zad,zi3];cases op with
   |add=>
    simp only[];by_cases h:s.length+t.length≤9223372036854775807
    ·simp only[bq h];exact propext ⟨λh2=>⟨h,h2⟩,λh=>h.2⟩
    ·simp only[bk h];exact propext ⟨λh=>h.elim,λh2=>(h h2.1).elim⟩
   |_=>rfl
  |_=>rfl
 |bool m=>
  cases y with
  |bool n=>
   simp only[zad,zi3];cases b with
   |true=>cases op <;> exact propext ⟨λh=>⟨rfl,h⟩,λh=>h.2⟩
   |false=>exact propext ⟨λh=>h.elim,λh=>by cases h.1⟩
  |_=>rfl
 |_=>cases y <;> rfl
def zcU(ok:Bool)(op:BinOp)(x:AV)(K:AV→Prop):Prop:=
 ok=true∧(match x with
  | .nili=>(match op with
   |.eql=>K (.bool true)
   |.neq=>K (.bool false)
   |_=>False)
  | .ifc=>(match op with
   |.eql=>K (.bool false)
   |.neq=>K (.bool true)
   |_=>False)
  |_=>False)
def zo8:Operand→Bool
 |.const .nilIface=>true
 |_=>false
def aUn(op:UnOp)(x:AV)(K:AV→Prop):Prop:=
 match op,x with
 |.not,.bool b=>K (.bool (!b))
 |.neg,.int k n=>K (.int k (k.wrap (0-n)))
 |_,_=>False
def za9(k:IntKind)(x:AV)(K:AV→Prop):Prop:=
 match x with
 |.int _ n=>K (.int k (k.wrap n))
 |_=>False
def zdW(x:AV)(K:AV→Prop):Prop:=
 match x with
 |.str s=>K (.str s)
 |_=>False
def zhe:List (List AV)→Option (List UInt8)
 |[]=>some []
 | [.int .u8 n]::es=>(match zhe es with
  |some s=>some (UInt8.ofNat n.toNat::s)
  |none=>none)
 |_=>none
def zff(x:AV)(K:AV→Prop):Prop:=
 match x with
 | .sl es _=>(match zhe es with
  |some s=>K (.str s)
  |none=>False)
 |.snil=>K (.str [])
 |_=>False
def zay(x:AV)(i:Nat)(K:AV→Prop):Prop:=
 match x with
 | .tup vs=>(match vs[i]? with
  |some v=>K v
  |none=>False)
 |_=>False
def zcp(f:Nat)(caps:List AV)(K:AV→Prop):Prop:=caps.all AV.isB=true∧K (.fn f caps)
def zxo(x:AV):Option AV:=
 match x with
 |.ptr _ _|.view _|.fn _ _|.vp _ _ _=>some x
 |_=>none
def zbe(x:AV)(K:AV→Prop):Prop:=
 match zxo x with
 |some v=>K v
 |none=>False
theorem zEs(x:AV)(K:AV→Prop):zbe x K=(match x with
  |.ptr _ _|.view _|.fn _ _|.vp _ _ _=>K x
  |_=>False):=by
 unfold zbe zxo;cases x <;> rfl
def zaL(places:List (Nat × Nat)):List (Nat × AV)→List AV→Option (List AV)
 |[],cs=>some cs
 | (i,x)::rest,cs=>match places[i]?,x.cs? with
  | some (off,size),some xs=>match xs.length == size && decide (off+size≤cs.length) with
   |true=>zaL places rest (cs.take off++xs++cs.drop (off+size))
   |false=>none
  |_,_=>none
def zar(zero:List AV)(places:List (Nat×Nat))(dX:List (Nat×AV))(K:AV→Prop):Prop:=
 match zaL places dX zero with
 |some cs=>K (.agg cs)
 |none=>False
def zaU(dY:Nat):List (Nat × AV)→List (List AV)→Option (List (List AV))
 |[],es=>some es
 | (i,x)::rest,es=>match x.cs? with
  | some xs=>match plain xs with
   | some ds=>match ds.length == dY && decide (i<es.length) with
    |true=>zaU dY rest (es.set i ds)
    |false=>none
   |none=>none
  |none=>none
def zau(dY:Nat)(zero:List AV)(len:Nat)(dX:List (Nat×AV))(K:AV→Prop):Prop:=
 match plain zero with
 | some z=>(match zaU dY dX (List.replicate len z) with
  |some es=>K (.sl es .full)
  |none=>False)
 |none=>False
def zbu(bytes:Nat)(zero:List AV)(len cap:AV)(H:zaa)(K:AV→zaa→Prop):Prop:=
 match len,cap with
 | .int .i64 l,.int .i64 c=>(0≤l∧l≤c∧c*bytes≤140737488355328∧c≤9223372036854775807) ∧
   K (.ms H.length 0 l.toNat c.toNat) (H++[.cells (List.replicate c.toNat zero).flatten])
 |_,_=>False
def zbP:List (List UInt8 × AV)→List UInt8→Option AV
 |[],_=>none
 | p::l,s=>match p.1 == s with
  |true=>some p.2
  |false=>zbP l s
def zcF:List (List UInt8 × AV)→List UInt8→AV→List (List UInt8 × AV)
 |[],s,x=>[(s,x)]
 | p::l,s,x=>match p.1 == s with
  |true=>(s,x)::l
  |false=>p::zcF l s x
def zdY(H:zaa)(K:AV→zaa→Prop):Prop:=K (.map H.length) (H++[.map []])
def zdI(zero:AV)(ok:Bool)(m k:AV)(H:zaa)(K:AV→Prop):Prop:=
 match m,k with
 | .map id,.str s=>match H[id]? with
  | some (.map kvs)=>K (match ok with
   |true=>.tup [(zbP kvs s).getD zero,.bool (zbP kvs s).isSome]
   |false=>(zbP kvs s).getD zero)
  |_=>False
 |_,_=>False
def zcT(m k x:AV)(H:zaa)(K:zaa→Prop):Prop:=
 match m,k with
 | .map id,.str s=>match H[id]? with
  | some (.map kvs)=>(match x with
   |.tup _=>False
   |x=>K (H.set id (.map (zcF kvs s x))))
  |_=>False
 |_,_=>False
def zaO(y:AV)(K:List (List AV)→Prop):Prop:=
 match y with
 |.sl ys _=>K ys
 |.snil=>K []
 |_=>False
def zaK(e size bytes:Nat)(x:AV)(ys:List (List AV))(H:zaa)(K:AV→zaa→Prop):Prop:=
 match x with
 |.snil=>(ys.length*bytes≤140737488355328∧ys.length≤9223372036854775807)∧K (.sl ys (.own H.length)) (H++[.perm e size ys.length])
 | .sl es (.own id)=>H[id]?=some (.perm e size es.length)∧((es.length+ys.length)*bytes≤140737488355328∧es.length+ys.length≤9223372036854775807) ∧
   K (.sl (es++ys) (.own id)) (H.set id (.perm e size (es.length+ys.length)))
 | .ov id n=>(match H[id]? with
  |some (.vec e' s' n' cs)=>((e'=e∧s'=size∧n'=n)∧(n+ys.length)*bytes≤140737488355328∧n+ys.length≤9223372036854775807)∧K (.ov id (n+ys.length)) (H.set id (.vec e size (n+ys.length) (cs++ys.flatten)))
  |_=>False)
 | .sl es .full=>(match ys with
  |[]=>K (.sl es .full) H
  |y::ys=>(0<(y::ys).length∧(∀c∈es,c.length=size)∧(es.length+(y::ys).length)*bytes≤140737488355328∧es.length+(y::ys).length≤9223372036854775807)∧K (.sl (es++y::ys) (.own H.length)) (H++[.perm e size (es.length+(y::ys).length)]))
 |_=>False
def zdV(e size bytes:Nat)(x:AV)(m:Nat)(ds:List AV)(H:zaa)(K:AV→zaa→Prop):Prop:=
 match x with
 | .ov id n=>(match H[id]? with
  |some (.vec e' s' n' cs)=>((e'=e∧s'=size∧n'=n)∧ds.all AV.known=true∧ds.length=m*size∧(n+m)*bytes≤140737488355328∧n+m≤9223372036854775807)∧K (.ov id (n+m)) (H.set id (.vec e size (n+m) (cs++ds)))
  |_=>False)
 | .sl [] .full=>(match m with
  |0=>K (.sl [] .none) H
  |m'+1=>(ds.all AV.known=true∧ds.length=(m'+1)*size∧(m'+1)*bytes≤140737488355328∧m'+1≤9223372036854775807)∧K (.ov H.length (m'+1)) (H++[.vec e size (m'+1) ds]))
 |_=>False
def zax(e size bytes:Nat)(x y:AV)(H:zaa)(K:AV→zaa→Prop):Prop:=
 match y with
 | .ms id off len _=>(match H[id]? with
  |some (.cells cs)=>off+len*size≤cs.length∧zdV e size bytes x len ((cs.drop off).take (len*size)) H K
  |_=>False)
 | .ov id n=>(match H[id]? with
  |some (.vec _ s' n' cs)=>(s'=size∧n'=n)∧zdV e size bytes x n cs H K
  |_=>False)
 |y=>zaO y λys=>(∀c∈ys,c.length=size)∧zaK e size bytes x ys H K

def ACalls(P:Program)(f:FuncId)(args:List AV)(H:zaa)(K:AV→zaa→Prop):Prop:=
 ∀ (B:Nat) (w:World) (G:Gh) (vs:Array Value),HRel B w G H→All2 (TRel w G) vs.toList args →
  Calls P f vs w λe w'=>∃v r H' G',e=.returned v∧Ext B w G w' G'∧HRel B w' G' H'∧TRel w' G' v r∧K r H'

def za0(P:Program)(t:TypeId):Option Nat:=(P.info? t).map (·.size)
def zc5(P:Program)(t:TypeId):Option Nat:=(P.info? t).map (·.bytes)
def zbA(P:Program)(t:TypeId):Option Value:=(P.info? t).bind (·.zero)
def zd9(P:Program)(t:TypeId):Option Bool:=(P.underlying t).map λ| .struct _|.array _ _=>true|_=>false
def zdE(P:Program)(t:TypeId):Option Nat:=(P.underlying t).bind λ| .string=>some 0|.slice _=>some 1|_=>none
def zbc(P:Program)(t:TypeId):Option TypeId:=(P.underlying t).bind λ| .slice e=>some e|_=>none
def zqY(P:Program)(t:TypeId):Bool:=match P.underlying t with|some (.interface _)=>true|_=>false
def zJd(P:Program)(t:TypeId):Bool:=match P.underlying t with
 | some (.struct fs)=>(match fs.toList with
  | [f0,_]=>(match P.underlying f0.type with
   |some (.pointer e)=>e == t
   |_=>false)
  |_=>false)
 |_=>false
def tU8(P:Program)(t:TypeId):Bool:=match P.underlying t with|some (.int .u8)=>true|_=>false
inductive CvK where
 |ints (k:IntKind)
 |strs
 |bytes
def cvK(P:Program)(s t:TypeId):Option CvK:=
 match P.underlying s with
 | some (.int _)=>(match P.underlying t with
  |some (.int k)=>some (.ints k)
  |_=>none)
 | some .string=>(match P.underlying t with
  |some .string=>some .strs
  |_=>none)
 | some (.slice e)=>(match P.underlying t with
  | some .string=>(match tU8 P e with
   |true=>some .bytes
   |false=>none)
  |_=>none)
 |_=>none
def zqX(P:Program)(t:TypeId):Bool:=match P.underlying t with|some .bool=>true|_=>false
def zgG(P:Program)(t:TypeId)(i:Nat):Option Field:=(P.underlying t).bind λ| .struct fs=>fs[i]?|_=>none
def zqZ(P:Program)(t:TypeId):Option (List (Nat × Nat)):=(P.underlying t).bind fun
 |.struct fs=>fs.toList.mapM λf=>(za0 P f.type).map λs=>(f.offset,s)
 |_=>none
def zeE(P:Program)(t:TypeId):Option TypeId:=(P.underlying t).bind fun
 | .map k e=>(match P.underlying k with
  |some .string=>some e
  |_=>none)
 |_=>none
def zd1(P:Program)(f:FuncId):Bool:=
 match P.funcs[f]? with
 | some fn => !(fn.name == "runtime.NumGoroutine") && fn.body.isSome
 |none=>false

def aCallV(P:Program)(g:AV)(args:List AV)(H:zaa)(K:AV→zaa→Prop):Prop:=
 match g with
 | .fn f caps=>(match zd1 P f with
  |true=>ACalls P f (args++caps) H K
  |false=>False)
 |_=>False

def zf5(x y:AV)(K:AV→Prop):Prop:=
 match x,y with
 |.int k m,.int _ n=>K (.int k (if n>m then n else m))
 |_,_=>False
def zfr(cs:List AV)(off:Nat)(ds:List AV):List AV:=cs.take off++ds++cs.drop (off+ds.length)
def zg0(size:Nat)(x y:AV)(H:zaa)(K:AV→zaa→Prop):Prop:=
 match x,y with
 | .os id n lo z,.os id' n' lo' z'=>(match H[id]? with
  | some (.vec e s m cs)=>(((id'=id∧n'=n∧m=n)∧z=size∧z'=size∧s=size)∧cs.all AV.known=true) ∧
    K (.int .i64 ((min (n-lo') (n-lo):Nat):Int)) (H.set id (.vec e s m (zfr cs (lo*size) ((cs.drop (lo'*size)).take (min (n-lo') (n-lo)*size)))))
  |_=>False)
 |_,_=>False
def zeL(P:Program)(b:Builtin)(c:Call)(F:List AV)(H:zaa)(K:AV→zaa→Prop):Prop:=
 match b with
 | .len=>(match c.args.toList,c.argTypes.toList with
  | [x],[t]=>(match zdE P t with
   |some u=>zai u (ev F x) (K · H)
   |none=>False)
  |_,_=>False)
 | .append=>(match c.args.toList,c.argTypes.toList with
  | [x,y],[t,t']=>(match zbc P t,(zbc P t).bind (za0 P),(zbc P t).bind (zc5 P),(zbc P t).bind (zbA P),t == t' with
   | some e,some size,some bytes,some z,true=>(match decide (0<size) && (zbx z).length == size with
    |true=>zax e size bytes (ev F x) (ev F y) H K
    |false=>False)
   |_,_,_,_,_=>False)
  |_,_=>False)
 | .max=>(match c.args.toList with
  |[x,y]=>zf5 (ev F x) (ev F y) (K · H)
  |_=>False)
 | .copy=>(match c.args.toList,c.argTypes.toList with
  | [x,y],[t,_]=>(match (zbc P t).bind (za0 P) with
   |some size=>zg0 size (ev F x) (ev F y) H K
   |none=>False)
  |_,_=>False)
 |_=>False

def zeP(P:Program)(op:Op)(F:List AV)(H:zaa)(K:AV→zaa→Prop):Prop:=
 match op with
 | .makeMap t r=>(match r,zeE P t with
  |none,some _=>zdY H K
  |_,_=>False)
 | .lookup t x i ok=>(match (zeE P t).bind (zbA P) with
  |some z=>zdI (zen z) ok (ev F x) (ev F i) H (K · H)
  |none=>False)
 | .mapUpdate t m k x=>(match zeE P t with
  |some _=>zcT (ev F m) (ev F k) (ev F x) H (K (.tup []))
  |none=>False)
 | .insert t m k x=>(match zeE P t with
  |some _=>zcT (ev F m) (ev F k) (ev F x) H (K (.tup []))
  |none=>False)
 |_=>False

def zdr(P:Program)(o:Oper)(F:List AV)(H:zaa)(K:AV→zaa→Prop):Prop:=
 match o.op with
 |.move x|.assign x=>K (ev F x) H
 |.pick c a b=>zak (ev F c) (ev F a) (ev F b) (K · H)
 | .alloc t=>(match zbA P t with
  |some z=>zaz (zbx z) H K
  |none=>False)
 |.box _ x=>zaw (ev F x) H K
 | .build t dX=>(match zbA P t,zqZ P t with
  |some z,some ps=>zar (zbx z) ps (dX.toList.map λp=>(p.1,ev F p.2)) (K · H)
  |_,_=>False)
 | .buildSlice t len dX=>(match (zbc P t).bind (za0 P),(zbc P t).bind (zbA P) with
  | some size,some z=>(match decide (0<size) && decide (len*size≤16777216) && (zbx z).length == size with
   |true=>zau size (zbx z) len (dX.toList.map λp=>(p.1,ev F p.2)) (K · H)
   |false=>False)
  |_,_=>False)
 | .load t a=>(match zd9 P t,za0 P t with
  |some g,some n=>zae g n (ev F a) H (K · H)
  |_,_=>False)
 | .store t a x=>(match za0 P t with
  |some n=>zao n (ev F a) (ev F x) H (K (.tup []))
  |none=>False)
 |.nilCheck x=>zbe (ev F x) (K · H)
 | .binOp op t x y _=>(match zo8 y with
  |true=>zcU (zqY P t) op (ev F x) (K · H)
  |false=>zad op (zqX P t) (ev F x) (ev F y) (K · H))
 |.unOp op _ x=>aUn op (ev F x) (K · H)
 | .convert s t x=>(match cvK P s t with
  |some (.ints k)=>za9 k (ev F x) (K · H)
  |some .strs=>zdW (ev F x) (K · H)
  |some .bytes=>zff (ev F x) (K · H)
  |none=>False)
 | .makeFunc (.func f) first caps=>(match first.toList with
  |[]=>zcp f (caps.toList.map (ev F)) (K · H)
  |_=>False)
 | .makeSlice t l c=>(match (zbc P t).bind (za0 P),(zbc P t).bind (zc5 P),(zbc P t).bind (zbA P) with
  | some size,some bytes,some z=>(match decide (0<size) && (zbx z).length == size with
   |true=>zbu bytes (zbx z) (ev F l) (ev F c) H K
   |false=>False)
  |_,_,_=>False)
 | .slice t x lo hi none=>(match zdE P t with
  |some 0=>zaS 0 0 (ev F x) (lo.map (ev F)) (hi.map (ev F)) (K · H)
  | some 1=>(match (zbc P t).bind (za0 P) with
   |some size=>zaS 1 size (ev F x) (lo.map (ev F)) (hi.map (ev F)) (K · H)
   |none=>False)
  |_=>False)
 | .fieldAddr s x i=>(match zgG P s i with
  | some f=>(match za0 P f.type with
   |some (_+1)=>zaf f.offset (ev F x) (K · H)
   |_=>False)
  |none=>False)
 | .field s x i=>(match zgG P s i with
  | some f=>(match zd9 P f.type,za0 P f.type with
   |some g,some n=>zdX g n f.offset (ev F x) (K · H)
   |_,_=>False)
  |none=>False)
 | .indexAddr t x i=>(match (zbc P t).bind (za0 P) with
  |some size=>zaj size (ev F x) (ev F i) (K · H)
  |none=>False)
 | .index t x i=>(match zdE P t with
  |some 0=>zbI (ev F x) (ev F i) (K · H)
  |_=>False)
 |.extract x i=>zay (ev F x) i (K · H)
 | .call c=>(match c.callee with
  |.value f=>aCallV P (ev F f) (c.args.toList.map (ev F)) H K
  |.builtin b=>zeL P b c F H K
  |.invoke _ _=>False)
 |_=>False
def isM:Op→Bool
 |.makeMap _ _|.lookup _ _ _ _|.mapUpdate _ _ _ _|.insert _ _ _ _=>true
 |_=>false
def aop(P:Program)(o:Oper)(F:List AV)(H:zaa)(K:AV→zaa→Prop):Prop:=
 match isM o.op with
 |true=>zeP P o.op F H K
 |false=>zdr P o F H K

def zos(fl:Bool)(agg:Bool)(n:Nat)(a:AV)(H:zaa)(K:AV→Prop):Prop:=
 match fl with
 |false=>zal agg n a H K
 |true=>zae agg n a H K
def zbn(fl:Bool)(P:Program)(o:Oper)(F:List AV)(H:zaa)(K:AV→zaa→Prop):Prop:=
 match o.op with
 | .load t a=>(match zd9 P t,za0 P t with
  |some g,some n=>zos fl g n (ev F a) H (K · H)
  |_,_=>False)
 |_=>aop P o F H K
def zdp(g:AV)(want:Bool)(p q:Prop):Prop:=
 match g with
 |.bool b=>aIf (b == want) p q
 |.tup []=>q
 |_=>False
def zac(g:AV)(want:Bool)(H:zaa)(p:(AV→zaa→Prop)→Prop)(J:AV→zaa→Prop):Prop:=zdp g want (p J) (J (.tup []) H)
def zab(H:zaa)(p:(AV→zaa→Prop)→Prop)(K:AV→Prop):Prop:=∃r,(p λv H'=>v=r∧H'=H)∧K r
def zaJ(H:zaa)(p:zaa→(AV→zaa→Prop)→Prop)(K:AV→Prop):Prop:=∃r,(∀J:zaa,p (H++J) λv H'=>v=r∧H'=H++J)∧K r
def zag(c:AV)(p q:Prop):Prop:=
 match c with
 |.bool t=>aIf t p q
 |_=>False

def zbQ(F:List AV)(d:Option Tmp)(v:AV):List AV:=
 match d with
 |some d=>F.set d v
 |none=>F

def zot(t:TypeId)(cs:List AV)(H:zaa)(K:AV→zaa→Prop):Prop:=K (.ptr H.length 0) (H++[.bld t cs])
def zha(P:Program)(o:Oper)(F:List AV)(H:zaa)(K:AV→zaa→Prop):Prop:=
 match o.op with
 | .alloc t=>(match zJd P t with
  | true=>(match zbA P t with
   |some z=>zot t (zbx z) H K
   |none=>False)
  |false=>aop P o F H K)
 |_=>aop P o F H K
def AV.oneK:AV→Bool
 |.unk|.agg _|.tup _=>false
 |_=>true
def zoq(e:TypeId)(size len:Nat)(dX:List (Nat×AV))(H:zaa)(K:AV→zaa→Prop):Prop:=
 match size,len,dX with
 |1,1,[(0,x)]=>x.oneK=true∧K (.ov H.length 1) (H++[.vec e 1 1 [x]])
 |2,1,[(0,.agg [x,y])]=>(x.oneK=true∧y.oneK=true)∧K (.ov H.length 1) (H++[.vec e 2 1 [x,y]])
 |_,_,_=>False
def zge(x:AV)(K:Bool→Prop):Prop:=
 match x with
 |.snil=>K true
 |.ms _ _ _ _=>K false
 |.ov _ (_+1)=>K false
 |.sl (_::_) .none=>K false
 |.sl [] .none=>K true∧K false
 |_=>False
def zg3(ok:Bool)(op:BinOp)(x:AV)(K:AV→Prop):Prop:=
 ok=true∧(match op with
 |.eql=>zge x λb=>K (.bool b)
 |.neq=>zge x λb=>K (.bool (!b))
 |_=>False)
def zo9:Operand→Bool
 |.const (.slice none 0 0)=>true
 |_=>false
def zq0(P:Program)(t:TypeId):Bool:=match P.underlying t with|some (.slice _)=>true|_=>false
def zwL:Operand→Bool
 |.const (.int .i64 (.ofNat 0))=>true
 |_=>false
def zeM(e size bytes:Nat)(cap:AV)(H:zaa)(K:AV→zaa→Prop):Prop:=
 match cap with
 |.int .i64 c=>(0≤c∧c*bytes≤140737488355328∧c≤9223372036854775807)∧K (.ov H.length 0) (H++[.vec e size 0 []])
 |_=>False
def zov(size:Nat)(x hi:AV)(H:zaa)(K:AV→zaa→Prop):Prop:=
 match x with
 | .ov id n=>(match H[id]?,hi with
  |some (.vec e s n' cs),.int _ k=>((s=size∧n'=n)∧0≤k∧k≤n)∧K (.ov H.length k.toNat) (H.set id .dead++[.vec e s k.toNat (cs.take (k.toNat*s))])
  |_,_=>False)
 |x=>zaS 1 size x none (some hi) (K · H)
def zoB(P:Program)(o:Oper)(F:List AV)(H:zaa)(K:AV→zaa→Prop):Prop:=
 match o.op with
 | .buildSlice t len dX=>(match zbc P t with
  | some e=>(match za0 P e,zbA P e with
   | some size,some z=>(match (zbx z).length == size with
    |true=>zoq e size len (dX.toList.map λp=>(p.1,ev F p.2)) H K
    |false=>False)
   |_,_=>False)
  |none=>False)
 | .binOp op t x y _=>(match zo9 y with
  |true=>zg3 (zq0 P t) op (ev F x) (K · H)
  |false=>aop P o F H K)
 | .makeSlice t l c=>(match zwL l with
  | true=>(match zbc P t with
   | some e=>(match za0 P e,zc5 P e,zbA P e with
    | some size,some bytes,some z=>(match decide (0<size) && (zbx z).length == size with
     |true=>zeM e size bytes (ev F c) H K
     |false=>False)
    |_,_,_=>False)
   |none=>False)
  |false=>aop P o F H K)
 | .slice t x none (some hi) none=>(match zdE P t with
  | some 1=>(match (zbc P t).bind (za0 P) with
   |some size=>zov size (ev F x) (ev F hi) H K
   |none=>False)
  |_=>False)
 |_=>aop P o F H K
def zif(P:Program):List Oper→(List AV→zaa→Prop)→List AV→zaa→Prop
 |[],K,F,H=>K F H
 | o::os,K,F,H=>match o.guard with
  |none=>zoB P o F H λv H'=>zif P os K (zbQ F o.dst v) H'
  |some _=>False
def ze4(P:Program)(d6:Array Oper):List Oper→(List AV→zaa→Prop)→List AV→zaa→Prop
 |[],K,F,H=>K F H
 | o::os,K,F,H=>match o.guard with
  |none=>zha P o F H λv H'=>ze4 P d6 os K (zbQ F o.dst v) H'
  | some (j,want)=>(match (d6[j]?).bind (·.dst) with
   |some d=>zac (F.getD d .unk) want H (zha P o F H) λv H'=>ze4 P d6 os K (zbQ F o.dst v) H'
   |none=>False)

inductive WM where
 |n
 |w
 |g
 |c
def WM.on(wc:WM)(f:Operand):Bool:=
 match wc with
 |.n=>false
 | .c=>(match f with
  |.func _=>true
  |_=>false)
 |_=>true
def WM.gr:WM→Bool
 |.g=>true
 |_=>false
def GrowA(H H':zaa):Prop:=H'=H∨(∃ e s n,H'=H++[.perm e s n])∨(∃ (id e s n n':Nat),H[id]?=some (.perm e s n)∧H'=H.set id (.perm e s n')) ∨
 (∃(id e s n n':Nat) (cs cs':List AV),H[id]?=some (.vec e s n cs)∧H'=H.set id (.vec e s n' cs'))∨∃(e s n:Nat) (cs:List AV),H'=H++[.vec e s n cs]
def opW(wc:WM):Op→Bool
 |.store _ _ _|.alloc _|.box _ _|.makeSlice _ _ _|.makeMap _ _|.mapUpdate _ _ _ _|.insert _ _ _ _=>true
 | .call c=>(match c.callee with
  |.builtin .append=>true
  |.builtin .copy=>true
  |.value f=>wc.on f
  |_=>false)
 |_=>false
def opF:Op→Bool
 |.move _|.assign _|.pick _ _ _|.build _ _|.buildSlice _ _ _|.nilCheck _|.binOp _ _ _ _ _|.unOp _ _ _|.convert _ _ _|.makeFunc _ _ _|.slice _ _ _ _ _|.fieldAddr _ _ _|.field _ _ _
 |.indexAddr _ _ _|.index _ _ _|.extract _ _=>true
 | .call c=>(match c.callee with
  |.builtin .len=>true
  |_=>false)
 |_=>false
def opL:Op→Bool
 |.load _ _=>true
 |_=>false
def opA(wc:WM):Op→Bool
 | .call c=>(match c.callee with
  |.builtin .append=>true
  |.value _=>wc.gr
  |_=>false)
 |_=>false
def opG(wc:WM):Op→Bool
 | .call c=>(match c.callee with
  |.value _=>wc.gr
  |_=>false)
 |_=>false
def opN:Op→Bool
 |.alloc _|.box _ _|.makeSlice _ _ _|.makeMap _ _=>true
 |_=>false
def opV:Op→Bool
 |.alloc _=>true
 |_=>false
def opC(wc:WM):Op→Bool
 | .call c=>(match c.callee with
  |.value f=>!wc.on f
  |_=>false)
 |_=>false
def okU(wc:WM)(q p:Op):Bool:=(opL q && (opA wc p || opN p)) || (opA wc q && opL p) || (opC wc q && opV p) || (opV q && opV p)
def zdH(wc:WM)(gr:Bool)(H:zaa)(p:(AV→zaa→Prop)→Prop)(K:AV→zaa→Prop):Prop:=
 match wc with
 |.n=>p K
 |_=>∃r H',p (λv H2=>v=r∧H2=H')∧(gr=true→GrowA H H')∧K r H'
def zcO(fl:Bool)(wc:WM)(P:Program)(d6:Array Oper):List Oper→(List AV→zaa→Prop)→List AV→zaa→Prop
 |[],K,F,H=>K F H
 | o::os,K,F,H=>match o.guard with
  | none=>(match opW wc o.op with
   | false=>(match opC wc o.op with
    |false=>zab H (zbn fl P o F H) λr=>zcO fl wc P d6 os K (zbQ F o.dst r) H
    |true=>zaJ H (λH=>zbn fl P o F H) λr=>zcO fl wc P d6 os K (zbQ F o.dst r) H)
   |true=>zdH wc (opG wc o.op) H (zbn fl P o F H) λv H'=>zcO fl wc P d6 os K (zbQ F o.dst v) H')
  | some (j,want)=>(match (d6[j]?).bind (·.dst) with
   | some d=>(match opW wc o.op with
    | false=>(match opC wc o.op with
     |false=>zac (F.getD d .unk) want H (λJ=>zab H (zbn fl P o F H) (J · H)) λv H'=>zcO fl wc P d6 os K (zbQ F o.dst v) H'
     |true=>zac (F.getD d .unk) want H (λJ=>zaJ H (λH=>zbn fl P o F H) (J · H)) λv H'=>zcO fl wc P d6 os K (zbQ F o.dst v) H')
    |true=>zac (F.getD d .unk) want H (λJ=>zdH wc (opG wc o.op) H (zbn fl P o F H) J) λv H'=>zcO fl wc P d6 os K (zbQ F o.dst v) H')
   |none=>False)

def zoA{α:Type}:List α→(α→Prop)→Prop
 |[],_=>True
 |[i],p=>p i
 |i::j::l,p=>p i∧zoA (j::l) p
def zgC(P:Program)(d6:Array Oper)(K:List AV→zaa→Prop):Nat→Array Bool→List AV→zaa→Prop
 | 0,dW,F,H=>(match Region.ready .any d6 dW with
  |[]=>K F H
  |_=>False)
 | n+1,dW,F,H=>(match Region.ready .any d6 dW with
  |[]=>K F H
  | i::is=>zoA (i::is) λi=>(match d6[i]? with
   | some o=>(match o.guard with
    |none=>aop P o F H λv H'=>zgC P d6 K n (dW.setIfInBounds i true) (zbQ F o.dst v) H'
    |some _=>False)
   |none=>False))
inductive AExit where
 |normal
 |exit (id:Nat)
 |ret
def AExit.toExit:AExit→Exit
 |.normal=>.normal
 |.exit id=>.exit id
 |.ret=>.ret

def Post(B:Nat)(w:World)(G:Gh)(Q:AExit→List AV→zaa→Prop)(e:Exit)(a':Act)(w':World):Prop:=
 ∃F' H' G' e',e=AExit.toExit e'∧Ext B w G w' G'∧HRel B w' G' H'∧FRel w' G' a'.tmps F'∧a'.defers=[]∧Q e' F' H'

def AWp(P:Program)(c:Code)(Q:AExit→List AV→zaa→Prop)(F:List AV)(H:zaa):Prop:=
 ∀(B:Nat) (w:World) (G:Gh) (a:Act),HRel B w G H→FRel w G a.tmps F→a.defers=[]→c.wp P (Post B w G Q) a w

def ALoop(P:Program)(c:Code)(Q:AExit→List AV→zaa→Prop)(F:List AV)(H:zaa):Prop:=AWp P (.loop c) Q F H

def zfu:List Bool→List AV→List AV
 |true::bs,a::asx=>a::zfu bs asx
 |false::bs,_::asx=>.unk::zfu bs asx
 |[],asx=>asx
 |_,[]=>[]
def zho:Code→Nat
 |.region id _ _=>id
 |.seq a _=>zho a
 |.block _ c=>zho c
 |.loop c=>zho c
 |.scope c=>zho c
 |_=>0

def zeu(d6:Array Oper)(o:Oper):List Nat:=
 (o.op.operands.toList.filterMap λ| .tmp t=>some t | _=>none) ++
  (match o.guard with
  |some (g,_)=>((d6[g]?).bind (·.dst)).toList
  |none=>[])
def zd2(o:Oper)(j:Nat):Bool:=o.after.any λe=>Region.binds .any e && e.on == j
def zqm(d6:Array Oper)(i j:Nat)(oi oj:Oper):Bool:=
 (i == j) || (match oj.dst with
  |some d=>(oi.dst != some d) && (!(zeu d6 oi).contains d || (if j<i then zd2 oi j else zd2 oj i))
  |none=>true)
def zev(d6:Array Oper):Bool:=
 (d6.toList.zipIdx.all λp=>(p.1.after.all λe=>!Region.binds .any e || decide (e.on<p.2)) && d6.toList.zipIdx.all λq=>zqm d6 p.2 q.2 p.1 q.1)
def zg9(ms:List Nat):List Edge→Nat→Nat
 |[],m=>m
 | e::es,m=>zg9 ms es (match Region.binds .any e with
  |true=>m ||| (1 <<< e.on) ||| ms.getD e.on 0
  |false=>m)
def zf6:List Oper→List Nat→List Nat
 |[],ms=>ms
 |o::os,ms=>zf6 os (ms++[zg9 ms o.after.toList 0])
def zdL(wc:WM)(d6:Array Oper):Bool:=
 match d6.toList.any (λo=>opW wc o.op) with
 |false=>true
 |true=>(λms=>d6.toList.zipIdx.all λp=>d6.toList.zipIdx.all λq=>
   !(decide (q.2<p.2)) || !(opW wc p.1.op || opW wc q.1.op) || opF p.1.op || opF q.1.op || okU wc q.1.op p.1.op || Nat.testBit (ms.getD p.2 0) q.2) (zf6 d6.toList [])
def zq1(d6:Array Oper)(m:Nat):Bool:=(λms=>(d6.toList.drop m).all (λo=>(List.range m).all λi=>zd2 o i || (List.range m).any λk=>zd2 o k && Nat.testBit (ms.getD k 0) i)) (zf6 (d6.toList.take m) []) && d6.toList.all λo=>o.guard.isNone
def zdN(d6:Array Oper)(m:Nat):Array Oper:=(d6.toList.take m).toArray
def zgH(m t:Nat):Array Bool:=(List.replicate m true++List.replicate t false).toArray
def noG(d6:Array Oper):Bool:=d6.toList.all λo=>!opA .n o.op && !opN o.op
def zew(d6:Array Oper):Bool:=
 match d6.toList.any (λo=>opV o.op) with
 |false=>true
 |true=>(λa k=>d6.toList.zipIdx.all λp=>(opV p.1.op == (decide (a≤p.2) && decide (p.2<a+k))) && (!opV p.1.op || p.1.guard.isNone)) (d6.toList.findIdx λo=>opV o.op) (d6.toList.countP λo=>opV o.op)
def zyp(next:List AV→zaa→Prop)(Q:AExit→List AV→zaa→Prop):AExit→List AV→zaa→Prop
 |.normal,F,H=>next F H
 |.exit id,F,H=>Q (.exit id) F H
 |.ret,F,H=>Q .ret F H
def zoF(id:Nat)(Q:AExit→List AV→zaa→Prop):AExit→List AV→zaa→Prop
 |.normal,F,H=>Q .normal F H
 | .exit id',F,H=>(match id' == id with
  |true=>Q .normal F H
  |false=>Q (.exit id') F H)
 |.ret,F,H=>Q .ret F H

def zeR:Code→Nat
 |.region id _ _=>id
 |.seq a _=>zeR a
 |.block _ c=>zeR c
 |.loop c=>zeR c
 |.scope c=>zeR c
 |.cond _ a b=>50000+zeR a*1000+zeR b
 |_=>0
def nxt(m:List Bool)(P:Program)(b:Code)(Q:AExit→List AV→zaa→Prop)(now:List AV→zaa→Prop):List AV→zaa→Prop:=
 match m with
 |[]=>now
 |m=>λF H=>AWp P b Q (zfu m F) H
def awp(P:Program)(M:Nat→List Bool):Code→(AExit→List AV→zaa→Prop)→List AV→zaa→Prop
 |.skip,Q,F,H=>Q .normal F H
 |.label _,Q,F,H=>Q .normal F H
 | .region id d6 draw,Q,F,H=>(match draw with
  | false=>(match M (300000+id) with
   |[]=>ze4 P d6 d6.toList (Q .normal) F H
   |_::_=>zif P d6.toList (Q .normal) F H)
  | true=>(match M (400000+id) with
   | _::_=>(match zev d6 && zdL .n d6 && zew d6 && P.follows .mixedOrders && noG d6 with
    |true=>zcO true .n P d6 d6.toList (Q .normal) F H
    |false=>False)
   |[]=>(match M (200000+id) with
   | []=>(match zev d6 && zdL .n d6 && zew d6 && P.follows .mixedOrders with
    |true=>zcO false .n P d6 d6.toList (Q .normal) F H
    |false=>False)
   | [_]=>(match zev d6 && zdL .w d6 && zew d6 && P.follows .mixedOrders with
    |true=>zcO false .w P d6 d6.toList (Q .normal) F H
    |false=>False)
   | [_,_]=>(match zev d6 && zdL .g d6 && zew d6 && P.follows .mixedOrders with
    |true=>zcO false .g P d6 d6.toList (Q .normal) F H
    |false=>False)
   | [_,_,_]=>(match zev d6 && zdL .c d6 && zew d6 && P.follows .mixedOrders with
    |true=>zcO false .c P d6 d6.toList (Q .normal) F H
    |false=>False)
   | _::_::_::_::l=>(match zev (zdN d6 (d6.size-l.length)) && zdL .n (zdN d6 (d6.size-l.length)) && zew (zdN d6 (d6.size-l.length)) && P.follows .mixedOrders && zq1 d6 (d6.size-l.length) && decide (l.length≤d6.size) with
    |true=>zcO false .n P (zdN d6 (d6.size-l.length)) (zdN d6 (d6.size-l.length)).toList (zgC P d6 (Q .normal) l.length (zgH (d6.size-l.length) l.length)) F H
    |false=>False))))
 |.seq a b,Q,F,H=>awp P M a (zyp (nxt (M (100000+zeR b)) P b Q (awp P M b Q)) Q) F H
 |.cond c a b,Q,F,H=>zag (ev F c) (awp P M a Q F H) (awp P M b Q F H)
 |.block id c,Q,F,H=>awp P M c (zoF id Q) F H
 |.scope c,Q,F,H=>awp P M c Q F H
 |.loop c,Q,F,H=>ALoop P c Q (zfu (M (zho c)) F) H
 |.ret,Q,F,H=>Q .ret F H
 |.exit id,Q,F,H=>Q (.exit id) F H
 |_,_,_,_=>False

def zas:List Nat→Code→Code
 |[],c=>c
 |0::p,.seq a _=>zas p a
 |_::p,.seq _ b=>zas p b
 |0::p,.cond _ a _=>zas p a
 |_::p,.cond _ _ b=>zas p b
 |_::p,.block _ c=>zas p c
 |_::p,.scope c=>zas p c
 |_::p,.loop c=>zas p c
 |_,c=>c
def zat(P:Program)(M:Nat→List Bool):List Nat→Code→(AExit→List AV→zaa→Prop)→AExit→List AV→zaa→Prop
 |[],_,Q=>Q
 |0::p,.seq a b,Q=>zat P M p a (zyp (nxt (M (100000+zeR b)) P b Q (awp P M b Q)) Q)
 |_::p,.seq _ b,Q=>zat P M p b Q
 |0::p,.cond _ a _,Q=>zat P M p a Q
 |_::p,.cond _ _ b,Q=>zat P M p b Q
 |_::p,.block id c,Q=>zat P M p c (zoF id Q)
 |_::p,.scope c,Q=>zat P M p c Q
 |_,_,Q=>Q
def zbR(m:List Bool)(Kb:List AV→zaa→Prop)(Q:AExit→List AV→zaa→Prop):AExit→List AV→zaa→Prop
 |.normal,F,H=>Kb (zfu m F) H
 |.exit id,F,H=>Q (.exit id) F H
 |.ret,F,H=>Q .ret F H

end
end Go.Proofs.YtdmamdnkcefmmaaGreatDoor

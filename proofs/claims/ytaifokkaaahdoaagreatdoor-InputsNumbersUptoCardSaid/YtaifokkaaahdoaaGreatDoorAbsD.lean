import Derived.Test.YtaifokkaaahdoaaGreatDoorAbsB
import Derived.Laws.AppendOwnNone
import Derived.Laws.Strings
set_option linter.unusedSimpArgs false
set_option linter.unusedVariables false
set_option linter.unusedSectionVars false
set_option maxRecDepth 8000
namespace Go.Proofs.YtaifokkaaahdoaaGreatDoor
section
open Go.RowKit

def zgW:Value→AV
 |.bool b=>.bool b
 |.int k n=>.int k n
 |.string s=>.str s.data.toList
 |.pointer none=>.nilp
 |.slice none 0 0=>.snil
 |.nilFunc=>.nilfn
 |.nilIface=>.nili
 |_=>.unk
def zc8:Value→AV
 |.agg cs=>.agg (cs.toList.map zgW)
 |v=>zgW v
def zbt:Value→List AV
 |.agg cs=>cs.toList.map zgW
 |v=>[zgW v]

def ev(F:List AV):Operand→AV
 |.tmp t=>F.getD t .unk
 |.const v=>zc8 v
 |.global _=>.unk
 |.func f=>.fn f []

def AV.cs?:AV→Option (List AV)
 |.tup _=>none
 |.unk=>none
 |.agg cs=>some cs
 |a=>some [a]
def AV.pd:AV→Option AV
 |.bool b=>some (.bool b)
 |.int k n=>some (.int k n)
 |.str s=>some (.str s)
 |.snil=>some (.sl [] .none)
 |.sl es _=>some (.sl es .none)
 |_=>none
def plain:List AV→Option (List AV)
 |[]=>some []
 | a::asx=>match a.pd,plain asx with
  |some d,some ds=>some (d::ds)
  |_,_=>none
def AV.known:AV→Bool
 |.unk=>false
 |_=>true
def AV.isB:AV→Bool
 |.fn _ _|.agg _|.tup _=>false
 |_=>true

def aIf(b:Bool)(p q:Prop):Prop:=if b=true then p else q
def zak(c a b:AV)(K:AV→Prop):Prop:=
 match c with
 |.bool t=>K (if t=true then a else b)
 |_=>False
def zay(cs:List AV)(H:zaa)(K:AV→zaa→Prop):Prop:=K (.ptr H.length 0) (H++[.cells cs])
def zaw(x:AV)(H:zaa)(K:AV→zaa→Prop):Prop:=
 match x.cs? with
 |some cs=>K (.ptr H.length 0) (H++[.cells cs])
 |none=>False
def zbr(agg:Bool)(n off:Nat)(cs:List AV)(K:AV→Prop):Prop:=
 match agg with
 |true=>off+n≤cs.length∧K (.agg ((cs.drop off).take n))
 | false=>match cs[off]? with
  |some c=>K c
  |none=>False
def loadAt(a:AV)(H:zaa):Option (List AV×Nat):=
 match a with
 | .ptr id off=>(match H[id]? with
  |some (.cells cs)=>some (cs,off)
  |_=>none)
 |.view cs=>some (cs,0)
 | .vp id m off=>(match H[id]? with
  | some (.vec _ _ m' cs)=>(match m' == m with
   |true=>some (cs,off)
   |false=>none)
  |_=>none)
 |_=>none
def zae(agg:Bool)(n:Nat)(a:AV)(H:zaa)(K:AV→Prop):Prop:=
 match loadAt a H with
 |some p=>zbr agg n p.2 p.1 K
 |none=>False
theorem zgJ(agg:Bool)(n:Nat)(a:AV)(H:zaa)(K:AV→Prop):zae agg n a H K=(match a with
  | .ptr id off=>match H[id]? with
   |some (.cells cs)=>zbr agg n off cs K
   |_=>False
  |.view cs=>zbr agg n 0 cs K
  | .vp id m off=>match H[id]? with
   |some (.vec _ _ m' cs)=>m'=m∧zbr agg n off cs K
   |_=>False
  |_=>False):=by
 cases a with
 |ptr id off=>
  simp only[zae,loadAt];cases h:H[id]? with
  |none=>rfl
  |some b=>cases b <;> rfl
 |vp id m off=>
  simp only[zae,loadAt];cases h:H[id]? with
  |none=>rfl
  |some b=>
   cases b with
   |vec e s m' cs=>
    simp only[];by_cases hm:m'=m
    ·subst hm;simp
    ·have:(m' == m)=false:=by simpa using hm
     simp[this,hm]
   |_=>rfl
 |_=>rfl
def zan(agg:Bool)(n:Nat)(a:AV)(H:zaa)(K:AV→Prop):Prop:=
 match a with
 |.vp _ _ _=>False
 |a=>zae agg n a H K
def zzt(n:Nat)(a x:AV)(H:zaa):Option zaa:=
 match x.cs? with
 | some xs=>(match xs.length == n && xs.all AV.known with
  | true=>(match a with
   | .ptr id off=>(match H[id]? with
    | some (.cells cs)=>(match decide (off+n≤cs.length) with
     |true=>some (H.set id (.cells (cs.take off++xs++cs.drop (off+n))))
     |false=>none)
    |_=>none)
   | .vp id m off=>(match H[id]? with
    | some (.vec e s m' cs)=>(match m' == m && decide (off+n≤cs.length) with
     |true=>some (H.set id (.vec e s m' (cs.take off++xs++cs.drop (off+n))))
     |false=>none)
    |_=>none)
   |_=>none)
  |false=>none)
 |none=>none
def zam(n:Nat)(a x:AV)(H:zaa)(K:zaa→Prop):Prop:=
 match zzt n a x H with
 |some H'=>K H'
 |none=>False
theorem ze8(n:Nat)(a x:AV)(H:zaa)(K:zaa→Prop):zam n a x H K=(match a,x.cs? with
  | .ptr id off,some xs=>match H[id]? with
   |some (.cells cs)=>(xs.length=n∧off+n≤cs.length∧xs.all AV.known=true)∧K (H.set id (.cells (cs.take off++xs++cs.drop (off+n))))
   |_=>False
  | .vp id m off,some xs=>match H[id]? with
   |some (.vec e s m' cs)=>(m'=m∧xs.length=n∧off+n≤cs.length∧xs.all AV.known=true)∧K (H.set id (.vec e s m' (cs.take off++xs++cs.drop (off+n))))
   |_=>False
  |_,_=>False):=by
 unfold zam zzt;cases hx:x.cs? with
 |none=>cases a <;> rfl
 |some xs=>
  simp only[];cases hk:(xs.length == n && xs.all AV.known) with
  |false=>
   have hn:¬(xs.length=n∧xs.all AV.known=true):=by intro h;rw[h.2,h.1]at hk;simp at hk
   cases a with
   |ptr id off=>
    simp only[];cases h:H[id]? with
    |none=>rfl
    |some b=>
     cases b with
     |cells cs=>simp only[];exact propext ⟨λh=>h.elim,λh=>(hn ⟨h.1.1,h.1.2.2⟩).elim⟩
     |_=>rfl
   |vp id m off=>
    simp only[];cases h:H[id]? with
    |none=>rfl
    |some b=>
     cases b with
     |vec e s m' cs=>simp only[];exact propext ⟨λh=>h.elim,λh=>(hn ⟨h.1.2.1,h.1.2.2.2⟩).elim⟩
     |_=>rfl
   |_=>rfl
  |true=>
   have hn:xs.length=n∧xs.all AV.known=true:=by rw[ac,aY]at hk;exact hk
   cases a with
   |ptr id off=>
    simp only[];cases h:H[id]? with
    |none=>rfl
    |some b=>
     cases b with
     |cells cs=>
      simp only[];by_cases hf:off+n≤cs.length
      ·rw[bf hf];exact propext ⟨λh=>⟨⟨hn.1,hf,hn.2⟩,h⟩,λh=>h.2⟩
      ·rw[bi hf];exact propext ⟨λh=>h.elim,λh=>(hf h.1.2.1).elim⟩
     |_=>rfl
   |vp id m off=>
    simp only[];cases h:H[id]? with
    |none=>rfl
    |some b=>
     cases b with
     |vec e s m' cs=>
      simp only[];by_cases hm:m'=m
      ·subst hm;by_cases hf:off+n≤cs.length
       ·rw[bf hf,dh,bW];exact propext ⟨λh=>⟨⟨rfl,hn.1,hf,hn.2⟩,h⟩,λh=>h.2⟩
       ·rw[bi hf,bn];exact propext ⟨λh=>h.elim,λh=>(hf h.1.2.2.1).elim⟩
      ·have:(m' == m)=false:=by simpa using hm
       rw[this,aL];exact propext ⟨λh=>h.elim,λh=>(hm h.1.1).elim⟩
     |_=>rfl
   |_=>rfl
def zwY(off:Nat)(a:AV):Option AV:=
 match a with
 |.ptr id o=>some (.ptr id (o+off))
 | .view cs=>(match decide (off≤cs.length) with
  |true=>some (.view (cs.drop off))
  |false=>none)
 |.vp id n o=>some (.vp id n (o+off))
 |_=>none
def zaf(off:Nat)(a:AV)(K:AV→Prop):Prop:=
 match zwY off a with
 |some v=>K v
 |none=>False
theorem zvU(off:Nat)(a:AV)(K:AV→Prop):zaf off a K=(match a with
  |.ptr id o=>K (.ptr id (o+off))
  |.view cs=>off≤cs.length∧K (.view (cs.drop off))
  |.vp id n o=>K (.vp id n (o+off))
  |_=>False):=by
 cases a with
 |view cs=>
  simp only[zaf,zwY];by_cases h:off≤cs.length
  ·simp[h]
  ·simp[h]
 |_=>rfl
def zd0(agg:Bool)(n off:Nat)(a:AV)(K:AV→Prop):Prop:=
 match a with
 |.agg cs=>zbr agg n off cs K
 |_=>False
def zj0(esz:Nat)(x i:AV):Option AV:=
 match i with
 | .int _ n=>(match x with
  | .sl es _=>(match decide (0≤n) && decide (n<es.length) && (es.getD n.toNat []).length == esz with
   |true=>some (.view (es.getD n.toNat []))
   |false=>none)
  | .ms id off len _=>(match decide (0≤n) && decide (n<len) with
   |true=>some (.ptr id (off+n.toNat*esz))
   |false=>none)
  | .ov id m=>(match decide (0≤n) && decide (n<m) with
   |true=>some (.vp id m (n.toNat*esz))
   |false=>none)
  |_=>none)
 |_=>none
def zai(esz:Nat)(x i:AV)(K:AV→Prop):Prop:=
 match zj0 esz x i with
 |some v=>K v
 |none=>False
theorem zeA(esz:Nat)(x i:AV)(K:AV→Prop):zai esz x i K=(match x,i with
  |.sl es _,.int _ n=>(0≤n∧n<es.length)∧((es.getD n.toNat []).length=esz∧K (.view (es.getD n.toNat [])))
  |.ms id off len _,.int _ n=>(0≤n∧n<len)∧K (.ptr id (off+n.toNat*esz))
  |.ov id m,.int _ n=>(0≤n∧n<m)∧K (.vp id m (n.toNat*esz))
  |_,_=>False):=by
 cases i with
 |int k n=>
  cases x with
  |sl es tok=>
   simp only[zai,zj0];by_cases h1:0≤n
   ·by_cases h2:n<es.length
    ·by_cases h3:(es.getD n.toNat []).length=esz
     ·simp only[bf h1,bf h2,aY.2 h3,dA];exact propext ⟨λh=>⟨⟨h1,h2⟩,h3,h⟩,λh=>h.2.2⟩
     ·simp only[beq_eq_false_iff_ne.2 h3,bn];exact propext ⟨λh=>h.elim,λh=>(h3 h.2.1).elim⟩
    ·simp only[bi h2,bn,aL];exact propext ⟨λh=>h.elim,λh=>(h2 h.1.2).elim⟩
   ·simp only[bi h1,aL];exact propext ⟨λh=>h.elim,λh=>(h1 h.1.1).elim⟩
  |ms id off len cap=>
   simp only[zai,zj0];by_cases h1:0≤n
   ·by_cases h2:n<len
    ·simp only[bf h1,bf h2,dA];exact propext ⟨λh=>⟨⟨h1,h2⟩,h⟩,λh=>h.2⟩
    ·simp only[bi h2,bn];exact propext ⟨λh=>h.elim,λh=>(h2 h.1.2).elim⟩
   ·simp only[bi h1,aL];exact propext ⟨λh=>h.elim,λh=>(h1 h.1.1).elim⟩
  |ov id m=>
   simp only[zai,zj0];by_cases h1:0≤n
   ·by_cases h2:n<m
    ·simp only[bf h1,bf h2,dA];exact propext ⟨λh=>⟨⟨h1,h2⟩,h⟩,λh=>h.2⟩
    ·simp only[bi h2,bn];exact propext ⟨λh=>h.elim,λh=>(h2 h.1.2).elim⟩
   ·simp only[bi h1,aL];exact propext ⟨λh=>h.elim,λh=>(h1 h.1.1).elim⟩
  |_=>rfl
 |_=>cases x <;> rfl
def zbC(x i:AV)(K:AV→Prop):Prop:=
 match x,i with
 |.str s,.int _ n=>(0≤n∧n<s.length)∧K (.int .u8 (s.getD n.toNat 0).toNat)
 |_,_=>False
def lenOf(u:Nat)(x:AV):Option Int:=
 match u with
 | 0=>(match x with
  |.str s=>some s.length
  |_=>none)
 | 1=>(match x with
  |.sl es _=>some es.length
  |.snil=>some 0
  |.ms _ _ len _=>some len
  |.ov _ n=>some n
  |_=>none)
 |_=>none
def zah(u:Nat)(x:AV)(K:AV→Prop):Prop:=
 match lenOf u x with
 |some n=>K (.int .i64 n)
 |none=>False
theorem zFw(u:Nat)(x:AV)(K:AV→Prop):zah u x K=(match u,x with
  |0,.str s=>K (.int .i64 s.length)
  |1,.sl es _=>K (.int .i64 es.length)
  |1,.snil=>K (.int .i64 0)
  |1,.ms _ _ len _=>K (.int .i64 len)
  |1,.ov _ n=>K (.int .i64 n)
  |_,_=>False):=by
 unfold zah lenOf
 match u with
 |0=>cases x <;> rfl
 |1=>cases x <;> rfl
 |_+2=>cases x <;> rfl
def zbA(x:Option AV)(d:Nat)(K:Nat→Prop):Prop:=
 match x with
 |none=>K d
 |some (.int _ n)=>0≤n∧K n.toNat
 |_=>False
def za1(u esz:Nat)(x:AV)(lo hi:Option AV)(K:AV→Prop):Prop:=
 match u,x with
 |0,.str s=>zbA hi s.length λh=>zbA lo 0 λl=>(l≤h∧h≤s.length)∧K (.str ((s.take h).drop l))
 |1,.sl es _=>zbA hi es.length λh=>zbA lo 0 λl=>(l≤h∧h≤es.length∧∀c∈es,c.length=esz)∧K (.sl ((es.take h).drop l) .none)
 |1,.snil=>zbA hi 0 λh=>zbA lo 0 λl=>(l≤h∧h≤0)∧K .snil
 |1,.ov id n=>zbA hi n λh=>zbA lo 0 λl=>(l≤h∧h=n)∧K (.os id n l esz)
 |1,.ms id off len cap=>zbA hi len λh=>zbA lo 0 λl=>(l≤h∧h≤cap)∧K (.ms id (if cap=l then off else off+l*esz) (h-l) (cap-l))
 |_,_=>False
def zjE(op:BinOp)(b:Bool)(x y:AV):Option AV:=
 match x with
 | .int k m=>(match y with
  | .int k' n=>(match decide (k=k') with
   | true=>(match op with
    |.add=>some (.int k (k.wrap (m+n)))
    |.sub=>some (.int k (k.wrap (m-n)))
    |.mul=>some (.int k (k.wrap (m*n)))
    | .quo=>(match n == 0 with
     |true=>none
     |false=>some (.int k (k.wrap (m.tdiv n))))
    | .rem=>(match n == 0 with
     |true=>none
     |false=>some (.int k (m.tmod n)))
    |.eql=>some (.bool (m == n))
    |.neq=>some (.bool (m != n))
    |.lss=>some (.bool (decide (m<n)))
    |.leq=>some (.bool (decide (m≤n)))
    |.gtr=>some (.bool (decide (m>n)))
    |.geq=>some (.bool (decide (m≥n)))
    |_=>none)
   |false=>none)
  |_=>none)
 | .str s=>(match y with
  | .str t=>(match op with
   | .add=>(match decide (s.length+t.length≤9223372036854775807) with
    |true=>some (.str (s++t))
    |false=>none)
   |.eql=>some (.bool (s == t))
   |.neq=>some (.bool (!(s == t)))
   |.lss=>some (.bool (Op.bytesLess s t))
   |.leq=>some (.bool (Op.bytesLess s t || s == t))
   |.gtr=>some (.bool (!(Op.bytesLess s t || s == t)))
   |.geq=>some (.bool (!Op.bytesLess s t))
   |_=>none)
  |_=>none)
 | .bool m=>(match y with
  | .bool n=>(match b with
   | true=>(match op with
    |.eql=>some (.bool (m == n))
    |.neq=>some (.bool (!(m == n)))
    |_=>none)
   |false=>none)
  |_=>none)
 |_=>none
def zab(op:BinOp)(b:Bool)(x y:AV)(K:AV→Prop):Prop:=
 match zjE op b x y with
 |some v=>K v
 |none=>False
theorem zch(op:BinOp)(b:Bool)(x y:AV)(K:AV→Prop):zab op b x y K=(match x,y with
  | .int k m,.int k' n=>k=k'∧(match op with
   |.add=>K (.int k (k.wrap (m+n)))
   |.sub=>K (.int k (k.wrap (m-n)))
   |.mul=>K (.int k (k.wrap (m*n)))
   |.quo=>n≠0∧K (.int k (k.wrap (m.tdiv n)))
   |.rem=>n≠0∧K (.int k (m.tmod n))
   |.eql=>K (.bool (m == n))
   |.neq=>K (.bool (m != n))
   |.lss=>K (.bool (decide (m<n)))
   |.leq=>K (.bool (decide (m≤n)))
   |.gtr=>K (.bool (decide (m>n)))
   |.geq=>K (.bool (decide (m≥n)))
   |_=>False)
  | .str s,.str t=>(match op with
   |.add=>s.length+t.length≤9223372036854775807∧K (.str (s++t))
   |.eql=>K (.bool (s == t))
   |.neq=>K (.bool (!(s == t)))
   |.lss=>K (.bool (Op.bytesLess s t))
   |.leq=>K (.bool (Op.bytesLess s t || s == t))
   |.gtr=>K (.bool (!(Op.bytesLess s t || s == t)))
   |.geq=>K (.bool (!Op.bytesLess s t))
   |_=>False)
  | .bool m,.bool n=>b=true∧(match op with
   |.eql=>K (.bool (m == n))
   |.neq=>K (.bool (!(m == n)))
   |_=>False)
  |_,_=>False):=by
 cases x with
 |int k m=>
  cases y with
  |int k' n=>
   simp only[zab,zjE];by_cases hk:k=k'
   ·subst hk;simp only[dc,cU];cases op with
    |quo=>
     by_cases h0:n=0
     ·subst h0;simp
     ·have:(n == 0)=false:=by simpa using h0
      simp[this,h0]
    |rem=>
     by_cases h0:n=0
     ·subst h0;simp
     ·have:(n == 0)=false:=by simpa using h0
      simp[this,h0]
    |_=>rfl
   ·simp only[bi hk];exact propext ⟨λh=>h.elim,λh=>(hk h.1).elim⟩
  |_=>rfl
 |str s=>
  cases y with
  |str t=>
   simp only[zab,zjE];cases op with
   |add=>
    simp only[];by_cases h:s.length+t.length≤9223372036854775807
    ·simp only[bf h];exact propext ⟨λh2=>⟨h,h2⟩,λh=>h.2⟩
    ·simp only[bi h];exact propext ⟨λh=>h.elim,λh2=>(h h2.1).elim⟩
   |_=>rfl
  |_=>rfl
 |bool m=>
  cases y with
  |bool n=>
   simp only[zab,zjE];cases b with
   |true=>cases op <;> exact propext ⟨λh=>⟨rfl,h⟩,λh=>h.2⟩
   |false=>exact propext ⟨λh=>h.elim,λh=>by cases h.1⟩
  |_=>rfl
 |_=>cases y <;> rfl
def zcS(ok:Bool)(op:BinOp)(x:AV)(K:AV→Prop):Prop:=
 ok=true∧(match x with
  | .nili=>(match op with
   |.eql=>K (.bool true)
   |.neq=>K (.bool false)
   |_=>False)
  | .ifc=>(match op with
   |.eql=>K (.bool false)
   |.neq=>K (.bool true)
   |_=>False)
  |_=>False)
def zpP:Operand→Bool
 |.const .nilIface=>true
 |_=>false
def aUn(op:UnOp)(x:AV)(K:AV→Prop):Prop:=
 match op,x with
 |.not,.bool b=>K (.bool (!b))
 |.neg,.int k n=>K (.int k (k.wrap (0-n)))
 |_,_=>False
def zbg(k:IntKind)(x:AV)(K:AV→Prop):Prop:=
 match x with
 |.int _ n=>K (.int k (k.wrap n))
 |_=>False
def zdZ(x:AV)(K:AV→Prop):Prop:=
 match x with
 |.str s=>K (.str s)
 |_=>False
def zhY:List (List AV)→Option (List UInt8)
 |[]=>some []
 | [.int .u8 n]::es=>(match zhY es with
  |some s=>some (UInt8.ofNat n.toNat::s)
  |none=>none)
 |_=>none
def zfP(x:AV)(K:AV→Prop):Prop:=
 match x with
 | .sl es _=>(match zhY es with
  |some s=>K (.str s)
  |none=>False)
 |.snil=>K (.str [])
 |_=>False
def zaI(x:AV)(i:Nat)(K:AV→Prop):Prop:=
 match x with
 | .tup vs=>(match vs[i]? with
  |some v=>K v
  |none=>False)
 |_=>False
def zci(f:Nat)(caps:List AV)(K:AV→Prop):Prop:=caps.all AV.isB=true∧K (.fn f caps)
def zye(x:AV):Option AV:=
 match x with
 |.ptr _ _|.view _|.fn _ _|.vp _ _ _=>some x
 |_=>none
def zaM(x:AV)(K:AV→Prop):Prop:=
 match zye x with
 |some v=>K v
 |none=>False
theorem zFA(x:AV)(K:AV→Prop):zaM x K=(match x with
  |.ptr _ _|.view _|.fn _ _|.vp _ _ _=>K x
  |_=>False):=by
 unfold zaM zye;cases x <;> rfl
def zaL(places:List (Nat × Nat)):List (Nat × AV)→List AV→Option (List AV)
 |[],cs=>some cs
 | (i,x)::rest,cs=>match places[i]?,x.cs? with
  | some (off,size),some xs=>match xs.length == size && decide (off+size≤cs.length) with
   |true=>zaL places rest (cs.take off++xs++cs.drop (off+size))
   |false=>none
  |_,_=>none
def zar(zero:List AV)(places:List (Nat×Nat))(parts:List (Nat×AV))(K:AV→Prop):Prop:=
 match zaL places parts zero with
 |some cs=>K (.agg cs)
 |none=>False
def za4(esz:Nat):List (Nat × AV)→List (List AV)→Option (List (List AV))
 |[],es=>some es
 | (i,x)::rest,es=>match x.cs? with
  | some xs=>match plain xs with
   | some ds=>match ds.length == esz && decide (i<es.length) with
    |true=>za4 esz rest (es.set i ds)
    |false=>none
   |none=>none
  |none=>none
def zau(esz:Nat)(zero:List AV)(len:Nat)(parts:List (Nat×AV))(K:AV→Prop):Prop:=
 match plain zero with
 | some z=>(match za4 esz parts (List.replicate len z) with
  |some es=>K (.sl es .full)
  |none=>False)
 |none=>False
def za9(bytes:Nat)(zero:List AV)(len cap:AV)(H:zaa)(K:AV→zaa→Prop):Prop:=
 match len,cap with
 | .int .i64 l,.int .i64 c=>(0≤l∧l≤c∧c*bytes≤140737488355328∧c≤9223372036854775807) ∧
   K (.ms H.length 0 l.toNat c.toNat) (H++[.cells (List.replicate c.toNat zero).flatten])
 |_,_=>False
def zbZ:List (List UInt8 × AV)→List UInt8→Option AV
 |[],_=>none
 | p::l,s=>match p.1 == s with
  |true=>some p.2
  |false=>zbZ l s
def zcX:List (List UInt8 × AV)→List UInt8→AV→List (List UInt8 × AV)
 |[],s,x=>[(s,x)]
 | p::l,s,x=>match p.1 == s with
  |true=>(s,x)::l
  |false=>p::zcX l s x
def zd1(H:zaa)(K:AV→zaa→Prop):Prop:=K (.map H.length) (H++[.map []])
def zdC(zero:AV)(ok:Bool)(m k:AV)(H:zaa)(K:AV→Prop):Prop:=
 match m,k with
 | .map id,.str s=>match H[id]? with
  | some (.map kvs)=>K (match ok with
   |true=>.tup [(zbZ kvs s).getD zero,.bool (zbZ kvs s).isSome]
   |false=>(zbZ kvs s).getD zero)
  |_=>False
 |_,_=>False
def zcR(m k x:AV)(H:zaa)(K:zaa→Prop):Prop:=
 match m,k with
 | .map id,.str s=>match H[id]? with
  | some (.map kvs)=>(match x with
   |.tup _=>False
   |x=>K (H.set id (.map (zcX kvs s x))))
  |_=>False
 |_,_=>False
def zcd:List ((Int × Int) × AV)→Int × Int→Option AV
 |[],_=>none
 | p::l,s=>match p.1 == s with
  |true=>some p.2
  |false=>zcd l s
def zcK:List ((Int × Int) × AV)→Int × Int→AV→List ((Int × Int) × AV)
 |[],s,x=>[(s,x)]
 | p::l,s,x=>match p.1 == s with
  |true=>(s,x)::l
  |false=>p::zcK l s x
def zeE(H:zaa)(K:AV→zaa→Prop):Prop:=K (.map H.length) (H++[.mapP []])
def zeC(zero:AV)(ok:Bool)(m k:AV)(H:zaa)(K:AV→Prop):Prop:=
 match m,k with
 | .map id,.agg [.int .i64 a,.int .i64 b]=>match H[id]? with
  | some (.mapP kvs)=>K (match ok with
   |true=>.tup [(zcd kvs (a,b)).getD zero,.bool (zcd kvs (a,b)).isSome]
   |false=>(zcd kvs (a,b)).getD zero)
  |_=>False
 |_,_=>False
def zdo(m k x:AV)(H:zaa)(K:zaa→Prop):Prop:=
 match m,k with
 | .map id,.agg [.int .i64 a,.int .i64 b]=>match H[id]? with
  | some (.mapP kvs)=>(match x with
   |.tup _=>False
   |x=>K (H.set id (.mapP (zcK kvs (a,b) x))))
  |_=>False
 |_,_=>False
def za6(y:AV)(K:List (List AV)→Prop):Prop:=
 match y with
 |.sl ys _=>K ys
 |.snil=>K []
 |_=>False
def zaZ(e size bytes:Nat)(x:AV)(ys:List (List AV))(H:zaa)(K:AV→zaa→Prop):Prop:=
 match x with
 |.snil=>(ys.length*bytes≤140737488355328∧ys.length≤9223372036854775807)∧K (.sl ys (.own H.length)) (H++[.perm e size ys.length])
 | .sl es (.own id)=>H[id]?=some (.perm e size es.length)∧((es.length+ys.length)*bytes≤140737488355328∧es.length+ys.length≤9223372036854775807) ∧
   K (.sl (es++ys) (.own id)) (H.set id (.perm e size (es.length+ys.length)))
 | .ov id n=>(match H[id]? with
  |some (.vec e' s' n' cs)=>((e'=e∧s'=size∧n'=n)∧(n+ys.length)*bytes≤140737488355328∧n+ys.length≤9223372036854775807)∧K (.ov id (n+ys.length)) (H.set id (.vec e size (n+ys.length) (cs++ys.flatten)))
  |_=>False)
 | .sl es .full=>(match ys with
  |[]=>K (.sl es .full) H
  |y::ys=>(0<(y::ys).length∧(∀c∈es,c.length=size)∧(es.length+(y::ys).length)*bytes≤140737488355328∧es.length+(y::ys).length≤9223372036854775807)∧K (.sl (es++y::ys) (.own H.length)) (H++[.perm e size (es.length+(y::ys).length)]))
 |_=>False
def zdY(e size bytes:Nat)(x:AV)(m:Nat)(ds:List AV)(H:zaa)(K:AV→zaa→Prop):Prop:=
 match x with
 | .ov id n=>(match H[id]? with
  |some (.vec e' s' n' cs)=>((e'=e∧s'=size∧n'=n)∧ds.all AV.known=true∧ds.length=m*size∧(n+m)*bytes≤140737488355328∧n+m≤9223372036854775807)∧K (.ov id (n+m)) (H.set id (.vec e size (n+m) (cs++ds)))
  |_=>False)
 | .sl [] .full=>(match m with
  |0=>K (.sl [] .none) H
  |m'+1=>(ds.all AV.known=true∧ds.length=(m'+1)*size∧(m'+1)*bytes≤140737488355328∧m'+1≤9223372036854775807)∧K (.ov H.length (m'+1)) (H++[.vec e size (m'+1) ds]))
 | .snil=>(match m with
  |0=>False
  |m'+1=>(ds.all AV.known=true∧ds.length=(m'+1)*size∧(m'+1)*bytes≤140737488355328∧m'+1≤9223372036854775807)∧K (.ov H.length (m'+1)) (H++[.vec e size (m'+1) ds]))
 |_=>False
def zax(e size bytes:Nat)(x y:AV)(H:zaa)(K:AV→zaa→Prop):Prop:=
 match y with
 | .ms id off len _=>(match H[id]? with
  |some (.cells cs)=>off+len*size≤cs.length∧zdY e size bytes x len ((cs.drop off).take (len*size)) H K
  |_=>False)
 | .ov id n=>(match H[id]? with
  |some (.vec _ s' n' cs)=>(s'=size∧n'=n)∧zdY e size bytes x n cs H K
  |_=>False)
 |y=>za6 y λys=>(∀c∈ys,c.length=size)∧zaZ e size bytes x ys H K

def ACalls(P:Program)(f:FuncId)(args:List AV)(H:zaa)(K:AV→zaa→Prop):Prop:=
 ∀ (B:Nat) (w:World) (G:Gh) (vs:Array Value),HRel B w G H→All2 (TRel w G) vs.toList args →
  Calls P f vs w λe w'=>∃v r H' G',e=.returned v∧Ext B w G w' G'∧HRel B w' G' H'∧TRel w' G' v r∧K r H'

def zaQ(P:Program)(t:TypeId):Option Nat:=(P.info? t).map (·.size)
def zcO(P:Program)(t:TypeId):Option Nat:=(P.info? t).map (·.bytes)
def zbq(P:Program)(t:TypeId):Option Value:=(P.info? t).bind (·.zero)
def zeo(P:Program)(t:TypeId):Option Bool:=(P.underlying t).map λ| .struct _|.array _ _=>true|_=>false
def zdx(P:Program)(t:TypeId):Option Nat:=(P.underlying t).bind λ| .string=>some 0|.slice _=>some 1|_=>none
def zbe(P:Program)(t:TypeId):Option TypeId:=(P.underlying t).bind λ| .slice e=>some e|_=>none
def zrC(P:Program)(t:TypeId):Bool:=match P.underlying t with|some (.interface _)=>true|_=>false
def zJ8(P:Program)(t:TypeId):Bool:=match P.underlying t with
 | some (.struct fs)=>(match fs.toList with
  | [f0,_]=>(match P.underlying f0.type with
   |some (.pointer e)=>e == t
   |_=>false)
  |_=>false)
 |_=>false
def tU8(P:Program)(t:TypeId):Bool:=match P.underlying t with|some (.int .u8)=>true|_=>false
inductive CvK where
 |ints (k:IntKind)
 |strs
 |bytes
def cvK(P:Program)(s t:TypeId):Option CvK:=
 match P.underlying s with
 | some (.int _)=>(match P.underlying t with
  |some (.int k)=>some (.ints k)
  |_=>none)
 | some .string=>(match P.underlying t with
  |some .string=>some .strs
  |_=>none)
 | some (.slice e)=>(match P.underlying t with
  | some .string=>(match tU8 P e with
   |true=>some .bytes
   |false=>none)
  |_=>none)
 |_=>none
def zrB(P:Program)(t:TypeId):Bool:=match P.underlying t with|some .bool=>true|_=>false
def zhw(P:Program)(t:TypeId)(i:Nat):Option Field:=(P.underlying t).bind λ| .struct fs=>fs[i]?|_=>none
def zrD(P:Program)(t:TypeId):Option (List (Nat × Nat)):=(P.underlying t).bind fun
 |.struct fs=>fs.toList.mapM λf=>(zaQ P f.type).map λs=>(f.offset,s)
 |.array n e=>(zaQ P e).map λs=>(List.range n).map λi=>(i*s,s)
 |_=>none
def zle(P:Program)(t:TypeId):Option (Nat×TypeId):=(P.underlying t).bind λ| .array n e=>some (n,e)|_=>none
def zfV(n:Nat):AV→AV
 |.ptr id off=>.ms id off n n
 |_=>.unk
def zeT(P:Program)(t:TypeId):Option TypeId:=(P.underlying t).bind fun
 | .map k e=>(match P.underlying k with
  | some (.array 2 i)=>(match P.underlying i,zaQ P i with
   |some (.int .i64),some 1=>some e
   |_,_=>none)
  |_=>none)
 |_=>none
def zeU(P:Program)(t:TypeId):Option TypeId:=(P.underlying t).bind fun
 | .map k e=>(match P.underlying k with
  |some .string=>some e
  |_=>none)
 |_=>none
def zdE(P:Program)(f:FuncId):Bool:=
 match P.funcs[f]? with
 | some fn => !(fn.name == "runtime.NumGoroutine") && fn.body.isSome
 |none=>false

def aCallV(P:Program)(g:AV)(args:List AV)(H:zaa)(K:AV→zaa→Prop):Prop:=
 match g with
 | .fn f caps=>(match zdE P f with
  |true=>ACalls P f (args++caps) H K
  |false=>False)
 |_=>False

def zhT(x y:AV)(K:AV→Prop):Prop:=
 match x,y with
 |.int k m,.int _ n=>K (.int k (if n>m then n else m))
 |_,_=>False
def zgL(x y:AV)(K:AV→Prop):Prop:=
 match x,y with
 |.int k m,.int _ n=>K (.int k (if n<m then n else m))
 |_,_=>False
def zcC(cs:List AV)(off:Nat)(ds:List AV):List AV:=cs.take off++ds++cs.drop (off+ds.length)
def zez(size:Nat)(x y:AV)(H:zaa)(K:AV→zaa→Prop):Prop:=
 match x,y with
 | .os id n lo z,.os id' n' lo' z'=>(match H[id]? with
  | some (.vec e s m cs)=>(((id'=id∧n'=n∧m=n)∧z=size∧z'=size∧s=size)∧cs.all AV.known=true) ∧
    K (.int .i64 ((min (n-lo') (n-lo):Nat):Int)) (H.set id (.vec e s m (zcC cs (lo*size) ((cs.drop (lo'*size)).take (min (n-lo') (n-lo)*size)))))
  |_=>False)
 | .ms id off len _,.sl es _=>(match H[id]? with
  | some (.cells cs)=>((off+min es.length len*size≤cs.length∧∀ c∈es,c.length=size)∧es.flatten.all AV.known=true) ∧
    K (.int .i64 ((min es.length len:Nat):Int)) (H.set id (.cells (zcC cs off (es.flatten.take (min es.length len*size)))))
  |_=>False)
 |_,_=>False
def ze6(P:Program)(b:Builtin)(c:Call)(F:List AV)(H:zaa)(K:AV→zaa→Prop):Prop:=
 match b with
 | .len=>(match c.args.toList,c.argTypes.toList with
  | [x],[t]=>(match zdx P t with
   |some u=>zah u (ev F x) (K · H)
   |none=>False)
  |_,_=>False)
 | .append=>(match c.args.toList,c.argTypes.toList with
  | [x,y],[t,t']=>(match zbe P t,(zbe P t).bind (zaQ P),(zbe P t).bind (zcO P),(zbe P t).bind (zbq P),t == t' with
   | some e,some size,some bytes,some z,true=>(match decide (0<size) && (zbt z).length == size with
    |true=>zax e size bytes (ev F x) (ev F y) H K
    |false=>False)
   |_,_,_,_,_=>False)
  |_,_=>False)
 | .max=>(match c.args.toList with
  |[x,y]=>zhT (ev F x) (ev F y) (K · H)
  |_=>False)
 | .min=>(match c.args.toList with
  |[x,y]=>zgL (ev F x) (ev F y) (K · H)
  |_=>False)
 | .copy=>(match c.args.toList,c.argTypes.toList with
  | [x,y],[t,_]=>(match (zbe P t).bind (zaQ P) with
   |some size=>zez size (ev F x) (ev F y) H K
   |none=>False)
  |_,_=>False)
 |_=>False

def zfa(P:Program)(op:Op)(F:List AV)(H:zaa)(K:AV→zaa→Prop):Prop:=
 match op with
 | .makeMap t r=>(match r,zeU P t,zeT P t with
  |none,some _,_=>zd1 H K
  |none,none,some _=>zeE H K
  |_,_,_=>False)
 | .lookup t x i ok=>(match (zeU P t).bind (zbq P),(zeT P t).bind (zbq P) with
  |some z,_=>zdC (zc8 z) ok (ev F x) (ev F i) H (K · H)
  |none,some z=>zeC (zc8 z) ok (ev F x) (ev F i) H (K · H)
  |none,none=>False)
 | .mapUpdate t m k x=>(match zeU P t,zeT P t with
  |some _,_=>zcR (ev F m) (ev F k) (ev F x) H (K (.tup []))
  |none,some _=>zdo (ev F m) (ev F k) (ev F x) H (K (.tup []))
  |none,none=>False)
 | .insert t m k x=>(match zeU P t,zeT P t with
  |some _,_=>zcR (ev F m) (ev F k) (ev F x) H (K (.tup []))
  |none,some _=>zdo (ev F m) (ev F k) (ev F x) H (K (.tup []))
  |none,none=>False)
 |_=>False

def zdq(P:Program)(o:Oper)(F:List AV)(H:zaa)(K:AV→zaa→Prop):Prop:=
 match o.op with
 |.move x|.assign x=>K (ev F x) H
 |.pick c a b=>zak (ev F c) (ev F a) (ev F b) (K · H)
 | .alloc t=>(match zbq P t with
  |some z=>zay (zbt z) H K
  |none=>False)
 |.box _ x=>zaw (ev F x) H K
 | .build t parts=>(match zbq P t,zrD P t with
  |some z,some ps=>zar (zbt z) ps (parts.toList.map λp=>(p.1,ev F p.2)) (K · H)
  |_,_=>False)
 | .buildSlice t len parts=>(match (zbe P t).bind (zaQ P),(zbe P t).bind (zbq P) with
  | some size,some z=>(match decide (0<size) && decide (len*size≤16777216) && (zbt z).length == size with
   |true=>zau size (zbt z) len (parts.toList.map λp=>(p.1,ev F p.2)) (K · H)
   |false=>False)
  |_,_=>False)
 | .load t a=>(match zeo P t,zaQ P t with
  |some g,some n=>zae g n (ev F a) H (K · H)
  |_,_=>False)
 | .store t a x=>(match zaQ P t with
  |some n=>zam n (ev F a) (ev F x) H (K (.tup []))
  |none=>False)
 |.nilCheck x=>zaM (ev F x) (K · H)
 | .binOp op t x y _=>(match zpP y with
  |true=>zcS (zrC P t) op (ev F x) (K · H)
  |false=>zab op (zrB P t) (ev F x) (ev F y) (K · H))
 |.unOp op _ x=>aUn op (ev F x) (K · H)
 | .convert s t x=>(match cvK P s t with
  |some (.ints k)=>zbg k (ev F x) (K · H)
  |some .strs=>zdZ (ev F x) (K · H)
  |some .bytes=>zfP (ev F x) (K · H)
  |none=>False)
 | .makeFunc (.func f) first caps=>(match first.toList with
  |[]=>zci f (caps.toList.map (ev F)) (K · H)
  |_=>False)
 | .makeSlice t l c=>(match (zbe P t).bind (zaQ P),(zbe P t).bind (zcO P),(zbe P t).bind (zbq P) with
  | some size,some bytes,some z=>(match decide (0<size) && (zbt z).length == size with
   |true=>za9 bytes (zbt z) (ev F l) (ev F c) H K
   |false=>False)
  |_,_,_=>False)
 | .slice t x lo hi none=>(match zdx P t with
  |some 0=>za1 0 0 (ev F x) (lo.map (ev F)) (hi.map (ev F)) (K · H)
  | some 1=>(match (zbe P t).bind (zaQ P) with
   |some size=>za1 1 size (ev F x) (lo.map (ev F)) (hi.map (ev F)) (K · H)
   |none=>False)
  |_=>False)
 | .fieldAddr s x i=>(match zhw P s i with
  | some f=>(match zaQ P f.type with
   |some (_+1)=>zaf f.offset (ev F x) (K · H)
   |_=>False)
  |none=>False)
 | .field s x i=>(match zhw P s i with
  | some f=>(match zeo P f.type,zaQ P f.type with
   |some g,some n=>zd0 g n f.offset (ev F x) (K · H)
   |_,_=>False)
  |none=>False)
 | .indexAddr t x i=>(match (zbe P t).bind (zaQ P),zle P t,(zle P t).bind (λa=>zaQ P a.2) with
  |some size,_,_=>zai size (ev F x) (ev F i) (K · H)
  |none,some a,some size=>zai size (zfV a.1 (ev F x)) (ev F i) (K · H)
  |_,_,_=>False)
 | .index t x i=>(match zdx P t with
  |some 0=>zbC (ev F x) (ev F i) (K · H)
  |_=>False)
 |.extract x i=>zaI (ev F x) i (K · H)
 | .call c=>(match c.callee with
  |.value f=>aCallV P (ev F f) (c.args.toList.map (ev F)) H K
  |.builtin b=>ze6 P b c F H K
  |.invoke _ _=>False)
 |_=>False
def isM:Op→Bool
 |.makeMap _ _|.lookup _ _ _ _|.mapUpdate _ _ _ _|.insert _ _ _ _=>true
 |_=>false
def aop(P:Program)(o:Oper)(F:List AV)(H:zaa)(K:AV→zaa→Prop):Prop:=
 match isM o.op with
 |true=>zfa P o.op F H K
 |false=>zdq P o F H K

def zjz(fl:Bool)(agg:Bool)(n:Nat)(a:AV)(H:zaa)(K:AV→Prop):Prop:=
 match fl with
 |false=>zan agg n a H K
 |true=>zae agg n a H K
def zbi(fl:Bool)(P:Program)(o:Oper)(F:List AV)(H:zaa)(K:AV→zaa→Prop):Prop:=
 match o.op with
 | .load t a=>(match zeo P t,zaQ P t with
  |some g,some n=>zjz fl g n (ev F a) H (K · H)
  |_,_=>False)
 |_=>aop P o F H K
def zdn(g:AV)(want:Bool)(p q:Prop):Prop:=
 match g with
 |.bool b=>aIf (b == want) p q
 |.tup []=>q
 |_=>False
def zac(g:AV)(want:Bool)(H:zaa)(p:(AV→zaa→Prop)→Prop)(J:AV→zaa→Prop):Prop:=zdn g want (p J) (J (.tup []) H)
def zad(H:zaa)(p:(AV→zaa→Prop)→Prop)(K:AV→Prop):Prop:=∃r,(p λv H'=>v=r∧H'=H)∧K r
def zaF(H:zaa)(p:zaa→(AV→zaa→Prop)→Prop)(K:AV→Prop):Prop:=∃r,(∀J:zaa,p (H++J) λv H'=>v=r∧H'=H++J)∧K r
def zag(c:AV)(p q:Prop):Prop:=
 match c with
 |.bool t=>aIf t p q
 |_=>False

def zbE(F:List AV)(d:Option Tmp)(v:AV):List AV:=
 match d with
 |some d=>F.set d v
 |none=>F

def zFz(t:TypeId)(cs:List AV)(H:zaa)(K:AV→zaa→Prop):Prop:=K (.ptr H.length 0) (H++[.bld t cs])
def zhX(P:Program)(o:Oper)(F:List AV)(H:zaa)(K:AV→zaa→Prop):Prop:=
 match o.op with
 | .alloc t=>(match zJ8 P t with
  | true=>(match zbq P t with
   |some z=>zFz t (zbt z) H K
   |none=>False)
  |false=>aop P o F H K)
 |_=>aop P o F H K
def AV.oneK:AV→Bool
 |.unk|.agg _|.tup _=>false
 |_=>true
def zfN(e:TypeId)(size len:Nat)(parts:List (Nat×AV))(H:zaa)(K:AV→zaa→Prop):Prop:=
 match size,len,parts with
 |1,1,[(0,x)]=>x.oneK=true∧K (.ov H.length 1) (H++[.vec e 1 1 [x]])
 |2,1,[(0,.agg [x,y])]=>(x.oneK=true∧y.oneK=true)∧K (.ov H.length 1) (H++[.vec e 2 1 [x,y]])
 |_,_,_=>False
def zj2(x:AV)(K:Bool→Prop):Prop:=
 match x with
 |.snil=>K true
 |.ms _ _ _ _=>K false
 |.ov _ (_+1)=>K false
 |.sl (_::_) .none=>K false
 |.sl [] .none=>K true∧K false
 |_=>False
def zvX(ok:Bool)(op:BinOp)(x:AV)(K:AV→Prop):Prop:=
 ok=true∧(match op with
 |.eql=>zj2 x λb=>K (.bool b)
 |.neq=>zj2 x λb=>K (.bool (!b))
 |_=>False)
def zpQ:Operand→Bool
 |.const (.slice none 0 0)=>true
 |_=>false
def zrE(P:Program)(t:TypeId):Bool:=match P.underlying t with|some (.slice _)=>true|_=>false
def zxB:Operand→Bool
 |.const (.int .i64 (.ofNat 0))=>true
 |_=>false
def zeD(e size bytes:Nat)(cap:AV)(H:zaa)(K:AV→zaa→Prop):Prop:=
 match cap with
 |.int .i64 c=>(0≤c∧c*bytes≤140737488355328∧c≤9223372036854775807)∧K (.ov H.length 0) (H++[.vec e size 0 []])
 |_=>False
def zo6(size:Nat)(x hi:AV)(H:zaa)(K:AV→zaa→Prop):Prop:=
 match x with
 | .ov id n=>(match H[id]?,hi with
  |some (.vec e s n' cs),.int _ k=>((s=size∧n'=n)∧0≤k∧k≤n)∧K (.ov H.length k.toNat) (H.set id .dead++[.vec e s k.toNat (cs.take (k.toNat*s))])
  |_,_=>False)
 |x=>za1 1 size x none (some hi) (K · H)
def zpg(P:Program)(o:Oper)(F:List AV)(H:zaa)(K:AV→zaa→Prop):Prop:=
 match o.op with
 | .buildSlice t len parts=>(match zbe P t with
  | some e=>(match zaQ P e,zbq P e with
   | some size,some z=>(match (zbt z).length == size with
    |true=>zfN e size len (parts.toList.map λp=>(p.1,ev F p.2)) H K
    |false=>False)
   |_,_=>False)
  |none=>False)
 | .binOp op t x y _=>(match zpQ y with
  |true=>zvX (zrE P t) op (ev F x) (K · H)
  |false=>aop P o F H K)
 | .makeSlice t l c=>(match zxB l with
  | true=>(match zbe P t with
   | some e=>(match zaQ P e,zcO P e,zbq P e with
    | some size,some bytes,some z=>(match decide (0<size) && (zbt z).length == size with
     |true=>zeD e size bytes (ev F c) H K
     |false=>False)
    |_,_,_=>False)
   |none=>False)
  |false=>aop P o F H K)
 | .slice t x none (some hi) none=>(match zdx P t with
  | some 1=>(match (zbe P t).bind (zaQ P) with
   |some size=>zo6 size (ev F x) (ev F hi) H K
   |none=>False)
  |_=>False)
 |_=>aop P o F H K
def ziM(P:Program):List Oper→(List AV→zaa→Prop)→List AV→zaa→Prop
 |[],K,F,H=>K F H
 | o::os,K,F,H=>match o.guard with
  |none=>zpg P o F H λv H'=>ziM P os K (zbE F o.dst v) H'
  |some _=>False
def zfv(P:Program)(ops:Array Oper):List Oper→(List AV→zaa→Prop)→List AV→zaa→Prop
 |[],K,F,H=>K F H
 | o::os,K,F,H=>match o.guard with
  |none=>zhX P o F H λv H'=>zfv P ops os K (zbE F o.dst v) H'
  | some (j,want)=>(match (ops[j]?).bind (·.dst) with
   |some d=>zac (F.getD d .unk) want H (zhX P o F H) λv H'=>zfv P ops os K (zbE F o.dst v) H'
   |none=>False)

inductive WM where
 |n
 |w
 |g
 |c
 |l
def WM.on(wc:WM)(f:Operand):Bool:=
 match wc with
 |.n=>false
 | .c=>(match f with
  |.func _=>true
  |_=>false)
 |_=>true
def WM.gr:WM→Bool
 |.g=>true
 |_=>false
def GrowA(H H':zaa):Prop:=H'=H∨(∃ e s n,H'=H++[.perm e s n])∨(∃ (id e s n n':Nat),H[id]?=some (.perm e s n)∧H'=H.set id (.perm e s n')) ∨
 (∃(id e s n n':Nat) (cs cs':List AV),H[id]?=some (.vec e s n cs)∧H'=H.set id (.vec e s n' cs'))∨∃(e s n:Nat) (cs:List AV),H'=H++[.vec e s n cs]
def opW(wc:WM):Op→Bool
 |.store _ _ _|.alloc _|.box _ _|.makeSlice _ _ _|.makeMap _ _|.mapUpdate _ _ _ _|.insert _ _ _ _=>true
 | .call c=>(match c.callee with
  |.builtin .append=>true
  |.builtin .copy=>true
  |.value f=>wc.on f
  |_=>false)
 |_=>false
def opF:Op→Bool
 |.move _|.assign _|.pick _ _ _|.build _ _|.buildSlice _ _ _|.nilCheck _|.binOp _ _ _ _ _|.unOp _ _ _|.convert _ _ _|.makeFunc _ _ _|.slice _ _ _ _ _|.fieldAddr _ _ _|.field _ _ _
 |.indexAddr _ _ _|.index _ _ _|.extract _ _=>true
 | .call c=>(match c.callee with
  |.builtin .len=>true
  |_=>false)
 |_=>false
def opL:Op→Bool
 |.load _ _=>true
 |_=>false
def opA(wc:WM):Op→Bool
 | .call c=>(match c.callee with
  |.builtin .append=>true
  |.value _=>wc.gr
  |_=>false)
 |_=>false
def opG(wc:WM):Op→Bool
 | .call c=>(match c.callee with
  |.value _=>wc.gr
  |_=>false)
 |_=>false
def opN:Op→Bool
 |.alloc _|.box _ _|.makeSlice _ _ _|.makeMap _ _=>true
 |_=>false
def opV:Op→Bool
 |.alloc _=>true
 |_=>false
def opC(wc:WM):Op→Bool
 | .call c=>(match c.callee with
  |.value f=>!wc.on f
  |_=>false)
 |_=>false
def opK(wc:WM):Op→Bool
 | .call c=>(match c.callee with
  | .value _=>(match wc with
   |.l=>true
   |_=>false)
  |_=>false)
 |_=>false
def okU(wc:WM)(q p:Op):Bool:=(opL q && (opA wc p || opN p)) || (opA wc q && opL p) || (opC wc q && opV p) || (opV q && opV p) || (opL q && opK wc p)
def zcZ(ops:Array Oper)(o:Oper):List Nat:=
 (o.op.operands.toList.filterMap λ| .tmp t=>some t | _=>none) ++
  (match o.guard with
  |some (g,_)=>((ops[g]?).bind (·.dst)).toList
  |none=>[])
def zig(ops:Array Oper)(F:List AV):List AV:=ops.toList.filterMap λo=>match o.op with
 |.load _ a=>some (ev F a)
 |_=>none
def zdX(asx:List AV)(H H':zaa):Prop:=∀a∈asx,∀(id off:Nat),a=.ptr id off→∀cs:List AV,H[id]?=some (.cells cs)→H'[id]?=some (.cells cs)
def zd9(b:Bool)(asx:List AV)(H H':zaa)(K:Prop):Prop:=
 match b with
 |true=>zdX asx H H'∧K
 |false=>K
def zeI(ops:Array Oper):Bool:=
 (ops.toList.zipIdx.all λp=>!opL p.1.op || ops.toList.zipIdx.all λq=>decide (q.2<p.2) || (match q.1.dst with
  |some d=>!((zcZ ops p.1).contains d)
  |none=>true)) && ops.toList.all λo=>!opN o.op && o.guard.isNone
def zbl(wc:WM)(gr:Bool)(H:zaa)(p:(AV→zaa→Prop)→Prop)(K:AV→zaa→Prop):Prop:=
 match wc with
 |.n=>p K
 |_=>∃r H',p (λv H2=>v=r∧H2=H')∧(gr=true→GrowA H H')∧K r H'
def zcD(fl:Bool)(wc:WM)(P:Program)(ops:Array Oper):List Oper→(List AV→zaa→Prop)→List AV→zaa→Prop
 |[],K,F,H=>K F H
 | o::os,K,F,H=>match o.guard with
  | none=>(match opW wc o.op with
   | false=>(match opC wc o.op with
    |false=>zad H (zbi fl P o F H) λr=>zcD fl wc P ops os K (zbE F o.dst r) H
    |true=>zaF H (λH=>zbi fl P o F H) λr=>zcD fl wc P ops os K (zbE F o.dst r) H)
   |true=>zbl wc (opG wc o.op) H (zbi fl P o F H) λv H'=>zd9 (opK wc o.op) (zig ops F) H H' (zcD fl wc P ops os K (zbE F o.dst v) H'))
  | some (j,want)=>(match (ops[j]?).bind (·.dst) with
   | some d=>(match opW wc o.op with
    | false=>(match opC wc o.op with
     |false=>zac (F.getD d .unk) want H (λJ=>zad H (zbi fl P o F H) (J · H)) λv H'=>zcD fl wc P ops os K (zbE F o.dst v) H'
     |true=>zac (F.getD d .unk) want H (λJ=>zaF H (λH=>zbi fl P o F H) (J · H)) λv H'=>zcD fl wc P ops os K (zbE F o.dst v) H')
    |true=>zac (F.getD d .unk) want H (λJ=>zbl wc (opG wc o.op) H (zbi fl P o F H) J) λv H'=>zcD fl wc P ops os K (zbE F o.dst v) H')
   |none=>False)

def zpf{α:Type}:List α→(α→Prop)→Prop
 |[],_=>True
 |[i],p=>p i
 |i::j::l,p=>p i∧zpf (j::l) p
def zhq(P:Program)(ops:Array Oper)(K:List AV→zaa→Prop):Nat→Array Bool→List AV→zaa→Prop
 | 0,listed,F,H=>(match Region.ready .any ops listed with
  |[]=>K F H
  |_=>False)
 | n+1,listed,F,H=>(match Region.ready .any ops listed with
  |[]=>K F H
  | i::is=>zpf (i::is) λi=>(match ops[i]? with
   | some o=>(match o.guard with
    |none=>aop P o F H λv H'=>zhq P ops K n (listed.setIfInBounds i true) (zbE F o.dst v) H'
    |some _=>False)
   |none=>False))
inductive AExit where
 |normal
 |exit (id:Nat)
 |ret
def AExit.toExit:AExit→Exit
 |.normal=>.normal
 |.exit id=>.exit id
 |.ret=>.ret

def Post(B:Nat)(w:World)(G:Gh)(Q:AExit→List AV→zaa→Prop)(e:Exit)(a':Act)(w':World):Prop:=
 ∃F' H' G' e',e=AExit.toExit e'∧Ext B w G w' G'∧HRel B w' G' H'∧FRel w' G' a'.tmps F'∧a'.defers=[]∧Q e' F' H'

def AWp(P:Program)(c:Code)(Q:AExit→List AV→zaa→Prop)(F:List AV)(H:zaa):Prop:=
 ∀(B:Nat) (w:World) (G:Gh) (a:Act),HRel B w G H→FRel w G a.tmps F→a.defers=[]→c.wp P (Post B w G Q) a w

def ALoop(P:Program)(c:Code)(Q:AExit→List AV→zaa→Prop)(F:List AV)(H:zaa):Prop:=AWp P (.loop c) Q F H

def zf2:List Bool→List AV→List AV
 |true::bs,a::asx=>a::zf2 bs asx
 |false::bs,_::asx=>.unk::zf2 bs asx
 |[],asx=>asx
 |_,[]=>[]
def zh8:Code→Nat
 |.region id _ _=>id
 |.seq a _=>zh8 a
 |.block _ c=>zh8 c
 |.loop c=>zh8 c
 |.scope c=>zh8 c
 |_=>0

def zd8(o:Oper)(j:Nat):Bool:=o.after.any λe=>Region.binds .any e && e.on == j
def zq6(ops:Array Oper)(i j:Nat)(oi oj:Oper):Bool:=
 (i == j) || (match oj.dst with
  |some d=>(oi.dst != some d) && (!(zcZ ops oi).contains d || (if j<i then zd8 oi j else zd8 oj i))
  |none=>true)
def zef(ops:Array Oper):Bool:=
 (ops.toList.zipIdx.all λp=>(p.1.after.all λe=>!Region.binds .any e || decide (e.on<p.2)) && ops.toList.zipIdx.all λq=>zq6 ops p.2 q.2 p.1 q.1)
def zhW(ms:List Nat):List Edge→Nat→Nat
 |[],m=>m
 | e::es,m=>zhW ms es (match Region.binds .any e with
  |true=>m ||| (1 <<< e.on) ||| ms.getD e.on 0
  |false=>m)
def zgN:List Oper→List Nat→List Nat
 |[],ms=>ms
 |o::os,ms=>zgN os (ms++[zhW ms o.after.toList 0])
def zdt(wc:WM)(ops:Array Oper):Bool:=
 match ops.toList.any (λo=>opW wc o.op) with
 |false=>true
 |true=>(λms=>ops.toList.zipIdx.all λp=>ops.toList.zipIdx.all λq=>
   !(decide (q.2<p.2)) || !(opW wc p.1.op || opW wc q.1.op) || opF p.1.op || opF q.1.op || okU wc q.1.op p.1.op || Nat.testBit (ms.getD p.2 0) q.2) (zgN ops.toList [])
def zrG(ops:Array Oper)(m:Nat):Bool:=(λms=>(ops.toList.drop m).all (λo=>(List.range m).all λi=>zd8 o i || (List.range m).any λk=>zd8 o k && Nat.testBit (ms.getD k 0) i)) (zgN (ops.toList.take m) []) && ops.toList.all λo=>o.guard.isNone
def zdM(ops:Array Oper)(m:Nat):Array Oper:=(ops.toList.take m).toArray
def zhx(m t:Nat):Array Bool:=(List.replicate m true++List.replicate t false).toArray
def noG(ops:Array Oper):Bool:=ops.toList.all λo=>!opA .n o.op && !opN o.op
def zeg(ops:Array Oper):Bool:=
 match ops.toList.any (λo=>opV o.op) with
 |false=>true
 |true=>(λa k=>ops.toList.zipIdx.all λp=>(opV p.1.op == (decide (a≤p.2) && decide (p.2<a+k))) && (!opV p.1.op || p.1.guard.isNone)) (ops.toList.findIdx λo=>opV o.op) (ops.toList.countP λo=>opV o.op)
def zy7(next:List AV→zaa→Prop)(Q:AExit→List AV→zaa→Prop):AExit→List AV→zaa→Prop
 |.normal,F,H=>next F H
 |.exit id,F,H=>Q (.exit id) F H
 |.ret,F,H=>Q .ret F H
def zpj(id:Nat)(Q:AExit→List AV→zaa→Prop):AExit→List AV→zaa→Prop
 |.normal,F,H=>Q .normal F H
 | .exit id',F,H=>(match id' == id with
  |true=>Q .normal F H
  |false=>Q (.exit id') F H)
 |.ret,F,H=>Q .ret F H

def zfd:Code→Nat
 |.region id _ _=>id
 |.seq a _=>zfd a
 |.block _ c=>zfd c
 |.loop c=>zfd c
 |.scope c=>zfd c
 |.cond _ a b=>50000+zfd a*1000+zfd b
 |_=>0
def nxt(m:List Bool)(P:Program)(b:Code)(Q:AExit→List AV→zaa→Prop)(now:List AV→zaa→Prop):List AV→zaa→Prop:=
 match m with
 |[]=>now
 |m=>λF H=>AWp P b Q (zf2 m F) H
def awp(P:Program)(M:Nat→List Bool):Code→(AExit→List AV→zaa→Prop)→List AV→zaa→Prop
 |.skip,Q,F,H=>Q .normal F H
 |.label _,Q,F,H=>Q .normal F H
 | .region id ops draw,Q,F,H=>(match draw with
  | false=>(match M (300000+id) with
   |[]=>zfv P ops ops.toList (Q .normal) F H
   |_::_=>ziM P ops.toList (Q .normal) F H)
  | true=>(match M (400000+id) with
   | _::_=>(match zef ops && zdt .n ops && zeg ops && P.follows .mixedOrders && noG ops with
    |true=>zcD true .n P ops ops.toList (Q .normal) F H
    |false=>False)
   |[]=>(match M (500000+id) with
   | _::_=>(match zef ops && zdt .l ops && zeg ops && P.follows .mixedOrders && zeI ops with
    |true=>zcD false .l P ops ops.toList (Q .normal) F H
    |false=>False)
   |[]=>(match M (200000+id) with
   | []=>(match zef ops && zdt .n ops && zeg ops && P.follows .mixedOrders with
    |true=>zcD false .n P ops ops.toList (Q .normal) F H
    |false=>False)
   | [_]=>(match zef ops && zdt .w ops && zeg ops && P.follows .mixedOrders with
    |true=>zcD false .w P ops ops.toList (Q .normal) F H
    |false=>False)
   | [_,_]=>(match zef ops && zdt .g ops && zeg ops && P.follows .mixedOrders with
    |true=>zcD false .g P ops ops.toList (Q .normal) F H
    |false=>False)
   | [_,_,_]=>(match zef ops && zdt .c ops && zeg ops && P.follows .mixedOrders with
    |true=>zcD false .c P ops ops.toList (Q .normal) F H
    |false=>False)
   | _::_::_::_::l=>(match zef (zdM ops (ops.size-l.length)) && zdt .n (zdM ops (ops.size-l.length)) && zeg (zdM ops (ops.size-l.length)) && P.follows .mixedOrders && zrG ops (ops.size-l.length) && decide (l.length≤ops.size) with
    |true=>zcD false .n P (zdM ops (ops.size-l.length)) (zdM ops (ops.size-l.length)).toList (zhq P ops (Q .normal) l.length (zhx (ops.size-l.length) l.length)) F H
    |false=>False)))))
 |.seq a b,Q,F,H=>awp P M a (zy7 (nxt (M (100000+zfd b)) P b Q (awp P M b Q)) Q) F H
 |.cond c a b,Q,F,H=>zag (ev F c) (awp P M a Q F H) (awp P M b Q F H)
 |.block id c,Q,F,H=>awp P M c (zpj id Q) F H
 |.scope c,Q,F,H=>awp P M c Q F H
 |.loop c,Q,F,H=>ALoop P c Q (zf2 (M (zh8 c)) F) H
 |.ret,Q,F,H=>Q .ret F H
 |.exit id,Q,F,H=>Q (.exit id) F H
 |_,_,_,_=>False

def zas:List Nat→Code→Code
 |[],c=>c
 |0::p,.seq a _=>zas p a
 |_::p,.seq _ b=>zas p b
 |0::p,.cond _ a _=>zas p a
 |_::p,.cond _ _ b=>zas p b
 |_::p,.block _ c=>zas p c
 |_::p,.scope c=>zas p c
 |_::p,.loop c=>zas p c
 |_,c=>c
def zat(P:Program)(M:Nat→List Bool):List Nat→Code→(AExit→List AV→zaa→Prop)→AExit→List AV→zaa→Prop
 |[],_,Q=>Q
 |0::p,.seq a b,Q=>zat P M p a (zy7 (nxt (M (100000+zfd b)) P b Q (awp P M b Q)) Q)
 |_::p,.seq _ b,Q=>zat P M p b Q
 |0::p,.cond _ a _,Q=>zat P M p a Q
 |_::p,.cond _ _ b,Q=>zat P M p b Q
 |_::p,.block id c,Q=>zat P M p c (zpj id Q)
 |_::p,.scope c,Q=>zat P M p c Q
 |_,_,Q=>Q
def zbp(m:List Bool)(Kb:List AV→zaa→Prop)(Q:AExit→List AV→zaa→Prop):AExit→List AV→zaa→Prop
 |.normal,F,H=>Kb (zf2 m F) H
 |.exit id,F,H=>Q (.exit id) F H
 |.ret,F,H=>Q .ret F H

end
section
open Go.RowKit

variable {P:Program} {B:Nat} {w:World} {G:Gh} {H:zaa}

def zFd(B:Nat)(w:World)(G:Gh)(K:AV→zaa→Prop)(e:Ending)(w':World):Prop:=
 ∃v r H' G',e=.returned v∧Ext B w G w' G'∧HRel B w' G' H'∧TRel w' G' v r∧K r H'

def OpOK(P:Program)(B:Nat)(w:World)(G:Gh)(K:AV→zaa→Prop):Result Next→Prop
 |.ok (.value v) w'=>∃av G' H',Ext B w G w' G'∧HRel B w' G' H'∧TRel w' G' v av∧K av H'
 |.ok .skip w'=>∃G' H',Ext B w G w' G'∧HRel B w' G' H'∧K (.tup []) H'
 |.ok (.enter f vs) w'=>w'=w∧Calls P f vs w (zFd B w G K)
 |_=>False

theorem OpOK.same{K:AV→zaa→Prop}{v:Value}{av:AV}(hH:HRel B w G H)(hv:TRel w G v av)(hK:K av H):OpOK P B w G K (.ok (.value v) w):=
 ⟨av,G,H,Ext.refl _ _ _,hH,hv,hK⟩

theorem zho(v:Value):BRel w G v (zgW v):=by unfold zgW;split <;> first|rfl|trivial
theorem zrk(v:Value):TRel w G v (zc8 v):=by
 unfold zc8;split
 ·rename_i cs;refine⟨cs,rfl,?_⟩;refine All2.of_get (by simp) λi x y hx hy=>?_;rw[List.getElem?_map,hx]at hy;simp at hy;rw[←hy];exact ARel.of_b (zho x)
 ·exact TRel.of_v (VRel.of_a (ARel.of_b (zho v)))
theorem zdO(v:Value):All2 (ARel w G) v.cells.toList (zbt v):=by
 unfold zbt;split
 ·rename_i cs;simp only[Value.cells];refine All2.of_get (by simp) λi x y hx hy=>?_;rw[List.getElem?_map,hx]at hy;simp at hy;rw[←hy];exact ARel.of_b (zho x)
 ·rename_i h;have:v.cells=#[v]:=by cases v <;> first | rfl | exact absurd rfl (h _)
  rw[this];exact⟨ARel.of_b (zho v),trivial⟩

theorem zaJ{a:Act}{F:List AV}(hF:FRel w G a.tmps F)(x:Operand):TRel w G (a.eval x) (ev F x):=by
 cases x with
 |tmp t=>
  unfold Act.eval ev;simp only[];cases h:F[t]? with
  |none=>simp only[List.getD_eq_getElem?_getD,h];trivial
  |some b=>
   obtain⟨v,h1,h2⟩:=All2.get hF h;have:a.tmps[t]?=some v:=by simpa using h1
   simp only[List.getD_eq_getElem?_getD,h,Option.getD_some,bL,this];exact h2
 |const v=>exact zrk v
 |global g=>trivial
 |func f=>exact⟨#[],rfl,trivial⟩

theorem zwS{a:Act}{F:List AV}(hF:FRel w G a.tmps F)(xs:List Operand):All2 (TRel w G) (xs.map a.eval) (xs.map (ev F)):=by
 induction xs with
 |nil=>trivial
 |cons x xs ih=>exact⟨zaJ hF x,ih⟩

theorem zy0{t:TypeId}{i:TypeInfo}(h:P.info? t=some i):(typeInfo t).run P w=.ok i w:=by simp[typeInfo,h]
theorem zby{t:TypeId}{n:Nat}(h:zaQ P t=some n):(sizeOf t).run P w=.ok n w:=by
 unfold zaQ at h;cases hi:P.info? t with
 |none=>simp[hi]at h
 |some i=>simp[hi]at h;simp[sizeOf,zy0 hi,h]
theorem zek{t:TypeId}{z:Value}(h:zbq P t=some z):(zeroValue t).run P w=.ok z w:=by
 unfold zbq at h;cases hi:P.info? t with
 |none=>simp[hi]at h
 |some i=>simp[hi]at h;simp[zeroValue,zy0 hi,h]
theorem zaT{t:TypeId}{d:TypeDesc}(h:P.underlying t=some d):(underlying t).run P w=.ok d w:=by simp[underlying,h]
theorem zhr{t:TypeId}{g:Bool}(h:zeo P t=some g):(isAgg t).run P w=.ok g w:=by
 unfold zeo at h;cases hu:P.underlying t with
 |none=>simp[hu]at h
 |some d=>simp only[hu,Option.map_some,bJ]at h;cases d <;> simp_all [isAgg,zaT hu]
theorem zbI{t e:TypeId}(h:zbe P t=some e):P.underlying t=some (.slice e):=by
 unfold zbe at h;cases hu:P.underlying t with
 |none=>simp[hu]at h
 |some d=>simp only[hu,Option.bind_some]at h;cases d <;> simp_all
theorem zrT{t:TypeId}(h:zdx P t=some 0):P.underlying t=some .string:=by
 unfold zdx at h;cases hu:P.underlying t with
 |none=>simp[hu]at h
 |some d=>simp only[hu,Option.bind_some]at h;cases d <;> simp_all
theorem zlq{t:TypeId}(h:zdx P t=some 1):∃e,P.underlying t=some (.slice e):=by
 unfold zdx at h;cases hu:P.underlying t with
 |none=>simp[hu]at h
 |some d=>simp only[hu,Option.bind_some]at h;cases d <;> simp_all
theorem zz3{t:TypeId}{i:Nat}{f:Field}(h:zhw P t i=some f):∃fs,P.underlying t=some (.struct fs)∧fs[i]?=some f:=by
 unfold zhw at h;cases hu:P.underlying t with
 |none=>simp[hu]at h
 |some d=>simp only[hu,Option.bind_some]at h;cases d <;> simp_all

theorem add_lit(b o n:Nat):Addr.add ⟨b,o,none⟩ n=⟨b,o+n,none⟩:=Addr.add_lit b o n

theorem ARel.oneCell{v:Value}:∀{a:AV},a≠.unk→ARel w G v a→v.oneCell'=true:=by
 intro a hne h;cases a with
 |unk=>exact absurd rfl hne
 |fn f caps=>obtain⟨vs,rfl,_⟩:=h;rfl
 |agg cs=>exact h.elim
 |tup cs=>exact h.elim
 |sl es tok=>
  cases tok with
  |none=>obtain⟨a,cap,rfl,_⟩:=DRel.slice_form h;rfl
  |full=>obtain⟨a,cap,rfl,_⟩:=DRel.slice_form h.1;rfl
  |own id=>obtain⟨a,cap,rfl,_⟩:=DRel.slice_form h.1;rfl
 |bool b=>cases h;rfl
 |int k n=>cases h;rfl
 |str s=>cases h;rfl
 |nilp=>cases h;rfl
 |snil=>cases h;rfl
 |nilfn=>cases h;rfl
 |nili=>cases h;rfl
 |ifc=>obtain⟨t,x,rfl⟩:=h;rfl
 |ptr id off=>obtain⟨b,_,rfl⟩:=h;rfl
 |view cs=>obtain⟨b,off,rfl,_⟩:=h;rfl
 |ms id off len cap=>obtain⟨b,_,rfl⟩:=h;rfl
 |ov id n=>obtain⟨⟨a,cap,rfl,_⟩,_⟩:=h;rfl
 |vp id n off=>obtain⟨⟨b,o,rfl⟩,_⟩:=h;rfl
 |os id n lo esz=>obtain⟨⟨_,a,c,rfl,_⟩,_⟩:=h;rfl
 |map id=>obtain⟨b,_,rfl⟩:=h;rfl

theorem zh1{v:Value}{x:AV}{xs:List AV}(h:TRel w G v x)(hx:x.cs?=some xs):All2 (ARel w G) v.cells.toList xs:=by
 have atom:∀{y:AV},y≠.unk→y.cs?=some [y]→ARel w G v y→All2 (ARel w G) v.cells.toList [y]:=by
  intro y hne _ hr;have h1:=ARel.oneCell hne hr;have:v.cells=#[v]:=by cases v <;> first|rfl|simp[Value.oneCell']at h1
  rw[this];exact⟨hr,trivial⟩
 cases x with
 |unk=>simp[AV.cs?]at hx
 |tup vs=>simp[AV.cs?]at hx
 |agg cs=>simp[AV.cs?]at hx;subst hx;obtain⟨vs,rfl,h2⟩:=h;exact h2
 |_=>simp[AV.cs?]at hx;subst hx;exact atom (by simp) rfl h

theorem zkZ{v:Value}{e:TypeId}{size n:Nat}{xs:List Value}(h:w.ownsRow B e size v n xs):∃a cap,v=.slice a n cap∧n≤cap:=by
 rcases h.2 with ⟨rfl,rfl⟩|⟨g,cap,cur,rfl,h1,h2,h3,h4⟩
 ·exact⟨none,0,rfl,aa _⟩
 ·exact⟨_,cap,rfl,h3⟩

theorem zdL{e:TypeId}{size n cap g:Nat}{xs:List Value}(h:w.ownsRow B e size (.slice (some ⟨g,0,none⟩) n cap) n xs):
  xs.length=n*size∧B≤g∧g<w.heap.size∧∀(j:Nat),j<n*size→w.cell? ⟨g,j,none⟩=xs[j]?:=by
 obtain⟨h0,h1⟩:=h;rcases h1 with ⟨h1,_⟩|⟨g',cap',cur,h1,h2,h3,h4,h5,h6,h7⟩
 ·simp at h1
 ·simp at h1;obtain⟨rfl,rfl⟩:=h1;refine⟨h0,h2,(Array.getElem?_eq_some_iff.1 h3).1,λj hj=>?_⟩;rw[←h7];simp only[World.cell?,h3];rw[List.getElem?_take_of_lt hj];simp


theorem zy1{t:TypeId}{g:Bool}{n:Nat}{b off:Nat}{ws:List Value}{cs:List AV}{K:AV→Prop}(hg:zeo P t=some g)(hn:zaQ P t=some n)(hr:All2 (ARel w G) ws cs)(hc:∀ (j:Nat) v,ws[j]?=some v→w.cell? ⟨b,j,none⟩=some v)(hk:zbr g n off cs K):
  ∃v av,(loadVar t ⟨b,off,none⟩).run P w=.ok v w∧TRel w G v av∧K av:=by
 cases g with
 |true=>
  obtain⟨h1,h2⟩:=hk;have hl:=hr.length;have hlen:((ws.drop off).take n).length=n:=by simp;omega
  have hld:=run_loadCells_list (P:=P) w ⟨b,off,none⟩ ((ws.drop off).take n) (λj v hj=>by
   rw[add_lit];apply hc;have:j<n:=by have:=(List.getElem?_eq_some_iff.1 hj).1;omega
   rw[List.getElem?_take]at hj;simp[this]at hj;exact hj)
  rw[hlen]at hld;refine⟨.agg ((ws.drop off).take n).toArray,.agg ((cs.drop off).take n),?_,⟨_,rfl,?_⟩,h2⟩
  ·simp[loadVar,zhr hg,zby hn,hld]
  ·simpa using(hr.drop off).take n
 |false=>
  unfold zbr at hk;simp only[]at hk;cases hco:cs[off]? with
  |none=>rw[hco]at hk;exact hk.elim
  |some c=>rw[hco]at hk;obtain⟨v,h1,h2⟩:=hr.get hco;refine⟨v,c,?_,TRel.of_v (VRel.of_a h2),hk⟩;simp[loadVar,zhr hg,hc off v h1]

theorem DRel.toB{v:Value}{a:AV}(h:DRel w G.L v a):BRel w G v a:=by
 cases h with
 |bool b=>rfl
 |int k n=>rfl
 |str s=>rfl
 |slE a cap=>exact .slE a cap
 |sl b off cap esz es vs hne hcap hL hsz hc hd=>exact .sl b off cap esz es vs hne hcap hL hsz hc hd

theorem zzm{t:TypeId}{g:Bool}{n:Nat}{v:Value}{x:AV}{K:AV→zaa→Prop}(hH:HRel B w G H)(hx:TRel w G v x)(hg:zeo P t=some g)(hn:zaQ P t=some n)(h:zae g n x H (K · H)):∃u,(Instr.loadAt t v).run P w=.ok u w∧∃av,TRel w G u av∧K av H:=by
 rw[zgJ]at h;split at h
 ·rename_i id off;obtain⟨b,hμ,rfl⟩:=hx;split at h
  ·rename_i cs hcs;have:=hH.ok id _ _ hcs hμ;obtain⟨_,_,vs,e,hw,hr⟩:=this;obtain⟨u,av,h1,h2,h3⟩:=zy1 (P:=P) (b:=b) (off:=off) (K:=(K · H)) hg hn hr (λj v hj=>by simp[World.cell?,hw];simpa using hj) h;exact⟨u,by simp[Instr.loadAt,Instr.sureAddr,h1],av,h2,h3⟩
  ·exact h.elim
 ·rename_i cs;obtain⟨b,off,rfl,hL,vs,hr,hc⟩:=hx;have hr':All2 (ARel w G) vs cs:=hr.mono λ_ _ hd=>ARel.of_b hd.toB
  -- the cells from 'off' on, read asx a row of their own
  cases g with
  |true=>
   obtain⟨h1,h2⟩:=h;have hl:=hr.length;have hlen:(vs.take n).length=n:=by simp;omega
   have hld:=run_loadCells_list (P:=P) w ⟨b,off,none⟩ (vs.take n) (λj v hj=>by
    rw[add_lit];apply hc;rw[List.getElem?_take]at hj;split at hj
    ·exact hj
    ·simp at hj)
   rw[hlen]at hld;refine⟨.agg (vs.take n).toArray,?_,.agg (cs.take n),⟨_,rfl,?_⟩,?_⟩
   ·simp[Instr.loadAt,Instr.sureAddr,loadVar,zhr hg,zby hn,hld]
   ·simpa using hr'.take n
   ·simpa using h2
  |false=>
   unfold zbr at h;simp only[]at h;cases hco:cs[0]? with
   |none=>rw[hco]at h;exact h.elim
   |some c=>rw[hco]at h;obtain⟨v,h1,h2⟩:=hr'.get hco;refine⟨v,?_,c,TRel.of_v (VRel.of_a h2),h⟩;have:=hc 0 v h1;simp at this;simp[Instr.loadAt,Instr.sureAddr,loadVar,zhr hg,this]
 ·rename_i id m off;obtain⟨_,v',size,m',hμ,_,heq⟩:=hx;split at h
  ·rename_i e s m2 cs hcs;obtain⟨rfl,h⟩:=h;obtain⟨rfl,rfl,⟨xs,hown,hr⟩,_⟩:=hH.ok id _ _ hcs hμ;obtain⟨g,hg0,rfl⟩:=heq rfl;obtain⟨a,cap,rfl,_⟩:=zkZ hown;have ha:a=some ⟨g,0,none⟩:=by
    rcases hown.2 with ⟨h1,_⟩|⟨g',cap',cur,h1,_⟩
    ·rw[h1]at hg0;cases hg0
    ·rw[h1]at hg0;simp[Value.ownBlock]at hg0;subst hg0;simp at h1;exact h1.1
   subst ha;obtain⟨hxl,_,_,hcell⟩:=zdL hown;obtain⟨u,av,h1,h2,h3⟩:=zy1 (P:=P) (b:=g) (off:=off) (K:=(K · H)) hg hn hr (λj v hj=>by
    rw[hcell j (by rw[←hxl];exact(List.getElem?_eq_some_iff.1 hj).1)];exact hj) h
   exact⟨u,by simp[Instr.loadAt,Instr.sureAddr,h1],av,h2,h3⟩
  ·exact h.elim
 ·exact h.elim

theorem zk0{xs:List Value}{cs:List AV}(h:All2 (ARel w G) xs cs)(hu:∀c∈cs,c≠.unk):∀v∈xs,v.oneCell'=true:=by intro v hv;obtain⟨i,hi⟩:=aJ.1 hv;obtain⟨c,h1,h2⟩:=h.get' hi;exact ARel.oneCell (hu c (aJ.2 ⟨i,h1⟩)) h2


theorem zJQ{t:TypeId}{n:Nat}{v u:Value}{a x:AV}{K:zaa→Prop}(hH:HRel B w G H)(ha:TRel w G v a)(hx:TRel w G u x)(hn:zaQ P t=some n)(h:zam n a x H K):∃w' H',(Instr.storeAt t v u).run P w=.ok () w'∧Ext B w G w' G∧HRel B w' G H'∧K H':=by
 have ones:∀{xs:List AV},All2 (ARel w G) u.cells.toList xs→xs.all AV.known=true→∀v∈u.cells.toList,v.oneCell'=true:=λhxr h3=>zk0 hxr (λc hc=>by
  have:=am.1 h3 c hc;intro hcu;subst hcu;simp[AV.known]at this)
 rw[ze8]at h;split at h
 ·rename_i id off xs hxs;obtain⟨b,hμ,rfl⟩:=ha;split at h
  ·rename_i cs hcs;obtain⟨⟨h1,h2,h3⟩,hk⟩:=h;obtain⟨hB,_,vs,e,hw,hr⟩:=hH.ok id _ _ hcs hμ;have hxr:=zh1 hx hxs;have hl:=hr.length;have hlx:=hxr.length;have hst:=run_storeCells_at P b off e u.cells.toList 0 vs w hw (by simp at hl hlx ⊢;omega) (ones hxr h3);simp only[Nat.add_zero]at hst;have hnew:All2 (ARel w G) (vs.toList.take off++u.cells.toList++vs.toList.drop (off+u.cells.toList.length)).toArray.toList (cs.take off++xs++cs.drop (off+n)):=by
    have:u.cells.toList.length=n:=by rw[hlx];exact h1
    rw[this];simpa using((hr.take off).append hxr).append (hr.drop (off+n))
   obtain⟨he,hH'⟩:=hH.store hcs hμ hw hB hnew;refine⟨_,_,?_,he,hH',hk⟩;have hsz:u.cells.size=n:=by simp at hlx;omega
   simp[Instr.storeAt,Instr.sureAddr,storeVar,zby hn,hsz,hst]
  ·exact h.elim
 ·rename_i id m off xs hxs;obtain⟨_,v',size,m',hμ,_,heq⟩:=ha;split at h
  ·rename_i e s m2 cs hcs;obtain⟨⟨rfl,h1,h2,h3⟩,hk⟩:=h;obtain⟨rfl,rfl,⟨ys,hown,hr⟩,_⟩:=hH.ok id _ _ hcs hμ;obtain⟨g,hg0,rfl⟩:=heq rfl;obtain⟨hyl,hrow⟩:=hown;rcases hrow with ⟨h5,_⟩ | ⟨g',cap,cur,h5,hBg,hw,hc1,hc2,hc3,hc4⟩
   ·rw[h5]at hg0;cases hg0
   rw[h5]at hg0 hμ;simp[Value.ownBlock]at hg0;subst hg0;have hxr:=zh1 hx hxs;have hl:=hr.length;have hlx:=hxr.length;have hun:u.cells.toList.length=n:=by rw[hlx];exact h1
   have hms:m2*s≤cur.size:=by rw[hc3];exact aq _ hc1
   have hst:=run_storeCells_at P g' off e u.cells.toList 0 cur w hw (by omega) (ones hxr h3);simp only[Nat.add_zero]at hst;rw[hun]at hst;have hfit:off+n≤m2*s:=by omega
   have htk:(cur.toList.take off++u.cells.toList++cur.toList.drop (off+n)).toArray.toList.take (m2*s)=ys.take off++u.cells.toList++ys.drop (off+n):=by
    rw[←hc4];simp only[cP,aM,Array.length_toList,ao,hun];rw[cJ,cJ,c0,ak (l:=u.cells.toList) (by omega)];congr 2
    ·congr 1;omega
    ·congr 1;omega
   obtain⟨he,hH'⟩:=hH.storeV (cs':=cs.take off++xs++cs.drop (off+n)) hcs hμ hw hBg hc1 hc2 (by simp[ao,hun];omega) htk (by simp[hun];omega) (by
    have:=((hr.take off).append hxr).append (hr.drop (off+n));simpa using this)
   refine⟨_,_,?_,he,hH',hk⟩;have hsz:u.cells.size=n:=by simp at hlx;omega
   simp[Instr.storeAt,Instr.sureAddr,storeVar,zby hn,hsz,hst]
  ·exact h.elim
 ·exact h.elim

theorem zJo{t:TypeId}{v:Value}{x:AV}{K:AV→zaa→Prop}(hH:HRel B w G H)(hx:TRel w G v x)(h:zaw x H K):
  OpOK P B w G K (((do pure (.value (←Instr.box t v))):Sem Next).run P w):=by
 unfold zaw at h;split at h
 ·rename_i cs hcs;obtain⟨he,hH'⟩:=hH.new v.cells t cs (zh1 hx hcs);have hrun:((do pure (.value (←Instr.box t v))):Sem Next).run P w=.ok (.value (.pointer (some ⟨w.heap.size,0,none⟩))) (w.alloc (.cells v.cells t)):=by simp[Instr.box,newVar,newRow,World.alloc_eq]
  rw[hrun];refine⟨.ptr H.length 0,_,_,he,hH',⟨w.heap.size,?_,rfl⟩,h⟩;rw[←hH.len];simp
 ·exact h.elim
theorem zJl{t:TypeId}{z:Value}{K:AV→zaa→Prop}(hH:HRel B w G H)(hz:zbq P t=some z)(h:K (.ptr H.length 0) (H++[.cells (zbt z)])):
  OpOK P B w G K (((do pure (.value (←Instr.alloc t true (.tuple #[])))):Sem Next).run P w):=by
 obtain⟨he,hH'⟩:=hH.new z.cells t (zbt z) (zdO z);have hrun:((do pure (.value (←Instr.alloc t true (.tuple #[])))):Sem Next).run P w=.ok (.value (.pointer (some ⟨w.heap.size,0,none⟩))) (w.alloc (.cells z.cells t)):=by simp[Instr.alloc,zek hz,newVar,newRow,World.alloc_eq]
 rw[hrun];refine⟨.ptr H.length 0,_,_,he,hH',⟨w.heap.size,?_,rfl⟩,h⟩;rw[←hH.len];simp

theorem zJA{s:TypeId}{i:Nat}{f:Field}{n:Nat}{v:Value}{x:AV}{K:AV→Prop}(hx:TRel w G v x)(hf:zhw P s i=some f)(hn:zaQ P f.type=some (n+1))(h:zaf f.offset x K):∃u,(Instr.fieldAt s v i).run P w=.ok u w∧∃av,TRel w G u av∧K av:=by
 obtain⟨fs,hu,hfs⟩:=zz3 hf;rw[zvU]at h;split at h
 ·rename_i id off;obtain⟨b,hμ,rfl⟩:=hx;refine⟨.pointer (some ⟨b,off+f.offset,none⟩),?_,.ptr id (off+f.offset),⟨b,hμ,rfl⟩,h⟩;simp[Instr.fieldAt,zaT hu,hfs,Instr.sureAddr,fieldPlace,zby hn,add_lit]
 ·rename_i cs;obtain⟨b,off,rfl,hc⟩:=hx;refine⟨.pointer (some ⟨b,off+f.offset,none⟩),?_,.view (cs.drop f.offset),⟨b,_,rfl,hc.drop _ h.1⟩,h.2⟩;simp[Instr.fieldAt,zaT hu,hfs,Instr.sureAddr,fieldPlace,zby hn,add_lit]
 ·rename_i id m off;obtain⟨⟨b,o,rfl⟩,v',size,m',hμ,hle,heq⟩:=hx;refine⟨.pointer (some ⟨b,o+f.offset,none⟩),?_,.vp id m (off+f.offset),⟨⟨b,_,rfl⟩,v',size,m',hμ,hle,λe=>?_⟩,h⟩
  ·simp[Instr.fieldAt,zaT hu,hfs,Instr.sureAddr,fieldPlace,zby hn,add_lit]
  ·obtain⟨g,h1,h2⟩:=heq e;simp at h2;exact⟨g,h1,by rw[h2.1,h2.2]⟩
 ·exact h.elim
theorem zJO{t:TypeId}{g:Bool}{n off:Nat}{vs:Array Value}{cs:List AV}{K:AV→Prop}(hr:All2 (ARel w G) vs.toList cs)(hg:zeo P t=some g)(hn:zaQ P t=some n)(h:zbr g n off cs K):∃u,(part t vs off).run P w=.ok u w∧∃av,TRel w G u av∧K av:=by
 cases g with
 |true=>
  obtain⟨h1,h2⟩:=h;refine⟨.agg (vs.extract off (off+n)),by simp[part,zhr hg,zby hn],.agg ((cs.drop off).take n),⟨_,rfl,?_⟩,h2⟩;have:(vs.extract off (off+n)).toList=(vs.toList.drop off).take n:=by rw[Array.toList_extract,List.extract_eq_take_drop];congr 1;omega
  rw[this];exact(hr.drop off).take n
 |false=>
  unfold zbr at h;simp only[]at h;cases hco:cs[off]? with
  |none=>rw[hco]at h;exact h.elim
  |some c=>
   rw[hco]at h;obtain⟨v,h1,h2⟩:=hr.get hco;refine⟨v,?_,c,TRel.of_v (VRel.of_a h2),h⟩;have:vs[off]?=some v:=by simpa using h1
   simp[part,zhr hg,this]
theorem zJB{s:TypeId}{i:Nat}{f:Field}{g:Bool}{n:Nat}{v:Value}{x:AV}{K:AV→Prop}(hx:TRel w G v x)(hf:zhw P s i=some f)(hg:zeo P f.type=some g)(hn:zaQ P f.type=some n)(h:zd0 g n f.offset x K):∃u,(Instr.field s v i).run P w=.ok u w∧∃av,TRel w G u av∧K av:=by
 obtain⟨fs,hu,hfs⟩:=zz3 hf;unfold zd0 at h;split at h
 ·rename_i cs;obtain⟨vs,rfl,hr⟩:=hx;obtain⟨u,h1,h2⟩:=zJO (P:=P) hr hg hn h;exact⟨u,by simp[Instr.field,zaT hu,hfs,asAgg,h1],h2⟩
 ·exact h.elim

theorem ziQ{v:Value}{es:List (List AV)}{tok:Tok}(h:TRel w G v (.sl es tok)):DRel w G.L v (.sl es .none):=by
 cases tok with
 |none=>exact h
 |full=>exact h.1
 |own id=>exact h.1

theorem zJC{t e:TypeId}{size:Nat}{v u:Value}{x i:AV}{K:AV→Prop}(hx:TRel w G v x)(hi:TRel w G u i)(he:zbe P t=some e)(hn:zaQ P e=some size)(h:zai size x i K):∃r,(Instr.indexAt t v u).run P w=.ok r w∧∃av,TRel w G r av∧K av:=by
 have hu:=zbI he;rw[zeA]at h;split at h
 ·rename_i es tok k n;obtain⟨⟨h0,hlt⟩,hsz,hk⟩:=h;cases hi;have hd:=ziQ hx;have hlt':n.toNat<es.length:=by omega
  obtain⟨b,off,cap,rfl,hcap,⟨esz,hall⟩,hel⟩:=hd.elem hlt';have hc:=hel n.toNat hlt';have hes:es.getD n.toNat []=es[n.toNat]:=by simp[List.getD_eq_getElem?_getD,hlt']
  rw[hes]at hsz hk;rw[hsz]at hc;refine⟨.pointer (some ⟨b,off+n.toNat*size,none⟩),?_,.view es[n.toNat],⟨b,_,rfl,hc⟩,hk⟩;simp[Instr.indexAt,asIntOf,zaT hu,h0,hlt,zby hn,add_lit]
 ·rename_i id off len cap k n;obtain⟨⟨h0,hlt⟩,hk⟩:=h;cases hi;obtain⟨b,hμ,rfl⟩:=hx;refine⟨.pointer (some ⟨b,off+n.toNat*size,none⟩),?_,.ptr id (off+n.toNat*size),⟨b,hμ,rfl⟩,hk⟩;simp[Instr.indexAt,asIntOf,zaT hu,h0,hlt,zby hn,add_lit]
 ·rename_i id m k n;obtain⟨⟨h0,hlt⟩,hk⟩:=h;cases hi;obtain⟨⟨a,cap,rfl,ha,_⟩,v',sz,m',hμ,hle,heq⟩:=hx;obtain⟨b,rfl⟩:=ha (by omega);refine⟨.pointer (some ⟨b,0+n.toNat*size,none⟩),?_,.vp id m (n.toNat*size),⟨⟨b,_,rfl⟩,v',sz,m',hμ,hle,λe=>?_⟩,hk⟩
  ·simp[Instr.indexAt,asIntOf,zaT hu,h0,hlt,zby hn,add_lit]
  ·rw[←heq e];exact⟨b,rfl,by simp⟩
 ·exact h.elim

theorem zJD{t:TypeId}{ar:Nat×TypeId}{size:Nat}{v u:Value}{x i:AV}{K:AV→Prop}(hx:TRel w G v x)(hi:TRel w G u i)(he:zle P t=some ar)(hn:zaQ P ar.2=some size)(h:zai size (zfV ar.1 x) i K):∃r,(Instr.indexAt t v u).run P w=.ok r w∧∃av,TRel w G r av∧K av:=by
 have hu:P.underlying t=some (.array ar.1 ar.2):=by
  unfold zle at he;cases hp:P.underlying t with
  |none=>simp[hp]at he
  |some d=>cases d <;> simp[hp]at he <;> subst he <;> rfl
 cases x with
 |ptr id off=>
  rw[zfV,zeA]at h;cases i with
  |int k n=>obtain⟨⟨h0,hlt⟩,hk⟩:=h;cases hi;obtain⟨b,hμ,rfl⟩:=hx;refine⟨.pointer (some ⟨b,off+n.toNat*size,none⟩),?_,.ptr id (off+n.toNat*size),⟨b,hμ,rfl⟩,hk⟩;simp[Instr.indexAt,Instr.sureAddr,asIntOf,zaT hu,h0,hlt,zby hn,add_lit]
  |_=>exact h.elim
 |_=>simp only[zfV]at h;rw[zeA]at h;exact h.elim

theorem ziR(s:List UInt8):(ByteArray.mk s.toArray).size=s.length:=by simp[ByteArray.size]
theorem zJ4(s:List UInt8)(i:Nat)(h:i<s.length):(ByteArray.mk s.toArray)[i]?=some s[i]:=by rw[getElem?_pos _ _ (by rw[ziR];exact h)];rfl
theorem zhv(s:List UInt8):(ByteArray.mk s.toArray).toList=s:=Go.ByteArray.toList_mk s

theorem zJE{t:TypeId}{v u:Value}{x i:AV}{K:AV→Prop}(hx:TRel w G v x)(hi:TRel w G u i)(ht:zdx P t=some 0)(h:zbC x i K):∃r,(Instr.index t v u).run P w=.ok r w∧∃av,TRel w G r av∧K av:=by
 have hu:=zrT ht;unfold zbC at h;split at h
 ·rename_i s k n;obtain⟨⟨h0,hlt⟩,hk⟩:=h;cases hi;cases hx;have hlt':n.toNat<s.length:=by omega
  have hes:s.getD n.toNat 0=s[n.toNat]:=by simp[List.getD_eq_getElem?_getD,hlt']
  rw[hes]at hk;refine⟨.int .u8 s[n.toNat].toNat,?_,.int .u8 s[n.toNat].toNat,rfl,hk⟩;simp[Instr.index,asIntOf,zaT hu,h0,zJ4 s _ hlt']
 ·exact h.elim

theorem zJF{t:TypeId}{k:Nat}{v:Value}{x:AV}{ty:TypeId}{K:AV→Prop}(hx:TRel w G v x)(ht:zdx P t=some k)(h:zah k x K):∃r,(Builtin.len_ #[t] ty #[v]).run P w=.ok r w∧∃av,TRel w G r av∧K av:=by
 rw[zFw]at h;split at h
 ·rename_i s;cases hx;exact⟨.int .i64 s.length,by simp[Builtin.len_,zaT (zrT ht),goInt,ziR],.int .i64 s.length,rfl,h⟩
 ·rename_i es tok;obtain⟨e,hu⟩:=zlq ht;obtain⟨a,cap,rfl,_⟩:=(ziQ hx).slice_form;exact⟨.int .i64 es.length,by simp[Builtin.len_,zaT hu,goInt],.int .i64 es.length,rfl,h⟩
 ·obtain⟨e,hu⟩:=zlq ht;cases hx;exact⟨.int .i64 0,by simp[Builtin.len_,zaT hu,goInt],.int .i64 0,rfl,h⟩
 ·rename_i len _;obtain⟨e,hu⟩:=zlq ht;obtain⟨b,hμ,rfl⟩:=hx;exact⟨.int .i64 len,by simp[Builtin.len_,zaT hu,goInt],.int .i64 len,rfl,h⟩
 ·rename_i _ n;obtain⟨e,hu⟩:=zlq ht;obtain⟨⟨a,cap,rfl,_⟩,_⟩:=hx;exact⟨.int .i64 n,by simp[Builtin.len_,zaT hu,goInt],.int .i64 n,rfl,h⟩
 ·exact h.elim

end
end Go.Proofs.YtaifokkaaahdoaaGreatDoor

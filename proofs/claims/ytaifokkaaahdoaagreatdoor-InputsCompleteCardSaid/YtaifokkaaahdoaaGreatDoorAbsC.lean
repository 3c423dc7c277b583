import Derived.Test.YtaifokkaaahdoaaGreatDoorAbsB
set_option linter.unusedSimpArgs false
set_option linter.unusedVariables false
set_option linter.unusedSectionVars false
set_option maxRecDepth 8000
namespace Go.Abs
open Go Go.RowKit

def zgr:Value→AV
 |.bool b=>.bool b
 |.int k n=>.int k n
 |.string s=>.str s.data.toList
 |.pointer none=>.nilp
 |.slice none 0 0=>.snil
 |.nilFunc=>.nilfn
 |.nilIface=>.nili
 |_=>.unk
def zcY:Value→AV
 |.agg cs=>.agg (cs.toList.map zgr)
 |v=>zgr v
def zbs:Value→List AV
 |.agg cs=>cs.toList.map zgr
 |v=>[zgr v]

def ev(F:List AV):Operand→AV
 |.tmp t=>F.getD t .unk
 |.const v=>zcY v
 |.global _=>.unk
 |.func f=>.fn f []

def AV.cs?:AV→Option (List AV)
 |.tup _=>none
 |.unk=>none
 |.agg cs=>some cs
 |a=>some [a]
def AV.pd:AV→Option AV
 |.bool b=>some (.bool b)
 |.int k n=>some (.int k n)
 |.str s=>some (.str s)
 |.snil=>some (.sl [] .none)
 |.sl es _=>some (.sl es .none)
 |_=>none
def plain:List AV→Option (List AV)
 |[]=>some []
 | a::asx=>match a.pd,plain asx with
  |some d,some ds=>some (d::ds)
  |_,_=>none
def AV.known:AV→Bool
 |.unk=>false
 |_=>true
def AV.isB:AV→Bool
 |.fn _ _|.agg _|.tup _=>false
 |_=>true

def aIf(b:Bool)(p q:Prop):Prop:=if b=true then p else q
def zai(c a b:AV)(K:AV→Prop):Prop:=
 match c with
 |.bool t=>K (if t=true then a else b)
 |_=>False
def zay(cs:List AV)(H:zaa)(K:AV→zaa→Prop):Prop:=K (.ptr H.length 0) (H++[.cells cs])
def zaw(x:AV)(H:zaa)(K:AV→zaa→Prop):Prop:=
 match x.cs? with
 |some cs=>K (.ptr H.length 0) (H++[.cells cs])
 |none=>False
def zbp(agg:Bool)(n off:Nat)(cs:List AV)(K:AV→Prop):Prop:=
 match agg with
 |true=>off+n≤cs.length∧K (.agg ((cs.drop off).take n))
 | false=>match cs[off]? with
  |some c=>K c
  |none=>False
def loadAt(a:AV)(H:zaa):Option (List AV×Nat):=
 match a with
 | .ptr id off=>(match H[id]? with
  |some (.cells cs)=>some (cs,off)
  |_=>none)
 |.view cs=>some (cs,0)
 | .vp id m off=>(match H[id]? with
  | some (.vec _ _ m' cs)=>(match m' == m with
   |true=>some (cs,off)
   |false=>none)
  |_=>none)
 |_=>none
def zae(agg:Bool)(n:Nat)(a:AV)(H:zaa)(K:AV→Prop):Prop:=
 match loadAt a H with
 |some p=>zbp agg n p.2 p.1 K
 |none=>False
theorem zgj(agg:Bool)(n:Nat)(a:AV)(H:zaa)(K:AV→Prop):zae agg n a H K=(match a with
  | .ptr id off=>match H[id]? with
   |some (.cells cs)=>zbp agg n off cs K
   |_=>False
  |.view cs=>zbp agg n 0 cs K
  | .vp id m off=>match H[id]? with
   |some (.vec _ _ m' cs)=>m'=m∧zbp agg n off cs K
   |_=>False
  |_=>False):=by
 cases a with
 |ptr id off=>
  simp only[zae,loadAt];cases h:H[id]? with
  |none=>rfl
  |some b=>cases b <;> rfl
 |vp id m off=>
  simp only[zae,loadAt];cases h:H[id]? with
  |none=>rfl
  |some b=>
   cases b with
   |vec e s m' cs=>
    simp only[];by_cases hm:m'=m
    ·subst hm;simp
    ·have:(m' == m)=false:=by simpa using hm
     simp[this,hm]
   |_=>rfl
 |_=>rfl
def zam(agg:Bool)(n:Nat)(a:AV)(H:zaa)(K:AV→Prop):Prop:=
 match a with
 |.vp _ _ _=>False
 |a=>zae agg n a H K
def zwK(n:Nat)(a x:AV)(H:zaa):Option zaa:=
 match x.cs? with
 | some xs=>(match xs.length == n && xs.all AV.known with
  | true=>(match a with
   | .ptr id off=>(match H[id]? with
    | some (.cells cs)=>(match decide (off+n≤cs.length) with
     |true=>some (H.set id (.cells (cs.take off++xs++cs.drop (off+n))))
     |false=>none)
    |_=>none)
   | .vp id m off=>(match H[id]? with
    | some (.vec e s m' cs)=>(match m' == m && decide (off+n≤cs.length) with
     |true=>some (H.set id (.vec e s m' (cs.take off++xs++cs.drop (off+n))))
     |false=>none)
    |_=>none)
   |_=>none)
  |false=>none)
 |none=>none
def zak(n:Nat)(a x:AV)(H:zaa)(K:zaa→Prop):Prop:=
 match zwK n a x H with
 |some H'=>K H'
 |none=>False
theorem zeU(n:Nat)(a x:AV)(H:zaa)(K:zaa→Prop):zak n a x H K=(match a,x.cs? with
  | .ptr id off,some xs=>match H[id]? with
   |some (.cells cs)=>(xs.length=n∧off+n≤cs.length∧xs.all AV.known=true)∧K (H.set id (.cells (cs.take off++xs++cs.drop (off+n))))
   |_=>False
  | .vp id m off,some xs=>match H[id]? with
   |some (.vec e s m' cs)=>(m'=m∧xs.length=n∧off+n≤cs.length∧xs.all AV.known=true)∧K (H.set id (.vec e s m' (cs.take off++xs++cs.drop (off+n))))
   |_=>False
  |_,_=>False):=by
 unfold zak zwK;cases hx:x.cs? with
 |none=>cases a <;> rfl
 |some xs=>
  simp only[];cases hk:(xs.length == n && xs.all AV.known) with
  |false=>
   have hn:¬(xs.length=n∧xs.all AV.known=true):=by intro h;rw[h.2,h.1]at hk;simp at hk
   cases a with
   |ptr id off=>
    simp only[];cases h:H[id]? with
    |none=>rfl
    |some b=>
     cases b with
     |cells cs=>simp only[];exact propext ⟨λh=>h.elim,λh=>(hn ⟨h.1.1,h.1.2.2⟩).elim⟩
     |_=>rfl
   |vp id m off=>
    simp only[];cases h:H[id]? with
    |none=>rfl
    |some b=>
     cases b with
     |vec e s m' cs=>simp only[];exact propext ⟨λh=>h.elim,λh=>(hn ⟨h.1.2.1,h.1.2.2.2⟩).elim⟩
     |_=>rfl
   |_=>rfl
  |true=>
   have hn:xs.length=n∧xs.all AV.known=true:=by rw[Bool.and_eq_true,beq_iff_eq]at hk;exact hk
   cases a with
   |ptr id off=>
    simp only[];cases h:H[id]? with
    |none=>rfl
    |some b=>
     cases b with
     |cells cs=>
      simp only[];by_cases hf:off+n≤cs.length
      ·rw[decide_eq_true hf];exact propext ⟨λh=>⟨⟨hn.1,hf,hn.2⟩,h⟩,λh=>h.2⟩
      ·rw[decide_eq_false hf];exact propext ⟨λh=>h.elim,λh=>(hf h.1.2.1).elim⟩
     |_=>rfl
   |vp id m off=>
    simp only[];cases h:H[id]? with
    |none=>rfl
    |some b=>
     cases b with
     |vec e s m' cs=>
      simp only[];by_cases hm:m'=m
      ·subst hm;by_cases hf:off+n≤cs.length
       ·rw[decide_eq_true hf,beq_self_eq_true,Bool.and_true];exact propext ⟨λh=>⟨⟨rfl,hn.1,hf,hn.2⟩,h⟩,λh=>h.2⟩
       ·rw[decide_eq_false hf,Bool.and_false];exact propext ⟨λh=>h.elim,λh=>(hf h.1.2.2.1).elim⟩
      ·have:(m' == m)=false:=by simpa using hm
       rw[this,Bool.false_and];exact propext ⟨λh=>h.elim,λh=>(hm h.1.1).elim⟩
     |_=>rfl
   |_=>rfl
def zuw(off:Nat)(a:AV):Option AV:=
 match a with
 |.ptr id o=>some (.ptr id (o+off))
 | .view cs=>(match decide (off≤cs.length) with
  |true=>some (.view (cs.drop off))
  |false=>none)
 |.vp id n o=>some (.vp id n (o+off))
 |_=>none
def zaf(off:Nat)(a:AV)(K:AV→Prop):Prop:=
 match zuw off a with
 |some v=>K v
 |none=>False
theorem ztw(off:Nat)(a:AV)(K:AV→Prop):zaf off a K=(match a with
  |.ptr id o=>K (.ptr id (o+off))
  |.view cs=>off≤cs.length∧K (.view (cs.drop off))
  |.vp id n o=>K (.vp id n (o+off))
  |_=>False):=by
 cases a with
 |view cs=>
  simp only[zaf,zuw];by_cases h:off≤cs.length
  ·simp[h]
  ·simp[h]
 |_=>rfl
def zdT(agg:Bool)(n off:Nat)(a:AV)(K:AV→Prop):Prop:=
 match a with
 |.agg cs=>zbp agg n off cs K
 |_=>False
def zjE(esz:Nat)(x i:AV):Option AV:=
 match i with
 | .int _ n=>(match x with
  | .sl es _=>(match decide (0≤n) && decide (n<es.length) && (es.getD n.toNat []).length == esz with
   |true=>some (.view (es.getD n.toNat []))
   |false=>none)
  | .ms id off len _=>(match decide (0≤n) && decide (n<len) with
   |true=>some (.ptr id (off+n.toNat*esz))
   |false=>none)
  | .ov id m=>(match decide (0≤n) && decide (n<m) with
   |true=>some (.vp id m (n.toNat*esz))
   |false=>none)
  |_=>none)
 |_=>none
def zaj(esz:Nat)(x i:AV)(K:AV→Prop):Prop:=
 match zjE esz x i with
 |some v=>K v
 |none=>False
theorem zft(esz:Nat)(x i:AV)(K:AV→Prop):zaj esz x i K=(match x,i with
  |.sl es _,.int _ n=>(0≤n∧n<es.length)∧((es.getD n.toNat []).length=esz∧K (.view (es.getD n.toNat [])))
  |.ms id off len _,.int _ n=>(0≤n∧n<len)∧K (.ptr id (off+n.toNat*esz))
  |.ov id m,.int _ n=>(0≤n∧n<m)∧K (.vp id m (n.toNat*esz))
  |_,_=>False):=by
 cases i with
 |int k n=>
  cases x with
  |sl es tok=>
   simp only[zaj,zjE];by_cases h1:0≤n
   ·by_cases h2:n<es.length
    ·by_cases h3:(es.getD n.toNat []).length=esz
     ·simp only[decide_eq_true h1,decide_eq_true h2,beq_iff_eq.2 h3,Bool.and_self];exact propext ⟨λh=>⟨⟨h1,h2⟩,h3,h⟩,λh=>h.2.2⟩
     ·simp only[beq_eq_false_iff_ne.2 h3,Bool.and_false];exact propext ⟨λh=>h.elim,λh=>(h3 h.2.1).elim⟩
    ·simp only[decide_eq_false h2,Bool.and_false,Bool.false_and];exact propext ⟨λh=>h.elim,λh=>(h2 h.1.2).elim⟩
   ·simp only[decide_eq_false h1,Bool.false_and];exact propext ⟨λh=>h.elim,λh=>(h1 h.1.1).elim⟩
  |ms id off len cap=>
   simp only[zaj,zjE];by_cases h1:0≤n
   ·by_cases h2:n<len
    ·simp only[decide_eq_true h1,decide_eq_true h2,Bool.and_self];exact propext ⟨λh=>⟨⟨h1,h2⟩,h⟩,λh=>h.2⟩
    ·simp only[decide_eq_false h2,Bool.and_false];exact propext ⟨λh=>h.elim,λh=>(h2 h.1.2).elim⟩
   ·simp only[decide_eq_false h1,Bool.false_and];exact propext ⟨λh=>h.elim,λh=>(h1 h.1.1).elim⟩
  |ov id m=>
   simp only[zaj,zjE];by_cases h1:0≤n
   ·by_cases h2:n<m
    ·simp only[decide_eq_true h1,decide_eq_true h2,Bool.and_self];exact propext ⟨λh=>⟨⟨h1,h2⟩,h⟩,λh=>h.2⟩
    ·simp only[decide_eq_false h2,Bool.and_false];exact propext ⟨λh=>h.elim,λh=>(h2 h.1.2).elim⟩
   ·simp only[decide_eq_false h1,Bool.false_and];exact propext ⟨λh=>h.elim,λh=>(h1 h.1.1).elim⟩
  |_=>rfl
 |_=>cases x <;> rfl
def zbA(x i:AV)(K:AV→Prop):Prop:=
 match x,i with
 |.str s,.int _ n=>(0≤n∧n<s.length)∧K (.int .u8 (s.getD n.toNat 0).toNat)
 |_,_=>False
def lenOf(u:Nat)(x:AV):Option Int:=
 match u with
 | 0=>(match x with
  |.str s=>some s.length
  |_=>none)
 | 1=>(match x with
  |.sl es _=>some es.length
  |.snil=>some 0
  |.ms _ _ len _=>some len
  |.ov _ n=>some n
  |_=>none)
 |_=>none
def zah(u:Nat)(x:AV)(K:AV→Prop):Prop:=
 match lenOf u x with
 |some n=>K (.int .i64 n)
 |none=>False
theorem zBG(u:Nat)(x:AV)(K:AV→Prop):zah u x K=(match u,x with
  |0,.str s=>K (.int .i64 s.length)
  |1,.sl es _=>K (.int .i64 es.length)
  |1,.snil=>K (.int .i64 0)
  |1,.ms _ _ len _=>K (.int .i64 len)
  |1,.ov _ n=>K (.int .i64 n)
  |_,_=>False):=by
 unfold zah lenOf
 match u with
 |0=>cases x <;> rfl
 |1=>cases x <;> rfl
 |_+2=>cases x <;> rfl
def zbC(x:Option AV)(d:Nat)(K:Nat→Prop):Prop:=
 match x with
 |none=>K d
 |some (.int _ n)=>0≤n∧K n.toNat
 |_=>False
def za7(u esz:Nat)(x:AV)(lo hi:Option AV)(K:AV→Prop):Prop:=
 match u,x with
 |0,.str s=>zbC hi s.length λh=>zbC lo 0 λl=>(l≤h∧h≤s.length)∧K (.str ((s.take h).drop l))
 |1,.sl es _=>zbC hi es.length λh=>zbC lo 0 λl=>(l≤h∧h≤es.length∧∀c∈es,c.length=esz)∧K (.sl ((es.take h).drop l) .none)
 |1,.snil=>zbC hi 0 λh=>zbC lo 0 λl=>(l≤h∧h≤0)∧K .snil
 |1,.ov id n=>zbC hi n λh=>zbC lo 0 λl=>(l≤h∧h=n)∧K (.os id n l esz)
 |1,.ms id off len cap=>zbC hi len λh=>zbC lo 0 λl=>(l≤h∧h≤cap)∧K (.ms id (if cap=l then off else off+l*esz) (h-l) (cap-l))
 |_,_=>False
def zjl(op:BinOp)(b:Bool)(x y:AV):Option AV:=
 match x with
 | .int k m=>(match y with
  | .int k' n=>(match decide (k=k') with
   | true=>(match op with
    |.add=>some (.int k (k.wrap (m+n)))
    |.sub=>some (.int k (k.wrap (m-n)))
    |.mul=>some (.int k (k.wrap (m*n)))
    | .quo=>(match n == 0 with
     |true=>none
     |false=>some (.int k (k.wrap (m.tdiv n))))
    | .rem=>(match n == 0 with
     |true=>none
     |false=>some (.int k (m.tmod n)))
    |.eql=>some (.bool (m == n))
    |.neq=>some (.bool (m != n))
    |.lss=>some (.bool (decide (m<n)))
    |.leq=>some (.bool (decide (m≤n)))
    |.gtr=>some (.bool (decide (m>n)))
    |.geq=>some (.bool (decide (m≥n)))
    |_=>none)
   |false=>none)
  |_=>none)
 | .str s=>(match y with
  | .str t=>(match op with
   | .add=>(match decide (s.length+t.length≤9223372036854775807) with
    |true=>some (.str (s++t))
    |false=>none)
   |.eql=>some (.bool (s == t))
   |.neq=>some (.bool (!(s == t)))
   |.lss=>some (.bool (Op.bytesLess s t))
   |.leq=>some (.bool (Op.bytesLess s t || s == t))
   |.gtr=>some (.bool (!(Op.bytesLess s t || s == t)))
   |.geq=>some (.bool (!Op.bytesLess s t))
   |_=>none)
  |_=>none)
 | .bool m=>(match y with
  | .bool n=>(match b with
   | true=>(match op with
    |.eql=>some (.bool (m == n))
    |.neq=>some (.bool (!(m == n)))
    |_=>none)
   |false=>none)
  |_=>none)
 |_=>none
def zac(op:BinOp)(b:Bool)(x y:AV)(K:AV→Prop):Prop:=
 match zjl op b x y with
 |some v=>K v
 |none=>False
theorem zca(op:BinOp)(b:Bool)(x y:AV)(K:AV→Prop):zac op b x y K=(match x,y with
  | .int k m,.int k' n=>k=k'∧(match op with
   |.add=>K (.int k (k.wrap (m+n)))
   |.sub=>K (.int k (k.wrap (m-n)))
   |.mul=>K (.int k (k.wrap (m*n)))
   |.quo=>n≠0∧K (.int k (k.wrap (m.tdiv n)))
   |.rem=>n≠0∧K (.int k (m.tmod n))
   |.eql=>K (.bool (m == n))
   |.neq=>K (.bool (m != n))
   |.lss=>K (.bool (decide (m<n)))
   |.leq=>K (.bool (decide (m≤n)))
   |.gtr=>K (.bool (decide (m>n)))
   |.geq=>K (.bool (decide (m≥n)))
   |_=>False)
  | .str s,.str t=>(match op with
   |.add=>s.length+t.length≤9223372036854775807∧K (.str (s++t))
   |.eql=>K (.bool (s == t))
   |.neq=>K (.bool (!(s == t)))
   |.lss=>K (.bool (Op.bytesLess s t))
   |.leq=>K (.bool (Op.bytesLess s t || s == t))
   |.gtr=>K (.bool (!(Op.bytesLess s t || s == t)))
   |.geq=>K (.bool (!Op.bytesLess s t))
   |_=>False)
  | .bool m,.bool n=>b=true∧(match op with
   |.eql=>K (.bool (m == n))
   |.neq=>K (.bool (!(m == n)))
   |_=>False)
  |_,_=>False):=by
 cases x with
 |int k m=>
  cases y with
  |int k' n=>
   simp only[zac,zjl];by_cases hk:k=k'
   ·subst hk;simp only[decide_true,true_and];cases op with
    |quo=>
     by_cases h0:n=0
     ·subst h0;simp
     ·have:(n == 0)=false:=by simpa using h0
      simp[this,h0]
    |rem=>
     by_cases h0:n=0
     ·subst h0;simp
     ·have:(n == 0)=false:=by simpa using h0
      simp[this,h0]
    |_=>rfl
   ·simp only[decide_eq_false hk];exact propext ⟨λh=>h.elim,λh=>(hk h.1).elim⟩
  |_=>rfl
 |str s=>
  cases y with
  |str t=>
   simp only[zac,zjl];cases op with
   |add=>
    simp only[];by_cases h:s.length+t.length≤9223372036854775807
    ·simp only[decide_eq_true h];exact propext ⟨λh2=>⟨h,h2⟩,λh=>h.2⟩
    ·simp only[decide_eq_false h];exact propext ⟨λh=>h.elim,λh2=>(h h2.1).elim⟩
   |_=>rfl
  |_=>rfl
 |bool m=>
  cases y with
  |bool n=>
   simp only[zac,zjl];cases b with
   |true=>cases op <;> exact propext ⟨λh=>⟨rfl,h⟩,λh=>h.2⟩
   |false=>exact propext ⟨λh=>h.elim,λh=>by cases h.1⟩
  |_=>rfl
 |_=>cases y <;> rfl
def zcM(ok:Bool)(op:BinOp)(x:AV)(K:AV→Prop):Prop:=
 ok=true∧(match x with
  | .nili=>(match op with
   |.eql=>K (.bool true)
   |.neq=>K (.bool false)
   |_=>False)
  | .ifc=>(match op with
   |.eql=>K (.bool false)
   |.neq=>K (.bool true)
   |_=>False)
  |_=>False)
def zos:Operand→Bool
 |.const .nilIface=>true
 |_=>false
def aUn(op:UnOp)(x:AV)(K:AV→Prop):Prop:=
 match op,x with
 |.not,.bool b=>K (.bool (!b))
 |.neg,.int k n=>K (.int k (k.wrap (0-n)))
 |_,_=>False
def zbJ(k:IntKind)(x:AV)(K:AV→Prop):Prop:=
 match x with
 |.int _ n=>K (.int k (k.wrap n))
 |_=>False
def zdS(x:AV)(K:AV→Prop):Prop:=
 match x with
 |.str s=>K (.str s)
 |_=>False
def zho:List (List AV)→Option (List UInt8)
 |[]=>some []
 | [.int .u8 n]::es=>(match zho es with
  |some s=>some (UInt8.ofNat n.toNat::s)
  |none=>none)
 |_=>none
def zfs(x:AV)(K:AV→Prop):Prop:=
 match x with
 | .sl es _=>(match zho es with
  |some s=>K (.str s)
  |none=>False)
 |.snil=>K (.str [])
 |_=>False
def zaN(x:AV)(i:Nat)(K:AV→Prop):Prop:=
 match x with
 | .tup vs=>(match vs[i]? with
  |some v=>K v
  |none=>False)
 |_=>False
def zcb(f:Nat)(caps:List AV)(K:AV→Prop):Prop:=caps.all AV.isB=true∧K (.fn f caps)
def zvI(x:AV):Option AV:=
 match x with
 |.ptr _ _|.view _|.fn _ _|.vp _ _ _=>some x
 |_=>none
def zaG(x:AV)(K:AV→Prop):Prop:=
 match zvI x with
 |some v=>K v
 |none=>False
theorem zBJ(x:AV)(K:AV→Prop):zaG x K=(match x with
  |.ptr _ _|.view _|.fn _ _|.vp _ _ _=>K x
  |_=>False):=by
 unfold zaG zvI;cases x <;> rfl
def zaM(places:List (Nat × Nat)):List (Nat × AV)→List AV→Option (List AV)
 |[],cs=>some cs
 | (i,x)::rest,cs=>match places[i]?,x.cs? with
  | some (off,size),some xs=>match xs.length == size && decide (off+size≤cs.length) with
   |true=>zaM places rest (cs.take off++xs++cs.drop (off+size))
   |false=>none
  |_,_=>none
def zao(zero:List AV)(places:List (Nat×Nat))(parts:List (Nat×AV))(K:AV→Prop):Prop:=
 match zaM places parts zero with
 |some cs=>K (.agg cs)
 |none=>False
def zbh(esz:Nat):List (Nat × AV)→List (List AV)→Option (List (List AV))
 |[],es=>some es
 | (i,x)::rest,es=>match x.cs? with
  | some xs=>match plain xs with
   | some ds=>match ds.length == esz && decide (i<es.length) with
    |true=>zbh esz rest (es.set i ds)
    |false=>none
   |none=>none
  |none=>none
def zas(esz:Nat)(zero:List AV)(len:Nat)(parts:List (Nat×AV))(K:AV→Prop):Prop:=
 match plain zero with
 | some z=>(match zbh esz parts (List.replicate len z) with
  |some es=>K (.sl es .full)
  |none=>False)
 |none=>False
def zbu(bytes:Nat)(zero:List AV)(len cap:AV)(H:zaa)(K:AV→zaa→Prop):Prop:=
 match len,cap with
 | .int .i64 l,.int .i64 c=>(0≤l∧l≤c∧c*bytes≤140737488355328∧c≤9223372036854775807) ∧
   K (.ms H.length 0 l.toNat c.toNat) (H++[.cells (List.replicate c.toNat zero).flatten])
 |_,_=>False
def zbY:List (List UInt8 × AV)→List UInt8→Option AV
 |[],_=>none
 | p::l,s=>match p.1 == s with
  |true=>some p.2
  |false=>zbY l s
def zcP:List (List UInt8 × AV)→List UInt8→AV→List (List UInt8 × AV)
 |[],s,x=>[(s,x)]
 | p::l,s,x=>match p.1 == s with
  |true=>(s,x)::l
  |false=>p::zcP l s x
def zdU(H:zaa)(K:AV→zaa→Prop):Prop:=K (.map H.length) (H++[.map []])
def zdC(zero:AV)(ok:Bool)(m k:AV)(H:zaa)(K:AV→Prop):Prop:=
 match m,k with
 | .map id,.str s=>match H[id]? with
  | some (.map kvs)=>K (match ok with
   |true=>.tup [(zbY kvs s).getD zero,.bool (zbY kvs s).isSome]
   |false=>(zbY kvs s).getD zero)
  |_=>False
 |_,_=>False
def zcL(m k x:AV)(H:zaa)(K:zaa→Prop):Prop:=
 match m,k with
 | .map id,.str s=>match H[id]? with
  | some (.map kvs)=>(match x with
   |.tup _=>False
   |x=>K (H.set id (.map (zcP kvs s x))))
  |_=>False
 |_,_=>False
def zb9:List ((Int × Int) × AV)→Int × Int→Option AV
 |[],_=>none
 | p::l,s=>match p.1 == s with
  |true=>some p.2
  |false=>zb9 l s
def zcG:List ((Int × Int) × AV)→Int × Int→AV→List ((Int × Int) × AV)
 |[],s,x=>[(s,x)]
 | p::l,s,x=>match p.1 == s with
  |true=>(s,x)::l
  |false=>p::zcG l s x
def zeq(H:zaa)(K:AV→zaa→Prop):Prop:=K (.map H.length) (H++[.mapP []])
def zeo(zero:AV)(ok:Bool)(m k:AV)(H:zaa)(K:AV→Prop):Prop:=
 match m,k with
 | .map id,.agg [.int .i64 a,.int .i64 b]=>match H[id]? with
  | some (.mapP kvs)=>K (match ok with
   |true=>.tup [(zb9 kvs (a,b)).getD zero,.bool (zb9 kvs (a,b)).isSome]
   |false=>(zb9 kvs (a,b)).getD zero)
  |_=>False
 |_,_=>False
def zdg(m k x:AV)(H:zaa)(K:zaa→Prop):Prop:=
 match m,k with
 | .map id,.agg [.int .i64 a,.int .i64 b]=>match H[id]? with
  | some (.mapP kvs)=>(match x with
   |.tup _=>False
   |x=>K (H.set id (.mapP (zcG kvs (a,b) x))))
  |_=>False
 |_,_=>False
def zbc(y:AV)(K:List (List AV)→Prop):Prop:=
 match y with
 |.sl ys _=>K ys
 |.snil=>K []
 |_=>False
def za2(e size bytes:Nat)(x:AV)(ys:List (List AV))(H:zaa)(K:AV→zaa→Prop):Prop:=
 match x with
 |.snil=>(ys.length*bytes≤140737488355328∧ys.length≤9223372036854775807)∧K (.sl ys (.own H.length)) (H++[.perm e size ys.length])
 | .sl es (.own id)=>H[id]?=some (.perm e size es.length)∧((es.length+ys.length)*bytes≤140737488355328∧es.length+ys.length≤9223372036854775807) ∧
   K (.sl (es++ys) (.own id)) (H.set id (.perm e size (es.length+ys.length)))
 | .ov id n=>(match H[id]? with
  |some (.vec e' s' n' cs)=>((e'=e∧s'=size∧n'=n)∧(n+ys.length)*bytes≤140737488355328∧n+ys.length≤9223372036854775807)∧K (.ov id (n+ys.length)) (H.set id (.vec e size (n+ys.length) (cs++ys.flatten)))
  |_=>False)
 | .sl es .full=>(match ys with
  |[]=>K (.sl es .full) H
  |y::ys=>(0<(y::ys).length∧(∀c∈es,c.length=size)∧(es.length+(y::ys).length)*bytes≤140737488355328∧es.length+(y::ys).length≤9223372036854775807)∧K (.sl (es++y::ys) (.own H.length)) (H++[.perm e size (es.length+(y::ys).length)]))
 |_=>False
def zem(e size bytes:Nat)(x:AV)(m:Nat)(ds:List AV)(H:zaa)(K:AV→zaa→Prop):Prop:=
 match x with
 | .ov id n=>(match H[id]? with
  |some (.vec e' s' n' cs)=>((e'=e∧s'=size∧n'=n)∧ds.all AV.known=true∧ds.length=m*size∧(n+m)*bytes≤140737488355328∧n+m≤9223372036854775807)∧K (.ov id (n+m)) (H.set id (.vec e size (n+m) (cs++ds)))
  |_=>False)
 | .sl [] .full=>(match m with
  |0=>K (.sl [] .none) H
  |m'+1=>(ds.all AV.known=true∧ds.length=(m'+1)*size∧(m'+1)*bytes≤140737488355328∧m'+1≤9223372036854775807)∧K (.ov H.length (m'+1)) (H++[.vec e size (m'+1) ds]))
 | .snil=>(match m with
  |0=>False
  |m'+1=>(ds.all AV.known=true∧ds.length=(m'+1)*size∧(m'+1)*bytes≤140737488355328∧m'+1≤9223372036854775807)∧K (.ov H.length (m'+1)) (H++[.vec e size (m'+1) ds]))
 |_=>False
def zax(e size bytes:Nat)(x y:AV)(H:zaa)(K:AV→zaa→Prop):Prop:=
 match y with
 | .ms id off len _=>(match H[id]? with
  |some (.cells cs)=>off+len*size≤cs.length∧zem e size bytes x len ((cs.drop off).take (len*size)) H K
  |_=>False)
 | .ov id n=>(match H[id]? with
  |some (.vec _ s' n' cs)=>(s'=size∧n'=n)∧zem e size bytes x n cs H K
  |_=>False)
 |y=>zbc y λys=>(∀c∈ys,c.length=size)∧za2 e size bytes x ys H K

def ACalls(P:Program)(f:FuncId)(args:List AV)(H:zaa)(K:AV→zaa→Prop):Prop:=
 ∀ (B:Nat) (w:World) (G:Gh) (vs:Array Value),HRel B w G H→All2 (TRel w G) vs.toList args →
  Calls P f vs w λe w'=>∃v r H' G',e=.returned v∧Ext B w G w' G'∧HRel B w' G' H'∧TRel w' G' v r∧K r H'

def zaP(P:Program)(t:TypeId):Option Nat:=(P.info? t).map (·.size)
def zcJ(P:Program)(t:TypeId):Option Nat:=(P.info? t).map (·.bytes)
def zbn(P:Program)(t:TypeId):Option Value:=(P.info? t).bind (·.zero)
def zec(P:Program)(t:TypeId):Option Bool:=(P.underlying t).map λ| .struct _|.array _ _=>true|_=>false
def zdx(P:Program)(t:TypeId):Option Nat:=(P.underlying t).bind λ| .string=>some 0|.slice _=>some 1|_=>none
def zbf(P:Program)(t:TypeId):Option TypeId:=(P.underlying t).bind λ| .slice e=>some e|_=>none
def zp0(P:Program)(t:TypeId):Bool:=match P.underlying t with|some (.interface _)=>true|_=>false
def zGd(P:Program)(t:TypeId):Bool:=match P.underlying t with
 | some (.struct fs)=>(match fs.toList with
  | [f0,_]=>(match P.underlying f0.type with
   |some (.pointer e)=>e == t
   |_=>false)
  |_=>false)
 |_=>false
def tU8(P:Program)(t:TypeId):Bool:=match P.underlying t with|some (.int .u8)=>true|_=>false
inductive CvK where
 |ints (k:IntKind)
 |strs
 |bytes
def cvK(P:Program)(s t:TypeId):Option CvK:=
 match P.underlying s with
 | some (.int _)=>(match P.underlying t with
  |some (.int k)=>some (.ints k)
  |_=>none)
 | some .string=>(match P.underlying t with
  |some .string=>some .strs
  |_=>none)
 | some (.slice e)=>(match P.underlying t with
  | some .string=>(match tU8 P e with
   |true=>some .bytes
   |false=>none)
  |_=>none)
 |_=>none
def zpZ(P:Program)(t:TypeId):Bool:=match P.underlying t with|some .bool=>true|_=>false
def zgS(P:Program)(t:TypeId)(i:Nat):Option Field:=(P.underlying t).bind λ| .struct fs=>fs[i]?|_=>none
def zp1(P:Program)(t:TypeId):Option (List (Nat × Nat)):=(P.underlying t).bind fun
 |.struct fs=>fs.toList.mapM λf=>(zaP P f.type).map λs=>(f.offset,s)
 |.array n e=>(zaP P e).map λs=>(List.range n).map λi=>(i*s,s)
 |_=>none
def zkK(P:Program)(t:TypeId):Option (Nat×TypeId):=(P.underlying t).bind λ| .array n e=>some (n,e)|_=>none
def zfy(n:Nat):AV→AV
 |.ptr id off=>.ms id off n n
 |_=>.unk
def zeH(P:Program)(t:TypeId):Option TypeId:=(P.underlying t).bind fun
 | .map k e=>(match P.underlying k with
  | some (.array 2 i)=>(match P.underlying i,zaP P i with
   |some (.int .i64),some 1=>some e
   |_,_=>none)
  |_=>none)
 |_=>none
def zeI(P:Program)(t:TypeId):Option TypeId:=(P.underlying t).bind fun
 | .map k e=>(match P.underlying k with
  |some .string=>some e
  |_=>none)
 |_=>none
def zdD(P:Program)(f:FuncId):Bool:=
 match P.funcs[f]? with
 | some fn => !(fn.name == "runtime.NumGoroutine") && fn.body.isSome
 |none=>false

def aCallV(P:Program)(g:AV)(args:List AV)(H:zaa)(K:AV→zaa→Prop):Prop:=
 match g with
 | .fn f caps=>(match zdD P f with
  |true=>ACalls P f (args++caps) H K
  |false=>False)
 |_=>False

def zhh(x y:AV)(K:AV→Prop):Prop:=
 match x,y with
 |.int k m,.int _ n=>K (.int k (if n>m then n else m))
 |_,_=>False
def zhi(x y:AV)(K:AV→Prop):Prop:=
 match x,y with
 |.int k m,.int _ n=>K (.int k (if n<m then n else m))
 |_,_=>False
def zcO(cs:List AV)(off:Nat)(ds:List AV):List AV:=cs.take off++ds++cs.drop (off+ds.length)
def zgf(size:Nat)(x y:AV)(H:zaa)(K:AV→zaa→Prop):Prop:=
 match x,y with
 | .os id n lo z,.os id' n' lo' z'=>(match H[id]? with
  | some (.vec e s m cs)=>(((id'=id∧n'=n∧m=n)∧z=size∧z'=size∧s=size)∧cs.all AV.known=true) ∧
    K (.int .i64 ((min (n-lo') (n-lo):Nat):Int)) (H.set id (.vec e s m (zcO cs (lo*size) ((cs.drop (lo'*size)).take (min (n-lo') (n-lo)*size)))))
  |_=>False)
 | .ms id off len _,.sl es _=>(match H[id]? with
  | some (.cells cs)=>((off+min es.length len*size≤cs.length∧∀ c∈es,c.length=size)∧es.flatten.all AV.known=true) ∧
    K (.int .i64 ((min es.length len:Nat):Int)) (H.set id (.cells (zcO cs off (es.flatten.take (min es.length len*size)))))
  |_=>False)
 |_,_=>False
def zeT(P:Program)(b:Builtin)(c:Call)(F:List AV)(H:zaa)(K:AV→zaa→Prop):Prop:=
 match b with
 | .len=>(match c.args.toList,c.argTypes.toList with
  | [x],[t]=>(match zdx P t with
   |some u=>zah u (ev F x) (K · H)
   |none=>False)
  |_,_=>False)
 | .append=>(match c.args.toList,c.argTypes.toList with
  | [x,y],[t,t']=>(match zbf P t,(zbf P t).bind (zaP P),(zbf P t).bind (zcJ P),(zbf P t).bind (zbn P),t == t' with
   | some e,some size,some bytes,some z,true=>(match decide (0<size) && (zbs z).length == size with
    |true=>zax e size bytes (ev F x) (ev F y) H K
    |false=>False)
   |_,_,_,_,_=>False)
  |_,_=>False)
 | .max=>(match c.args.toList with
  |[x,y]=>zhh (ev F x) (ev F y) (K · H)
  |_=>False)
 | .min=>(match c.args.toList with
  |[x,y]=>zhi (ev F x) (ev F y) (K · H)
  |_=>False)
 | .copy=>(match c.args.toList,c.argTypes.toList with
  | [x,y],[t,_]=>(match (zbf P t).bind (zaP P) with
   |some size=>zgf size (ev F x) (ev F y) H K
   |none=>False)
  |_,_=>False)
 |_=>False

def zeW(P:Program)(op:Op)(F:List AV)(H:zaa)(K:AV→zaa→Prop):Prop:=
 match op with
 | .makeMap t r=>(match r,zeI P t,zeH P t with
  |none,some _,_=>zdU H K
  |none,none,some _=>zeq H K
  |_,_,_=>False)
 | .lookup t x i ok=>(match (zeI P t).bind (zbn P),(zeH P t).bind (zbn P) with
  |some z,_=>zdC (zcY z) ok (ev F x) (ev F i) H (K · H)
  |none,some z=>zeo (zcY z) ok (ev F x) (ev F i) H (K · H)
  |none,none=>False)
 | .mapUpdate t m k x=>(match zeI P t,zeH P t with
  |some _,_=>zcL (ev F m) (ev F k) (ev F x) H (K (.tup []))
  |none,some _=>zdg (ev F m) (ev F k) (ev F x) H (K (.tup []))
  |none,none=>False)
 | .insert t m k x=>(match zeI P t,zeH P t with
  |some _,_=>zcL (ev F m) (ev F k) (ev F x) H (K (.tup []))
  |none,some _=>zdg (ev F m) (ev F k) (ev F x) H (K (.tup []))
  |none,none=>False)
 |_=>False

def zdi(P:Program)(o:Oper)(F:List AV)(H:zaa)(K:AV→zaa→Prop):Prop:=
 match o.op with
 |.move x|.assign x=>K (ev F x) H
 |.pick c a b=>zai (ev F c) (ev F a) (ev F b) (K · H)
 | .alloc t=>(match zbn P t with
  |some z=>zay (zbs z) H K
  |none=>False)
 |.box _ x=>zaw (ev F x) H K
 | .build t parts=>(match zbn P t,zp1 P t with
  |some z,some ps=>zao (zbs z) ps (parts.toList.map λp=>(p.1,ev F p.2)) (K · H)
  |_,_=>False)
 | .buildSlice t len parts=>(match (zbf P t).bind (zaP P),(zbf P t).bind (zbn P) with
  | some size,some z=>(match decide (0<size) && decide (len*size≤16777216) && (zbs z).length == size with
   |true=>zas size (zbs z) len (parts.toList.map λp=>(p.1,ev F p.2)) (K · H)
   |false=>False)
  |_,_=>False)
 | .load t a=>(match zec P t,zaP P t with
  |some g,some n=>zae g n (ev F a) H (K · H)
  |_,_=>False)
 | .store t a x=>(match zaP P t with
  |some n=>zak n (ev F a) (ev F x) H (K (.tup []))
  |none=>False)
 |.nilCheck x=>zaG (ev F x) (K · H)
 | .binOp op t x y _=>(match zos y with
  |true=>zcM (zp0 P t) op (ev F x) (K · H)
  |false=>zac op (zpZ P t) (ev F x) (ev F y) (K · H))
 |.unOp op _ x=>aUn op (ev F x) (K · H)
 | .convert s t x=>(match cvK P s t with
  |some (.ints k)=>zbJ k (ev F x) (K · H)
  |some .strs=>zdS (ev F x) (K · H)
  |some .bytes=>zfs (ev F x) (K · H)
  |none=>False)
 | .makeFunc (.func f) first caps=>(match first.toList with
  |[]=>zcb f (caps.toList.map (ev F)) (K · H)
  |_=>False)
 | .makeSlice t l c=>(match (zbf P t).bind (zaP P),(zbf P t).bind (zcJ P),(zbf P t).bind (zbn P) with
  | some size,some bytes,some z=>(match decide (0<size) && (zbs z).length == size with
   |true=>zbu bytes (zbs z) (ev F l) (ev F c) H K
   |false=>False)
  |_,_,_=>False)
 | .slice t x lo hi none=>(match zdx P t with
  |some 0=>za7 0 0 (ev F x) (lo.map (ev F)) (hi.map (ev F)) (K · H)
  | some 1=>(match (zbf P t).bind (zaP P) with
   |some size=>za7 1 size (ev F x) (lo.map (ev F)) (hi.map (ev F)) (K · H)
   |none=>False)
  |_=>False)
 | .fieldAddr s x i=>(match zgS P s i with
  | some f=>(match zaP P f.type with
   |some (_+1)=>zaf f.offset (ev F x) (K · H)
   |_=>False)
  |none=>False)
 | .field s x i=>(match zgS P s i with
  | some f=>(match zec P f.type,zaP P f.type with
   |some g,some n=>zdT g n f.offset (ev F x) (K · H)
   |_,_=>False)
  |none=>False)
 | .indexAddr t x i=>(match (zbf P t).bind (zaP P),zkK P t,(zkK P t).bind (λa=>zaP P a.2) with
  |some size,_,_=>zaj size (ev F x) (ev F i) (K · H)
  |none,some a,some size=>zaj size (zfy a.1 (ev F x)) (ev F i) (K · H)
  |_,_,_=>False)
 | .index t x i=>(match zdx P t with
  |some 0=>zbA (ev F x) (ev F i) (K · H)
  |_=>False)
 |.extract x i=>zaN (ev F x) i (K · H)
 | .call c=>(match c.callee with
  |.value f=>aCallV P (ev F f) (c.args.toList.map (ev F)) H K
  |.builtin b=>zeT P b c F H K
  |.invoke _ _=>False)
 |_=>False
def isM:Op→Bool
 |.makeMap _ _|.lookup _ _ _ _|.mapUpdate _ _ _ _|.insert _ _ _ _=>true
 |_=>false
def aop(P:Program)(o:Oper)(F:List AV)(H:zaa)(K:AV→zaa→Prop):Prop:=
 match isM o.op with
 |true=>zeW P o.op F H K
 |false=>zdi P o F H K

def zjd(fl:Bool)(agg:Bool)(n:Nat)(a:AV)(H:zaa)(K:AV→Prop):Prop:=
 match fl with
 |false=>zam agg n a H K
 |true=>zae agg n a H K
def zbi(fl:Bool)(P:Program)(o:Oper)(F:List AV)(H:zaa)(K:AV→zaa→Prop):Prop:=
 match o.op with
 | .load t a=>(match zec P t,zaP P t with
  |some g,some n=>zjd fl g n (ev F a) H (K · H)
  |_,_=>False)
 |_=>aop P o F H K
def zdf(g:AV)(want:Bool)(p q:Prop):Prop:=
 match g with
 |.bool b=>aIf (b == want) p q
 |.tup []=>q
 |_=>False
def zab(g:AV)(want:Bool)(H:zaa)(p:(AV→zaa→Prop)→Prop)(J:AV→zaa→Prop):Prop:=zdf g want (p J) (J (.tup []) H)
def zad(H:zaa)(p:(AV→zaa→Prop)→Prop)(K:AV→Prop):Prop:=∃r,(p λv H'=>v=r∧H'=H)∧K r
def zaQ(H:zaa)(p:zaa→(AV→zaa→Prop)→Prop)(K:AV→Prop):Prop:=∃r,(∀J:zaa,p (H++J) λv H'=>v=r∧H'=H++J)∧K r
def zag(c:AV)(p q:Prop):Prop:=
 match c with
 |.bool t=>aIf t p q
 |_=>False

def zbB(F:List AV)(d:Option Tmp)(v:AV):List AV:=
 match d with
 |some d=>F.set d v
 |none=>F

def zBI(t:TypeId)(cs:List AV)(H:zaa)(K:AV→zaa→Prop):Prop:=K (.ptr H.length 0) (H++[.bld t cs])
def zhn(P:Program)(o:Oper)(F:List AV)(H:zaa)(K:AV→zaa→Prop):Prop:=
 match o.op with
 | .alloc t=>(match zGd P t with
  | true=>(match zbn P t with
   |some z=>zBI t (zbs z) H K
   |none=>False)
  |false=>aop P o F H K)
 |_=>aop P o F H K
def AV.oneK:AV→Bool
 |.unk|.agg _|.tup _=>false
 |_=>true
def znE(e:TypeId)(size len:Nat)(parts:List (Nat×AV))(H:zaa)(K:AV→zaa→Prop):Prop:=
 match size,len,parts with
 |1,1,[(0,x)]=>x.oneK=true∧K (.ov H.length 1) (H++[.vec e 1 1 [x]])
 |2,1,[(0,.agg [x,y])]=>(x.oneK=true∧y.oneK=true)∧K (.ov H.length 1) (H++[.vec e 2 1 [x,y]])
 |_,_,_=>False
def zjG(x:AV)(K:Bool→Prop):Prop:=
 match x with
 |.snil=>K true
 |.ms _ _ _ _=>K false
 |.ov _ (_+1)=>K false
 |.sl (_::_) .none=>K false
 |.sl [] .none=>K true∧K false
 |_=>False
def zty(ok:Bool)(op:BinOp)(x:AV)(K:AV→Prop):Prop:=
 ok=true∧(match op with
 |.eql=>zjG x λb=>K (.bool b)
 |.neq=>zjG x λb=>K (.bool (!b))
 |_=>False)
def zot:Operand→Bool
 |.const (.slice none 0 0)=>true
 |_=>false
def zp2(P:Program)(t:TypeId):Bool:=match P.underlying t with|some (.slice _)=>true|_=>false
def zu5:Operand→Bool
 |.const (.int .i64 (.ofNat 0))=>true
 |_=>false
def zep(e size bytes:Nat)(cap:AV)(H:zaa)(K:AV→zaa→Prop):Prop:=
 match cap with
 |.int .i64 c=>(0≤c∧c*bytes≤140737488355328∧c≤9223372036854775807)∧K (.ov H.length 0) (H++[.vec e size 0 []])
 |_=>False
def znF(size:Nat)(x hi:AV)(H:zaa)(K:AV→zaa→Prop):Prop:=
 match x with
 | .ov id n=>(match H[id]?,hi with
  |some (.vec e s n' cs),.int _ k=>((s=size∧n'=n)∧0≤k∧k≤n)∧K (.ov H.length k.toNat) (H.set id .dead++[.vec e s k.toNat (cs.take (k.toNat*s))])
  |_,_=>False)
 |x=>za7 1 size x none (some hi) (K · H)
def znM(P:Program)(o:Oper)(F:List AV)(H:zaa)(K:AV→zaa→Prop):Prop:=
 match o.op with
 | .buildSlice t len parts=>(match zbf P t with
  | some e=>(match zaP P e,zbn P e with
   | some size,some z=>(match (zbs z).length == size with
    |true=>znE e size len (parts.toList.map λp=>(p.1,ev F p.2)) H K
    |false=>False)
   |_,_=>False)
  |none=>False)
 | .binOp op t x y _=>(match zot y with
  |true=>zty (zp2 P t) op (ev F x) (K · H)
  |false=>aop P o F H K)
 | .makeSlice t l c=>(match zu5 l with
  | true=>(match zbf P t with
   | some e=>(match zaP P e,zcJ P e,zbn P e with
    | some size,some bytes,some z=>(match decide (0<size) && (zbs z).length == size with
     |true=>zep e size bytes (ev F c) H K
     |false=>False)
    |_,_,_=>False)
   |none=>False)
  |false=>aop P o F H K)
 | .slice t x none (some hi) none=>(match zdx P t with
  | some 1=>(match (zbf P t).bind (zaP P) with
   |some size=>znF size (ev F x) (ev F hi) H K
   |none=>False)
  |_=>False)
 |_=>aop P o F H K
def zig(P:Program):List Oper→(List AV→zaa→Prop)→List AV→zaa→Prop
 |[],K,F,H=>K F H
 | o::os,K,F,H=>match o.guard with
  |none=>znM P o F H λv H'=>zig P os K (zbB F o.dst v) H'
  |some _=>False
def zfc(P:Program)(ops:Array Oper):List Oper→(List AV→zaa→Prop)→List AV→zaa→Prop
 |[],K,F,H=>K F H
 | o::os,K,F,H=>match o.guard with
  |none=>zhn P o F H λv H'=>zfc P ops os K (zbB F o.dst v) H'
  | some (j,want)=>(match (ops[j]?).bind (·.dst) with
   |some d=>zab (F.getD d .unk) want H (zhn P o F H) λv H'=>zfc P ops os K (zbB F o.dst v) H'
   |none=>False)

inductive WM where
 |n
 |w
 |g
 |c
 |l
def WM.on(wc:WM)(f:Operand):Bool:=
 match wc with
 |.n=>false
 | .c=>(match f with
  |.func _=>true
  |_=>false)
 |_=>true
def WM.gr:WM→Bool
 |.g=>true
 |_=>false
def GrowA(H H':zaa):Prop:=H'=H∨(∃ e s n,H'=H++[.perm e s n])∨(∃ (id e s n n':Nat),H[id]?=some (.perm e s n)∧H'=H.set id (.perm e s n')) ∨
 (∃(id e s n n':Nat) (cs cs':List AV),H[id]?=some (.vec e s n cs)∧H'=H.set id (.vec e s n' cs'))∨∃(e s n:Nat) (cs:List AV),H'=H++[.vec e s n cs]
def opW(wc:WM):Op→Bool
 |.store _ _ _|.alloc _|.box _ _|.makeSlice _ _ _|.makeMap _ _|.mapUpdate _ _ _ _|.insert _ _ _ _=>true
 | .call c=>(match c.callee with
  |.builtin .append=>true
  |.builtin .copy=>true
  |.value f=>wc.on f
  |_=>false)
 |_=>false
def opF:Op→Bool
 |.move _|.assign _|.pick _ _ _|.build _ _|.buildSlice _ _ _|.nilCheck _|.binOp _ _ _ _ _|.unOp _ _ _|.convert _ _ _|.makeFunc _ _ _|.slice _ _ _ _ _|.fieldAddr _ _ _|.field _ _ _
 |.indexAddr _ _ _|.index _ _ _|.extract _ _=>true
 | .call c=>(match c.callee with
  |.builtin .len=>true
  |_=>false)
 |_=>false
def opL:Op→Bool
 |.load _ _=>true
 |_=>false
def opA(wc:WM):Op→Bool
 | .call c=>(match c.callee with
  |.builtin .append=>true
  |.value _=>wc.gr
  |_=>false)
 |_=>false
def opG(wc:WM):Op→Bool
 | .call c=>(match c.callee with
  |.value _=>wc.gr
  |_=>false)
 |_=>false
def opN:Op→Bool
 |.alloc _|.box _ _|.makeSlice _ _ _|.makeMap _ _=>true
 |_=>false
def opV:Op→Bool
 |.alloc _=>true
 |_=>false
def opC(wc:WM):Op→Bool
 | .call c=>(match c.callee with
  |.value f=>!wc.on f
  |_=>false)
 |_=>false
def opK(wc:WM):Op→Bool
 | .call c=>(match c.callee with
  | .value _=>(match wc with
   |.l=>true
   |_=>false)
  |_=>false)
 |_=>false
def okU(wc:WM)(q p:Op):Bool:=(opL q && (opA wc p || opN p)) || (opA wc q && opL p) || (opC wc q && opV p) || (opV q && opV p) || (opL q && opK wc p)
def zcR(ops:Array Oper)(o:Oper):List Nat:=
 (o.op.operands.toList.filterMap λ| .tmp t=>some t | _=>none) ++
  (match o.guard with
  |some (g,_)=>((ops[g]?).bind (·.dst)).toList
  |none=>[])
def zhG(ops:Array Oper)(F:List AV):List AV:=ops.toList.filterMap λo=>match o.op with
 |.load _ a=>some (ev F a)
 |_=>none
def zdR(asx:List AV)(H H':zaa):Prop:=∀a∈asx,∀(id off:Nat),a=.ptr id off→∀cs:List AV,H[id]?=some (.cells cs)→H'[id]?=some (.cells cs)
def zd2(b:Bool)(asx:List AV)(H H':zaa)(K:Prop):Prop:=
 match b with
 |true=>zdR asx H H'∧K
 |false=>K
def zew(ops:Array Oper):Bool:=
 (ops.toList.zipIdx.all λp=>!opL p.1.op || ops.toList.zipIdx.all λq=>decide (q.2<p.2) || (match q.1.dst with
  |some d=>!((zcR ops p.1).contains d)
  |none=>true)) && ops.toList.all λo=>!opN o.op && o.guard.isNone
def zbl(wc:WM)(gr:Bool)(H:zaa)(p:(AV→zaa→Prop)→Prop)(K:AV→zaa→Prop):Prop:=
 match wc with
 |.n=>p K
 |_=>∃r H',p (λv H2=>v=r∧H2=H')∧(gr=true→GrowA H H')∧K r H'
def zcC(fl:Bool)(wc:WM)(P:Program)(ops:Array Oper):List Oper→(List AV→zaa→Prop)→List AV→zaa→Prop
 |[],K,F,H=>K F H
 | o::os,K,F,H=>match o.guard with
  | none=>(match opW wc o.op with
   | false=>(match opC wc o.op with
    |false=>zad H (zbi fl P o F H) λr=>zcC fl wc P ops os K (zbB F o.dst r) H
    |true=>zaQ H (λH=>zbi fl P o F H) λr=>zcC fl wc P ops os K (zbB F o.dst r) H)
   |true=>zbl wc (opG wc o.op) H (zbi fl P o F H) λv H'=>zd2 (opK wc o.op) (zhG ops F) H H' (zcC fl wc P ops os K (zbB F o.dst v) H'))
  | some (j,want)=>(match (ops[j]?).bind (·.dst) with
   | some d=>(match opW wc o.op with
    | false=>(match opC wc o.op with
     |false=>zab (F.getD d .unk) want H (λJ=>zad H (zbi fl P o F H) (J · H)) λv H'=>zcC fl wc P ops os K (zbB F o.dst v) H'
     |true=>zab (F.getD d .unk) want H (λJ=>zaQ H (λH=>zbi fl P o F H) (J · H)) λv H'=>zcC fl wc P ops os K (zbB F o.dst v) H')
    |true=>zab (F.getD d .unk) want H (λJ=>zbl wc (opG wc o.op) H (zbi fl P o F H) J) λv H'=>zcC fl wc P ops os K (zbB F o.dst v) H')
   |none=>False)

def znL{α:Type}:List α→(α→Prop)→Prop
 |[],_=>True
 |[i],p=>p i
 |i::j::l,p=>p i∧znL (j::l) p
def zgN(P:Program)(ops:Array Oper)(K:List AV→zaa→Prop):Nat→Array Bool→List AV→zaa→Prop
 | 0,listed,F,H=>(match Region.ready .any ops listed with
  |[]=>K F H
  |_=>False)
 | n+1,listed,F,H=>(match Region.ready .any ops listed with
  |[]=>K F H
  | i::is=>znL (i::is) λi=>(match ops[i]? with
   | some o=>(match o.guard with
    |none=>aop P o F H λv H'=>zgN P ops K n (listed.setIfInBounds i true) (zbB F o.dst v) H'
    |some _=>False)
   |none=>False))
inductive AExit where
 |normal
 |exit (id:Nat)
 |ret
def AExit.toExit:AExit→Exit
 |.normal=>.normal
 |.exit id=>.exit id
 |.ret=>.ret

def Post(B:Nat)(w:World)(G:Gh)(Q:AExit→List AV→zaa→Prop)(e:Exit)(a':Act)(w':World):Prop:=
 ∃F' H' G' e',e=AExit.toExit e'∧Ext B w G w' G'∧HRel B w' G' H'∧FRel w' G' a'.tmps F'∧a'.defers=[]∧Q e' F' H'

def AWp(P:Program)(c:Code)(Q:AExit→List AV→zaa→Prop)(F:List AV)(H:zaa):Prop:=
 ∀(B:Nat) (w:World) (G:Gh) (a:Act),HRel B w G H→FRel w G a.tmps F→a.defers=[]→c.wp P (Post B w G Q) a w

def ALoop(P:Program)(c:Code)(Q:AExit→List AV→zaa→Prop)(F:List AV)(H:zaa):Prop:=AWp P (.loop c) Q F H

def zfM:List Bool→List AV→List AV
 |true::bs,a::asx=>a::zfM bs asx
 |false::bs,_::asx=>.unk::zfM bs asx
 |[],asx=>asx
 |_,[]=>[]
def zhx:Code→Nat
 |.region id _ _=>id
 |.seq a _=>zhx a
 |.block _ c=>zhx c
 |.loop c=>zhx c
 |.scope c=>zhx c
 |_=>0

def zd1(o:Oper)(j:Nat):Bool:=o.after.any λe=>Region.binds .any e && e.on == j
def zpt(ops:Array Oper)(i j:Nat)(oi oj:Oper):Bool:=
 (i == j) || (match oj.dst with
  |some d=>(oi.dst != some d) && (!(zcR ops oi).contains d || (if j<i then zd1 oi j else zd1 oj i))
  |none=>true)
def zd7(ops:Array Oper):Bool:=
 (ops.toList.zipIdx.all λp=>(p.1.after.all λe=>!Region.binds .any e || decide (e.on<p.2)) && ops.toList.zipIdx.all λq=>zpt ops p.2 q.2 p.1 q.1)
def zhm(ms:List Nat):List Edge→Nat→Nat
 |[],m=>m
 | e::es,m=>zhm ms es (match Region.binds .any e with
  |true=>m ||| (1 <<< e.on) ||| ms.getD e.on 0
  |false=>m)
def zgl:List Oper→List Nat→List Nat
 |[],ms=>ms
 |o::os,ms=>zgl os (ms++[zhm ms o.after.toList 0])
def zdq(wc:WM)(ops:Array Oper):Bool:=
 match ops.toList.any (λo=>opW wc o.op) with
 |false=>true
 |true=>(λms=>ops.toList.zipIdx.all λp=>ops.toList.zipIdx.all λq=>
   !(decide (q.2<p.2)) || !(opW wc p.1.op || opW wc q.1.op) || opF p.1.op || opF q.1.op || okU wc q.1.op p.1.op || Nat.testBit (ms.getD p.2 0) q.2) (zgl ops.toList [])
def zp3(ops:Array Oper)(m:Nat):Bool:=(λms=>(ops.toList.drop m).all (λo=>(List.range m).all λi=>zd1 o i || (List.range m).any λk=>zd1 o k && Nat.testBit (ms.getD k 0) i)) (zgl (ops.toList.take m) []) && ops.toList.all λo=>o.guard.isNone
def zdK(ops:Array Oper)(m:Nat):Array Oper:=(ops.toList.take m).toArray
def zgT(m t:Nat):Array Bool:=(List.replicate m true++List.replicate t false).toArray
def noG(ops:Array Oper):Bool:=ops.toList.all λo=>!opA .n o.op && !opN o.op
def zd8(ops:Array Oper):Bool:=
 match ops.toList.any (λo=>opV o.op) with
 |false=>true
 |true=>(λa k=>ops.toList.zipIdx.all λp=>(opV p.1.op == (decide (a≤p.2) && decide (p.2<a+k))) && (!opV p.1.op || p.1.guard.isNone)) (ops.toList.findIdx λo=>opV o.op) (ops.toList.countP λo=>opV o.op)
def zwt(next:List AV→zaa→Prop)(Q:AExit→List AV→zaa→Prop):AExit→List AV→zaa→Prop
 |.normal,F,H=>next F H
 |.exit id,F,H=>Q (.exit id) F H
 |.ret,F,H=>Q .ret F H
def znQ(id:Nat)(Q:AExit→List AV→zaa→Prop):AExit→List AV→zaa→Prop
 |.normal,F,H=>Q .normal F H
 | .exit id',F,H=>(match id' == id with
  |true=>Q .normal F H
  |false=>Q (.exit id') F H)
 |.ret,F,H=>Q .ret F H

def zeZ:Code→Nat
 |.region id _ _=>id
 |.seq a _=>zeZ a
 |.block _ c=>zeZ c
 |.loop c=>zeZ c
 |.scope c=>zeZ c
 |.cond _ a b=>50000+zeZ a*1000+zeZ b
 |_=>0
def nxt(m:List Bool)(P:Program)(b:Code)(Q:AExit→List AV→zaa→Prop)(now:List AV→zaa→Prop):List AV→zaa→Prop:=
 match m with
 |[]=>now
 |m=>λF H=>AWp P b Q (zfM m F) H
def awp(P:Program)(M:Nat→List Bool):Code→(AExit→List AV→zaa→Prop)→List AV→zaa→Prop
 |.skip,Q,F,H=>Q .normal F H
 |.label _,Q,F,H=>Q .normal F H
 | .region id ops draw,Q,F,H=>(match draw with
  | false=>(match M (300000+id) with
   |[]=>zfc P ops ops.toList (Q .normal) F H
   |_::_=>zig P ops.toList (Q .normal) F H)
  | true=>(match M (400000+id) with
   | _::_=>(match zd7 ops && zdq .n ops && zd8 ops && P.follows .mixedOrders && noG ops with
    |true=>zcC true .n P ops ops.toList (Q .normal) F H
    |false=>False)
   |[]=>(match M (500000+id) with
   | _::_=>(match zd7 ops && zdq .l ops && zd8 ops && P.follows .mixedOrders && zew ops with
    |true=>zcC false .l P ops ops.toList (Q .normal) F H
    |false=>False)
   |[]=>(match M (200000+id) with
   | []=>(match zd7 ops && zdq .n ops && zd8 ops && P.follows .mixedOrders with
    |true=>zcC false .n P ops ops.toList (Q .normal) F H
    |false=>False)
   | [_]=>(match zd7 ops && zdq .w ops && zd8 ops && P.follows .mixedOrders with
    |true=>zcC false .w P ops ops.toList (Q .normal) F H
    |false=>False)
   | [_,_]=>(match zd7 ops && zdq .g ops && zd8 ops && P.follows .mixedOrders with
    |true=>zcC false .g P ops ops.toList (Q .normal) F H
    |false=>False)
   | [_,_,_]=>(match zd7 ops && zdq .c ops && zd8 ops && P.follows .mixedOrders with
    |true=>zcC false .c P ops ops.toList (Q .normal) F H
    |false=>False)
   | _::_::_::_::l=>(match zd7 (zdK ops (ops.size-l.length)) && zdq .n (zdK ops (ops.size-l.length)) && zd8 (zdK ops (ops.size-l.length)) && P.follows .mixedOrders && zp3 ops (ops.size-l.length) && decide (l.length≤ops.size) with
    |true=>zcC false .n P (zdK ops (ops.size-l.length)) (zdK ops (ops.size-l.length)).toList (zgN P ops (Q .normal) l.length (zgT (ops.size-l.length) l.length)) F H
    |false=>False)))))
 |.seq a b,Q,F,H=>awp P M a (zwt (nxt (M (100000+zeZ b)) P b Q (awp P M b Q)) Q) F H
 |.cond c a b,Q,F,H=>zag (ev F c) (awp P M a Q F H) (awp P M b Q F H)
 |.block id c,Q,F,H=>awp P M c (znQ id Q) F H
 |.scope c,Q,F,H=>awp P M c Q F H
 |.loop c,Q,F,H=>ALoop P c Q (zfM (M (zhx c)) F) H
 |.ret,Q,F,H=>Q .ret F H
 |.exit id,Q,F,H=>Q (.exit id) F H
 |_,_,_,_=>False

def zaq:List Nat→Code→Code
 |[],c=>c
 |0::p,.seq a _=>zaq p a
 |_::p,.seq _ b=>zaq p b
 |0::p,.cond _ a _=>zaq p a
 |_::p,.cond _ _ b=>zaq p b
 |_::p,.block _ c=>zaq p c
 |_::p,.scope c=>zaq p c
 |_::p,.loop c=>zaq p c
 |_,c=>c
def zar(P:Program)(M:Nat→List Bool):List Nat→Code→(AExit→List AV→zaa→Prop)→AExit→List AV→zaa→Prop
 |[],_,Q=>Q
 |0::p,.seq a b,Q=>zar P M p a (zwt (nxt (M (100000+zeZ b)) P b Q (awp P M b Q)) Q)
 |_::p,.seq _ b,Q=>zar P M p b Q
 |0::p,.cond _ a _,Q=>zar P M p a Q
 |_::p,.cond _ _ b,Q=>zar P M p b Q
 |_::p,.block id c,Q=>zar P M p c (znQ id Q)
 |_::p,.scope c,Q=>zar P M p c Q
 |_,_,Q=>Q
def zbK(m:List Bool)(Kb:List AV→zaa→Prop)(Q:AExit→List AV→zaa→Prop):AExit→List AV→zaa→Prop
 |.normal,F,H=>Kb (zfM m F) H
 |.exit id,F,H=>Q (.exit id) F H
 |.ret,F,H=>Q .ret F H

end Go.Abs

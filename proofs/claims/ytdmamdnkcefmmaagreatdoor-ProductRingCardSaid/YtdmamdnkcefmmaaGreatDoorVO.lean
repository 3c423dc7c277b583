import Derived.Test.YtdmamdnkcefmmaaGreatDoorAbsN
import Derived.IntWalk
set_option linter.unusedSimpArgs false
set_option linter.unusedVariables false
set_option maxRecDepth 8000
namespace Go.Proofs.YtdmamdnkcefmmaaGreatDoor
section
open Go.RowKit

section
variable {H:zaa} {K:AV→zaa→Prop} {k:AV→Prop}
@[simp] theorem zXO(p q:Prop):aIf true p q=p:=propext aL
@[simp] theorem zXN(p q:Prop):aIf false p q=q:=propext aL
theorem zvr(b:Bool)(p q:Prop):zag (.bool b) p q=(if b=true then p else q):=rfl
@[simp] theorem zZi(p q:Prop):zag (.bool true) p q=p:=propext aL
@[simp] theorem zZh(p q:Prop):zag (.bool false) p q=q:=propext aL
@[simp] theorem zYG(x y:AV):zak (.bool true) x y k=k x:=propext aL
@[simp] theorem zYF(x y:AV):zak (.bool false) x y k=k y:=propext aL
@[simp] theorem zXE(p q:Prop):zdp (.bool true) true p q=p:=propext aL
@[simp] theorem zXB(p q:Prop):zdp (.bool false) false p q=p:=propext aL
@[simp] theorem zXD(p q:Prop):zdp (.bool true) false p q=q:=propext aL
@[simp] theorem zXC(p q:Prop):zdp (.bool false) true p q=q:=propext aL
@[simp] theorem zXF(want:Bool)(p q:Prop):zdp (.tup []) want p q=q:=propext aL
@[simp] theorem zXy(p:(AV→zaa→Prop)→Prop)(J:AV→zaa→Prop):zac (.bool true) true H p J=p J:=propext aL
@[simp] theorem zXv(p:(AV→zaa→Prop)→Prop)(J:AV→zaa→Prop):zac (.bool false) false H p J=p J:=propext aL
@[simp] theorem zXx(p:(AV→zaa→Prop)→Prop)(J:AV→zaa→Prop):zac (.bool true) false H p J=J (.tup []) H:=propext aL
@[simp] theorem zXw(p:(AV→zaa→Prop)→Prop)(J:AV→zaa→Prop):zac (.bool false) true H p J=J (.tup []) H:=propext aL
@[simp] theorem zXz(want:Bool)(p:(AV→zaa→Prop)→Prop)(J:AV→zaa→Prop):zac (.tup []) want H p J=J (.tup []) H:=propext aL
@[simp] theorem zZs(cs:List AV):(AV.agg cs).cs?=some cs:=rfl
@[simp] theorem zZv(j:IntKind)(n:Int):(AV.int j n).cs?=some [.int j n]:=rfl
@[simp] theorem zZt(b:Bool):(AV.bool b).cs?=some [.bool b]:=rfl
@[simp] theorem zZG(s:List UInt8):(AV.str s).cs?=some [.str s]:=rfl
@[simp] theorem zZE(es:List (List AV))(t:Tok):(AV.sl es t).cs?=some [.sl es t]:=rfl
@[simp] theorem zZF:(AV.snil).cs?=some [.snil]:=rfl
@[simp] theorem zZD(i o:Nat):(AV.ptr i o).cs?=some [.ptr i o]:=rfl
@[simp] theorem zZx(i o l c:Nat):(AV.ms i o l c).cs?=some [.ms i o l c]:=rfl
@[simp] theorem zZu(f:Nat)(c:List AV):(AV.fn f c).cs?=some [.fn f c]:=rfl
@[simp] theorem zZA:(AV.nilp).cs?=some [.nilp]:=rfl
@[simp] theorem zZz:(AV.nili).cs?=some [.nili]:=rfl
@[simp] theorem zZC(i n:Nat):(AV.ov i n).cs?=some [.ov i n]:=rfl
@[simp] theorem zZH(i n o:Nat):(AV.vp i n o).cs?=some [.vp i n o]:=rfl
@[simp] theorem zZy:(AV.nilfn).cs?=some [.nilfn]:=rfl
@[simp] theorem zYt(cs:List AV):zaz cs H K=K (.ptr H.length 0) (H++[.cells cs]):=propext aL
@[simp] theorem zWP(cs:List AV):zaw (.agg cs) H K=K (.ptr H.length 0) (H++[.cells cs]):=propext aL
@[simp] theorem zWT(j:IntKind)(n:Int):zaw (.int j n) H K=K (.ptr H.length 0) (H++[.cells [.int j n]]):=propext aL
@[simp] theorem zW0(s:List UInt8):zaw (.str s) H K=K (.ptr H.length 0) (H++[.cells [.str s]]):=propext aL
@[simp] theorem zWQ(b:Bool):zaw (.bool b) H K=K (.ptr H.length 0) (H++[.cells [.bool b]]):=propext aL
@[simp] theorem zWY(es:List (List AV))(t:Tok):zaw (.sl es t) H K=K (.ptr H.length 0) (H++[.cells [.sl es t]]):=propext aL
@[simp] theorem zW4(n off:Nat)(cs:List AV):zbt true n off cs k=(off+n≤cs.length∧k (.agg ((cs.drop off).take n))):=propext aL
theorem zdm{cs:List AV}{off:Nat}{c:AV}(n:Nat)(h:cs[off]?=some c):zbt false n off cs k=k c:=by simp[zbt,h]
@[simp] theorem zW7(n:Nat)(c:AV)(cs:List AV):zbt false n 0 (c::cs) k=k c:=propext aL
@[simp] theorem zW6(n i:Nat)(c:AV)(cs:List AV):zbt false n (i+1) (c::cs) k=zbt false n i cs k:=by simp[zbt]
@[simp] theorem zX8(g:Bool)(n:Nat)(cs:List AV):zae g n (.view cs) H k=zbt g n 0 cs k:=propext aL
def zi0(g:Bool)(n off:Nat)(b:Option AB)(k:AV→Prop):Prop:=
 match b with
 |some (.cells cs)=>zbt g n off cs k
 |_=>False
@[simp] theorem zX2(g:Bool)(n off:Nat)(cs:List AV):zi0 g n off (some (.cells cs)) k=zbt g n off cs k:=propext aL
@[simp] theorem zX7(g:Bool)(n id off:Nat):zae g n (.ptr id off) H k=zi0 g n off H[id]? k:=by rw[zg2];rfl
def zfh(n off id:Nat)(xs:Option (List AV))(b:Option AB)(H:zaa)(K:zaa→Prop):Prop:=
 match xs,b with
 |some xs,some (.cells cs)=>(xs.length=n∧off+n≤cs.length∧xs.all AV.known=true)∧K (H.set id (.cells (cs.take off++xs++cs.drop (off+n))))
 |_,_=>False
@[simp] theorem zEv{K':zaa→Prop}(n off id:Nat)(xs cs:List AV):zfh n off id (some xs) (some (.cells cs)) H K'=((xs.length=n∧off+n≤cs.length∧xs.all AV.known=true)∧K' (H.set id (.cells (cs.take off++xs++cs.drop (off+n))))):=propext aL
@[simp] theorem zZd{K':zaa→Prop}(n id off:Nat)(x:AV):zao n (.ptr id off) x H K'=zfh n off id x.cs? H[id]? H K':=by
 cases hx:x.cs? with
 |none=>simp[zeN,zfh,hx]
 | some xs=>cases hb:H[id]? with
  |none=>simp[zeN,zfh,hx,hb]
  |some b=>cases b <;> simp[zeN,zfh,hx,hb]
def zvm(g:Bool)(n m off:Nat)(b:Option AB)(k:AV→Prop):Prop:=
 match b with
 |some (.vec _ _ m' cs)=>m'=m∧zbt g n off cs k
 |_=>False
@[simp] theorem zX5(g:Bool)(n m off e s m':Nat)(cs:List AV):zvm g n m off (some (.vec e s m' cs)) k=(m'=m∧zbt g n off cs k):=propext aL
@[simp] theorem zX9(g:Bool)(n id m off:Nat):zae g n (.vp id m off) H k=zvm g n m off H[id]? k:=by rw[zg2];rfl
def zg4(n m off id:Nat)(xs:Option (List AV))(b:Option AB)(H:zaa)(K':zaa→Prop):Prop:=
 match xs,b with
 |some xs,some (.vec e s m' cs)=>(m'=m∧xs.length=n∧off+n≤cs.length∧xs.all AV.known=true)∧K' (H.set id (.vec e s m' (cs.take off++xs++cs.drop (off+n))))
 |_,_=>False
@[simp] theorem zZb{K':zaa→Prop}(n m off id e s m':Nat)(xs cs:List AV):zg4 n m off id (some xs) (some (.vec e s m' cs)) H K'=((m'=m∧xs.length=n∧off+n≤cs.length∧xs.all AV.known=true)∧K' (H.set id (.vec e s m' (cs.take off++xs++cs.drop (off+n))))):=propext aL
@[simp] theorem zZe{K':zaa→Prop}(n id m off:Nat)(x:AV):zao n (.vp id m off) x H K'=zg4 n m off id x.cs? H[id]? H K':=by
 cases hx:x.cs? with
 |none=>simp[zeN,zg4,hx]
 | some xs=>cases hb:H[id]? with
  |none=>simp[zeN,zg4,hx,hb]
  |some b=>cases b <;> simp[zeN,zg4,hx,hb]
def zoo(e size bytes n id:Nat)(ys:List (List AV))(b:Option AB)(H:zaa)(K:AV→zaa→Prop):Prop:=
 match b with
 |some (.vec e' s' n' cs)=>((e'=e∧s'=size∧n'=n)∧(n+ys.length)*bytes≤140737488355328∧n+ys.length≤9223372036854775807)∧K (.ov id (n+ys.length)) (H.set id (.vec e size (n+ys.length) (cs++ys.flatten)))
 |_=>False
@[simp] theorem zWL(e size bytes n id e' s' n':Nat)(ys:List (List AV))(cs:List AV):zoo e size bytes n id ys (some (.vec e' s' n' cs)) H K=(((e'=e∧s'=size∧n'=n)∧(n+ys.length)*bytes≤140737488355328∧n+ys.length≤9223372036854775807)∧K (.ov id (n+ys.length)) (H.set id (.vec e size (n+ys.length) (cs++ys.flatten)))):=propext aL
@[simp] theorem zWK(e size bytes id n:Nat)(ys:List (List AV)):zaK e size bytes (.ov id n) ys H K=zoo e size bytes n id ys H[id]? H K:=by unfold zaK zoo;rfl
@[simp] theorem zXI(dY id m:Nat)(j:IntKind)(n:Int):zaj dY (.ov id m) (.int j n) k=((0≤n∧n<m)∧k (.vp id m (n.toNat*dY))):=ziZ ..
@[simp] theorem zXR(id n:Nat):zai 1 (.ov id n) k=k (.int .i64 n):=propext aL
@[simp] theorem zXr(off i m o:Nat):zaf off (.vp i m o) k=k (.vp i m (o+off)):=propext aL
@[simp] theorem zYC(i m o:Nat):zbe (.vp i m o) k=k (.vp i m o):=propext aL
@[simp] theorem zWW(i n:Nat):zaw (.ov i n) H K=K (.ptr H.length 0) (H++[.cells [.ov i n]]):=propext aL
@[simp] theorem zZ0(i n:Nat):(AV.ov i n).known=true:=rfl
@[simp] theorem yak(m i n:Nat):(AV.ov i n).scA m=decide (i<m):=rfl
@[simp] theorem zYA(i o:Nat):zbe (.ptr i o) k=k (.ptr i o):=propext aL
@[simp] theorem zYB(cs:List AV):zbe (.view cs) k=k (.view cs):=propext aL
@[simp] theorem zYz(f:Nat)(c:List AV):zbe (.fn f c) k=k (.fn f c):=propext aL
@[simp] theorem zXp(off i o:Nat):zaf off (.ptr i o) k=k (.ptr i (o+off)):=propext aL
@[simp] theorem zXq(off:Nat)(cs:List AV):zaf off (.view cs) k=(off≤cs.length∧k (.view (cs.drop off))):=zvl ..
@[simp] theorem zXm(g:Bool)(n off:Nat)(cs:List AV):zdX g n off (.agg cs) k=zbt g n off cs k:=propext aL
@[simp] theorem zXJ(dY:Nat)(es:List (List AV))(t:Tok)(j:IntKind)(n:Int):zaj dY (.sl es t) (.int j n) k=((0≤n∧n<es.length)∧((es.getD n.toNat []).length=dY∧k (.view (es.getD n.toNat [])))):=ziZ ..
@[simp] theorem zXH(dY id off len cap:Nat)(j:IntKind)(n:Int):zaj dY (.ms id off len cap) (.int j n) k=((0≤n∧n<len)∧k (.ptr id (off+n.toNat*dY))):=ziZ ..
@[simp] theorem zXL(s:List UInt8)(j:IntKind)(n:Int):zbI (.str s) (.int j n) k=((0≤n∧n<s.length)∧k (.int .u8 (s.getD n.toNat 0).toNat)):=propext aL
@[simp] theorem zXU(s:List UInt8):zai 0 (.str s) k=k (.int .i64 s.length):=propext aL
@[simp] theorem zXS(es:List (List AV))(t:Tok):zai 1 (.sl es t) k=k (.int .i64 es.length):=propext aL
@[simp] theorem zXT:zai 1 .snil k=k (.int .i64 0):=propext aL
@[simp] theorem zXQ(i o l c:Nat):zai 1 (.ms i o l c) k=k (.int .i64 l):=propext aL
@[simp] theorem zEm(d:Nat)(q:Nat→Prop):zbN none d q=q d:=propext aL
@[simp] theorem zEl(j:IntKind)(n:Int)(d:Nat)(q:Nat→Prop):zbN (some (.int j n)) d q=(0≤n∧q n.toNat):=propext aL
@[simp] theorem zYh{K:AV→zaa→Prop}{H:zaa}(e s b:Nat)(c:Int):zeM e s b (.int .i64 c) H K=((0≤c∧c*b≤140737488355328∧c≤9223372036854775807)∧K (.ov H.length 0) (H++[.vec e s 0 []])):=propext aL
@[congr] theorem zYg{K:AV→zaa→Prop}{H H':zaa}{e s b:Nat}{c c':AV}(hc:c=c')(hH:H=H'):zeM e s b c H K=zeM e s b c' H' K:=by rw[hc,hH]
@[simp] theorem zYk{K:AV→Prop}(k k':IntKind)(m n:Int):zf5 (.int k m) (.int k' n) K=K (.int k (if n>m then n else m)):=propext aL
@[congr] theorem zYj{K:AV→Prop}{x x' y y':AV}(h:x=x')(hy:y=y'):zf5 x y K=zf5 x' y' K:=by rw[h,hy]
@[simp] theorem zY7(dY id n:Nat)(lo hi:Option AV):zaS 1 dY (.ov id n) lo hi k=zbN hi n λh=>zbN lo 0 λl=>(l≤h∧h=n)∧k (.os id n l dY):=propext aL
@[simp] theorem zZB(i n l z:Nat):(AV.os i n l z).cs?=some [.os i n l z]:=rfl
def zvk(size id n lo z id' n' lo' z':Nat)(b:Option AB)(H:zaa)(K:AV→zaa→Prop):Prop:=
 match b with
 | some (.vec e s m cs) => (((id' = id ∧ n' = n ∧ m = n) ∧ z = size ∧ z' = size ∧ s = size) ∧ cs.all AV.known = true) ∧
    K (.int .i64 ((min (n-lo') (n-lo):Nat):Int)) (H.set id (.vec e s m (zfr cs (lo*size) ((cs.drop (lo'*size)).take (min (n-lo') (n-lo)*size)))))
 |_=>False
@[simp] theorem zXe{K:AV→zaa→Prop}(size id n lo z id' n' lo' z':Nat):zg0 size (.os id n lo z) (.os id' n' lo' z') H K=zvk size id n lo z id' n' lo' z' H[id]? H K:=propext aL
@[simp] theorem zXd{K : AV → zaa → Prop}(size id n lo z id' n' lo' z' e s m : Nat)(cs : List AV): zvk size id n lo z id' n' lo' z' (some (.vec e s m cs)) H K = ((((id' = id ∧ n' = n ∧ m = n) ∧ z = size ∧ z' = size ∧ s = size) ∧ cs.all AV.known = true) ∧
        K (.int .i64 ((min (n-lo') (n-lo):Nat):Int)) (H.set id (.vec e s m (zfr cs (lo*size) ((cs.drop (lo'*size)).take (min (n-lo') (n-lo)*size)))))):=propext aL
@[simp] theorem zEu(s:List UInt8)(lo hi:Option AV):zaS 0 0 (.str s) lo hi k=zbN hi s.length λh=>zbN lo 0 λl=>(l≤h∧h≤s.length)∧k (.str ((s.take h).drop l)):=propext aL
@[simp] theorem zY8(dY:Nat)(es:List (List AV))(t:Tok)(lo hi:Option AV):zaS 1 dY (.sl es t) lo hi k=zbN hi es.length λh=>zbN lo 0 λl=>(l≤h∧h≤es.length∧∀c∈es,c.length=dY)∧k (.sl ((es.take h).drop l) .none):=propext aL
@[simp] theorem zWH(b:Bool)(j:IntKind)(m n:Int):zad .add b (.int j m) (.int j n) k=k (.int j (j.wrap (m+n))):=by simp[zcg]
@[simp] theorem zZf(b:Bool)(j:IntKind)(m n:Int):zad .sub b (.int j m) (.int j n) k=k (.int j (j.wrap (m-n))):=by simp[zcg]
@[simp] theorem zYn(b:Bool)(j:IntKind)(m n:Int):zad .mul b (.int j m) (.int j n) k=k (.int j (j.wrap (m*n))):=by simp[zcg]
@[simp] theorem zXh(b:Bool)(j:IntKind)(m n:Int):zad .eql b (.int j m) (.int j n) k=k (.bool (m == n)):=by simp[zcg]
@[simp] theorem zYq(b:Bool)(j:IntKind)(m n:Int):zad .neq b (.int j m) (.int j n) k=k (.bool (m != n)):=by simp[zcg]
@[simp] theorem zYa(b:Bool)(j:IntKind)(m n:Int):zad .lss b (.int j m) (.int j n) k=k (.bool (decide (m<n))):=by simp[zcg]
@[simp] theorem zXV(b:Bool)(j:IntKind)(m n:Int):zad .leq b (.int j m) (.int j n) k=k (.bool (decide (m≤n))):=by simp[zcg]
@[simp] theorem zXt(b:Bool)(j:IntKind)(m n:Int):zad .gtr b (.int j m) (.int j n) k=k (.bool (decide (m>n))):=by simp[zcg]
@[simp] theorem zXs(b:Bool)(j:IntKind)(m n:Int):zad .geq b (.int j m) (.int j n) k=k (.bool (decide (m≥n))):=by simp[zcg]
@[simp] theorem zXi(b:Bool)(s t:List UInt8):zad .eql b (.str s) (.str t) k=k (.bool (s == t)):=propext aL
@[simp] theorem zYr(b:Bool)(s t:List UInt8):zad .neq b (.str s) (.str t) k=k (.bool (!(s == t))):=rfl
@[simp] theorem zWI(b:Bool)(s t:List UInt8):zad .add b (.str s) (.str t) k=(s.length+t.length≤9223372036854775807∧k (.str (s++t))):=zcg ..
@[simp] theorem zXg(m n:Bool):zad .eql true (.bool m) (.bool n) k=k (.bool (m == n)):=by simp[zcg]
@[simp] theorem zYp(m n:Bool):zad .neq true (.bool m) (.bool n) k=k (.bool (!(m == n))):=by simp[zcg]
@[simp] theorem zYD(b:Bool):aUn .not (.bool b) k=k (.bool (!b)):=rfl
@[simp] theorem zYo(j:IntKind)(n:Int):aUn .neg (.int j n) k=k (.int j (j.wrap (0-n))):=rfl
@[simp] theorem zEq(j i:IntKind)(n:Int):za9 j (.int i n) k=k (.int j (j.wrap n)):=propext aL
@[simp] theorem zXb(s:List UInt8):zdW (.str s) k=k (.str s):=propext aL
@[simp] theorem zXj(v:AV)(vs:List AV):zay (.tup (v::vs)) 0 k=k v:=propext aL
@[simp] theorem zXl(v:AV)(vs:List AV)(i:Nat):zay (.tup (v::vs)) (i+1) k=zay (.tup vs) i k:=by simp[zay]
@[simp] theorem zW9(f:Nat)(caps:List AV):zcp f caps k=(caps.all AV.isB=true∧k (.fn f caps)):=propext aL
@[simp] theorem zY4(v:AV):zaG [v] k=k v:=propext aL
@[simp] theorem zY5(v u:AV)(vs:List AV):zaG (v::u::vs) k=((v::u::vs).all AV.isV=true∧k (.tup (v::u::vs))):=propext aL
end


section
variable {H:zaa} {K:AV→zaa→Prop} {k:AV→Prop} {kh:zaa→Prop}
@[simp] theorem zZw(i:Nat):(AV.map i).cs?=some [.map i]:=rfl
@[simp] theorem zYm:zdY H K=K (.map H.length) (H++[.map []]):=propext aL
def zf3(zero:AV)(ok:Bool)(s:List UInt8)(b:Option AB)(k:AV→Prop):Prop:=
 match b with
 | some (.map kvs)=>k (match ok with
   |true=>.tup [(zbP kvs s).getD zero,.bool (zbP kvs s).isSome]
   |false=>(zbP kvs s).getD zero)
 |_=>False
@[simp] theorem zX0(z:AV)(ok:Bool)(id:Nat)(s:List UInt8):zdI z ok (.map id) (.str s) H k=zf3 z ok s H[id]? k:=by unfold zdI zf3;rfl
@[simp] theorem zXX(z:AV)(s:List UInt8)(kvs:List (List UInt8×AV)):zf3 z false s (some (.map kvs)) k=k ((zbP kvs s).getD z):=propext aL
@[simp] theorem zXY(z:AV)(s:List UInt8)(kvs:List (List UInt8×AV)):zf3 z true s (some (.map kvs)) k=k (.tup [(zbP kvs s).getD z,.bool (zbP kvs s).isSome]):=propext aL
def zf4(id:Nat)(s:List UInt8)(x:AV)(b:Option AB)(H:zaa)(kh:zaa→Prop):Prop:=
 match b with
 | some (.map kvs)=>(match x with
   |.tup _=>False
   |x=>kh (H.set id (.map (zcF kvs s x))))
 |_=>False
@[simp] theorem zYf(id:Nat)(s:List UInt8)(x:AV):zcT (.map id) (.str s) x H kh=zf4 id s x H[id]? H kh:=by unfold zcT zf4;rfl
@[simp] theorem zYb(id:Nat)(s:List UInt8)(b:Bool)(kvs:List (List UInt8×AV)):zf4 id s (.bool b) (some (.map kvs)) H kh=kh (H.set id (.map (zcF kvs s (.bool b)))):=propext aL
@[simp] theorem zYd(id:Nat)(s:List UInt8)(j:IntKind)(n:Int)(kvs:List (List UInt8×AV)):zf4 id s (.int j n) (some (.map kvs)) H kh=kh (H.set id (.map (zcF kvs s (.int j n)))):=propext aL
@[congr] theorem zYl{H':zaa}(hH:H=H'):zdY H K=zdY H' K:=by rw[hH]
@[congr] theorem zXZ{H':zaa}{z:AV}{ok:Bool}{m m' x x':AV}(hm:m=m')(hx:x=x')(hH:H=H'):zdI z ok m x H k=zdI z ok m' x' H' k:=by rw[hm,hx,hH]
@[congr] theorem zXW{z:AV}{ok:Bool}{s s':List UInt8}{b b':Option AB}(hs:s=s')(hb:b=b'):zf3 z ok s b k=zf3 z ok s' b' k:=by rw[hs,hb]
@[congr] theorem zYe{H':zaa}{m m' y y' x x':AV}(hm:m=m')(hy:y=y')(hx:x=x')(hH:H=H'):zcT m y x H kh=zcT m' y' x' H' kh:=by rw[hm,hy,hx,hH]
@[congr] theorem zYc{H':zaa}{id id':Nat}{s s':List UInt8}{x x':AV}{b b':Option AB}(hi:id=id')(hs:s=s')(hx:x=x')(hb:b=b')(hH:H=H'):zf4 id s x b H kh=zf4 id' s' x' b' H' kh:=by rw[hi,hs,hx,hb,hH]
end

section
variable {H H':zaa} {K:AV→zaa→Prop} {k:AV→Prop} {kh:zaa→Prop}
@[congr] theorem zXM{b b':Bool}{p q:Prop}(h:b=b'):aIf b p q=aIf b' p q:=by rw[h]
@[congr] theorem zZg{c c':AV}{p q:Prop}(h:c=c'):zag c p q=zag c' p q:=by rw[h]
@[congr] theorem zXA{c c':AV}{w:Bool}{p q:Prop}(h:c=c'):zdp c w p q=zdp c' w p q:=by rw[h]
@[congr] theorem zXu{c c':AV}{w:Bool}{p:(AV→zaa→Prop)→Prop}{J:AV→zaa→Prop}(h:c=c')(hH:H=H'):zac c w H p J=zac c' w H' p J:=by rw[h,hH]
@[congr] theorem zYE{c c' a a' b b':AV}(h:c=c')(ha:a=a')(hb:b=b'):zak c a b k=zak c' a' b' k:=by rw[h,ha,hb]
@[congr] theorem zWR{x x':AV}(h:x=x')(hH:H=H'):zaw x H K=zaw x' H' K:=by rw[h,hH]
@[congr] theorem zYs{x x':List AV}(h:x=x')(hH:H=H'):zaz x H K=zaz x' H' K:=by rw[h,hH]
@[congr] theorem zW5{g:Bool}{n n' o o':Nat}{c c':List AV}(hn:n=n')(ho:o=o')(hc:c=c'):zbt g n o c k=zbt g n' o' c' k:=by rw[hn,ho,hc]
@[congr] theorem zX6{g:Bool}{n:Nat}{x x':AV}(h:x=x')(hH:H=H'):zae g n x H k=zae g n x' H' k:=by rw[h,hH]
@[congr] theorem zX1{g:Bool}{n o o':Nat}{b b':Option AB}(ho:o=o')(h:b=b'):zi0 g n o b k=zi0 g n o' b' k:=by rw[h,ho]
@[congr] theorem zZc{n:Nat}{a a' x x':AV}(ha:a=a')(h:x=x')(hH:H=H'):zao n a x H kh=zao n a' x' H' kh:=by rw[ha,h,hH]
@[congr] theorem zZa{n o o' i i':Nat}{x x':Option (List AV)}{b b':Option AB}(ho:o=o')(hi:i=i')(h:x=x')(hb:b=b')(hH:H=H'):zfh n o i x b H kh=zfh n o' i' x' b' H' kh:=by rw[ho,hi,h,hb,hH]
@[congr] theorem zXo{n:Nat}{x x':AV}(h:x=x'):zaf n x k=zaf n x' k:=by rw[h]
@[congr] theorem zXn{g:Bool}{n o:Nat}{x x':AV}(h:x=x'):zdX g n o x k=zdX g n o x' k:=by rw[h]
@[congr] theorem zXG{n:Nat}{x x' i i':AV}(h:x=x')(hi:i=i'):zaj n x i k=zaj n x' i' k:=by rw[h,hi]
@[congr] theorem zXK{x x' i i':AV}(h:x=x')(hi:i=i'):zbI x i k=zbI x' i' k:=by rw[h,hi]
@[congr] theorem zXP{u:Nat}{x x':AV}(h:x=x'):zai u x k=zai u x' k:=by rw[h]
@[congr] theorem zWO{x x':Option AV}{d d':Nat}{q:Nat→Prop}(h:x=x')(hd:d=d'):zbN x d q=zbN x' d' q:=by rw[h,hd]
@[congr] theorem zY6{u e:Nat}{x x':AV}{l l' h h':Option AV}(hx:x=x')(hl:l=l')(hh:h=h'):zaS u e x l h k=zaS u e x' l' h' k:=by rw[hx,hl,hh]
@[congr] theorem zWN{o:BinOp}{b:Bool}{x x' y y':AV}(h:x=x')(hy:y=y'):zad o b x y k=zad o b x' y' k:=by rw[h,hy]
@[congr] theorem zZj{o:UnOp}{x x':AV}(h:x=x'):aUn o x k=aUn o x' k:=by rw[h]
@[congr] theorem zXc{o:IntKind}{x x':AV}(h:x=x'):za9 o x k=za9 o x' k:=by rw[h]
@[congr] theorem zXa{x x':AV}(h:x=x'):zdW x k=zdW x' k:=by rw[h]
@[congr] theorem zXk{x x':AV}{i:Nat}(h:x=x'):zay x i k=zay x' i k:=by rw[h]
@[congr] theorem zW8{f:Nat}{x x':List AV}(h:x=x'):zcp f x k=zcp f x' k:=by rw[h]
@[congr] theorem zYy{x x':AV}(h:x=x'):zbe x k=zbe x' k:=by rw[h]
@[congr] theorem zW2{z:List AV}{p:List (Nat×Nat)}{x x':List (Nat×AV)}(h:x=x'):zar z p x k=zar z p x' k:=by rw[h]
@[congr] theorem zW1{e:Nat}{z:List AV}{l:Nat}{x x':List (Nat×AV)}(h:x=x'):zau e z l x k=zau e z l x' k:=by rw[h]
@[congr] theorem zYi{b:Nat}{z:List AV}{l l' c c':AV}(h:l=l')(hc:c=c')(hH:H=H'):zbu b z l c H K=zbu b z l' c' H' K:=by rw[h,hc,hH]
@[congr] theorem zWM{e s b:Nat}{x x' y y':AV}(h:x=x')(hy:y=y')(hH:H=H'):zax e s b x y H K=zax e s b x' y' H' K:=by rw[h,hy,hH]
@[congr] theorem zWJ{e s b:Nat}{x x':AV}{y y':List (List AV)}(h:x=x')(hy:y=y')(hH:H=H'):zaK e s b x y H K=zaK e s b x' y' H' K:=by rw[h,hy,hH]
@[congr] theorem zY9{x x':AV}{q:List (List AV)→Prop}(h:x=x'):zaO x q=zaO x' q:=by rw[h]
@[congr] theorem zWF{P:Program}{f:FuncId}{x x':List AV}(h:x=x')(hH:H=H'):ACalls P f x H K=ACalls P f x' H' K:=by rw[h,hH]
@[congr] theorem zW3{P:Program}{g g':AV}{x x':List AV}(hg:g=g')(h:x=x')(hH:H=H'):aCallV P g x H K=aCallV P g' x' H' K:=by rw[hg,h,hH]
@[congr] theorem zYK{p:(AV→zaa→Prop)→Prop}:zab H p k=zab H p k:=rfl
@[congr] theorem zWG{n:Nat}{r r':AV}(hr:r=r')(hH:H=H'):Out n K r H=Out n K r' H':=by rw[hr,hH]
end
section
variable {H:zaa} {k:AV→Prop}
theorem zcb{p:(AV→Prop)→Prop}(h:∀q:AV→Prop,p q↔∃v,p (λu=>u=v)∧q v):zab H (λK'=>p λv=>K' v H) k=p k:=by unfold zab;rw[eq_iff_iff,h k];simp only[and_true]
@[simp] theorem zYS(x:AV):zab H (λK'=>K' x H) k=k x:=by simp[zab]
theorem zoI(g:Bool)(n o:Nat)(cs:List AV)(q:AV→Prop):zbt g n o cs q↔∃v,zbt g n o cs (λu=>u=v)∧q v:=by
 unfold zbt;split
 ·constructor
  ·rintro⟨h1,h2⟩;exact⟨_,⟨h1,rfl⟩,h2⟩
  ·rintro⟨v,⟨h1,rfl⟩,h2⟩;exact⟨h1,h2⟩
 ·split <;> simp
theorem zED{a:Prop}{p:Prop}{p':AV→Prop}{q:AV→Prop}(h:p↔∃v,p' v∧q v):(a∧p)↔∃v,(a∧p' v)∧q v:=by
 constructor
 ·rintro⟨h1,h2⟩;obtain⟨v,h3,h4⟩:=h.1 h2;exact⟨v,⟨h1,h3⟩,h4⟩
 ·rintro⟨v,⟨h1,h3⟩,h4⟩;exact⟨h1,h.2 ⟨v,h3,h4⟩⟩
@[simp] theorem zYW(g:Bool)(n:Nat)(a:AV):zab H (λK'=>zae g n a H λv=>K' v H) k=zae g n a H k:=zcb (p:=λq=>zae g n a H q) λq=>by
 unfold zae;split
 ·exact zoI _ _ _ _ q
 ·simp
@[simp] theorem zX3(g:Bool)(n id off:Nat):zal g n (.ptr id off) H k=zae g n (.ptr id off) H k:=propext aL
@[simp] theorem zX4(g:Bool)(n:Nat)(cs:List AV):zal g n (.view cs) H k=zae g n (.view cs) H k:=propext aL
@[simp] theorem zYX(g:Bool)(n:Nat)(a:AV):zab H (λK'=>zal g n a H λv=>K' v H) k=zal g n a H k:=zcb (p:=λq=>zal g n a H q) λq=>by
 unfold zal;split
 ·simp
 unfold zae;split
 ·exact zoI _ _ _ _ q
 ·simp
@[simp] theorem zYZ(b:Bool)(o:BinOp)(x:AV):zab H (λK'=>zcU b o x λv=>K' v H) k=zcU b o x k:=zcb (p:=λq=>zcU b o x q) λq=>by
 unfold zcU;refine zED ?_;split
 ·split <;> simp
 ·split <;> simp
 ·simp
@[simp] theorem zYx:zcU true .neq .nili k=k (.bool false):=by simp[zcU]
@[simp] theorem zYv:zcU true .neq .ifc k=k (.bool true):=by simp[zcU]
@[simp] theorem zYw:zcU true .eql .nili k=k (.bool true):=by simp[zcU]
@[simp] theorem zYu:zcU true .eql .ifc k=k (.bool false):=by simp[zcU]
@[simp] theorem zY0(c a b:AV):zab H (λK'=>zak c a b λv=>K' v H) k=zak c a b k:=zcb (p:=λq=>zak c a b q) λq=>by unfold zak;split <;> simp
@[simp] theorem zYQ(o:Nat)(a:AV):zab H (λK'=>zaf o a λv=>K' v H) k=zaf o a k:=zcb (p:=λq=>zaf o a q) λq=>by unfold zaf;split <;> simp
@[simp] theorem zYR(g:Bool)(n o:Nat)(a:AV):zab H (λK'=>zdX g n o a λv=>K' v H) k=zdX g n o a k:=zcb (p:=λq=>zdX g n o a q) λq=>by
 unfold zdX;split
 ·exact zoI _ _ _ _ q
 ·simp
@[simp] theorem zYT(n:Nat)(x i:AV):zab H (λK'=>zaj n x i λv=>K' v H) k=zaj n x i k:=zcb (p:=λq=>zaj n x i q) λq=>by unfold zaj;split <;> simp
@[simp] theorem zYU(x i:AV):zab H (λK'=>zbI x i λv=>K' v H) k=zbI x i k:=zcb (p:=λq=>zbI x i q) λq=>by
 unfold zbI;split
 ·constructor
  ·rintro⟨h1,h2⟩;exact⟨_,⟨h1,rfl⟩,h2⟩
  ·rintro⟨v,⟨h1,rfl⟩,h2⟩;exact⟨h1,h2⟩
 ·simp
@[simp] theorem zYV(u:Nat)(x:AV):zab H (λK'=>zai u x λv=>K' v H) k=zai u x k:=zcb (p:=λq=>zai u x q) λq=>by unfold zai;split <;> simp
@[simp] theorem zY2(o:UnOp)(x:AV):zab H (λK'=>aUn o x λv=>K' v H) k=aUn o x k:=zcb (p:=λq=>aUn o x q) λq=>by unfold aUn;split <;> simp
@[simp] theorem zYM(o:IntKind)(x:AV):zab H (λK'=>za9 o x λv=>K' v H) k=za9 o x k:=zcb (p:=λq=>za9 o x q) λq=>by unfold za9;split <;> simp
@[simp] theorem zYO(x:AV):zab H (λK'=>zdW x λv=>K' v H) k=zdW x k:=zcb (p:=λq=>zdW x q) λq=>by unfold zdW;split <;> simp
@[simp] theorem zYN(x:AV):zab H (λK'=>zff x λv=>K' v H) k=zff x k:=zcb (p:=λq=>zff x q) λq=>by
 unfold zff;split
 ·split <;> simp
 ·simp
 ·simp
@[simp] theorem zYY(x:AV):zab H (λK'=>zbe x λv=>K' v H) k=zbe x k:=zcb (p:=λq=>zbe x q) λq=>by unfold zbe;split <;> simp
@[simp] theorem zYP(x:AV)(i:Nat):zab H (λK'=>zay x i λv=>K' v H) k=zay x i k:=zcb (p:=λq=>zay x i q) λq=>by
 unfold zay;split
 ·split <;> simp
 ·simp
@[simp] theorem zYI(z:List AV)(ps:List (Nat×Nat))(x:List (Nat×AV)):zab H (λK'=>zar z ps x λv=>K' v H) k=zar z ps x k:=zcb (p:=λq=>zar z ps x q) λq=>by unfold zar;split <;> simp
@[simp] theorem zYJ(e:Nat)(z:List AV)(l:Nat)(x:List (Nat×AV)):zab H (λK'=>zau e z l x λv=>K' v H) k=zau e z l x k:=zcb (p:=λq=>zau e z l x q) λq=>by
 unfold zau;split
 ·split <;> simp
 ·simp
@[simp] theorem zYH(o:BinOp)(b:Bool)(x y:AV):zab H (λK'=>zad o b x y λv=>K' v H) k=zad o b x y k:=zcb (p:=λq=>zad o b x y q) λq=>by unfold zad;split <;> simp
@[simp] theorem zYL(f:Nat)(x:List AV):zab H (λK'=>zcp f x λv=>K' v H) k=zcp f x k:=zcb (p:=λq=>zcp f x q) λq=>by
 unfold zcp;constructor
 ·rintro⟨h1,h2⟩;exact⟨_,⟨h1,rfl⟩,h2⟩
 ·rintro⟨v,⟨h1,rfl⟩,h2⟩;exact⟨h1,h2⟩
end
@[simp] theorem zFU(A l:zaa):(A++l)[A.length]?=l[0]?:=by rw[List.getElem?_append_right (aa _)];simp
@[simp] theorem zFV(A l:zaa)(k:Nat):(A++l)[A.length+k]?=l[k]?:=by rw[List.getElem?_append_right (by omega)];congr 1;omega
@[simp] theorem zH1(A l:zaa)(x:AB):(A++l).set A.length x=A++l.set 0 x:=by rw[aj _ _ (aa _)];simp
@[simp] theorem zys(A l:zaa)(k:Nat)(x:AB):(A++l).set (A.length+k) x=A++l.set k x:=by rw[aj _ _ (by omega)];congr 2;omega
@[simp] theorem zZJ(A l:zaa)(i:Nat)(y:AB):(A.set i y++l)[A.length]?=l[0]?:=by have:=zFU (A.set i y) l;rwa [bD]at this
@[simp] theorem zZK(A l:zaa)(i:Nat)(y:AB)(k:Nat):(A.set i y++l)[A.length+k]?=l[k]?:=by have:=zFV (A.set i y) l k;rwa [bD]at this
@[simp] theorem yaq(A l:zaa)(i:Nat)(x y:AB):(A.set i y++l).set A.length x=A.set i y++l.set 0 x:=by have:=zH1 (A.set i y) l x;rwa [bD]at this
@[simp] theorem yar(A l:zaa)(i:Nat)(y:AB)(k:Nat)(x:AB):(A.set i y++l).set (A.length+k) x=A.set i y++l.set k x:=by have:=zys (A.set i y) l k x;rwa [bD]at this
theorem zbj{H J:zaa}{id:Nat}{b:AB}(h:H[id]?=some b):(H++J)[id]?=some b:=by rw[List.getElem?_append_left (List.getElem?_eq_some_iff.1 h).1];exact h
theorem zbk{H:zaa}{id:Nat}{b:AB}(h:H[id]?=some b):id<H.length:=(List.getElem?_eq_some_iff.1 h).1
theorem zek{H J:zaa}{id:Nat}{b:AB}(x:AB)(h:H[id]?=some b):(H++J).set id x=H.set id x++J:=aN _ _ (zbk h)
theorem zdB{H:zaa}{id:Nat}{b:AB}(x:AB)(h:H[id]?=some b):(H.set id x)[id]?=some x:=List.getElem?_set_self (zbk h)

theorem zav{n:Int}(h1:-9223372036854775808≤n)(h2:n≤9223372036854775807):IntKind.i64.wrap n=n:=IntWalk.i64_in n ⟨h1,h2⟩

theorem HSc.set{H:zaa}{id:Nat}{b:AB}(h:HSc H)(hb:b.sc H.length=true):HSc (H.set id b):=by
 intro x hx;rw[bD];rcases bX hx with h1|h1
 ·exact h x h1
 ·rw[h1];exact hb
theorem zcf{n m:Nat}(h:n≤m):∀{a:AV},a.sc n=true→a.sc m=true:=by
 have hB:∀{a:AV},a.scB n=true→a.scB m=true:=by
  intro a ha;cases a with
  |sl es t=>cases t <;> simp_all [AV.scB];omega
  |_=>simp_all [AV.scB] <;> omega
 have hA:∀{a:AV},a.scA n=true→a.scA m=true:=by
  intro a ha;cases a with
  |fn f caps=>simp only[AV.scA,ak]at ha ⊢;exactλx hx=>hB (ha x hx)
  |_=>simp only[AV.scA]at ha ⊢;exact hB ha
 have hV:∀{a:AV},a.scV n=true→a.scV m=true:=by
  intro a ha;cases a with
  |agg caps=>simp only[AV.scV,ak]at ha ⊢;exactλx hx=>hA (ha x hx)
  |_=>simp only[AV.scV]at ha ⊢;exact hA ha
 intro a ha;cases a with
 |tup caps=>simp only[AV.sc,ak]at ha ⊢;exactλx hx=>hV (ha x hx)
 |_=>simp only[AV.sc]at ha ⊢;exact hV ha
theorem Back.here{n0:Nat}{Inv:List AV→zaa→Prop}{F:List AV}{H:zaa}(hn:n0≤H.length)(hsc:HSc H)(hs:F.all (AV.sc H.length)=true)(h:Inv F H):Back n0 Inv F H:=by have:=Back.same (J:=[]) hn hsc hs h;simpa using this
theorem zqL{n m:Nat}(h:n≤m){a:AV}(ha:a.scA n=true):a.scA m=true:=by
 cases a with
 |agg cs=>rfl
 |tup vs=>rfl
 |fn f caps=>exact zcf h (a:=.fn f caps) ha
 |sl es t=>exact zcf h (a:=.sl es t) ha
 |ptr i o=>exact zcf h (a:=.ptr i o) ha
 |ms i o l c=>exact zcf h (a:=.ms i o l c) ha
 |ov i n=>exact zcf h (a:=.ov i n) ha
 |vp i n o=>exact zcf h (a:=.vp i n o) ha
 |os i n l e=>exact zcf h (a:=.os i n l e) ha
 |map i=>exact zcf h (a:=.map i) ha
 |_=>rfl
theorem zHT{n m:Nat}(h:n≤m){a:AV}(ha:a.scV n=true):a.scV m=true:=by
 cases a with
 |tup vs=>rfl
 |agg cs=>exact zcf h (a:=.agg cs) ha
 |fn f caps=>exact zcf h (a:=.fn f caps) ha
 |sl es t=>exact zcf h (a:=.sl es t) ha
 |ptr i o=>exact zcf h (a:=.ptr i o) ha
 |ms i o l c=>exact zcf h (a:=.ms i o l c) ha
 |ov i n=>exact zcf h (a:=.ov i n) ha
 |vp i n o=>exact zcf h (a:=.vp i n o) ha
 |os i n l e=>exact zcf h (a:=.os i n l e) ha
 |map i=>exact zcf h (a:=.map i) ha
 |_=>rfl
theorem zD2{n m:Nat}(h:n≤m){b:AB}(hb:b.sc n=true):b.sc m=true:=by
 cases b with
 |cells cs=>simp only[AB.sc,ak]at hb ⊢;exactλx hx=>zqL h (hb x hx)
 |perm e s n=>rfl
 |gap=>rfl
 |dead=>rfl
 |fact φ=>rfl
 |frz e s n=>rfl
 |map kvs=>simp only[AB.sc,ak]at hb ⊢;exactλx hx=>zHT h (hb x hx)
 |bld t cs=>simp only[AB.sc,ak]at hb ⊢;exactλx hx=>zqL h (hb x hx)
 |vec e s n cs=>simp only[AB.sc,ak]at hb ⊢;exactλx hx=>zqL h (hb x hx)
theorem HSc.append{A J:zaa}(hA:HSc A)(hJ:J.all (AB.sc (A.length+J.length))=true):HSc (A++J):=by
 intro x hx;rw[az];rcases aX.1 hx with h1|h1
 ·exact zD2 (by omega) (hA x h1)
 ·exact ak.1 hJ x h1
end

inductive VT where
 |mk (kind num:Int) (kids:List VT)

mutual
def VT.cs:VT→List AV
 |.mk k n ks=>[.int .i64 k,.int .i64 n,.sl (VT.css ks) .none]
def VT.css:List VT→List (List AV)
 |[]=>[]
 |v::vs=>VT.cs v::VT.css vs
end
mutual
def VT.nodes:VT→Nat
 |.mk _ _ ks=>VT.nodesL ks+1
def VT.nodesL:List VT→Nat
 |[]=>0
 |v::vs=>VT.nodes v+VT.nodesL vs
end
theorem VT.css_map:∀ ks:List VT,VT.css ks=ks.map VT.cs
 |[]=>rfl
 |v::vs=>by simp[VT.css,VT.css_map vs]
theorem VT.nodes_pos:∀ v:VT,0<v.nodes
 |.mk _ _ _=>by simp[VT.nodes]
theorem VT.nodesL_app:∀ (a b:List VT),VT.nodesL (a++b)=VT.nodesL a+VT.nodesL b
 |[],b=>by simp[VT.nodesL]
 |v::a,b=>by simp[VT.nodesL,VT.nodesL_app a b];omega
@[simp] theorem VT.cs_len(v:VT):v.cs.length=3:=by cases v;simp[VT.cs]
@[simp] theorem VT.css_len(ks:List VT):(VT.css ks).length=ks.length:=by simp[VT.css_map]
@[simp] theorem VT.cs_take(v:VT):v.cs.take 3=v.cs:=by cases v;simp[VT.cs]
@[simp] theorem VT.cs_known(v:VT):v.cs.all AV.known=true:=by cases v;simp[VT.cs,AV.known]
@[simp] theorem VT.cs_scA(v:VT)(n:Nat):v.cs.all (AV.scA n)=true:=by cases v;simp[VT.cs,AV.scA,AV.scB]
@[simp] theorem VT.css_at{ks:List VT}{i:Nat}(h:i<ks.length):(VT.css ks)[i]?.getD []=(ks[i]).cs:=by simp[VT.css_map,h]
@[simp] theorem VT.css_get{ks:List VT}{i:Nat}(h:i<(VT.css ks).length):(VT.css ks)[i]=(ks[i]'(by simpa using h)).cs:=by simp[VT.css_map]
theorem VT.css_getD{ks:List VT}{i:Nat}(h:i<ks.length):(VT.css ks).getD i []=(ks[i]).cs:=by simp[VT.css_map,List.getD_eq_getElem?_getD,h]
theorem VT.kid_lt{k n:Int}{ks:List VT}{i:Nat}(h:i<ks.length):(ks[i]).nodes<(VT.mk k n ks).nodes:=by
 have h1:VT.nodesL ks=VT.nodesL (ks.take i)+((ks[i]).nodes+VT.nodesL (ks.drop (i+1))):=by
  conv=>lhs;rw[←aT i ks,VT.nodesL_app,ag h]
  rw[VT.nodesL]
 simp only[VT.nodes];omega
theorem VT.len_le:∀ ks:List VT,ks.length≤VT.nodesL ks
 |[]=>by simp
 |v::vs=>by have:=VT.len_le vs;have:=v.nodes_pos;simp[VT.nodesL];omega
theorem VT.nodesL_take{ks:List VT}{i:Nat}(h:i<ks.length):VT.nodesL (ks.take (i+1))=VT.nodesL (ks.take i)+(ks[i]).nodes:=by rw[af h,VT.nodesL_app];simp[VT.nodesL]
theorem VT.nodesL_take_le(ks:List VT)(i:Nat):VT.nodesL (ks.take i)≤VT.nodesL ks:=by
 conv=>rhs;rw[←aT i ks,VT.nodesL_app]
 omega
def VT.leaf(k:Int):Bool:=k == 6 || k == 7 || k == 8
mutual
def VT.size:VT→Nat
 |.mk k _ ks=>if VT.leaf k=true then 1 else VT.sizeL ks+1
def VT.sizeL:List VT→Nat
 |[]=>0
 |v::vs=>VT.size v+VT.sizeL vs
end
mutual
theorem VT.size_le:∀ v:VT,v.size≤v.nodes
 |.mk k n ks=>by have:=VT.sizeL_le ks;simp only[VT.size,VT.nodes];split <;> omega
theorem VT.sizeL_le:∀ ks:List VT,VT.sizeL ks≤VT.nodesL ks
 |[]=>by simp[VT.sizeL,VT.nodesL]
 |v::vs=>by have:=VT.size_le v;have:=VT.sizeL_le vs;simp only[VT.sizeL,VT.nodesL];omega
end
/- The guard on a value's nodes: what is left of a number behind it, and whether it was enough. -/
mutual
def VT.val:VT→Int→Bool × Int
 |.mk _ _ ks,n=>if n-1<0 then (false,n-1) else VT.valL ks (n-1)
def VT.valL:List VT→Int→Bool × Int
 |[],n=>(true,n)
 | v::vs,n=>match VT.val v n with
  |(true,m)=>VT.valL vs m
  |(false,m)=>(false,m)
end
mutual
theorem VT.val_spec:∀ (v:VT) (n:Int),0≤n→((VT.val v n).1=true→(VT.val v n).2=n-v.nodes∧0≤(VT.val v n).2)∧-1≤(VT.val v n).2∧(VT.val v n).2≤n
 |.mk k m ks,n,h=>by
  simp only[VT.val,VT.nodes];split
  ·simp;omega
  ·have:=VT.valL_spec ks (n-1) (by omega);refine⟨λht=>?_,by omega,by omega⟩;have:=this.1 ht;omega
theorem VT.valL_spec:∀ (ks:List VT) (n:Int),0≤n→((VT.valL ks n).1=true→(VT.valL ks n).2=n-VT.nodesL ks∧0≤(VT.valL ks n).2)∧-1≤(VT.valL ks n).2∧(VT.valL ks n).2≤n
 |[],n,h=>by simp[VT.valL,VT.nodesL];omega
 |v::vs,n,h=>by
  have h1:=VT.val_spec v n h;simp only[VT.valL,VT.nodesL];split
  ·rename_i m hm;rw[hm]at h1;have h2:=h1.1 rfl;simp only at h2;have h3:=VT.valL_spec vs m h2.2;refine⟨λht=>?_,by omega,by omega⟩;have:=h3.1 ht;omega
  ·rename_i m hm;rw[hm]at h1;simp only at h1;exact⟨by simp,by omega,by omega⟩
end
theorem VT.valL_drop{ks:List VT}{i:Nat}(h:i<ks.length)(n:Int):VT.valL (ks.drop i) n=match VT.val ks[i] n with
  |(true,m)=>VT.valL (ks.drop (i+1)) m
  |(false,m)=>(false,m):=by rw[ag h,VT.valL]
def icmp(a b:Int):Int:=if a<b then -1 else if b<a then 1 else 0
def cor(a b:Int):Int:=if a=0 then b else a
theorem zht(a b:Int):icmp a b=- icmp b a:=by unfold icmp;split <;> split <;> first|omega|(split <;> omega)
theorem zo5(a b:Int):icmp a b=0↔a=b:=by unfold icmp;split <;> first|omega|(split <;> omega)
theorem zhu(a b:Int):icmp a b=-1∨icmp a b=0∨icmp a b=1:=by unfold icmp;split <;> first|omega|(split <;> omega)
theorem zfn{a a' b b':Int}(h:a=- b)(h':a'=- b'):cor a a'=- cor b b':=by unfold cor;split <;> split <;> omega
theorem zhh(a b:Int):cor a b=0↔a=0∧b=0:=by unfold cor;split <;> omega
theorem zfo{a b:Int}(h:a=-1∨a=0∨a=1)(h':b=-1∨b=0∨b=1):cor a b=-1∨cor a b=0∨cor a b=1:=by unfold cor;split <;> omega
theorem zwa{a b:Int}(h:a≠0):cor a b=a:=by simp[cor,h]
theorem zwb{a b:Int}(h:a=0):cor a b=b:=by simp[cor,h]
def Tri(a b c:Int):Prop:=a≤0→b≤0→c≤0∧(c=0→a=0∧b=0)
theorem Tri.icmp(x y z:Int):Tri (icmp x y) (icmp y z) (icmp x z):=by unfold Tri Go.Proofs.YtdmamdnkcefmmaaGreatDoor.icmp;intro h1 h2;split at h1 <;> split at h2 <;> (try split at h1) <;> (try split at h2) <;> split <;> (try split) <;> omega
theorem Tri.cor{a b c a' b' c':Int}(h:Tri a b c)(h':Tri a' b' c'):Tri (cor a a') (cor b b') (cor c c'):=by unfold Tri Go.Proofs.YtdmamdnkcefmmaaGreatDoor.cor at *;intro h1 h2;by_cases ha:a=0 <;> by_cases hb:b=0 <;> by_cases hc:c=0 <;> simp only[ha,hb,hc,aV,aH]at*<;> first|omega|(simp_all;done)|(have:=h' h1 h2;simp_all;omega)
mutual
def VT.cmp:VT→VT→Int
 |.mk k n ks,.mk k' n' ks'=>cor (icmp k k') (cor (icmp n n') (cor (icmp ks.length ks'.length) (VT.cmpL ks ks')))
def VT.cmpL:List VT→List VT→Int
 |v::vs,w::ws=>cor (VT.cmp v w) (VT.cmpL vs ws)
 |[],[]=>0
 |[],_::_=>-1
 |_::_,[]=>1
end
mutual
def VT.same:VT→VT→Bool
 |.mk k n ks,.mk k' n' ks'=>k == k' && n == n' && VT.sameL ks ks'
def VT.sameL:List VT→List VT→Bool
 |v::vs,w::ws=>VT.same v w && VT.sameL vs ws
 |[],[]=>true
 |[],_::_=>false
 |_::_,[]=>false
end
mutual
theorem VT.cmp_anti:∀ v w:VT,VT.cmp v w=- VT.cmp w v
 |.mk k n ks,.mk k' n' ks'=>by simp only[VT.cmp];exact zfn (zht _ _) (zfn (zht _ _) (zfn (zht _ _) (VT.cmpL_anti ks ks')))
theorem VT.cmpL_anti:∀ v w:List VT,VT.cmpL v w=- VT.cmpL w v
 |v::vs,w::ws=>by simp only[VT.cmpL];exact zfn (VT.cmp_anti v w) (VT.cmpL_anti vs ws)
 |[],[]=>by simp[VT.cmpL]
 |[],_::_=>by simp[VT.cmpL]
 |_::_,[]=>by simp[VT.cmpL]
end
mutual
theorem VT.cmp_rng:∀ v w:VT,VT.cmp v w=-1∨VT.cmp v w=0∨VT.cmp v w=1
 |.mk k n ks,.mk k' n' ks'=>by simp only[VT.cmp];exact zfo (zhu _ _) (zfo (zhu _ _) (zfo (zhu _ _) (VT.cmpL_rng ks ks')))
theorem VT.cmpL_rng:∀ v w:List VT,VT.cmpL v w=-1∨VT.cmpL v w=0∨VT.cmpL v w=1
 |v::vs,w::ws=>by simp only[VT.cmpL];exact zfo (VT.cmp_rng v w) (VT.cmpL_rng vs ws)
 |[],[]=>by simp[VT.cmpL]
 |[],_::_=>by simp[VT.cmpL]
 |_::_,[]=>by simp[VT.cmpL]
end
theorem VT.sameL_len:∀ v w:List VT,VT.sameL v w=true→v.length=w.length
 |v::vs,w::ws=>by simp only[VT.sameL,ai,List.length_cons];intro h;have:=VT.sameL_len vs ws h.2;omega
 |[],[]=>by simp
 |[],_::_=>by simp[VT.sameL]
 |_::_,[]=>by simp[VT.sameL]
mutual
theorem VT.cmp_zero:∀ v w:VT,VT.cmp v w=0↔VT.same v w=true
 |.mk k n ks,.mk k' n' ks'=>by
  have h:=VT.cmpL_zero ks ks';simp only[VT.cmp,VT.same,zhh,zo5,ai,a6,and_assoc,h];constructor
  ·rintro⟨a,b,_,c⟩;exact⟨a,b,c⟩
  ·rintro⟨a,b,c⟩;exact⟨a,b,by have:=VT.sameL_len _ _ c;omega,c⟩
theorem VT.cmpL_zero:∀ v w:List VT,VT.cmpL v w=0↔VT.sameL v w=true
 |v::vs,w::ws=>by simp only[VT.cmpL,VT.sameL,zhh,ai,VT.cmp_zero v w,VT.cmpL_zero vs ws]
 |[],[]=>by simp[VT.cmpL,VT.sameL]
 |[],_::_=>by simp[VT.cmpL,VT.sameL]
 |_::_,[]=>by simp[VT.cmpL,VT.sameL]
end
mutual
theorem VT.cmp_tri:∀ v w x:VT,Tri (VT.cmp v w) (VT.cmp w x) (VT.cmp v x)
 |.mk k n ks,.mk k' n' ks',.mk k'' n'' ks''=>by simp only[VT.cmp];exact(Tri.icmp _ _ _).cor ((Tri.icmp _ _ _).cor ((Tri.icmp _ _ _).cor (VT.cmpL_tri ks ks' ks'')))
theorem VT.cmpL_tri:∀ v w x:List VT,Tri (VT.cmpL v w) (VT.cmpL w x) (VT.cmpL v x)
 |v::vs,w::ws,x::xs=>by simp only[VT.cmpL];exact(VT.cmp_tri v w x).cor (VT.cmpL_tri vs ws xs)
 |[],[],[]=>by simp[VT.cmpL,Tri]
 |[],[],_::_=>by simp[VT.cmpL,Tri]
 |[],_::_,[]=>by simp[VT.cmpL,Tri]
 |[],_::_,_::_=>by simp[VT.cmpL,Tri]
 |_::_,[],[]=>by simp[VT.cmpL,Tri]
 |_::_,[],_::_=>by simp[VT.cmpL,Tri]
 |_::_,_::_,[]=>by simp[VT.cmpL,Tri]
end
theorem VT.cmpL_drop{a b:List VT}{i:Nat}(ha:i<a.length)(hb:i<b.length):VT.cmpL (a.drop i) (b.drop i)=cor (VT.cmp a[i] b[i]) (VT.cmpL (a.drop (i+1)) (b.drop (i+1))):=by rw[ag ha,ag hb,VT.cmpL]
theorem VT.sameL_drop{a b:List VT}{i:Nat}(ha:i<a.length)(hb:i<b.length):VT.sameL (a.drop i) (b.drop i)=(VT.same a[i] b[i] && VT.sameL (a.drop (i+1)) (b.drop (i+1))):=by rw[ag ha,ag hb,VT.sameL]
end Go.Proofs.YtdmamdnkcefmmaaGreatDoor

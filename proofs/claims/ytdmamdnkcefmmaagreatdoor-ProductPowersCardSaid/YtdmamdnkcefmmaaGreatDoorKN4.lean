import Derived.Test.YtdmamdnkcefmmaaGreatDoorAbsU
import Derived.Test.YtdmamdnkcefmmaaGreatDoorAbsQ1
import Derived.Lib.AppendStr
import Derived.Lib.UnsafeStr
import Derived.Sort.Grow
import Derived.Deep.Draws
set_option linter.unusedSimpArgs false
set_option linter.unusedVariables false
set_option maxRecDepth 8000
namespace Go.Proofs.YtdmamdnkcefmmaaGreatDoor
theorem Out.tup{H J:zaa}{K:AV→zaa→Prop}{asx bs:List AV}(hs:HSc H)(h:K (.tup bs) H)(hw:All2 (λa b=>WkV a b∧b.isV=true∧b.scV H.length=true) asx bs):Out H.length K (.tup asx) (H++J):=
 ⟨_,H,J,rfl,ac _,hs,.tup (hw.mono λ_ _ h=>.wk h.1 h.2.1 h.2.2),h⟩
theorem Out.tup0{H:zaa}{K:AV→zaa→Prop}{asx bs:List AV}(hs:HSc H)(h:K (.tup bs) H)(hw:All2 (λa b=>WkV a b∧b.isV=true∧b.scV H.length=true) asx bs):Out H.length K (.tup asx) H:=by have:=Out.tup (J:=[]) hs h hw;simpa using this
theorem Out.one{H J:zaa}{K:AV→zaa→Prop}{a b:AV}(hs:HSc H)(hw:WkV a b)(hv:b.isV=true)(hc:b.scV H.length=true)(h:K b H):Out H.length K a (H++J):=
 ⟨_,H,J,rfl,ac _,hs,.one (.wk hw hv hc),h⟩
theorem Out.one0{H:zaa}{K:AV→zaa→Prop}{a b:AV}(hs:HSc H)(hw:WkV a b)(hv:b.isV=true)(hc:b.scV H.length=true)(h:K b H):Out H.length K a H:=by have:=Out.one (J:=[]) hs hw hv hc h;simpa using this
@[simp] theorem yea(k:IntKind)(n:Int):(AV.int k n).known=true:=rfl
@[simp] theorem yeh(s:List UInt8):(AV.str s).known=true:=rfl
@[simp] theorem yd8(b:Bool):(AV.bool b).known=true:=rfl
@[simp] theorem yeg(es:List (List AV))(t:Tok):(AV.sl es t).known=true:=rfl
@[simp] theorem zcE:AV.snil.known=true:=rfl
@[simp] theorem yed:AV.nilp.known=true:=rfl
@[simp] theorem yef(i o:Nat):(AV.ptr i o).known=true:=rfl
@[simp] theorem yec(i o l c:Nat):(AV.ms i o l c).known=true:=rfl
@[simp] theorem yd9(f:Nat)(c:List AV):(AV.fn f c).known=true:=rfl
@[simp] theorem yeb(i:Nat):(AV.map i).known=true:=rfl
@[simp] theorem yei(cs:List AV):(AV.view cs).known=true:=rfl
section
variable {H:zaa} {K:AV→zaa→Prop}
@[simp] theorem ybc(i o:Nat):zav (.ptr i o) H K=K (.ptr H.length 0) (H++[.cells [.ptr i o]]):=propext aO
@[simp] theorem yba(i o l c:Nat):zav (.ms i o l c) H K=K (.ptr H.length 0) (H++[.cells [.ms i o l c]]):=propext aO
@[simp] theorem ya9(i:Nat):zav (.map i) H K=K (.ptr H.length 0) (H++[.cells [.map i]]):=propext aO
@[simp] theorem ya7(f:Nat)(c:List AV):zav (.fn f c) H K=K (.ptr H.length 0) (H++[.cells [.fn f c]]):=propext aO
@[simp] theorem ybe:zav .snil H K=K (.ptr H.length 0) (H++[.cells [.snil]]):=propext aO
end
theorem zaD{H:zaa}{p:zaa→(AV→zaa→Prop)→Prop}{k:AV→Prop}(r:AV)(h:∀J:zaa,p (H++J) λv H'=>v=r∧H'=H++J)(hk:k r):zaC H p k:=⟨r,h,hk⟩
@[simp] theorem yew(m:Nat)(k:IntKind)(n:Int):(AV.int k n).scA m=true:=rfl
@[simp] theorem yeE(m:Nat)(s:List UInt8):(AV.str s).scA m=true:=rfl
@[simp] theorem yev(m:Nat)(b:Bool):(AV.bool b).scA m=true:=rfl
@[simp] theorem yeC(m:Nat)(es:List (List AV)):(AV.sl es .none).scA m=true:=rfl
@[simp] theorem yeD(m:Nat):AV.snil.scA m=true:=rfl
@[simp] theorem yeB(m i o:Nat):(AV.ptr i o).scA m=decide (i<m):=rfl
@[simp] theorem yey(m i o l c:Nat):(AV.ms i o l c).scA m=decide (i<m):=rfl
@[simp] theorem yex(m i:Nat):(AV.map i).scA m=decide (i<m):=rfl
@[simp] theorem yeA(m:Nat)(es:List (List AV))(i:Nat):(AV.sl es (.own i)).scA m=decide (i<m):=rfl
theorem WkV.rfl'{a:AV}:WkV a a:=.atom (.refl a)
theorem zaV{n:Nat}{a:AV}(h1:a.isV=true)(h2:a.scV n=true):WkV a a∧a.isV=true∧a.scV n=true:=⟨.rfl',h1,h2⟩
theorem slV{n:Nat}{es:List (List AV)}{t:Tok}:WkV (.sl es t) (.sl es .none)∧(AV.sl es .none).isV=true∧(AV.sl es .none).scV n=true:=⟨.atom (.sl es t),rfl,rfl⟩
theorem zdj{n:Nat}:WkV .snil (.sl [] .none)∧(AV.sl [] .none).isV=true∧(AV.sl [] .none).scV n=true:=⟨.atom .snil,rfl,rfl⟩
theorem zee{x:Option AV}{d:Nat}{p:Nat→Prop}{p':AV→Nat→Prop}{q:AV→Prop}(hp:∀n,p n↔∃v,p' v n∧q v):zbX x d p↔∃v,zbX x d (p' v)∧q v:=by
 unfold zbX;split
 ·exact hp d
 ·rename_i n;constructor
  ·rintro⟨h1,h2⟩;obtain⟨v,h3,h4⟩:=(hp _).1 h2;exact⟨v,⟨h1,h3⟩,h4⟩
  ·rintro⟨v,⟨h1,h3⟩,h4⟩;exact⟨h1,(hp _).2 ⟨v,h3,h4⟩⟩
 ·simp
theorem zhY{a:Prop}{q:AV→Prop}{x:AV}:(a∧q x)↔∃v,(a∧x=v)∧q v:=by
 constructor
 ·rintro⟨h1,h2⟩;exact⟨_,⟨h1,rfl⟩,h2⟩
 ·rintro⟨v,⟨h1,rfl⟩,h2⟩;exact⟨h1,h2⟩
@[simp] theorem ydf{H:zaa}{k:AV→Prop}(u e:Nat)(x:AV)(lo hi:Option AV):zab H (λK'=>zaN u e x lo hi λv=>K' v H) k=zaN u e x lo hi k:=zcr (p:=λq=>zaN u e x lo hi q) λq=>by
 unfold zaN;split
 ·exact zee λh=>zee λl=>zhY
 ·exact zee λh=>zee λl=>zhY
 ·exact zee λh=>zee λl=>zhY
 ·exact zee λh=>zee λl=>zhY
 ·exact zee λh=>zee λl=>zhY
 ·simp
theorem Out.at{n:Nat}{H2 J H':zaa}{K:AV→zaa→Prop}{a b:AV}(he:H'=H2++J)(hn:n≤H2.length)(hs:HSc H2)(hw:WkV a b)(hv:b.isV=true)(hc:b.scV H2.length=true)(h:K b H2):Out n K a H':=by subst he;exact⟨_,H2,J,rfl,hn,hs,.one (.wk hw hv hc),h⟩
theorem Out.bool{n:Nat}{H2 J H':zaa}{K:AV→zaa→Prop}{b:Bool}(he:H'=H2++J)(hn:n≤H2.length)(hs:HSc H2)(h:K (.bool b) H2):Out n K (.bool b) H':=Out.at he hn hs .rfl' rfl rfl h
theorem Out.int{n:Nat}{H2 J H':zaa}{K:AV→zaa→Prop}{k:IntKind}{b:Int}(he:H'=H2++J)(hn:n≤H2.length)(hs:HSc H2)(h:K (.int k b) H2):Out n K (.int k b) H':=Out.at he hn hs .rfl' rfl rfl h
theorem Back.at{n0:Nat}{Inv:List AV→zaa→Prop}{F:List AV}{H2 J H':zaa}(he:H'=H2++J)(hn:n0≤H2.length)(hsc:HSc H2)(hs:F.all (AV.sc H2.length)=true)(h:Inv F H2):Back n0 Inv F H':=by subst he;exact Back.same hn hsc hs h
theorem HSc.snoc{H:zaa}{b:AB}(h:HSc H)(hb:b.sc (H.length+1)=true):HSc (H++[b]):=h.append (by simpa using hb)
theorem zIt{B:Nat}{w w':World}{G G':Gh}(h:Ext B w G w' G'):G.μ.length≤G'.μ.length:=by
 by_cases h0:G.μ.length=0
 ·omega
 ·obtain⟨g,h1,_⟩:=h.ids (G.μ.length-1) _ (List.getElem?_eq_getElem (by omega));have:=(List.getElem?_eq_some_iff.1 h1).1;omega
theorem ACalls.mono'{P:Program}{f:FuncId}{args:List AV}{H:zaa}{K K':AV→zaa→Prop}(h:ACalls P f args H K)(hk:∀r H',HSc H'→H.length≤H'.length→K r H'→K' r H'):ACalls P f args H K':=
 λB w G vs hH hv=>(h B w G vs hH hv).mono λ_ _ ⟨v,r,H',G',h1,h2,h3,h4,h5⟩=>⟨v,r,H',G',h1,h2,h3,h4,hk _ _ h3.sc (by have:=zIt h2;rw[hH.len,h3.len]at this;exact this) h5⟩
theorem aCallV.mono'{P:Program}{g:AV}{args:List AV}{H:zaa}{K K':AV→zaa→Prop}(h:aCallV P g args H K)(hk:∀r H',HSc H'→H.length≤H'.length→K r H'→K' r H'):aCallV P g args H K':=by
 unfold aCallV at *;split at h
 ·split at h
  ·exact ACalls.mono' h hk
  ·exact h.elim
 ·exact h.elim
section
open Go.RowKit
theorem HRel.reCell{B:Nat}{w:World}{G:Gh}{H:zaa}(h:HRel B w G H){id:Nat}{cs cs':List AV}(en:H[id]?=some (.cells cs))(hc:∀vs:List Value,All2 (ARel w G) vs cs→All2 (ARel w G) vs cs'):HRel B w G (H.set id (.cells cs')):=by
 refine⟨by simp[h.len],?_,h.dist,h.fresh,h.lt,h.base⟩;intro i ab gi h1 h2;by_cases hi:i=id
 ·subst hi;rw[List.getElem?_set_self (List.getElem?_eq_some_iff.1 en).1]at h1;cases h1;have eu:=h.ok i _ _ en h2;cases gi with
  |blk b=>obtain⟨k1,k2,vs,e,k3,k4⟩:=eu;exact⟨k1,k2,vs,e,k3,hc _ k4⟩
  |own v s n=>exact eu.elim
  |gap=>exact eu.elim
 ·rw[List.getElem?_set_ne (λh=>hi h.symm)]at h1;exact h.ok i ab gi h1 h2
theorem HRel.ownCell{B:Nat}{w:World}{G:Gh}{H:zaa}(h:HRel B w G H){id j:Nat}{cs:List AV}(e size:Nat)(en:H[id]?=some (.cells cs))(hj:cs[j]?=some .snil):
  ∃G',Ext B w G w G'∧HRel B w G' (H.set id (.cells (cs.set j (.sl [] (.own H.length))))++[.perm e size 0]):=by
 obtain⟨hE,eU⟩:=h.newOwn e size;refine⟨_,hE,?_⟩;have ei:=(List.getElem?_eq_some_iff.1 en).1;have:=eU.reCell (id:=id) (cs:=cs) (cs':=cs.set j (.sl [] (.own H.length))) (by rw[List.getElem?_append_left ei];exact en) (λvs nB=>by
  obtain⟨v,h1,h2⟩:=All2.get nB hj;have h2:v=.slice none 0 0:=h2;subst h2;have eQ:vs=vs.set j (.slice none 0 0):=by
   apply aL;intro k;by_cases hk:k=j
   ·subst hk;rw[List.getElem?_set_self (List.getElem?_eq_some_iff.1 h1).1];exact h1
   ·rw[List.getElem?_set_ne (λh=>hk h.symm)]
  rw[eQ];refine All2.set j nB ?_;refine⟨.slE _ _,.slice none 0 0,size,0,?_,ac _,λ_=>⟨rfl,by simp⟩⟩;rw[←h.len];simp)
 rwa [aM _ _ ei]at this
theorem ALoop.ownC{P:Program}{c:Code}{Q:AExit→List AV→zaa→Prop}{F:List AV}{H:zaa}{cs:List AV}(id j e size:Nat)(en:H[id]?=some (.cells cs))(hj:cs[j]?=some .snil)(h:ALoop P c Q F (H.set id (.cells (cs.set j (.sl [] (.own H.length))))++[.perm e size 0])):ALoop P c Q F H:=by
 intro B w G a hH hF hd;obtain⟨G',hE,eU⟩:=hH.ownCell e size en hj;refine wp_mono (h B w G' a eU (hF.ext hE) hd) λe a' w' hp=>?_;obtain⟨F'',H'',G'',e'',rfl,k1,k2,k3,k4,k5⟩:=hp;exact⟨F'',H'',G'',e'',rfl,hE.trans k1,k2,k3,k4,k5⟩
def zal(l:List Nat):List (List AV):=l.map λ(n:Nat)=>[AV.int .u32 (n:Int)]
@[simp] theorem yeQ(l:List Nat):(zal l).length=l.length:=by simp[zal]
theorem zBG(l:List Nat)(n:Nat):(zal l).take n=zal (l.take n):=by simp[zal,bC]
theorem yeP{l:List Nat}{i:Nat}(h:i<l.length):(zal l)[i]?.getD []=[.int .u32 ((l[i]:Nat):Int)]:=by simp[zal,h]
@[simp] theorem yeO{l:List Nat}{i:Nat}(h:i<(zal l).length):(zal l)[i]=[.int .u32 (((l[i]'(by simpa using h)):Nat):Int)]:=by simp[zal]
theorem zen(l:List Nat):∀c∈zal l,c.length=1:=by intro c hc;simp only[zal,aA]at hc;obtain⟨n,_,rfl⟩:=hc;rfl
theorem zA5{L:List Nat}{n:Nat}(hn:0<n)(h:n≤L.length)(h0:L[n-1]=0):zbP (L.take n)=zbP (L.take (n-1)):=by
 obtain⟨m,rfl⟩:∃m,n=m+1:=⟨n-1,by omega⟩;simp only[cp]at h0 ⊢;rw[ae (by omega),h0];generalize L.take m=A;induction A with
 |nil=>simp[zbP]
 |cons a A ih=>rw[List.cons_append,zbP,zbP,ih]
theorem zA3{L:List Nat}{n:Nat}(hn:0<n)(h:n≤L.length)(h0:L[n-1]≠0):zbP (L.take n)=L.take n:=by
 obtain⟨m,rfl⟩:∃m,n=m+1:=⟨n-1,by omega⟩;simp only[cp]at h0;rw[ae (by omega)];generalize hx:L[m]=x at h0;generalize L.take m=A;induction A with
 |nil=>simp[zbP,h0]
 |cons a A ih=>rw[List.cons_append,zbP,ih,au];rintro⟨_,h⟩;simp at h
theorem zcB{n:Nat}(h:n<4294967296):IntKind.u32.wrap (n:Int)=n:=IntWalk.u32_in _ ⟨by omega,by omega⟩
theorem zbw{n:Nat}(h:n<18446744073709551616):IntKind.u64.wrap (n:Int)=n:=IntWalk.u64_in _ ⟨by omega,by omega⟩
theorem zxG{k:AV→Prop}(b:Bool)(j:IntKind)(m n:Nat)(hn:n≠0):zac .rem b (.int j m) (.int j n) k=k (.int j ((m % n:Nat):Int)):=by simp only[zcy,ne_eq,Int.natCast_eq_zero,hn,not_false_eq_true,d5];rfl
theorem zxF{k:AV→Prop}(b:Bool)(j:IntKind)(m n:Nat)(hn:n≠0):zac .quo b (.int j m) (.int j n) k=k (.int j (j.wrap ((m / n:Nat):Int))):=by simp only[zcy,ne_eq,Int.natCast_eq_zero,hn,not_false_eq_true,d5];rfl
theorem zp4{k:AV→Prop}(b:Bool)(j:IntKind)(m:Nat):zac .rem b (.int j m) (.int j 1000000000) k=k (.int j ((m % 1000000000:Nat):Int)):=zxG b j m 1000000000 (by decide)
theorem zxD{k:AV→Prop}(b:Bool)(j:IntKind)(m:Nat):zac .quo b (.int j m) (.int j 1000000000) k=k (.int j (j.wrap ((m / 1000000000:Nat):Int))):=zxF b j m 1000000000 (by decide)
theorem zxE{k:AV→Prop}(b:Bool){m:Nat}(h:m<18446744073709551616):zac .quo b (.int .u64 m) (.int .u64 1000000000) k=k (.int .u64 ((m / 1000000000:Nat):Int)):=by rw[zxD,zbw (by have:=cU m 1000000000;omega)]
theorem zHn{k:AV→Prop}(b:Bool){m:Nat}(h:m<4294967296):zac .quo b (.int .u32 m) (.int .u32 1000000000) k=k (.int .u32 ((m / 1000000000:Nat):Int)):=by rw[zxD,zcB (by have:=cU m 1000000000;omega)]
theorem zHi{k:AV→Prop}(j:IntKind){m:Nat}(h:m<4294967296):za8 .u32 (.int j m) k=k (.int .u32 m):=by rw[zHj,zcB h]
theorem zqZ(m:Nat):m % 1000000000<1000000000:=ck _ (by decide)
theorem zIn{m:Nat}(h:m≠0):m / 1000000000<m:=cP (by omega) (by decide)
theorem sN(l:List Nat)(x:Nat):zal l++[[AV.int .u32 (x:Int)]]=zal (l++[x]):=by simp[zal]
theorem zgG(s:Nat)(h:s<18446744073709551616):∃ x c:Nat,x<1000000000∧s=x+1000000000*c∧IntKind.u32.wrap (x:Int)=x ∧
  (∀(b:Bool) (k:AV→Prop),zac .rem b (.int .u64 s) (.int .u64 1000000000) k=k (.int .u64 x))∧∀(b:Bool) (k:AV→Prop),zac .quo b (.int .u64 s) (.int .u64 1000000000) k=k (.int .u64 c):=
 ⟨s % 1000000000,s / 1000000000,zqZ s,by omega,zcB (by omega),λb k=>zp4 b .u64 s,λb k=>zxE b h⟩
theorem zyB(s:Nat)(h:s<4294967296):∃ x c:Nat,x<1000000000∧s=x+1000000000*c ∧
  (∀(b:Bool) (k:AV→Prop),zac .rem b (.int .u32 s) (.int .u32 1000000000) k=k (.int .u32 x))∧∀(b:Bool) (k:AV→Prop),zac .quo b (.int .u32 s) (.int .u32 1000000000) k=k (.int .u32 c):=
 ⟨s % 1000000000,s / 1000000000,zqZ s,by omega,λb k=>zp4 b .u32 s,λb k=>zHn b h⟩
theorem zqx(s d:Nat)(hd:0<d)(h:s<18446744073709551616):∃ x c:Nat,x<d∧s=x+d*c ∧
  (∀(b:Bool) (k:AV→Prop),zac .rem b (.int .u64 s) (.int .u64 d) k=k (.int .u64 x))∧∀(b:Bool) (k:AV→Prop),zac .quo b (.int .u64 s) (.int .u64 d) k=k (.int .u64 c):=
 ⟨s % d,s / d,ck _ hd,(Nat.mod_add_div s d).symm,λb k=>zxG b .u64 s d (by omega),λb k=>by rw[zxF b .u64 s d (by omega),zbw (by have:=cU s d;omega)]⟩
theorem wi(i:Nat)(h:i<1000000000):IntKind.i64.wrap ((i:Int)+1)=((i+1:Nat):Int):=by rw[zay (by omega) (by omega)];omega
theorem zA4:∀ l:List Nat,(zbP l).length≤l.length∧((zbP l).length=l.length→zbP l=l)
 |[]=>by simp[zbP]
 |x::l=>by
  obtain⟨h1,h2⟩:=zA4 l;rw[zbP];split
  ·simp
  ·simp only[List.length_cons];exact⟨by omega,λh=>by rw[h2 (by omega)]⟩
theorem zjX{n k:Nat}(h:1000000000 ^ k≤n):k<(lim n).length:=by have h1:=zdW (lim n) (zb4 n);rw[zbq]at h1;refine bW λh2=>?_;have:=a7 (show 0<1000000000 by omega) h2;omega
theorem zql{R:List Nat}(hR:∀x∈R,x<1000000000)(h:R.length≤(lim (zao R)).length):R=lim (zao R):=by have h1:=zf1 R hR;obtain⟨h2,h3⟩:=zA4 R;rw[←h1,h3 (by rw[h1]at h2 ⊢;omega)]
end
theorem zte(L:List Nat)(hL:L.length≤1000000)(H:zaa)(K:Kt)(hK:K (.sl (zal (zbP L)) .none) H):
  ACalls tP zfg [.sl (zal L) .none] H K:=by
 refine ACalls.out (zM2 λhs=>?_);simp[zCc];refine zM0 (Inv:=λq t3 H'=>∃n:Nat,n≤L.length∧n=q∧t3=.int .i64 n∧H'=H∧zbP L=zbP (L.take n)) L.length ?_ ?_
 ·intro _;exact⟨L.length,by omega,rfl,by simp,rfl,by simp⟩
 ·rintro q t3 H' ⟨n,hn,rfl,rfl,rfl,eL⟩ eE ek eK Kb eq;have fC:∀ (l:List Nat) (J:zaa),l=zbP L→Out (List.length H') K (AV.sl (zal l) (Tok.own (List.length H'))) (H'++J):=λl J hl=>Out.one hs (.atom (.sl _ _)) rfl rfl (by rw[hl];exact hK);by_cases h0:n=0
  ·subst h0;simp[zlX,zax,zaM,zaK];exact⟨zen L,fC [] _ (by simpa[zbP]using eL.symm)⟩
  ·have hw:IntKind.i64.wrap ((n:Int)-1)=((n-1:Nat):Int):=by rw[zay (by omega) (by omega)];omega
   have ei:n-1<L.length:=by omega
   by_cases hz:L[n-1]=0
   ·simp[zlX,show 0<n by omega,hw,ei,hz];exact eq _ _ ⟨n-1,by omega,Back.here (by simp) hs (by simp[zlY,AV.sc,AV.scA,AV.scB,AV.scV]) ⟨_,rfl,n-1,by omega,rfl,rfl,rfl,by rw[eL,zA5 (by omega) hn hz]⟩⟩
   ·have oU:(((L[n-1]:Nat):Int) == 0)=false:=by simp;omega
    simp[zlX,show 0<n by omega,hw,ei,oU,zax,zaM,zaK];refine⟨⟨hn,zen L⟩,λc hc=>zen L c (bu hc),⟨by omega,by omega⟩,?_⟩;rw[zBG];exact fC _ _ (by rw[eL,zA3 (by omega) hn hz])
section
open Go.RowKit
variable {P:Program} {B:Nat} {w:World} {G:Gh} {H:zaa}
theorem HRel.frz(h:HRel B w G H){id:Nat}{cs:List AV}(hH:H[id]?=some (.cells cs)):
  ∃G',Ext B w G w G'∧HRel B w G' (H.set id .dead)∧∃b,G.μ[id]?=some (.blk b)∧G'.L b=cs.length∧∃(vs:Array Value) (e:TypeId),w.heap[b]?=some (.cells vs e (0,0))∧All2 (ARel w G) vs.toList cs:=by
 have ei:id<G.μ.length:=by rw[h.len];exact(List.getElem?_eq_some_iff.1 hH).1
 obtain⟨gi,gH⟩:∃gi,G.μ[id]?=some gi:=⟨_,List.getElem?_eq_getElem ei⟩;have eu:=h.ok id _ _ hH gH;cases gi with
 |gap=>exact eu.elim
 |own v s n=>exact eu.elim
 |blk b=>
  obtain⟨hB,hL,vs,e,hw,eN⟩:=eu;have hl:vs.size=cs.length:=by simpa using eN.length
  have he:Ext B w G w ⟨λx=>if x=b then cs.length else G.L x,G.μ⟩:=
   ⟨ac _,Below.refl _ _,λx=>by by_cases hx:x=b <;> simp[hx,hL],λ_ _ _=>rfl,λ_ gi h=>⟨gi,h,gi.le_refl⟩⟩
  refine⟨_,he,⟨by simp[h.len],?_,h.dist,λx hx=>?_,h.lt,h.base⟩,b,gH,by simp,vs,e,hw,eN⟩
  ·intro id' ab gi h1 h2;by_cases en:id'=id
   ·subst en;rw[List.getElem?_set_self (List.getElem?_eq_some_iff.1 hH).1]at h1;cases h1;have h2:G.μ[id']?=some gi:=h2;rw[gH]at h2;cases h2;exact⟨vs,e,(0,0),hw,by simp[hl]⟩
   ·rw[List.getElem?_set_ne (λh=>en h.symm)]at h1;refine(h.ok id' ab gi h1 h2).keep he (λx hx=>⟨rfl,?_⟩);have:¬x=b:=λiF=>en (h.dist id' id gi _ b h2 gH (by rw[hx,iF]) rfl);simp[this]
  ·have:=h.lt id _ b gH rfl;have h3:¬ x=b:=by omega
   simp[h3,h.fresh x hx]
inductive FzA (id off len cap:Nat) (es:List (List AV)):AV→AV→Prop
 |refl (a:AV):FzA id off len cap es a a
 |ms:FzA id off len cap es (.ms id off len cap) (.sl es .none)
inductive FzT (id off len cap:Nat) (es:List (List AV)):AV→AV→Prop
 |one {a b:AV} (h:FzA id off len cap es a b):FzT id off len cap es a b
 |agg {asx bs:List AV} (h:All2 (FzA id off len cap es) asx bs):FzT id off len cap es (.agg asx) (.agg bs)
theorem FzA.rel{id off len cap size:Nat}{cs:List AV}{es:List (List AV)}(fd:off+len*size≤cs.length)(hp:plain ((cs.drop off).take (len*size))=some es.flatten)(ek:es.length=len)(eB:∀c∈es,c.length=size)(eM:len≤cap){G':Gh}(hE:Ext B w G w G'){b:Nat}(hμ:G.μ[id]?=some (.blk b))(mj:G'.L b=cs.length){vs0:Array Value}{e:TypeId}(hw:w.heap[b]?=some (.cells vs0 e (0,0)))(eN:All2 (ARel w G) vs0.toList cs){v:Value}{a b':AV}(eY:FzA id off len cap es a b')(hr:ARel w G v a):ARel w G' v b':=by
 cases eY with
 |refl a=>exact hE.arel hr
 |ms=>
  obtain⟨b2,fD,rfl⟩:=hr;rw[hμ]at fD;cases fD;show DRel w G'.L _ _;subst ek;by_cases ey:es=[]
  ·subst ey;exact .slE _ _
  ·have hl:=eN.length;have hd:=zdM ((eN.drop off).take (es.length*size)) hp;refine DRel.of_flat_at (zs:=(vs0.toList.drop off).take (es.length*size)) eB ey eM (by rw[mj];exact fd) (hd.mono λ_ _=>hE.drel) ?_;intro j u hj;rw[List.getElem?_take]at hj;split at hj
   ·simp only[World.cell?,hw];simpa using hj
   ·cases hj
theorem zp9{R R':Value→AV→Prop}{S:AV→AV→Prop}(h:∀v a b,S a b→R v a→R' v b){vs:List Value}{asx bs:List AV}(hr:All2 R vs asx)(hs:All2 S asx bs):All2 R' vs bs:=
 All2.of_get (hr.length.trans hs.length) λi x y hx hy=>by obtain⟨a,ha,jV⟩:=All2.get' hr hx;obtain⟨y',iW,mC⟩:=All2.get' hs ha;rw[hy]at iW;cases iW;exact h _ _ _ mC jV
theorem ACalls.frz{f:FuncId}{args args':List AV}{K:Kt}(id off len cap size:Nat)(cs:List AV)(es:List (List AV))(hH:H[id]?=some (.cells cs))(fd:off+len*size≤cs.length)(hp:plain ((cs.drop off).take (len*size))=some es.flatten)(ek:es.length=len)(eB:∀c∈es,c.length=size)(eM:len≤cap)(ha:All2 (FzT id off len cap es) args args')(h:ACalls P f args' (H.set id .dead) K):ACalls P f args H K:=by
 intro B w G vs hR hv;obtain⟨G',hE,jA,b,hμ,mj,vs0,e,hw,eN⟩:=hR.frz hH;have h1:∀v a b,FzA id off len cap es a b→ARel w G v a→ARel w G' v b:=λv a b' eY hr=>FzA.rel fd hp ek eB eM hE hμ mj hw eN eY hr;have h2:∀v a b,FzT id off len cap es a b→TRel w G v a→TRel w G' v b:=by
  intro v a b' eY hr;cases eY with
  |one eY=>
   cases eY with
   |refl a=>exact hE.trel hr
   |ms=>exact TRel.of_v (VRel.of_a (h1 _ _ _ .ms hr))
  |agg eY=>obtain⟨us,hu,hr⟩:=hr;exact⟨us,hu,zp9 h1 hr eY⟩
 refine(h B w G' vs jA (zp9 h2 hv ha)).mono λe w' ⟨v,r,H',G'',k1,k2,k3,k4,k5⟩=>⟨v,r,H',G'',k1,hE.trans k2,k3,k4,k5⟩
theorem AWp.frz{c:Code}{Q:AExit→List AV→zaa→Prop}{F:List AV}(id off len cap size:Nat)(cs:List AV)(es:List (List AV))(id2:Nat)(cs2 cs2':List AV)(hH:H[id]?=some (.cells cs))(fd:off+len*size≤cs.length)(hp:plain ((cs.drop off).take (len*size))=some es.flatten)(ek:es.length=len)(eB:∀c∈es,c.length=size)(eM:len≤cap)(ey:id≠id2)(gI:H[id2]?=some (.cells cs2))(ha:All2 (FzA id off len cap es) cs2 cs2')(h:AWp P c Q F ((H.set id .dead).set id2 (.cells cs2'))):AWp P c Q F H:=by
 intro B w G a hR hF hd;obtain⟨G',hE,jA,b,hμ,mj,vs0,e,hw,eN⟩:=hR.frz hH;have h1:∀v a b,FzA id off len cap es a b→ARel w G v a→ARel w G' v b:=λv a b' eY hr=>FzA.rel fd hp ek eB eM hE hμ mj hw eN eY hr;have eW:id2<G.μ.length:=by rw[hR.len];exact(List.getElem?_eq_some_iff.1 gI).1
 have hH2':(H.set id .dead)[id2]?=some (.cells cs2):=by rw[List.getElem?_set_ne ey];exact gI
 have gx:HRel B w G' ((H.set id .dead).set id2 (.cells cs2')):=by
  refine⟨by simp[jA.len],?_,jA.dist,jA.fresh,jA.lt,jA.base⟩;intro i ab gi k1 k2;by_cases hi:i=id2
  ·subst hi;rw[List.getElem?_set_self (List.getElem?_eq_some_iff.1 hH2').1]at k1;cases k1;have eu:=jA.ok i _ _ hH2' k2;have gH:G.μ[i]?=some gi:=by
    obtain⟨gi0,nC⟩:∃gi0,G.μ[i]?=some gi0:=⟨_,List.getElem?_eq_getElem eW⟩;have mD:=hR.ok i _ _ gI nC;obtain⟨gi1,jW,eP⟩:=hE.ids i gi0 nC;rw[k2]at jW;cases jW;cases gi0 with
    | blk x=>cases gi with
     |blk y=>obtain rfl:x=y:=eP;exact nC
     |own v s n=>exact eP.elim
     |gap=>exact eP.elim
    |own v s n=>exact mD.elim
    |gap=>exact mD.elim
   have mD:=hR.ok i _ _ gI gH;cases gi with
   |blk x=>obtain⟨k3,k4,vs,e',k5,k6⟩:=eu;obtain⟨_,_,vs1,e1,k7,k8⟩:=mD;rw[k5]at k7;cases k7;exact⟨k3,k4,vs,e',k5,zp9 h1 k8 ha⟩
   |own v s n=>exact eu.elim
   |gap=>exact eu.elim
  ·rw[List.getElem?_set_ne (λh=>hi h.symm)]at k1;exact jA.ok i ab gi k1 k2
 refine wp_mono (h B w G' a gx (hF.ext hE) hd) λe a' w' hp=>?_;obtain⟨F',H',G'',e',rfl,k1,k2,k3,k4,k5⟩:=hp;exact⟨F',H',G'',e',rfl,hE.trans k1,k2,k3,k4,k5⟩
end
section
open Go.RowKit
variable {P:Program} {B:Nat} {w:World} {G:Gh} {H:zaa}
inductive OutW (H:zaa) (n:Nat):AV→AV→Prop
 |one {a b:AV} (h:OutV H n a b):OutW H n a b
 | rows (id e m:Nat) (cs:List AV) (rs:List (List (List AV))) (en:n≤id) (hH:H[id]?=some (.vec e 1 m cs)) (hm:rs.length=m)
   (eO:All2 (OutV H n) cs (rs.map λr=>.sl r .none)):OutW H n (.ov id m) (.sl (rs.map λr=>[.sl r .none]) .none)
theorem OutW.vrel(hH:HRel B w G H){n:Nat}{v:Value}{a b:AV}(h:OutW H n a b)(hr:TRel w G v a):VRel w (G.cut w n) v b:=by
 cases h with
 |one h=>exact h.vrel hH hr
 |rows id e m cs rs en gL hm eO=>
  obtain⟨⟨a,cap0,rfl,_⟩,v',s0,n',hμ,_,heq⟩:=hr;obtain⟨rfl,rfl,⟨xs,er,eN⟩,_⟩:=hH.ok id _ _ gL hμ;obtain rfl:=heq rfl;subst hm;show DRel w (G.cut w n).L _ _;by_cases ey:rs=[]
  ·subst ey;exact .slE _ _
  ·have ga:=er;obtain⟨hl,fk⟩:=ga;have hd:All2 (DRel w (G.cut w n).L) xs (rs.map λr=>AV.sl r .none):=All2.of_get (eN.length.trans eO.length) λi x y hx hy=>by
    obtain⟨a,ha,jV⟩:=All2.get' eN hx;obtain⟨y',iW,mC⟩:=All2.get' eO ha;rw[hy]at iW;cases iW;obtain⟨r,hr,rfl⟩:∃r,rs[i]?=some r∧AV.sl r .none=y:=by simpa using hy
    exact mC.vrel hH (TRel.of_v (VRel.of_a jV))
   rcases fk with ⟨h1,h2⟩|⟨g,cap,cur,h1,h2,h3,h4,h5,h6,h7⟩
   ·cases rs <;> simp_all
   ·simp at h1;obtain⟨rfl,rfl⟩:=h1;obtain⟨_,_,_,eG⟩:=zdL er;have fp:∀l:List (List (List AV)),(l.map λr=>[AV.sl r .none]).flatten=l.map λr=>AV.sl r .none:=by
     intro l;induction l with
     |nil=>rfl
     |cons r l ih=>simp[ih]
    have:=DRel.of_flat_at (w:=w) (L:=(G.cut w n).L) (g:=g) (off:=0) (size:=1) (cap:=cap0) (es:=rs.map λr=>[AV.sl r .none]) (zs:=xs) (by simp) (by simpa using ey) (by simpa using h4) ?_ (by rw[fp rs];exact hd) ?_
    ·simpa using this
    ·have:(G.cut w n).L g=cur.size:=by simp only[Gh.cut];rw[az (cut_dropped.2 ⟨id,_,en,hμ,rfl⟩),h3]
     rw[this,h6];simpa using h4
    ·intro j u hj;rw[aC,eG j (by rw[←hl];exact(List.getElem?_eq_some_iff.1 hj).1)];exact hj
inductive OutT2 (H:zaa) (n:Nat):AV→AV→Prop
 |one {a b:AV} (h:OutW H n a b):OutT2 H n a b
 |tup {asx bs:List AV} (h:All2 (OutW H n) asx bs):OutT2 H n (.tup asx) (.tup bs)
def zG7(n:Nat)(K:AV→zaa→Prop)(r:AV)(H':zaa):Prop:=∃r2 H2 J,H'=H2++J∧n≤H2.length∧HSc H2∧OutT2 H' H2.length r r2∧K r2 H2
theorem Out.two{n:Nat}{K:AV→zaa→Prop}{r:AV}(h:Out n K r H):zG7 n K r H:=by
 obtain⟨r2,H2,J,hJ,hn,hsc,ho,hk⟩:=h;refine⟨r2,H2,J,hJ,hn,hsc,?_,hk⟩;cases ho with
 |one h=>exact .one (.one h)
 |tup h=>exact .tup (All2.of_get h.length λi x y hx hy=>by
   obtain⟨y',iW,mC⟩:=All2.get' h hx;rw[hy]at iW;cases iW;exact .one mC)
end
section
open Go.Lib
open Go.RowKit
variable {P:Program} {B:Nat} {w:World}
theorem zJI{t u ty e:TypeId}{i:TypeInfo}(ht:P.underlying t=some (.slice e))(hu:P.underlying u=some .string)(hi:P.info? e=some i)(hz:i.zero=some (.int .u8 0))(f8:i.size=1)(fA:i.bytes=1){v:Value}{n:Nat}{xs:List Value}(er:w.ownsRow B e 1 v n xs)(s:ByteArray)(hm:0<s.size)(np:n+s.size≤maxLen)(gj:n+s.size≤140737488355328)(i4:B≤w.heap.size):
  ∃ v' w',(Builtin.append_ #[t,u] ty #[v,.string s]).run P w=.ok v' w'∧w'.ownsRow B e 1 v' (n+s.size) (xs++strCells s) ∧
   ((∃g,v.ownBlock=some g∧v'.ownBlock=some g∧GrB w w' (some g))∨(v'.ownBlock=some w.heap.size∧GrB w w' none)):=by
 have gc:xs.length=n:=by simpa using er.1
 have ek:(xs++strCells s).length=(n+s.size)*1:=by rw[aw,gc,strCells_length,bl]
 have grown:∀ (old:Nat),old<n+s.size →
   (w.drew.alloc (.cells (xs.toArray++(strCells s).toArray++Builtin.zeroCells (Value.int .u8 0).cells (grownCap w (n+s.size) old e-(n+s.size))) e)).ownsRow B e 1
    (.slice (some ⟨w.heap.size,0,none⟩) (n+s.size) (grownCap w (n+s.size) old e)) (n+s.size) (xs++strCells s) ∧
   GrB w (w.drew.alloc (.cells (xs.toArray++(strCells s).toArray++Builtin.zeroCells (Value.int .u8 0).cells (grownCap w (n+s.size) old e-(n+s.size))) e)) none:=by
  intro old ho;have gK:=grownCap_ge w (n+s.size) old e;have fO:grownCap w (n+s.size) old e≤maxLen:=grownCap_le_maxLen w (n+s.size) old e np;refine⟨⟨ek,.inr ⟨w.heap.size,_,_,rfl,i4,zdE (w:=w.drew) _,gK,fO,?_,?_⟩⟩,⟨zqy w _,rfl,rfl,rfl,by simp,λk hk _=>zcX (w:=w.drew) hk⟩⟩
  ·have qp:(Value.int IntKind.u8 0).cells.size=1:=rfl;simp only[cy,bQ,size_zeroCells,qp,gc,strCells_length];omega
  ·simp only[dl,aq];rw[←aq,←ek];exact cE
 rcases er.2 with ⟨rfl,rfl⟩|⟨g,cap,cur,rfl,gZ,hg,nn,fO,eN,fu⟩
 ·have hx:xs=[]:=aB gc;subst hx;have hr:=run_append_nil_string (P:=P) w t u ty e i (.int .u8 0) ht hu hi hz s hm (by omega) (by rw[fA];omega);have fB:=grown 0 (by omega);simp only[aC,List.nil_append,cO]at fB ⊢;have e1:(s.data.map λb=>Value.int .u8 b.toNat)=(strCells s).toArray:=by apply Array.ext';simp[strCells]
  rw[e1]at hr;exact⟨_,_,hr,fB.1,.inr ⟨rfl,fB.2⟩⟩
 ·by_cases ix:n+s.size≤cap
  ·have hcs':cur.size=cap:=by simpa using eN
   have hr:=run_append_room_string (P:=P) w t u ty e i ht hu hi f8 g n cap cur hg s ix (by omega);refine⟨_,_,hr,⟨ek,.inr ⟨g,cap,_,rfl,gZ,setRow_heap w g cur _ e _ hg,ix,fO,?_,?_⟩⟩,.inl ⟨g,rfl,rfl,⟨ac _,rfl,rfl,rfl,by simp,λk _ hk=>setRow_other w g k _ (λe=>hk (by simp[e]))⟩⟩⟩
   ·simp only[bQ,aw,aT,de,Array.length_toList,strCells_length];omega
   ·have ht':cur.toList.take n=xs:=by simpa using fu
    rw[ht',←ek];exact cE
  ·have holds:∀j u,xs[j]?=some u→w.cell? ((⟨g,0,none⟩:Addr).add j)=some u:=er.cells (g:=g) rfl;have hr:=run_append_grow_string (P:=P) w t u ty e i (.int .u8 0) ht hu hi hz ⟨g,0,none⟩ n cap xs (by rw[f8];simpa using gc) holds s (by omega) (by omega) (by rw[fA];exact growslice_fits (by omega) (by omega));have fB:=grown cap (by omega);exact⟨_,_,hr,fB.1,.inr ⟨rfl,fB.2⟩⟩
theorem zJJ{t u ty e:TypeId}{i:TypeInfo}(ht:P.underlying t=some (.slice e))(hu:P.underlying u=some .string)(hi:P.info? e=some i)(f8:i.size=1){v:Value}{n:Nat}{xs:List Value}(er:w.ownsRow B e 1 v n xs)(s:ByteArray)(hm:s.size=0):(Builtin.append_ #[t,u] ty #[v,.string s]).run P w=.ok v w:=by
 have hn:strCells s=[]:=aB (by rw[strCells_length];exact hm);have hf:=run_firstCells_string (P:=P) w 1 s;rw[hm,hn]at hf;have eL:∀x,(storeCells x [] 0).run P w=.ok () w:=λx=>rfl;rcases er.2 with ⟨rfl,rfl⟩|⟨g,cap,cur,rfl,gZ,hg,nn,fO,eN,fu⟩
 ·simp[Builtin.append_,run_underlying ht,run_underlying hu,sizeOf,typeInfo,hi,f8,Builtin.lenOf,hm,hf]
 ·simp[Builtin.append_,run_underlying ht,run_underlying hu,sizeOf,typeInfo,hi,f8,Builtin.lenOf,hm,hf,nn,eL]
theorem wpList_append_str{eh:Array Oper}{rest:List Oper}{o:Oper}{a:Act}{Q:Exit→Act→World→Prop}(nD:o.guard=none)(sl x:Operand)(t u:TypeId)(ho:o.op=.call { callee:=.builtin .append,args:=#[sl,x],argTypes:=#[t,u] }){v v':Value}{w':World}{s:ByteArray}(hs:a.eval sl=v)(hx:a.eval x=.string s)(hr:∀ty,(Builtin.append_ #[t,u] ty #[v,.string s]).run P w=.ok v' w')(h:wpList P eh Q rest (a.put o.dst v') w'):wpList P eh Q (o::rest) a w:=by
 refine wpList_plain nD λK hK=>?_;unfold Oper.wp execOp;simp only[ho,resolve,invoke,builtin,Sem.run_bind,Sem.run_pure,Result.andThen_ok,cj,aF,bx,hs,hx,hr];exact hK _ _ h
end
section
open Go.Lib
open Go.RowKit
variable {P:Program} {B:Nat} {w:World} {G:Gh} {H:zaa}
theorem HRel.storeB(h:HRel B w G H){id b:Nat}{t:TypeId}{cs cs':List AV}{vs vs':Array Value}(hH:H[id]?=some (.bld t cs))(hμ:G.μ[id]?=some (.blk b))(hw:w.heap[b]?=some (.cells vs t (0,0)))(hc:All2 (ARel w G) vs'.toList cs'):
  Ext B w G (w.setRow b vs') G∧HRel B (w.setRow b vs') G (H.set id (.bld t cs')):=by
 obtain⟨hB,hL,_⟩:=h.ok id _ _ hH hμ;have eB:(w.setRow b vs').heap.size=w.heap.size:=by simp[World.setRow]
 have he:Ext B w G (w.setRow b vs') G:=by
  refine⟨ac _,⟨rfl,rfl,rfl,by rw[eB];exact ac _,λk hk=>zeH _ (by omega)⟩,λ_=>ac _,λx off ho=>?_,λ_ gi h=>⟨gi,h,gi.le_refl⟩⟩;have:x≠b:=by intro hx;subst hx;omega
  exact zfH (zeH _ this)
 refine⟨he,by simp[h.len],?_,h.dist,by rw[eB];exact h.fresh,by rw[eB];exact h.lt,by rw[eB];exact h.base⟩;intro id' ab gi h1 h2;by_cases en:id'=id
 ·subst en;rw[hμ]at h2;cases h2;have ei:id'<H.length:=(List.getElem?_eq_some_iff.1 hH).1;rw[List.getElem?_set_self ei]at h1;cases h1;exact⟨hB,hL,vs',setRow_heap w b vs vs' t _ hw,hc.mono λ_ _=>he.arel⟩
 ·rw[List.getElem?_set_ne (λh=>en h.symm)]at h1;refine(h.ok id' ab gi h1 h2).keep he (λx hx=>⟨zeH _ ?_,rfl⟩);intro iF;subst iF;exact en (h.dist id' id gi _ x h2 hμ hx rfl)
theorem HRel.reCellB(h:HRel B w G H){id:Nat}{t:TypeId}{cs cs':List AV}(en:H[id]?=some (.bld t cs))(hc:∀vs:List Value,All2 (ARel w G) vs cs→All2 (ARel w G) vs cs'):HRel B w G (H.set id (.bld t cs')):=by
 refine⟨by simp[h.len],?_,h.dist,h.fresh,h.lt,h.base⟩;intro i ab gi h1 h2;by_cases hi:i=id
 ·subst hi;rw[List.getElem?_set_self (List.getElem?_eq_some_iff.1 en).1]at h1;cases h1;have eu:=h.ok i _ _ en h2;cases gi with
  |blk b=>obtain⟨k1,k2,vs,k3,k4⟩:=eu;exact⟨k1,k2,vs,k3,hc _ k4⟩
  |own v s n=>exact eu.elim
  |gap=>exact eu.elim
 ·rw[List.getElem?_set_ne (λh=>hi h.symm)]at h1;exact h.ok i ab gi h1 h2
theorem HRel.ownCellB(h:HRel B w G H){id:Nat}{t:TypeId}{p:AV}(e size:Nat)(en:H[id]?=some (.bld t [p,.snil])):
  ∃G',Ext B w G w G'∧HRel B w G' (H.set id (.bld t [p,.sl [] (.own H.length)])++[.perm e size 0]):=by
 obtain⟨hE,eU⟩:=h.newOwn e size;refine⟨_,hE,?_⟩;have ei:=(List.getElem?_eq_some_iff.1 en).1;have:=eU.reCellB (id:=id) (t:=t) (cs:=[p,.snil]) (cs':=[p,.sl [] (.own H.length)]) (by rw[List.getElem?_append_left ei];exact en) (λvs nB=>by
  match vs,nB with
  |[v1,v2],⟨h1,h2,_⟩=>
   have h2:v2=.slice none 0 0:=h2;subst h2;refine⟨h1,⟨.slE _ _,.slice none 0 0,size,0,?_,ac _,λ_=>⟨rfl,by simp⟩⟩,trivial⟩;rw[←h.len];simp)
 rwa [aM _ _ ei]at this
theorem ACalls.ownB{f:FuncId}{args:List AV}{K:AV→zaa→Prop}{id:Nat}{t:TypeId}{p:AV}(e size:Nat)(en:H[id]?=some (.bld t [p,.snil]))(h:ACalls P f args (H.set id (.bld t [p,.sl [] (.own H.length)])++[.perm e size 0]) K):ACalls P f args H K:=by
 intro B w G vs hH hv;obtain⟨G',hE,eU⟩:=hH.ownCellB e size en;refine(h B w G' vs eU (hv.mono λ_ _=>hE.trel)).mono λe' w' hp=>?_;obtain⟨v,r,H',G'',h1,h2,h3⟩:=hp;exact⟨v,r,H',G'',h1,hE.trans h2,h3⟩
def bcs(l:List UInt8):List (List AV):=l.map λb=>[.int .u8 b.toNat]
theorem zeC(l:List UInt8):(bcs l).length=l.length:=by simp[bcs]
theorem zx7(l m:List UInt8):bcs l++bcs m=bcs (l++m):=by simp[bcs]
theorem zfF(l:List UInt8):∀c∈bcs l,c.length=1:=by intro c hc;simp only[bcs,aA]at hc;obtain⟨b,_,rfl⟩:=hc;rfl
theorem zHN(l:List UInt8):All2 (DRel w G.L) (strCells ⟨l.toArray⟩) (bcs l).flatten:=by
 have:strCells ⟨l.toArray⟩=l.map λb=>Value.int .u8 b.toNat:=by simp[strCells]
 rw[this];induction l with
 |nil=>trivial
 |cons b l ih=>exact⟨.int _ _,ih (by simp[strCells])⟩
theorem HRel.freezeG(h:HRel B w G H){id g n cap e:Nat}(hH:H[id]?=some (.frz e 1 n))(hμ:G.μ[id]?=some (.own (.slice (some ⟨g,0,none⟩) n cap) 1 n))(k:Nat):
  Ext B w G (w.freeze ⟨g,0,none⟩ k) G∧HRel B (w.freeze ⟨g,0,none⟩ k) G H:=by
 obtain⟨g',cap',cur,fr0,_,_,hv,hg,ko,ku,fP,ib,je⟩:=h.ok id _ _ hH hμ;cases hv;have il:∀b,b≠g→(w.freeze ⟨g,0,none⟩ k).heap[b]?=w.heap[b]?:=by
  intro b hb;unfold World.freeze;split
  ·rfl
  ·simp only[Array.getElem?_modify];rw[au (λh=>hb h.symm)]
 have hgg:∃fr,(w.freeze ⟨g,0,none⟩ k).heap[g]?=some (.cells cur e fr):=by
  unfold World.freeze;split
  ·exact⟨fr0,hg⟩
  ·simp only[Array.getElem?_modify,hg];exact⟨_,rfl⟩
 obtain⟨fr,hgf⟩:=hgg;have eB:(w.freeze ⟨g,0,none⟩ k).heap.size=w.heap.size:=by
  unfold World.freeze;split
  ·rfl
  ·simp
 have hbelow:Below B w (w.freeze ⟨g,0,none⟩ k):=below_freeze (Below.refl B w) (p:=⟨g,0,none⟩) ko k;have he:Ext B w G (w.freeze ⟨g,0,none⟩ k) G:=by
  refine⟨by unfold World.freeze;split <;> exact ac _,hbelow,λ_=>ac _,λx off ho=>?_,λ_ gi h=>⟨gi,h,gi.le_refl⟩⟩;by_cases hx:x=g
  ·subst hx;simp[World.cell?,hgf,hg]
  ·exact zfH (il x hx)
 refine⟨he,h.len,?_,h.dist,by rw[eB];exact h.fresh,by rw[eB];exact h.lt,by rw[eB];exact h.base⟩;intro id' ab gi h1 h2;by_cases en:id'=id
 ·subst en;rw[hμ]at h2;cases h2;rw[hH]at h1;cases h1;exact⟨g,cap,cur,fr,rfl,rfl,rfl,hgf,ko,ku,fP,ib,je⟩
 ·refine(h.ok id' ab gi h1 h2).keep he (λx hx=>⟨il x ?_,rfl⟩);intro iF;subst iF;exact en (h.dist id' id gi _ x h2 hμ hx rfl)
theorem HRel.dead(h:HRel B w G H){id e s n:Nat}(hH:H[id]?=some (.perm e s n)):HRel B w G (H.set id .dead):=by
 refine⟨by simp[h.len],?_,h.dist,h.fresh,h.lt,h.base⟩;intro i ab gi h1 h2;by_cases hi:i=id
 ·subst hi;rw[List.getElem?_set_self (List.getElem?_eq_some_iff.1 hH).1]at h1;cases h1;have eu:=h.ok i _ _ hH h2;cases gi with
  |blk b=>exact eu.elim
  |gap=>exact eu.elim
  |own v s' n'=>
   obtain⟨rfl,rfl,⟨xs,hl,⟨rfl,_⟩|⟨g,cap,cur,rfl,k1,k2,k3,k4,k5,k6⟩⟩,hL⟩:=eu
   ·intro b hb;cases hb
   ·intro b hb;simp[Value.ownBlock]at hb;subst hb;exact⟨cur,e,_,k2,by rw[hL g rfl,k5];exact ar _ k3⟩
 ·rw[List.getElem?_set_ne (λh=>hi h.symm)]at h1;exact h.ok i ab gi h1 h2
theorem HRel.other(h:HRel B w G H)(o:Obj):Ext B w G (w.alloc o) G∧HRel B (w.alloc o) G H:=by have he:=Ext.alloc h o G.L (λ_ _=>rfl) [];simp only[aG]at he;refine⟨he,h.keep he rfl (λid gi b h1 h2=>⟨zcX (h.lt id gi b h1 h2),rfl⟩) (λb hb=>?_)⟩;rw[zcg]at hb;exact h.fresh b (by omega)
end
section
open Go.RowKit
open Go.Sort
variable {P:Program} {B:Nat} {w:World} {G:Gh} {H:zaa}
end
section
open Go.RowKit
variable {P:Program} {B:Nat} {w:World} {G:Gh} {H:zaa}
theorem HRel.newVec(h:HRel B w G H)(e size:Nat):Ext B w G w ⟨G.L,G.μ++[.own (.slice none 0 0) size 0]⟩∧HRel B w ⟨G.L,G.μ++[.own (.slice none 0 0) size 0]⟩ (H++[.vec e size 0 []]):=by
 obtain⟨hE,hH⟩:=h.newOwn e size;refine⟨hE,by simpa using hH.len,λid ab gi h1 h2=>?_,hH.dist,hH.fresh,hH.lt,hH.base⟩;by_cases ei:id<H.length
 ·rw[List.getElem?_append_left ei]at h1;exact hH.ok id ab gi (by rw[List.getElem?_append_left ei];exact h1) h2
 ·have eW:=(List.getElem?_eq_some_iff.1 h2).1;simp[h.len]at eW;obtain rfl:id=H.length:=by omega
  simp at h1;have h2:(G.μ++[GI.own (.slice none 0 0) size 0])[H.length]?=some gi:=h2;rw[←h.len]at h2;simp at h2;subst h1 h2;exact⟨rfl,rfl,⟨[],World.ownsRow_nil w B e size,trivial⟩,λb hb=>by simp[Value.ownBlock]at hb⟩
theorem HRel.ovCell(h:HRel B w G H){id j:Nat}{cs:List AV}(e size:Nat)(en:H[id]?=some (.cells cs))(hj:cs[j]?=some .snil):
  ∃G',Ext B w G w G'∧HRel B w G' (H.set id (.cells (cs.set j (.ov H.length 0)))++[.vec e size 0 []]):=by
 obtain⟨hE,eU⟩:=h.newVec e size;refine⟨_,hE,?_⟩;have ei:=(List.getElem?_eq_some_iff.1 en).1;have:=eU.reCell (id:=id) (cs:=cs) (cs':=cs.set j (.ov H.length 0)) (by rw[List.getElem?_append_left ei];exact en) (λvs nB=>by
  obtain⟨v,h1,h2⟩:=All2.get nB hj;have h2:v=.slice none 0 0:=h2;subst h2;have eQ:vs=vs.set j (.slice none 0 0):=by
   apply aL;intro k;by_cases hk:k=j
   ·subst hk;rw[List.getElem?_set_self (List.getElem?_eq_some_iff.1 h1).1];exact h1
   ·rw[List.getElem?_set_ne (λh=>hk h.symm)]
  rw[eQ];refine All2.set j nB ?_;refine⟨⟨none,0,rfl,λh=>absurd h (by omega),ac _⟩,.slice none 0 0,size,0,?_,ac _,λ_=>rfl⟩;rw[←h.len];simp)
 rwa [aM _ _ ei]at this
theorem ACalls.ovC{f:FuncId}{args:List AV}{K:AV→zaa→Prop}{id j:Nat}{cs:List AV}(e size:Nat)(en:H[id]?=some (.cells cs))(hj:cs[j]?=some .snil)(h:ACalls P f args (H.set id (.cells (cs.set j (.ov H.length 0)))++[.vec e size 0 []]) K):ACalls P f args H K:=by
 intro B w G vs hH hv;obtain⟨G',hE,eU⟩:=hH.ovCell e size en hj;refine(h B w G' vs eU (hv.mono λ_ _=>hE.trel)).mono λe' w' hp=>?_;obtain⟨v,r,H',G'',h1,h2,h3⟩:=hp;exact⟨v,r,H',G'',h1,hE.trans h2,h3⟩
end
section
open Go.RowKit
variable {P:Program} {B:Nat} {w:World} {G:Gh} {H:zaa}
theorem zz3(h:HRel B w G H)(e size:Nat):TRel w ⟨G.L,G.μ++[.own (.slice none 0 0) size 0]⟩ (.slice none 0 0) (.ov H.length 0):=by refine⟨⟨none,0,rfl,λh=>absurd h (by omega),ac _⟩,.slice none 0 0,size,0,?_,ac _,λ_=>rfl⟩;rw[←h.len];simp
theorem ALoop.vec{c:Code}{Q:AExit→List AV→zaa→Prop}{F:List AV}(i e size:Nat)(hi:F[i]?=some .snil)(h:ALoop P c Q (F.set i (.ov H.length 0)) (H++[.vec e size 0 []])):ALoop P c Q F H:=by
 intro B w G a hH hF hd;obtain⟨hE,eU⟩:=hH.newVec e size;have m0:FRel w ⟨G.L,G.μ++[.own (.slice none 0 0) size 0]⟩ a.tmps (F.set i (.ov H.length 0)):=by
  unfold FRel;obtain⟨v,h1,h2⟩:=All2.get hF hi;have h2:v=.slice none 0 0:=h2;subst h2;have eQ:a.tmps.toList=a.tmps.toList.set i (.slice none 0 0):=by
   apply aL;intro k;by_cases hk:k=i
   ·subst hk;rw[List.getElem?_set_self (List.getElem?_eq_some_iff.1 h1).1];exact h1
   ·rw[List.getElem?_set_ne (λh=>hk h.symm)]
  rw[eQ];exact All2.set i (hF.ext hE) (zz3 hH e size)
 refine wp_mono (h B w _ a eU m0 hd) λe a' w' hp=>?_;obtain⟨F'',H'',G'',e'',rfl,k1,k2,k3,k4,k5⟩:=hp;exact⟨F'',H'',G'',e'',rfl,hE.trans k1,k2,k3,k4,k5⟩
theorem zsW{vs:List Value}:∀ {cs cs':List AV},All2 WkA cs cs'→∀ {vs:List Value},All2 (ARel w G) vs cs→All2 (ARel w G) vs cs'
 |[],[],_,_,hv=>hv
 |x::cs,x'::cs',hw,[],hv=>hv.elim
 |x::cs,x'::cs',hw,v::vs,hv=>⟨hw.1.arel hv.1,zsW (vs:=[]) hw.2 hv.2⟩
 |[],_::_,hw,_,_=>hw.elim
 |_::_,[],hw,_,_=>hw.elim
theorem ALoop.reCell{c:Code}{Q:AExit→List AV→zaa→Prop}{F:List AV}{id:Nat}{cs:List AV}(cs':List AV)(en:H[id]?=some (.cells cs))(hw:All2 WkA cs cs')(h:ALoop P c Q F (H.set id (.cells cs'))):ALoop P c Q F H:=by intro B w G a hH hF hd;exact h B w G a (hH.reCell en λvs hv=>zsW (vs:=[]) hw hv) hF hd
theorem HRel.frzV(h:HRel B w G H){id e size n:Nat}{cs:List AV}(hH:H[id]?=some (.vec e size n cs)){es:List (List AV)}(hp:plain cs=some es.flatten)(ek:es.length=n)(eB:∀ c∈es,c.length=size):
  ∃G',Ext B w G w G'∧HRel B w G' (H.set id .dead)∧∀v,ARel w G v (.ov id n)→DRel w G'.L v (.sl es .none):=by
 have ei:id<G.μ.length:=by rw[h.len];exact(List.getElem?_eq_some_iff.1 hH).1
 obtain⟨gi,gH⟩:∃gi,G.μ[id]?=some gi:=⟨_,List.getElem?_eq_getElem ei⟩;have eu:=h.ok id _ _ hH gH;cases gi with
 |gap=>exact eu.elim
 |blk b=>exact eu.elim
 |own v0 s0 n0=>
  obtain⟨rfl,rfl,⟨xs,er,eN⟩,iR⟩:=eu;have ga:=er;obtain⟨hl,fk⟩:=ga;rcases fk with ⟨h1,h2⟩|⟨g,cap,cur,h1,hB,hw,eM,fO,kX,ff⟩
  ·subst h1;refine⟨G,Ext.refl _ _ _,⟨by simp[h.len],?_,h.dist,h.fresh,h.lt,h.base⟩,?_⟩
   ·intro id' ab gi k1 k2;by_cases en:id'=id
    ·subst en;rw[List.getElem?_set_self (List.getElem?_eq_some_iff.1 hH).1]at k1;cases k1;rw[gH]at k2;cases k2;exactλb hb=>by simp[Value.ownBlock]at hb
    ·rw[List.getElem?_set_ne (λh=>en h.symm)]at k1;exact h.ok id' ab gi k1 k2
   ·intro v hv;obtain⟨⟨a,cap0,rfl,_⟩,v',s',n',hμ,_,heq⟩:=hv;have eX:es=[]:=aB (by omega);subst eX;subst ek;exact .slE _ _
  ·subst h1;have ku:G.L g=0:=iR g rfl;have he:Ext B w G w ⟨λx=>if x=g then cur.size else G.L x,G.μ⟩:=
    ⟨ac _,Below.refl _ _,λx=>by by_cases hx:x=g <;> simp[hx,ku],λ_ _ _=>rfl,λ_ gi h=>⟨gi,h,gi.le_refl⟩⟩
   refine⟨_,he,⟨by simp[h.len],?_,h.dist,λx hx=>?_,h.lt,h.base⟩,?_⟩
   ·intro id' ab gi k1 k2;by_cases en:id'=id
    ·subst en;rw[List.getElem?_set_self (List.getElem?_eq_some_iff.1 hH).1]at k1;cases k1;have k2:G.μ[id']?=some gi:=k2;rw[gH]at k2;cases k2;intro b hb;simp[Value.ownBlock]at hb;subst hb;exact⟨cur,e,_,hw,by simp⟩
    ·rw[List.getElem?_set_ne (λh=>en h.symm)]at k1;refine(h.ok id' ab gi k1 k2).keep he (λx hx=>⟨rfl,?_⟩);have:¬x=g:=λiF=>en (h.dist id' id gi _ g k2 gH (by rw[hx,iF]) rfl);simp[this]
   ·have:=h.lt id _ g gH rfl;have h3:¬ x=g:=by omega
    simp[h3,h.fresh x hx]
   ·intro v hv;obtain⟨⟨a,cap0,rfl,_⟩,v',s',n',hμ,_,heq⟩:=hv;rw[gH]at hμ;simp only[bK,GI.own.injEq]at hμ;obtain⟨rfl,rfl,rfl⟩:=hμ;have pv:=heq rfl;simp only[Value.slice.injEq,d5]at pv;obtain⟨rfl,rfl⟩:=pv;subst ek;by_cases eX:es=[]
    ·subst eX;exact .slE _ _
    ·obtain⟨_,_,_,eG⟩:=zdL er;refine DRel.of_flat_at (zs:=xs) eB eX eM ?_ ((zdM eN hp).mono λ_ _=>he.drel) ?_
     ·simp only[a6];rw[kX,aC];exact ar _ eM
     ·intro j u hj;rw[aC,eG j (by rw[←hl];exact(List.getElem?_eq_some_iff.1 hj).1)];exact hj
theorem ACalls.frzV{f:FuncId}{x:AV}{K:Kt}(id e size n:Nat)(cs:List AV)(es:List (List AV))(hH:H[id]?=some (.vec e size n cs))(hp:plain cs=some es.flatten)(ek:es.length=n)(eB:∀c∈es,c.length=size)(h:ACalls P f [.agg [x,.sl es .none]] (H.set id .dead) K):ACalls P f [.agg [x,.ov id n]] H K:=by
 intro B w G vs hR hv;obtain⟨G',hE,jA,hd⟩:=hR.frzV hH hp ek eB;refine(h B w G' vs jA ?_).mono λe w' ⟨v,r,H',G'',k1,k2,k3,k4,k5⟩=>⟨v,r,H',G'',k1,hE.trans k2,k3,k4,k5⟩;generalize vs.toList=l at *
 match l,hv with
 |[v],⟨⟨us,hu,h1⟩,_⟩=>
  refine⟨⟨us,hu,?_⟩,trivial⟩;generalize us.toList=m at *
  match m,h1 with
  |[a,b],⟨h2,h3,_⟩=>exact⟨hE.arel h2,hd b h3,trivial⟩
end
theorem zF0(n:Nat)(hn:n<18446744073709551616)(H:zaa)(K:Kt)(hK:K (.sl (zal (lim n)) .none) H):
  ACalls tP ziq [.int .u64 n] H K:=by
 refine ACalls.out (zYk λhs=>?_);unfold zFZ zo8;refine ALoop.own 3 zbh 1 rfl ?_;show zo8 (.int .u64 n) (.sl [] (.own H.length)) (H++[.perm zbh 1 0]) (Out H.length K);refine zYi (Inv:=λq t0 t3 H'=>∃ (m:Nat) (A:List Nat),m=q∧t0=.int .u64 m∧t3=.sl (zal A) (.own H.length)∧lim n=A++lim m∧m<18446744073709551616 ∧
  H'=H++[.perm zbh 1 A.length]) n ?_ ?_
 ·intro _;exact⟨n,[],rfl,rfl,rfl,by simp,hn,rfl⟩
 ·rintro q t0 t3 H' ⟨m,A,rfl,rfl,rfl,hA,hm,rfl⟩ eE ek eK Kb eq;by_cases h0:m=0
  ·subst h0;simp[zwu];exact Out.one hs (.atom (.sl _ _)) rfl rfl (by simpa[hA]using hK)
  ·have hq:=zqZ m;have hd:=zIn h0;have hlA:A.length+1≤1000:=by have h1:=congrArg List.length hA;have h2:=zbT (n:=n) (k:=3) (by omega);rw[zcq h0]at h1;simp at h1;omega
   simp only[zwu,zp4,zxE false hm,zHi .u64 (show m % 1000000000<4294967296 by omega)];simp[show 0<m by omega,zaw,zaR,plain,AV.pd,zax,zaM,zaK];refine⟨⟨by omega,by omega⟩,?_⟩;have e1:((m:Int) / 1000000000)=((m / 1000000000:Nat):Int):=rfl;have e2:((m:Int) % 1000000000)=((m % 1000000000:Nat):Int):=rfl;rw[e1,e2,sN];refine eq _ _ ⟨m / 1000000000,hd,Back.here (by simp) (hs.append (by simp[AB.sc])) (by simp[zo7,ux,AV.sc,AV.scA,AV.scB,AV.scV]) ⟨_,_,rfl,m / 1000000000,A++[m % 1000000000],rfl,rfl,rfl,?_,by omega,by simp⟩⟩;rw[hA,zcq h0];simp
theorem zeJ(A:List Nat)(x:Nat):zao (A++[x])=zao A+1000000000 ^ A.length*x:=by rw[zh0];simp[zao]
theorem zB7(L:List Nat)(m3:∀ x∈L,x<4294967296)(hL:L.length≤100000)(H:zaa)(K:Kt)(hK:K (.sl (zal (lim (zao L))) .none) H):
  ACalls tP zj4 [.sl (zal L) .none] H K:=by
 refine ACalls.out (zMJ λhs=>?_);unfold zB6 zlT;refine ALoop.own 3 zbh 1 rfl ?_;show zlT (.sl (zal L) .none) (.sl [] (.own H.length)) (.int .u64 0) (.int .i64 0) (H++[.perm zbh 1 0]) (Out H.length K);have k9:∀A:List Nat,(∀x∈A,x<1000000000)→zao A=zao L→A.length≤200000→zlS (.sl (zal A) (.own H.length)) (H++[.perm zbh 1 A.length]) (Out H.length K):=by intro A hA he hl;unfold zlS;refine ACalls.wk (args':=[.sl (zal A) .none]) (zte A (by omega) _ _ ?_) ⟨.atom (.sl _ _),trivial⟩;rw[zf1 A hA,he];exact Out.one hs (.atom (.sl _ _)) rfl rfl hK
 refine zMH (Inv:=λq t3 t4 t5 H'=>∃ (i c:Nat) (A:List Nat),i≤L.length∧L.length-i=q∧t5=.int .i64 i∧t4=.int .u64 c∧t3=.sl (zal A) (.own H.length)∧A.length=i∧(∀ x∈A,x<1000000000)∧c≤5 ∧
  zao A+1000000000 ^ i*c=zao (L.take i)∧H'=H++[.perm zbh 1 A.length]) L.length ?_ ?_
 ·intro _;exact⟨0,0,[],by omega,rfl,rfl,rfl,rfl,rfl,by simp,by omega,by simp[zao],rfl⟩
 ·rintro q t3 t4 t5 H' ⟨i,c,A,hi,rfl,rfl,rfl,rfl,i7,hA,hc,hv,rfl⟩ eE ek eK Kb eq;by_cases ei:i<L.length
  ·have hx:=m3 L[i] (af ei);have w1:IntKind.u64.wrap ((L[i]:Nat):Int)=L[i]:=zbw (by omega);obtain⟨s,e5⟩:∃ s,s=c+L[i]:=⟨_,rfl⟩;have w2:IntKind.u64.wrap ((c:Int)+(L[i]:Nat))=(s:Int):=by rw[e5,←Int.natCast_add];exact zbw (by omega)
   obtain⟨x,c',fJ,fc,fx,e1,e2⟩:=zgG s (by omega);simp only[zlQ];simp[ei,w1,w2,e1,e2,fx,zaw,zaR,plain,AV.pd,zax,zaM,zaK,wi i (by omega)];refine⟨⟨by omega,by omega⟩,?_⟩;rw[sN];refine eq _ _ ⟨L.length-(i+1),by omega,Back.here (by simp) (hs.append (by simp[AB.sc])) (by simp[zlR,ux,AV.sc,AV.scA,AV.scB,AV.scV]) ⟨_,_,_,rfl,i+1,c',A++[x],by omega,rfl,rfl,rfl,rfl,by simp[i7],?_,by omega,?_,by simp⟩⟩
   ·intro y hy;rcases aX.1 hy with hy | hy
    ·exact hA y hy
    ·simp at hy;omega
   ·rw[zeJ,zdt L i ei,←hv,i7,Nat.pow_succ];grind
  ·obtain rfl:i=L.length:=by omega
   rw[ak]at hv;by_cases h0:c=0
   ·subst h0;simp[zlQ];exact k9 A hA (by simpa using hv) (by omega)
   ·simp only[zlQ];simp[show 0<c by omega,zcB (show c<4294967296 by omega),zaw,zaR,plain,AV.pd,zax,zaM,zaK];refine⟨⟨by omega,by omega⟩,?_⟩;rw[sN];have:=k9 (A++[c]) (λy hy=>by
     rcases aX.1 hy with hy|hy
     ·exact hA y hy
     ·simp at hy;omega) (by rw[zeJ,i7];exact hv) (by simp;omega)
    simpa using this
theorem zjZ{A B:List Nat}(hl:A.length=B.length)(hA:∀x∈A,x<1000000000)(i:Nat)(hi:i<A.length)(hd:A.drop (i+1)=B.drop (i+1))(ei:A[i]<B[i]'(by omega)):zao A<zao B:=by
 have e1:∀(l:List Nat) (h:i<l.length),zao l=zao (l.take i)+1000000000 ^ i*(l[i]+1000000000*zao (l.drop (i+1))):=by
  intro l h
  conv=>lhs;rw[←aJ i l,zh0,ag h,zao]
  rw[aT,bc (by omega)]
 rw[e1 A hi,e1 B (by omega),hd];have h1:=zdW (A.take i) (λx hx=>hA x (bu hx));rw[aT,bc (by omega)]at h1;generalize hZ:zao (B.drop (i+1))=Z;generalize A[i]=a at ei ⊢;generalize B[i]=b at ei ⊢;have h2:1000000000 ^ i*(a+1000000000*Z+1)≤1000000000 ^ i*(b+1000000000*Z):=bj _ (by omega);rw[Nat.mul_succ]at h2;omega
def zcp(a b:Nat):Int:=if a<b then -1 else if b<a then 1 else 0
theorem zB3(a b:Nat)(ha:(lim a).length≤1000)(hb:(lim b).length≤1000)(H:zaa)(K:Kt)(hK:K (.int .i64 (zcp a b)) H):
  ACalls tP zj3 [.sl (zal (lim a)) .none,.sl (zal (lim b)) .none] H K:=by
 refine ACalls.out (zMw λhs=>?_);have hO:∀r,r=zcp a b→Out H.length K (.int .i64 r) H:=λr hr=>Out.int (J:=[]) (by simp) (ac _) hs (by rw[hr];exact hK);have lA:=zb4 a;have lB:=zb4 b;have vA:=zbq a;have vB:=zbq b;by_cases ey:(lim a).length=(lim b).length
 ·simp[zlJ,ey];generalize hLA:lim a=A at *;generalize hLB:lim b=B at *;have jB:IntKind.i64.wrap ((B.length:Int)-1)=(B.length:Int)-1:=zay (by omega) (by omega);rw[jB];refine zMu (Inv:=λq t5 H'=>∃i:Nat,i≤B.length∧i=q∧t5=.int .i64 ((i:Int)-1)∧H'=H∧A.drop i=B.drop i) B.length ?_ ?_
  ·intro _;exact⟨B.length,by omega,rfl,rfl,rfl,by rw[aW (by omega),aW (by omega)]⟩
  ·rintro q t5 H' ⟨i,hi,rfl,rfl,rfl,hd⟩ eE ek eK Kb eq;by_cases h0:i=0
   ·subst h0;simp[ziV];refine hO _ ?_;simp at hd;rw[←vA,←vB,hd];simp[zcp]
   ·obtain⟨j,rfl⟩:∃ j,i=j+1:=⟨i-1,by omega⟩;have iO:j<A.length:=by omega
    have lh:j<B.length:=by omega
    have ej:((j+1:Nat):Int)-1=(j:Int):=by omega
    have ep:IntKind.i64.wrap ((j:Int)-1)=(j:Int)-1:=zay (by omega) (by omega);rw[ej];rcases Nat.lt_trichotomy A[j] B[j] with h|h|h
    ·have:=zjZ ey lA j iO hd h;simp[ziV,iO,lh,h];exact hO _ (by rw[←vA,←vB];simp[zcp,this])
    ·simp[ziV,iO,lh,h,ep];refine eq _ _ ⟨j,by omega,Back.here (by simp) hs (by simp[zlL,ux,AV.sc,AV.scA,AV.scB,AV.scV]) ⟨_,rfl,j,by omega,rfl,rfl,rfl,?_⟩⟩;rw[ag iO,ag lh,hd,h]
    ·have:=zjZ ey.symm lB j lh hd.symm h;simp[ziV,iO,lh,h,bO h,dB.2 (bO h)];exact hO _ (by rw[←vA,←vB];simp[zcp,this,dB.2 (bO this)])
 ·have lk:(((lim a).length:Int) != ((lim b).length:Int))=true:=by simp;omega
  by_cases ei:(lim a).length<(lim b).length
  ·have:=zh1 ei;simp[zlJ,lk,ei];exact hO (-1) (by simp[zcp,this])
  ·have:=zh1 (show (lim b).length<(lim a).length by omega);simp[zlJ,lk,ei];exact hO 1 (by simp[zcp,this,dB.2 (bO this)])
theorem zMr(A B:List Nat)(lA:∀ x∈A,x<1000000000)(lB:∀ x∈B,x<1000000000)(ha:A.length≤1000)(hb:B.length≤1000)(H:zaa)(K:Kt)(cA:lim (zao A)=A)(cB:lim (zao B)=B)(hK:K (.sl (zal (lim (zao A+zao B))) .none) H):
  ACalls tP zq3 [.sl (zal A) .none,.sl (zal B) .none] H K:=by
 refine ACalls.out (zMp λhs=>?_);unfold zB1 zlI;refine ALoop.own 5 zbh 1 rfl ?_;show zlI (.sl (zal A) .none) (.sl (zal B) .none) (.sl [] (.own H.length)) (.int .u32 0) (.int .i64 0) (H++[.perm zbh 1 0]) (Out H.length K);refine zMn (Inv:=λq t5 t6 t7 H'=>∃ (i c:Nat) (R:List Nat),2002-i=q∧i≤1001∧t7=.int .i64 i∧t6=.int .u32 c∧t5=.sl (zal R) (.own H.length)∧R.length=i∧(∀ x∈R,x<1000000000)∧c≤1 ∧
  (max A.length B.length<i→c=0∧1000000000 ^ (i-1)≤zao R)∧zao R+1000000000 ^ i*c=zao (A.take i)+zao (B.take i)∧H'=H++[.perm zbh 1 R.length]) 2002 ?_ ?_
 ·intro _;exact⟨0,0,[],rfl,by omega,rfl,rfl,rfl,rfl,by simp,by omega,by omega,by simp[zao],rfl⟩
 ·rintro q t5 t6 t7 H' ⟨i,c,R,rfl,hi,rfl,rfl,rfl,jk,hR,hc,mc,hv,rfl⟩ eE ek eK Kb eq;have jC:∀ (s:Nat),s≤2*999999999+1→i≤1000→s+1000000000 ^ 0*0=c+(if h:i<A.length then A[i] else 0)+(if h:i<B.length then B[i] else 0)→(max A.length B.length<i+1→s=1) →
    zlH (.sl (zal A) .none) (.sl (zal B) .none) (.sl (zal R) (.own H.length)) (.int .i64 i) (.int .u32 s) (H++[.perm zbh 1 R.length]) (Out H.length K) Kb:=by
   intro s e5 hi2 fy pB;obtain⟨x,c',fJ,fc,e1,e2⟩:=zyB s (by omega);simp only[zlH];simp[e1,e2,zaw,zaR,plain,AV.pd,zax,zaM,zaK,wi i (by omega)];refine⟨⟨by omega,by omega⟩,?_⟩;rw[sN];have tk:∀L:List Nat,zao (L.take (i+1))=zao (L.take i)+(if h:i<L.length then L[i] else 0)*1000000000 ^ i:=by
    intro L;by_cases h:i<L.length
    ·rw[d6 h,zdt L i h]
    ·rw[dT h,ai (by omega),ai (by omega)];simp
   refine eq _ _ ⟨2002-(i+1),by omega,Back.here (by simp) (hs.append (by simp[AB.sc])) (by simp[zlG,ux,AV.sc,AV.scA,AV.scB,AV.scV]) ⟨_,_,_,rfl,i+1,c',R++[x],rfl,by omega,rfl,rfl,rfl,by simp[jk],?_,by omega,?_,?_,by simp⟩⟩
   ·intro y hy;rcases aX.1 hy with hy | hy
    ·exact hR y hy
    ·simp at hy;omega
   ·intro h;have:=pB h;refine⟨by omega,?_⟩;obtain rfl:x=1:=by omega
    rw[zeJ,jk,cp];omega
   ·rw[zeJ,tk A,tk B,jk,Nat.pow_succ];simp only[Nat.pow_zero,Nat.mul_zero,Nat.add_zero]at fy;generalize (if h:i<A.length then A[i] else 0)=u at *;generalize (if h:i<B.length then B[i] else 0)=v at *;grind
  by_cases hA:i<A.length
  ·have jV:=lA A[i] (af hA);by_cases hB:i<B.length
   ·have iF:=lB B[i] (af hB);obtain⟨s1,e5⟩:∃ s,s=c+A[i]:=⟨_,rfl⟩;have w1:IntKind.u32.wrap ((c:Int)+(A[i]:Nat))=(s1:Int):=by rw[e5,←Int.natCast_add];exact zcB (by omega)
    obtain⟨s2,fy⟩:∃s,s=s1+B[i]:=⟨_,rfl⟩;have w2:IntKind.u32.wrap ((s1:Int)+(B[i]:Nat))=(s2:Int):=by rw[fy,←Int.natCast_add];exact zcB (by omega)
    simp[zhf,zhg,hA,hB,w1,w2];exact jC s2 (by omega) (by omega) (by simp[hA,hB];omega) (by omega)
   ·obtain⟨s1,e5⟩:∃ s,s=c+A[i]:=⟨_,rfl⟩;have w1:IntKind.u32.wrap ((c:Int)+(A[i]:Nat))=(s1:Int):=by rw[e5,←Int.natCast_add];exact zcB (by omega)
    simp[zhf,zhg,hA,hB,w1];exact jC s1 (by omega) (by omega) (by simp[hA,hB];omega) (by omega)
  ·by_cases hB:i<B.length
   ·have iF:=lB B[i] (af hB);obtain⟨s2,fy⟩:∃ s,s=c+B[i]:=⟨_,rfl⟩;have w2:IntKind.u32.wrap ((c:Int)+(B[i]:Nat))=(s2:Int):=by rw[fy,←Int.natCast_add];exact zcB (by omega)
    simp[zhf,zhg,hA,hB,w2];exact jC s2 (by omega) (by omega) (by simp[hA,hB];omega) (by omega)
   ·by_cases h0:c=0
    ·subst h0;simp[zhf,hA,hB];rw[ai (by omega),ai (by omega)]at hv;have fR:zao R=zao A+zao B:=by simpa using hv
     rw[←fR]at hK;have lm:R=lim (zao R):=by
      refine zql hR ?_;by_cases hm:max A.length B.length<i
      ·have:=zjX (mc hm).2;omega
      ·by_cases jl:i=0
       ·omega
       ·have qq:i=max A.length B.length:=by omega
        have gK:1000000000 ^ (i-1)≤zao R:=by
         by_cases hAB:B.length≤A.length
         ·have:i=A.length:=by omega
          have h3:=zjY (n:=zao A) (by intro h;have ik:=congrArg List.length cA;rw[h]at ik;simp at ik;omega);rw[cA,←this]at h3;omega
         ·have:i=B.length:=by omega
          have h3:=zjY (n:=zao B) (by intro h;have ik:=congrArg List.length cB;rw[h]at ik;simp at ik;omega);rw[cB,←this]at h3;omega
        have:=zjX gK;omega
     rw[←lm]at hK;exact Out.one hs (.atom (.sl _ _)) rfl rfl hK
    ·have:i≤1000:=by refine dI λh=>?_;exact h0 (mc (by omega)).1
     simp[zhf,zhg,hA,hB,show 0<c by omega];exact jC c (by omega) this (by simp[hA,hB]) (by omega)
end Go.Proofs.YtdmamdnkcefmmaaGreatDoor

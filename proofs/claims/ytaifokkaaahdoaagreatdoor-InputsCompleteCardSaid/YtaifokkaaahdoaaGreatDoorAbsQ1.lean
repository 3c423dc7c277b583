import Derived.Test.YtaifokkaaahdoaaGreatDoorAbsU
import Derived.Lib.AppendStr
import Derived.Lib.UnsafeStr
import Derived.Sort.Grow
import Derived.Deep.Draws
set_option linter.unusedSimpArgs false
set_option linter.unusedVariables false
set_option linter.unusedSectionVars false
set_option maxRecDepth 8000
namespace Go.Abs
open Go
theorem Out.tup{H J:zaa}{K:AV→zaa→Prop}{asx bs:List AV}(hs:HSc H)(h:K (.tup bs) H)(hw:All2 (λa b=>WkV a b∧b.isV=true∧b.scV H.length=true) asx bs):Out H.length K (.tup asx) (H++J):=
 ⟨_,H,J,rfl,Nat.le_refl _,hs,.tup (hw.mono λ_ _ h=>.wk h.1 h.2.1 h.2.2),h⟩
theorem Out.tup0{H:zaa}{K:AV→zaa→Prop}{asx bs:List AV}(hs:HSc H)(h:K (.tup bs) H)(hw:All2 (λa b=>WkV a b∧b.isV=true∧b.scV H.length=true) asx bs):Out H.length K (.tup asx) H:=by have:=Out.tup (J:=[]) hs h hw;simpa using this
theorem Out.one{H J:zaa}{K:AV→zaa→Prop}{a b:AV}(hs:HSc H)(hw:WkV a b)(hv:b.isV=true)(hc:b.scV H.length=true)(h:K b H):Out H.length K a (H++J):=
 ⟨_,H,J,rfl,Nat.le_refl _,hs,.one (.wk hw hv hc),h⟩
theorem Out.one0{H:zaa}{K:AV→zaa→Prop}{a b:AV}(hs:HSc H)(hw:WkV a b)(hv:b.isV=true)(hc:b.scV H.length=true)(h:K b H):Out H.length K a H:=by have:=Out.one (J:=[]) hs hw hv hc h;simpa using this
@[simp] theorem zTV(k:IntKind)(n:Int):(AV.int k n).known=true:=rfl
@[simp] theorem zT2(s:List UInt8):(AV.str s).known=true:=rfl
@[simp] theorem zTT(b:Bool):(AV.bool b).known=true:=rfl
@[simp] theorem zT1(es:List (List AV))(t:Tok):(AV.sl es t).known=true:=rfl
@[simp] theorem zd4:AV.snil.known=true:=rfl
@[simp] theorem zTY:AV.nilp.known=true:=rfl
@[simp] theorem zT0(i o:Nat):(AV.ptr i o).known=true:=rfl
@[simp] theorem zTX(i o l c:Nat):(AV.ms i o l c).known=true:=rfl
@[simp] theorem zTU(f:Nat)(c:List AV):(AV.fn f c).known=true:=rfl
@[simp] theorem zTW(i:Nat):(AV.map i).known=true:=rfl
@[simp] theorem zT3(cs:List AV):(AV.view cs).known=true:=rfl
section
variable {H:zaa} {K:AV→zaa→Prop}
@[simp] theorem zQZ(i o:Nat):zaw (.ptr i o) H K=K (.ptr H.length 0) (H++[.cells [.ptr i o]]):=propext Iff.rfl
@[simp] theorem zQX(i o l c:Nat):zaw (.ms i o l c) H K=K (.ptr H.length 0) (H++[.cells [.ms i o l c]]):=propext Iff.rfl
@[simp] theorem zQW(i:Nat):zaw (.map i) H K=K (.ptr H.length 0) (H++[.cells [.map i]]):=propext Iff.rfl
@[simp] theorem zQU(f:Nat)(c:List AV):zaw (.fn f c) H K=K (.ptr H.length 0) (H++[.cells [.fn f c]]):=propext Iff.rfl
@[simp] theorem zQ1:zaw .snil H K=K (.ptr H.length 0) (H++[.cells [.snil]]):=propext Iff.rfl
end
theorem zaV{H:zaa}{p:zaa→(AV→zaa→Prop)→Prop}{k:AV→Prop}(r:AV)(h:∀J:zaa,p (H++J) λv H'=>v=r∧H'=H++J)(hk:k r):zaQ H p k:=⟨r,h,hk⟩
@[simp] theorem zT8(m:Nat)(k:IntKind)(n:Int):(AV.int k n).scA m=true:=rfl
@[simp] theorem zUg(m:Nat)(s:List UInt8):(AV.str s).scA m=true:=rfl
@[simp] theorem zT7(m:Nat)(b:Bool):(AV.bool b).scA m=true:=rfl
@[simp] theorem zUe(m:Nat)(es:List (List AV)):(AV.sl es .none).scA m=true:=rfl
@[simp] theorem zUf(m:Nat):AV.snil.scA m=true:=rfl
@[simp] theorem zUd(m i o:Nat):(AV.ptr i o).scA m=decide (i<m):=rfl
@[simp] theorem zUa(m i o l c:Nat):(AV.ms i o l c).scA m=decide (i<m):=rfl
@[simp] theorem zT9(m i:Nat):(AV.map i).scA m=decide (i<m):=rfl
@[simp] theorem zUc(m:Nat)(es:List (List AV))(i:Nat):(AV.sl es (.own i)).scA m=decide (i<m):=rfl
theorem WkV.rfl'{a:AV}:WkV a a:=.atom (.refl a)
theorem zb4{n:Nat}{a:AV}(h1:a.isV=true)(h2:a.scV n=true):WkV a a∧a.isV=true∧a.scV n=true:=⟨.rfl',h1,h2⟩
theorem slV{n:Nat}{es:List (List AV)}{t:Tok}:WkV (.sl es t) (.sl es .none)∧(AV.sl es .none).isV=true∧(AV.sl es .none).scV n=true:=⟨.atom (.sl es t),rfl,rfl⟩
theorem zgQ{n:Nat}:WkV .snil (.sl [] .none)∧(AV.sl [] .none).isV=true∧(AV.sl [] .none).scV n=true:=⟨.atom .snil,rfl,rfl⟩
theorem zdX{x:Option AV}{d:Nat}{p:Nat→Prop}{p':AV→Nat→Prop}{q:AV→Prop}(hp:∀n,p n↔∃v,p' v n∧q v):zbC x d p↔∃v,zbC x d (p' v)∧q v:=by
 unfold zbC;split
 ·exact hp d
 ·rename_i n;constructor
  ·rintro⟨h1,h2⟩;obtain⟨v,h3,h4⟩:=(hp _).1 h2;exact⟨v,⟨h1,h3⟩,h4⟩
  ·rintro⟨v,⟨h1,h3⟩,h4⟩;exact⟨h1,(hp _).2 ⟨v,h3,h4⟩⟩
 ·simp
theorem zhH{a:Prop}{q:AV→Prop}{x:AV}:(a∧q x)↔∃v,(a∧x=v)∧q v:=by
 constructor
 ·rintro⟨h1,h2⟩;exact⟨_,⟨h1,rfl⟩,h2⟩
 ·rintro⟨v,⟨h1,rfl⟩,h2⟩;exact⟨h1,h2⟩
@[simp] theorem zTg{H:zaa}{k:AV→Prop}(u e:Nat)(x:AV)(lo hi:Option AV):zad H (λK'=>za7 u e x lo hi λv=>K' v H) k=za7 u e x lo hi k:=zb5 (p:=λq=>za7 u e x lo hi q) λq=>by
 unfold za7;split
 ·exact zdX λh=>zdX λl=>zhH
 ·exact zdX λh=>zdX λl=>zhH
 ·exact zdX λh=>zdX λl=>zhH
 ·exact zdX λh=>zdX λl=>zhH
 ·exact zdX λh=>zdX λl=>zhH
 ·simp
end Go.Abs
namespace Go.Abs
open Go
theorem Out.at{n:Nat}{H2 J H':zaa}{K:AV→zaa→Prop}{a b:AV}(he:H'=H2++J)(hn:n≤H2.length)(hs:HSc H2)(hw:WkV a b)(hv:b.isV=true)(hc:b.scV H2.length=true)(h:K b H2):Out n K a H':=by subst he;exact⟨_,H2,J,rfl,hn,hs,.one (.wk hw hv hc),h⟩
theorem Out.bool{n:Nat}{H2 J H':zaa}{K:AV→zaa→Prop}{b:Bool}(he:H'=H2++J)(hn:n≤H2.length)(hs:HSc H2)(h:K (.bool b) H2):Out n K (.bool b) H':=Out.at he hn hs .rfl' rfl rfl h
theorem Out.int{n:Nat}{H2 J H':zaa}{K:AV→zaa→Prop}{k:IntKind}{b:Int}(he:H'=H2++J)(hn:n≤H2.length)(hs:HSc H2)(h:K (.int k b) H2):Out n K (.int k b) H':=Out.at he hn hs .rfl' rfl rfl h
theorem Back.at{n0:Nat}{Inv:List AV→zaa→Prop}{F:List AV}{H2 J H':zaa}(he:H'=H2++J)(hn:n0≤H2.length)(hsc:HSc H2)(hs:F.all (AV.sc H2.length)=true)(h:Inv F H2):Back n0 Inv F H':=by subst he;exact Back.same hn hsc hs h
theorem HSc.snoc{H:zaa}{b:AB}(h:HSc H)(hb:b.sc (H.length+1)=true):HSc (H++[b]):=h.append (by simpa using hb)
end Go.Abs
namespace Go.Abs
open Go
theorem zC3{B:Nat}{w w':World}{G G':Gh}(h:Ext B w G w' G'):G.μ.length≤G'.μ.length:=by
 by_cases h0:G.μ.length=0
 ·omega
 ·obtain⟨g,h1,_⟩:=h.ids (G.μ.length-1) _ (List.getElem?_eq_getElem (by omega));have:=(List.getElem?_eq_some_iff.1 h1).1;omega
theorem ACalls.mono'{P:Program}{f:FuncId}{args:List AV}{H:zaa}{K K':AV→zaa→Prop}(h:ACalls P f args H K)(hk:∀r H',HSc H'→H.length≤H'.length→K r H'→K' r H'):ACalls P f args H K':=
 λB w G vs hH hv=>(h B w G vs hH hv).mono λ_ _ ⟨v,r,H',G',h1,h2,h3,h4,h5⟩=>⟨v,r,H',G',h1,h2,h3,h4,hk _ _ h3.sc (by have:=zC3 h2;rw[hH.len,h3.len]at this;exact this) h5⟩
theorem aCallV.mono'{P:Program}{g:AV}{args:List AV}{H:zaa}{K K':AV→zaa→Prop}(h:aCallV P g args H K)(hk:∀r H',HSc H'→H.length≤H'.length→K r H'→K' r H'):aCallV P g args H K':=by
 unfold aCallV at *;split at h
 ·split at h
  ·exact ACalls.mono' h hk
  ·exact h.elim
 ·exact h.elim
end Go.Abs
namespace Go.Abs
open Go Go.RowKit
theorem HRel.reCell{B:Nat}{w:World}{G:Gh}{H:zaa}(h:HRel B w G H){id:Nat}{cs cs':List AV}(hid:H[id]?=some (.cells cs))(hc:∀vs:List Value,All2 (ARel w G) vs cs→All2 (ARel w G) vs cs'):HRel B w G (H.set id (.cells cs')):=by
 refine⟨by simp[h.len],?_,h.dist,h.fresh,h.lt,h.base⟩;intro i ab gi h1 h2;by_cases hi:i=id
 ·subst hi;rw[List.getElem?_set_self (List.getElem?_eq_some_iff.1 hid).1]at h1;cases h1;have hok:=h.ok i _ _ hid h2;cases gi with
  |blk b=>obtain⟨k1,k2,vs,e,k3,k4⟩:=hok;exact⟨k1,k2,vs,e,k3,hc _ k4⟩
  |own v s n=>exact hok.elim
  |gap=>exact hok.elim
 ·rw[List.getElem?_set_ne (λh=>hi h.symm)]at h1;exact h.ok i ab gi h1 h2
theorem HRel.ownCell{B:Nat}{w:World}{G:Gh}{H:zaa}(h:HRel B w G H){id j:Nat}{cs:List AV}(e size:Nat)(hid:H[id]?=some (.cells cs))(hj:cs[j]?=some .snil):
  ∃G',Ext B w G w G'∧HRel B w G' (H.set id (.cells (cs.set j (.sl [] (.own H.length))))++[.perm e size 0]):=by
 obtain⟨hE,hH'⟩:=h.newOwn e size;refine⟨_,hE,?_⟩;have hlt:=(List.getElem?_eq_some_iff.1 hid).1;have:=hH'.reCell (id:=id) (cs:=cs) (cs':=cs.set j (.sl [] (.own H.length))) (by rw[List.getElem?_append_left hlt];exact hid) (λvs hvs=>by
  obtain⟨v,h1,h2⟩:=All2.get hvs hj;have h2:v=.slice none 0 0:=h2;subst h2;have hset:vs=vs.set j (.slice none 0 0):=by
   apply List.ext_getElem?;intro k;by_cases hk:k=j
   ·subst hk;rw[List.getElem?_set_self (List.getElem?_eq_some_iff.1 h1).1];exact h1
   ·rw[List.getElem?_set_ne (λh=>hk h.symm)]
  rw[hset];refine All2.set j hvs ?_;refine⟨.slE _ _,.slice none 0 0,size,0,?_,Nat.le_refl _,λ_=>⟨rfl,by simp⟩⟩;rw[←h.len];simp)
 rwa [List.set_append_left _ _ hlt]at this
theorem ALoop.ownC{P:Program}{c:Code}{Q:AExit→List AV→zaa→Prop}{F:List AV}{H:zaa}{cs:List AV}(id j e size:Nat)(hid:H[id]?=some (.cells cs))(hj:cs[j]?=some .snil)(h:ALoop P c Q F (H.set id (.cells (cs.set j (.sl [] (.own H.length))))++[.perm e size 0])):ALoop P c Q F H:=by
 intro B w G a hH hF hd;obtain⟨G',hE,hH'⟩:=hH.ownCell e size hid hj;refine wp_mono (h B w G' a hH' (hF.ext hE) hd) λe a' w' hp=>?_;obtain⟨F'',H'',G'',e'',rfl,k1,k2,k3,k4,k5⟩:=hp;exact⟨F'',H'',G'',e'',rfl,hE.trans k1,k2,k3,k4,k5⟩
end Go.Abs
namespace Go.Abs
open Go Go.RowKit Go.Lib
variable {P:Program} {B:Nat} {w:World}
end Go.Abs
namespace Go.Abs
open Go Go.RowKit Go.Lib
variable {P:Program} {B:Nat} {w:World} {G:Gh} {H:zaa}
theorem HRel.dead(h:HRel B w G H){id e s n:Nat}(hH:H[id]?=some (.perm e s n)):HRel B w G (H.set id .dead):=by
 refine⟨by simp[h.len],?_,h.dist,h.fresh,h.lt,h.base⟩;intro i ab gi h1 h2;by_cases hi:i=id
 ·subst hi;rw[List.getElem?_set_self (List.getElem?_eq_some_iff.1 hH).1]at h1;cases h1;have hok:=h.ok i _ _ hH h2;cases gi with
  |blk b=>exact hok.elim
  |gap=>exact hok.elim
  |own v s' n'=>
   obtain⟨rfl,rfl,⟨xs,hl,⟨rfl,_⟩|⟨g,cap,cur,rfl,k1,k2,k3,k4,k5,k6⟩⟩,hL⟩:=hok
   ·intro b hb;cases hb
   ·intro b hb;simp[Value.ownBlock]at hb;subst hb;exact⟨cur,e,_,k2,by rw[hL g rfl,k5];exact Nat.mul_le_mul_right _ k3⟩
 ·rw[List.getElem?_set_ne (λh=>hi h.symm)]at h1;exact h.ok i ab gi h1 h2
theorem HRel.other(h:HRel B w G H)(o:Obj):Ext B w G (w.alloc o) G∧HRel B (w.alloc o) G H:=by have he:=Ext.alloc h o G.L (λ_ _=>rfl) [];simp only[List.append_nil]at he;refine⟨he,h.keep he rfl (λid gi b h1 h2=>⟨zdh (h.lt id gi b h1 h2),rfl⟩) (λb hb=>?_)⟩;rw[zcc]at hb;exact h.fresh b (by omega)
end Go.Abs
namespace Go.Abs
open Go Go.RowKit Go.Sort
variable {P:Program} {B:Nat} {w:World} {G:Gh} {H:zaa}
end Go.Abs
namespace Go.Abs
open Go Go.RowKit
variable {P:Program} {B:Nat} {w:World} {G:Gh} {H:zaa}
theorem HRel.newVec(h:HRel B w G H)(e size:Nat):Ext B w G w ⟨G.L,G.μ++[.own (.slice none 0 0) size 0]⟩∧HRel B w ⟨G.L,G.μ++[.own (.slice none 0 0) size 0]⟩ (H++[.vec e size 0 []]):=by
 obtain⟨hE,hH⟩:=h.newOwn e size;refine⟨hE,by simpa using hH.len,λid ab gi h1 h2=>?_,hH.dist,hH.fresh,hH.lt,hH.base⟩;by_cases hlt:id<H.length
 ·rw[List.getElem?_append_left hlt]at h1;exact hH.ok id ab gi (by rw[List.getElem?_append_left hlt];exact h1) h2
 ·have hlt2:=(List.getElem?_eq_some_iff.1 h2).1;simp[h.len]at hlt2;obtain rfl:id=H.length:=by omega
  simp at h1;have h2:(G.μ++[GI.own (.slice none 0 0) size 0])[H.length]?=some gi:=h2;rw[←h.len]at h2;simp at h2;subst h1 h2;exact⟨rfl,rfl,⟨[],World.ownsRow_nil w B e size,trivial⟩,λb hb=>by simp[Value.ownBlock]at hb⟩
theorem HRel.ovCell(h:HRel B w G H){id j:Nat}{cs:List AV}(e size:Nat)(hid:H[id]?=some (.cells cs))(hj:cs[j]?=some .snil):
  ∃G',Ext B w G w G'∧HRel B w G' (H.set id (.cells (cs.set j (.ov H.length 0)))++[.vec e size 0 []]):=by
 obtain⟨hE,hH'⟩:=h.newVec e size;refine⟨_,hE,?_⟩;have hlt:=(List.getElem?_eq_some_iff.1 hid).1;have:=hH'.reCell (id:=id) (cs:=cs) (cs':=cs.set j (.ov H.length 0)) (by rw[List.getElem?_append_left hlt];exact hid) (λvs hvs=>by
  obtain⟨v,h1,h2⟩:=All2.get hvs hj;have h2:v=.slice none 0 0:=h2;subst h2;have hset:vs=vs.set j (.slice none 0 0):=by
   apply List.ext_getElem?;intro k;by_cases hk:k=j
   ·subst hk;rw[List.getElem?_set_self (List.getElem?_eq_some_iff.1 h1).1];exact h1
   ·rw[List.getElem?_set_ne (λh=>hk h.symm)]
  rw[hset];refine All2.set j hvs ?_;refine⟨⟨none,0,rfl,λh=>absurd h (by omega),Nat.le_refl _⟩,.slice none 0 0,size,0,?_,Nat.le_refl _,λ_=>rfl⟩;rw[←h.len];simp)
 rwa [List.set_append_left _ _ hlt]at this
theorem ACalls.ovC{f:FuncId}{args:List AV}{K:AV→zaa→Prop}{id j:Nat}{cs:List AV}(e size:Nat)(hid:H[id]?=some (.cells cs))(hj:cs[j]?=some .snil)(h:ACalls P f args (H.set id (.cells (cs.set j (.ov H.length 0)))++[.vec e size 0 []]) K):ACalls P f args H K:=by
 intro B w G vs hH hv;obtain⟨G',hE,hH'⟩:=hH.ovCell e size hid hj;refine(h B w G' vs hH' (hv.mono λ_ _=>hE.trel)).mono λe' w' hp=>?_;obtain⟨v,r,H',G'',h1,h2,h3⟩:=hp;exact⟨v,r,H',G'',h1,hE.trans h2,h3⟩
end Go.Abs
namespace Go.Abs
open Go
abbrev Kt:=AV→zaa→Prop
abbrev Lt:=List AV→zaa→Prop
def ux:Nat→List AV→List AV
 |0,l=>l
 |n+1,l=>.unk::ux n l
@[simp] theorem zUp(m n:Nat)(l:List AV):(ux n l).all (AV.sc m)=l.all (AV.sc m):=by
 induction n with
 |zero=>rfl
 |succ n ih=>rw[ux,List.all_cons,ih];rfl
def rl:Bool→List Nat→List Bool
 |_,[]=>[]
 |b,n::l=>List.replicate n b++rl (!b) l
end Go.Abs
namespace Go.Abs
open Go Go.RowKit
variable {P:Program} {M:Nat→List Bool} {c:Code} {Q:AExit→List AV→zaa→Prop} {H:zaa}
def Rd1(fr:AV→List AV)(bd:AV→zaa→Lt→Prop)(H:zaa)(Inv:Nat→AV→zaa→Prop):Prop:=
 ∀n t0 H',Inv n t0 H'→HSc H'→H.length≤H'.length→(fr t0).all (AV.sc H'.length)=true→∀Kb:Lt,(∀F'' H'',(∃n',n'<n∧Back H.length (λF2 H2=>∃t0,F2=fr t0∧Inv n' t0 H2) F'' H'')→Kb F'' H'')→bd t0 H' Kb
theorem lp1{fr:AV→List AV}{bd:AV→zaa→Lt→Prop}(m:List Bool)(t0:AV)(he:(λt0 H Kb=>awp P M c (zbK m Kb Q) (fr t0) H)=bd)(Inv:Nat→AV→zaa→Prop)(n:Nat)(h0:HSc H→Inv n t0 H)(round:Rd1 fr bd H Inv):ALoop P c Q (fr t0) H:=by subst he;exact znJ (M:=M) m (λn F H=>∃t0,F=fr t0∧Inv n t0 H) n (λhs _=>⟨t0,rfl,h0 hs⟩) (λn F H' ⟨t0,hF,hI⟩ h1 h2 h3=>by subst hF;exact round n t0 H' hI h1 h2 h3 _ (λ_ _ h=>h))
def Rd2(fr:AV→AV→List AV)(bd:AV→AV→zaa→Lt→Prop)(H:zaa)(Inv:Nat→AV→AV→zaa→Prop):Prop:=
 ∀n t0 t1 H',Inv n t0 t1 H'→HSc H'→H.length≤H'.length→(fr t0 t1).all (AV.sc H'.length)=true→∀Kb:Lt,(∀F'' H'',(∃n',n'<n∧Back H.length (λF2 H2=>∃t0 t1,F2=fr t0 t1∧Inv n' t0 t1 H2) F'' H'')→Kb F'' H'')→bd t0 t1 H' Kb
theorem lp2{fr:AV→AV→List AV}{bd:AV→AV→zaa→Lt→Prop}(m:List Bool)(t0 t1:AV)(he:(λt0 t1 H Kb=>awp P M c (zbK m Kb Q) (fr t0 t1) H)=bd)(Inv:Nat→AV→AV→zaa→Prop)(n:Nat)(h0:HSc H→Inv n t0 t1 H)(round:Rd2 fr bd H Inv):ALoop P c Q (fr t0 t1) H:=by subst he;exact znJ (M:=M) m (λn F H=>∃t0 t1,F=fr t0 t1∧Inv n t0 t1 H) n (λhs _=>⟨t0,t1,rfl,h0 hs⟩) (λn F H' ⟨t0,t1,hF,hI⟩ h1 h2 h3=>by subst hF;exact round n t0 t1 H' hI h1 h2 h3 _ (λ_ _ h=>h))
def Rd3(fr:AV→AV→AV→List AV)(bd:AV→AV→AV→zaa→Lt→Prop)(H:zaa)(Inv:Nat→AV→AV→AV→zaa→Prop):Prop:=
 ∀n t0 t1 t2 H',Inv n t0 t1 t2 H'→HSc H'→H.length≤H'.length→(fr t0 t1 t2).all (AV.sc H'.length)=true→∀Kb:Lt,(∀F'' H'',(∃n',n'<n∧Back H.length (λF2 H2=>∃t0 t1 t2,F2=fr t0 t1 t2∧Inv n' t0 t1 t2 H2) F'' H'')→Kb F'' H'')→bd t0 t1 t2 H' Kb
theorem lp3{fr:AV→AV→AV→List AV}{bd:AV→AV→AV→zaa→Lt→Prop}(m:List Bool)(t0 t1 t2:AV)(he:(λt0 t1 t2 H Kb=>awp P M c (zbK m Kb Q) (fr t0 t1 t2) H)=bd)(Inv:Nat→AV→AV→AV→zaa→Prop)(n:Nat)(h0:HSc H→Inv n t0 t1 t2 H)(round:Rd3 fr bd H Inv):ALoop P c Q (fr t0 t1 t2) H:=by subst he;exact znJ (M:=M) m (λn F H=>∃t0 t1 t2,F=fr t0 t1 t2∧Inv n t0 t1 t2 H) n (λhs _=>⟨t0,t1,t2,rfl,h0 hs⟩) (λn F H' ⟨t0,t1,t2,hF,hI⟩ h1 h2 h3=>by subst hF;exact round n t0 t1 t2 H' hI h1 h2 h3 _ (λ_ _ h=>h))
end Go.Abs

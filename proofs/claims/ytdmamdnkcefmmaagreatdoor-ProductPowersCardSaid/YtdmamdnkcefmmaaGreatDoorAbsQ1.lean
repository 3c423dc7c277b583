import Derived.Test.YtdmamdnkcefmmaaGreatDoorAbsL
import Derived.KernelRfl
set_option linter.unusedSimpArgs false
set_option linter.unusedVariables false
set_option maxRecDepth 8000
namespace Go.Proofs.YtdmamdnkcefmmaaGreatDoor
section
open Go.RowKit

variable {P:Program} {B:Nat} {w:World} {G:Gh} {H:zaa}

def AV.scB(n:Nat):AV→Bool
 |.ptr id _=>decide (id<n)
 |.ms id _ _ _=>decide (id<n)
 |.ov id _=>decide (id<n)
 |.vp id _ _=>decide (id<n)
 |.os id _ _ _=>decide (id<n)
 |.map id=>decide (id<n)
 |.sl _ (.own id)=>decide (id<n)
 |_=>true
def AV.scA(n:Nat):AV→Bool
 |.fn _ caps=>caps.all (AV.scB n)
 |a=>a.scB n
def AV.scV(n:Nat):AV→Bool
 |.agg cs=>cs.all (AV.scA n)
 |a=>a.scA n
def AV.sc(n:Nat):AV→Bool
 |.tup vs=>vs.all (AV.scV n)
 |a=>a.scV n
def AB.sc(n:Nat):AB→Bool
 |.cells cs=>cs.all (AV.scA n)
 |.map kvs=>kvs.all λp=>p.2.scV n
 |.bld _ cs=>cs.all (AV.scA n)
 |.vec _ _ _ cs=>cs.all (AV.scA n)
 |_=>true
def HSc(H:zaa):Prop:=∀b∈H,b.sc H.length=true

theorem lt_of_μ{id:Nat}{gi:GI}(h:G.μ[id]?=some gi):id<G.μ.length:=(List.getElem?_eq_some_iff.1 h).1

theorem BRel.sc{v:Value}{a:AV}(h:BRel w G v a):a.scB G.μ.length=true:=by
 cases a with
 |ptr id off=>obtain⟨b,h1,_⟩:=h;simpa[AV.scB]using lt_of_μ h1
 |ms id off len cap=>obtain⟨b,h1,_⟩:=h;simpa[AV.scB]using lt_of_μ h1
 |ov id n=>obtain⟨_,v',s,n',h1,_⟩:=h;simpa[AV.scB]using lt_of_μ h1
 |vp id n off=>obtain⟨_,v',s,n',h1,_⟩:=h;simpa[AV.scB]using lt_of_μ h1
 |os id n l e=>obtain⟨_,v',s,n',h1,_⟩:=h;simpa[AV.scB]using lt_of_μ h1
 |map id=>obtain⟨b,h1,_⟩:=h;simpa[AV.scB]using lt_of_μ h1
 |sl es tok=>
  cases tok with
  |own id=>obtain⟨_,v',s,n,h1,_⟩:=h;simpa[AV.scB]using lt_of_μ h1
  |none=>rfl
  |full=>rfl
 |_=>rfl
theorem All2.all_of{R:Value→AV→Prop}{p:AV→Bool}(hp:∀ v a,R v a→p a=true):∀ {vs:List Value} {asx:List AV},All2 R vs asx→asx.all p=true
 |[],[],_=>rfl
 |_::_,_::_,h=>by simp only[List.all_cons,aj];exact⟨hp _ _ h.1,All2.all_of hp h.2⟩
theorem ARel.sc{v:Value}{a:AV}(h:ARel w G v a):a.scA G.μ.length=true:=by
 have hb:∀{x:AV},BRel w G v x→x.scB G.μ.length=true:=λh=>h.sc;cases a with
 |fn f caps=>obtain⟨vs,_,h2⟩:=h;exact All2.all_of (λv a (h:BRel w G v a)=>h.sc) h2
 |unk=>exact hb (x:=.unk) h
 |bool b=>exact hb (x:=.bool b) h
 |int k n=>exact hb (x:=.int k n) h
 |str s=>exact hb (x:=.str s) h
 |nilp=>exact hb (x:=.nilp) h
 |ptr i o=>exact hb (x:=.ptr i o) h
 |view cs=>exact hb (x:=.view cs) h
 |snil=>exact hb (x:=.snil) h
 |sl es t=>exact hb (x:=.sl es t) h
 |ms i o l c=>exact hb (x:=.ms i o l c) h
 |ov i n=>exact hb (x:=.ov i n) h
 |vp i n o=>exact hb (x:=.vp i n o) h
 |os i n l e=>exact hb (x:=.os i n l e) h
 |map i=>exact hb (x:=.map i) h
 |nilfn=>exact hb (x:=.nilfn) h
 |nili=>exact hb (x:=.nili) h
 |ifc=>exact hb (x:=.ifc) h
 |agg cs=>exact hb (x:=.agg cs) h
 |tup vs=>exact hb (x:=.tup vs) h
theorem VRel.sc{v:Value}{a:AV}(h:VRel w G v a):a.scV G.μ.length=true:=by
 have ha:∀{x:AV},ARel w G v x→x.scA G.μ.length=true:=λh=>h.sc;cases a with
 |agg cs=>obtain⟨vs,_,h2⟩:=h;exact All2.all_of (λv a (h:ARel w G v a)=>h.sc) h2
 |fn f caps=>exact ha (x:=.fn f caps) h
 |unk=>rfl
 |bool b=>rfl
 |int k n=>rfl
 |str s=>rfl
 |nilp=>rfl
 |ptr i o=>exact ha (x:=.ptr i o) h
 |view cs=>rfl
 |snil=>rfl
 |sl es t=>exact ha (x:=.sl es t) h
 |ms i o l c=>exact ha (x:=.ms i o l c) h
 |ov i n=>exact ha (x:=.ov i n) h
 |vp i n o=>exact ha (x:=.vp i n o) h
 |os i n l e=>exact ha (x:=.os i n l e) h
 |map i=>exact ha (x:=.map i) h
 |nilfn=>rfl
 |nili=>rfl
 |ifc=>rfl
 |tup vs=>exact ha (x:=.tup vs) h
theorem ERel.sc{e:MapEntry}{p:List UInt8×AV}(h:ERel w G e p):p.2.scV G.μ.length=true:=h.2.sc
theorem All2.all_ents{p:AV→Bool}{R:MapEntry→List UInt8 × AV→Prop}(hp:∀ v a,R v a→p a.2=true):∀ {vs:List MapEntry} {asx:List (List UInt8 × AV)},All2 R vs asx→(asx.all λa=>p a.2)=true
 |[],[],_=>rfl
 |_::_,_::_,h=>by simp only[List.all_cons,aj];exact⟨hp _ _ h.1,All2.all_ents hp h.2⟩
theorem HRel.sc(h:HRel B w G H):HSc H:=by
 intro ab eY;obtain⟨id,en⟩:=aQ.1 eY;have ei:id<G.μ.length:=by rw[h.len];exact(List.getElem?_eq_some_iff.1 en).1
 have eu:=h.ok id ab _ en (List.getElem?_eq_getElem ei);cases ab with
 |cells cs=>
  cases hg:G.μ[id] with
  |blk b=>rw[hg]at eu;obtain⟨_,_,vs,e,_,h2⟩:=eu;have:=All2.all_of (λv a (h:ARel w G v a)=>h.sc) h2;rw[h.len]at this;exact this
  |own v s n=>rw[hg]at eu;exact eu.elim
  |gap=>rw[hg]at eu;exact eu.elim
 |vec e s n cs=>
  cases hg:G.μ[id] with
  |blk b=>rw[hg]at eu;exact eu.elim
  |own v s n=>rw[hg]at eu;obtain⟨_,_,⟨xs,_,h2⟩,_⟩:=eu;have:=All2.all_of (λv a (h:ARel w G v a)=>h.sc) h2;rw[h.len]at this;exact this
  |gap=>rw[hg]at eu;exact eu.elim
 |bld t cs=>
  cases hg:G.μ[id] with
  |blk b=>rw[hg]at eu;obtain⟨_,_,vs,_,h2⟩:=eu;have:=All2.all_of (λv a (h:ARel w G v a)=>h.sc) h2;rw[h.len]at this;exact this
  |own v s n=>rw[hg]at eu;exact eu.elim
  |gap=>rw[hg]at eu;exact eu.elim
 |map kvs=>
  cases hg:G.μ[id] with
  |blk b=>rw[hg]at eu;obtain⟨_,_,es,clk,_,h2⟩:=eu;have:=All2.all_ents (p:=AV.scV G.μ.length) (λv a (h:ERel w G v a)=>h.sc) h2;rw[h.len]at this;exact this
  |own v s n=>rw[hg]at eu;exact eu.elim
  |gap=>rw[hg]at eu;exact eu.elim
 |perm e s n=>rfl
 |gap=>rfl
 |dead=>rfl
 |fact φ=>rfl
 |frz e s n=>rfl

def Gh.cut(G:Gh)(w:World)(n:Nat):Gh:=
 ⟨λb=>if (G.μ.drop n).any (λgi=>gi.block == some b)=true then (match w.heap[b]? with|some (.cells c _ _)=>c.size|_=>0) else G.L b,G.μ.take n⟩

theorem ze9{n id:Nat}(h:id<n):(G.cut w n).μ[id]?=G.μ[id]?:=by simp[Gh.cut,h]
theorem zjO{n id:Nat}{gi:GI}(h:(G.cut w n).μ[id]?=some gi):id<n∧G.μ[id]?=some gi:=by
 simp only[Gh.cut,List.getElem?_take]at h;split at h
 ·rename_i ei;exact⟨ei,h⟩
 ·cases h
theorem cut_dropped{n b:Nat}:((G.μ.drop n).any (λgi=>gi.block == some b)=true)↔∃id gi,n≤id∧G.μ[id]?=some gi∧gi.block=some b:=by
 rw[List.any_eq_true];constructor
 ·rintro⟨gi,h1,h2⟩;obtain⟨k,hk⟩:=aQ.1 h1;rw[List.getElem?_drop]at hk;exact⟨n+k,gi,by omega,hk,by simpa using h2⟩
 ·rintro⟨id,gi,h1,h2,h3⟩;refine⟨gi,aQ.2 ⟨id-n,?_⟩,by simp[h3]⟩;rw[List.getElem?_drop,show n+(id-n)=id by omega];exact h2

theorem zqr(h:HRel B w G H)(n b:Nat):G.L b≤(G.cut w n).L b:=by
 simp only[Gh.cut];split
 ·rename_i hd;obtain⟨id,gi,_,en,fL⟩:=cut_dropped.1 hd;have ei:id<H.length:=by rw[←h.len];exact lt_of_μ en
  have eu:=h.ok id _ _ (List.getElem?_eq_getElem ei) en;cases gi with
  |gap=>cases fL
  |blk x=>
   simp[GI.block]at fL;subst fL;cases hb:H[id] with
   |cells cs=>rw[hb]at eu;rw[eu.2.1];exact bv _
   |perm e s n=>rw[hb]at eu;exact eu.elim
   |map kvs=>rw[hb]at eu;rw[eu.2.1];exact bv _
   |bld t cs=>rw[hb]at eu;rw[eu.2.1];exact bv _
   |vec e s n cs=>rw[hb]at eu;exact eu.elim
   |gap=>rw[hb]at eu;exact eu.elim
   |dead=>rw[hb]at eu;obtain⟨vs,e,fr,h1,h2⟩:=eu;rw[h1];exact h2
   |frz e s n=>rw[hb]at eu;exact eu.elim
   |fact φ=>rw[hb]at eu;exact eu.elim
  |own v s n=>
   simp only[GI.block]at fL;have big:∀{e m:Nat} {xs:List Value},w.ownsRow B e s v m xs→m*s≤(match w.heap[b]? with|some (.cells c _ _)=>c.size|_=>0):=by
    rintro e m xs ⟨hl,h1|⟨g,cap,cur,rfl,h1,h2,h3,h4,h5,h6⟩⟩
    ·rw[h1.1]at fL;cases fL
    ·simp[Value.ownBlock]at fL;subst fL;rw[h2];simp only[h5];exact ar _ h3
   cases hb:H[id] with
   |perm e s' n'=>rw[hb]at eu;obtain⟨rfl,rfl,⟨xs,hx⟩,hL⟩:=eu;rw[hL b fL];exact big hx
   |vec e s' n' cs=>rw[hb]at eu;obtain⟨rfl,rfl,_,hL⟩:=eu;rw[hL b fL];exact bv _
   |cells cs=>rw[hb]at eu;exact eu.elim
   |map kvs=>rw[hb]at eu;exact eu.elim
   |bld t cs=>rw[hb]at eu;exact eu.elim
   |gap=>rw[hb]at eu;exact eu.elim
   |frz e s' n'=>rw[hb]at eu;obtain⟨g,cap,vs,fr,rfl,rfl,rfl,h1,h2,h3,h4,h5,h6⟩:=eu;simp[Value.ownBlock]at fL;subst fL;rw[h1,h3];simp only[h6];exact ar _ h4
   |fact φ=>rw[hb]at eu;exact eu.elim
   |dead=>rw[hb]at eu;obtain⟨vs,e,fr,h1,h2⟩:=eu b fL;rw[h1];exact h2
 ·exact ac _


theorem zfa(h:HRel B w G H){n id:Nat}{gi:GI}{b:Nat}(hn:id<n)(en:G.μ[id]?=some gi)(hb:gi.block=some b):(G.cut w n).L b=G.L b:=by
 simp only[Gh.cut];split
 ·rename_i hd;obtain⟨id',gi',h1,h2,h3⟩:=cut_dropped.1 hd;have:=h.dist id id' gi _ b en h2 hb h3;omega
 ·rfl

theorem zyu(h:HRel B w G H){w0:World}{G0:Gh}{n:Nat}(hE:Ext B w0 G0 w G)(hn:G0.μ.length≤n):Ext B w0 G0 w (G.cut w n):=
 ⟨hE.dr,hE.below,λb=>ap (hE.lev b) (zqr h n b),hE.cell,λid gi hg=>by
  obtain⟨g',h1,h2⟩:=hE.ids id gi hg;exact⟨g',by rw[ze9 (aV (lt_of_μ hg) hn)];exact h1,h2⟩⟩

theorem zhM(h:HRel B w G H){n:Nat}{v:Value}{a:AV}(hd:DRel w G.L v a):DRel w (G.cut w n).L v a:=hd.mono (λb=>zqr h n b) (λ_ _ _=>rfl)
theorem zys(h:HRel B w G H){n:Nat}{v:Value}{a:AV}(hr:BRel w G v a)(hs:a.scB n=true):BRel w (G.cut w n) v a:=by
 cases a with
 |ptr id off=>obtain⟨b,h1,h2⟩:=hr;simp[AV.scB]at hs;exact⟨b,by rw[ze9 hs];exact h1,h2⟩
 |ms id off len cap=>obtain⟨b,h1,h2⟩:=hr;simp[AV.scB]at hs;exact⟨b,by rw[ze9 hs];exact h1,h2⟩
 |map id=>obtain⟨b,h1,h2⟩:=hr;simp[AV.scB]at hs;exact⟨b,by rw[ze9 hs];exact h1,h2⟩
 |ov id m=>obtain⟨h0,v',s,m',h1,h2⟩:=hr;simp[AV.scB]at hs;exact⟨h0,v',s,m',by rw[ze9 hs];exact h1,h2⟩
 |vp id m off=>obtain⟨h0,v',s,m',h1,h2⟩:=hr;simp[AV.scB]at hs;exact⟨h0,v',s,m',by rw[ze9 hs];exact h1,h2⟩
 |os id m l e=>obtain⟨h0,v',s,m',h1,h2⟩:=hr;simp[AV.scB]at hs;exact⟨h0,v',s,m',by rw[ze9 hs];exact h1,h2⟩
 |view cs=>obtain⟨b,off,h1,h2⟩:=hr;exact⟨b,off,h1,h2.mono (λb=>zqr h n b) (λ_ _ _=>rfl)⟩
 |sl es tok=>
  cases tok with
  |none=>exact zhM h hr
  |full=>exact⟨zhM h hr.1,hr.2⟩
  |own id=>obtain⟨h1,v',s,m,h2,h3⟩:=hr;simp[AV.scB]at hs;exact⟨zhM h h1,v',s,m,by rw[ze9 hs];exact h2,h3⟩
 |_=>exact hr
theorem zeF{R R':Value→AV→Prop}{p:AV→Bool}(hp:∀ v a,R v a→p a=true→R' v a):∀ {vs:List Value} {asx:List AV},All2 R vs asx→asx.all p=true→All2 R' vs asx
 |[],[],_,_=>trivial
 |_::_,_::_,h,hs=>by simp only[List.all_cons,aj]at hs;exact⟨hp _ _ h.1 hs.1,zeF hp h.2 hs.2⟩
theorem zhL(h:HRel B w G H){n:Nat}{v:Value}{a:AV}(hr:ARel w G v a)(hs:a.scA n=true):ARel w (G.cut w n) v a:=by
 cases a with
 |fn f caps=>obtain⟨vs,h1,h2⟩:=hr;exact⟨vs,h1,zeF (p:=AV.scB n) (λ_ _=>zys h) h2 hs⟩
 |_=>exact ARel.of_b (zys h hr hs)
theorem zqt(h:HRel B w G H){n:Nat}{v:Value}{a:AV}(hr:VRel w G v a)(hs:a.scV n=true):VRel w (G.cut w n) v a:=by
 cases a with
 |agg cs=>obtain⟨vs,h1,h2⟩:=hr;exact⟨vs,h1,zeF (p:=AV.scA n) (λ_ _=>zhL h) h2 hs⟩
 |_=>exact VRel.of_a (zhL h hr hs)
theorem zyv(h:HRel B w G H){n:Nat}{v:Value}{a:AV}(hr:TRel w G v a)(hs:a.sc n=true):TRel w (G.cut w n) v a:=by
 cases a with
 |tup cs=>obtain⟨vs,h1,h2⟩:=hr;exact⟨vs,h1,zeF (p:=AV.scV n) (λ_ _=>zqt h) h2 hs⟩
 |_=>exact TRel.of_v (zqt h hr hs)

theorem zyt{G':Gh}{p:AV→Bool}(hp:∀ v a,VRel w G v a→p a=true→VRel w G' v a):∀ {es:List MapEntry} {kvs:List (List UInt8 × AV)},All2 (ERel w G) es kvs→(kvs.all λa=>p a.2)=true→All2 (ERel w G') es kvs
 |[],[],_,_=>trivial
 |_::_,_::_,h,hs=>by simp only[List.all_cons,aj]at hs;exact⟨⟨h.1.1,hp _ _ h.1.2 hs.1⟩,zyt hp h.2 hs.2⟩
theorem HRel.cut{J:zaa}(h:HRel B w G (H++J))(hs:HSc H):HRel B w (G.cut w H.length) H:=by
 refine⟨?_,?_,?_,?_,?_,h.base⟩
 ·have:=h.len;simp[Gh.cut]at this ⊢;omega
 ·intro id ab gi h1 h2;obtain⟨ei,h2⟩:=zjO h2;have eu:=h.ok id ab gi (by rw[List.getElem?_append_left ei];exact h1) h2;have hsc:=hs ab (aQ.2 ⟨id,h1⟩);cases ab with
  |cells cs=>
   cases gi with
   |blk b=>obtain⟨k1,k2,vs,e,k3,k4⟩:=eu;exact⟨k1,by rw[zfa h ei h2 rfl];exact k2,vs,e,k3,zeF (p:=AV.scA H.length) (λ_ _=>zhL h) k4 hsc⟩
   |own v s n=>exact eu.elim
   |gap=>exact eu.elim
  |perm e s n=>
   cases gi with
   |blk b=>exact eu.elim
   |gap=>exact eu.elim
   |own v s' n'=>obtain⟨k1,k2,k3,k4⟩:=eu;exact⟨k1,k2,k3,λb hb=>by rw[zfa h ei h2 (by simpa[GI.block]using hb)];exact k4 b hb⟩
  |vec e s n cs=>
   cases gi with
   |blk b=>exact eu.elim
   |gap=>exact eu.elim
   |own v s' n'=>obtain⟨k1,k2,⟨xs,k3,k5⟩,k4⟩:=eu;exact⟨k1,k2,⟨xs,k3,zeF (p:=AV.scA H.length) (λ_ _=>zhL h) k5 hsc⟩,λb hb=>by rw[zfa h ei h2 (by simpa[GI.block]using hb)];exact k4 b hb⟩
  |map kvs=>
   cases gi with
   |blk b=>obtain⟨k1,k2,es,clk,k3,k4⟩:=eu;exact⟨k1,by rw[zfa h ei h2 rfl];exact k2,es,clk,k3,zyt (λ_ _ h1 h2=>zqt h h1 h2) k4 hsc⟩
   |own v s n=>exact eu.elim
   |gap=>exact eu.elim
  |gap=>
   cases gi with
   |blk b=>exact eu.elim
   |own v s n=>exact eu.elim
   |gap=>trivial
  |frz e s n=>
   cases gi with
   |blk b=>exact eu.elim
   |own v s' n'=>obtain⟨g,cap,vs,fr,rfl,rfl,rfl,k1,k2,k3,k4⟩:=eu;exact⟨g,cap,vs,fr,rfl,rfl,rfl,k1,k2,by rw[zfa h ei h2 rfl];exact k3,k4⟩
   |gap=>exact eu.elim
  |fact φ=>
   cases gi with
   |blk b=>exact eu.elim
   |own v s n=>exact eu.elim
   |gap=>exact eu
  |dead=>
   cases gi with
   |blk b=>obtain⟨vs,e,fr,k1,k2⟩:=eu;exact⟨vs,e,fr,k1,by rw[zfa h ei h2 rfl];exact k2⟩
   |own v s n=>exactλb hb=>by rw[zfa h ei h2 (by simpa[GI.block]using hb)];exact eu b hb
   |gap=>exact eu.elim
  |bld t cs=>
   cases gi with
   |blk b=>obtain⟨k1,k2,vs,k3,k4⟩:=eu;exact⟨k1,by rw[zfa h ei h2 rfl];exact k2,vs,k3,zeF (p:=AV.scA H.length) (λ_ _=>zhL h) k4 hsc⟩
   |own v s n=>exact eu.elim
   |gap=>exact eu.elim
 ·intro id id' gi gi' b h1 h2;exact h.dist id id' gi gi' b (zjO h1).2 (zjO h2).2
 ·intro b hb;simp only[Gh.cut];split
  ·rename_i hd;obtain⟨id,gi,_,en,hgb⟩:=cut_dropped.1 hd;have:=h.lt id _ b en hgb;omega
  ·exact h.fresh b hb
 ·intro id gi b h1 h2;exact h.lt id gi b (zjO h1).2 h2

inductive WkA:AV→AV→Prop
 |refl (a:AV):WkA a a
 |sl (es:List (List AV)) (t:Tok):WkA (.sl es t) (.sl es .none)
 |snil:WkA .snil (.sl [] .none)
inductive WkV:AV→AV→Prop
 |unk (a:AV):WkV a .unk
 |atom {a b:AV} (h:WkA a b):WkV a b
 |agg {cs ds:List AV} (h:All2 WkA cs ds):WkV (.agg cs) (.agg ds)
theorem WkA.arel{v:Value}{a b:AV}(h:WkA a b)(hr:ARel w G v a):ARel w G v b:=by
 cases h with
 |refl=>exact hr
 | sl es t=>cases t with
  |none=>exact hr
  |full=>exact hr.1
  |own id=>exact hr.1
 |snil=>cases hr;exact .slE _ _
theorem All2.wk{asx bs:List AV}(h:All2 WkA asx bs):∀{vs:List Value},All2 (ARel w G) vs asx→All2 (ARel w G) vs bs:=by
 induction asx generalizing bs with
 |nil=>
  intro vs hr;cases bs with
  |nil=>exact hr
  |cons b bs=>exact h.elim
 |cons a asx ih=>
  intro vs hr;cases bs with
  |nil=>exact h.elim
  |cons b bs=>
   cases vs with
   |nil=>exact hr.elim
   |cons v vs=>exact⟨h.1.arel hr.1,ih h.2 hr.2⟩
theorem WkV.trel{v:Value}{a b:AV}(h:WkV a b)(hr:TRel w G v a):TRel w G v b:=by
 cases h with
 |unk=>trivial
 |atom h=>
  cases h with
  |refl=>exact hr
  |sl es t=>exact TRel.of_v (VRel.of_a (WkA.arel (.sl es t) hr))
  |snil=>exact TRel.of_v (VRel.of_a (WkA.arel .snil hr))
 |agg h=>obtain⟨vs,h1,h2⟩:=hr;exact⟨vs,h1,h.wk h2⟩
theorem zBO{asx bs:List AV}(h:All2 WkV asx bs):∀{vs:List Value},All2 (TRel w G) vs asx→All2 (TRel w G) vs bs:=by
 induction asx generalizing bs with
 |nil=>
  intro vs hr;cases bs with
  |nil=>exact hr
  |cons b bs=>exact h.elim
 |cons a asx ih=>
  intro vs hr;cases bs with
  |nil=>exact h.elim
  |cons b bs=>
   cases vs with
   |nil=>exact hr.elim
   |cons v vs=>exact⟨h.1.trel hr.1,ih h.2 hr.2⟩

theorem ACalls.mono{f:FuncId}{args:List AV}{K K':AV→zaa→Prop}(h:ACalls P f args H K)(hk:∀r H',K r H'→K' r H'):ACalls P f args H K':=
 λB w G vs hH hv=>(h B w G vs hH hv).mono λ_ _ ⟨v,r,H',G',h1,h2,h3,h4,h5⟩=>⟨v,r,H',G',h1,h2,h3,h4,hk _ _ h5⟩
theorem ACalls.wk{f:FuncId}{args args':List AV}{K:AV→zaa→Prop}(h:ACalls P f args' H K)(ha:All2 WkV args args'):ACalls P f args H K:=
 λB w G vs hH hv=>h B w G vs hH (zBO ha hv)

def Back(n0:Nat)(Inv:List AV→zaa→Prop)(F:List AV)(H:zaa):Prop:=
 ∃F2 H2 J,H=H2++J∧n0≤H2.length∧HSc H2∧All2 WkV F F2∧F2.all (AV.sc H2.length)=true∧Inv F2 H2

theorem TRel.sc{v:Value}{a:AV}(h:TRel w G v a):a.sc G.μ.length=true:=by
 have ha:∀{x:AV},VRel w G v x→x.scV G.μ.length=true:=λh=>h.sc;cases a with
 |tup vs=>obtain⟨us,_,h2⟩:=h;exact All2.all_of (λv a (h:VRel w G v a)=>h.sc) h2
 |agg cs=>exact ha (x:=.agg cs) h
 |fn f caps=>exact ha (x:=.fn f caps) h
 |unk=>rfl
 |bool b=>rfl
 |int k n=>rfl
 |str s=>rfl
 |nilp=>rfl
 |ptr i o=>exact ha (x:=.ptr i o) h
 |view cs=>rfl
 |snil=>rfl
 |sl es t=>exact ha (x:=.sl es t) h
 |ms i o l c=>exact ha (x:=.ms i o l c) h
 |ov i n=>exact ha (x:=.ov i n) h
 |vp i n o=>exact ha (x:=.vp i n o) h
 |os i n l e=>exact ha (x:=.os i n l e) h
 |map i=>exact ha (x:=.map i) h
 |nilfn=>rfl
 |nili=>rfl
 |ifc=>rfl
theorem FRel.sc{tm:Array Value}{F:List AV}(hH:HRel B w G H)(h:FRel w G tm F):F.all (AV.sc H.length)=true:=by rw[←hH.len];exact All2.all_of (λv a (h:TRel w G v a)=>h.sc) h

theorem zqa{M:Nat→List Bool}{c:Code}{Q:AExit→List AV→zaa→Prop}{F:List AV}(m:List Bool)(Inv:Nat→List AV→zaa→Prop)(n:Nat)(h0:HSc H→F.all (AV.sc H.length)=true→Inv n F H)(d8:∀n F H',Inv n F H'→HSc H'→H.length≤H'.length→F.all (AV.sc H'.length)=true→awp P M c (zbC m (λF'' H''=>∃n',n'<n∧Back H.length (Inv n') F'' H'') Q) F H'):ALoop P c Q F H:=by
 intro B w G a hH hF hd b k cs;have key:∀ n (a':Act) (w':World) (G':Gh) (F':List AV) (H':zaa),Ext B w G w' G'→HRel B w' G' H'→FRel w' G' a'.tmps F'→a'.defers=[]→H.length≤H'.length→Inv n F' H' →
   ∃e a'' w'',Post B w G Q e a'' w''∧Arrives P (lone (b.at a' (.code c::.inLoop c::k)) cs w') b k cs e a'' w'':=by
  intro n;induction n using Nat.strongRecOn with
  |_ n ih=>
   intro a' w' G' F' H' hE eU m0 jj ek hI;obtain⟨e,a₁,w₁,hq,jz⟩:=zgB c _ F' H' (d8 n F' H' hI eU.sc ek (FRel.sc eU m0)) B w' G' a' eU m0 jj b (.inLoop c::k) cs;obtain⟨F1,H1,G1,e1,rfl,k1,k2,k3,k4,k5⟩:=hq;cases e1 with
   |normal=>obtain⟨n',ei,F2,H2,J,hJ,i5,hsc,eJ,eK,hI2⟩:=k5;subst hJ;have kA:Ext B w G w₁ (G1.cut w₁ H2.length):=zyu k2 (hE.trans k1) (by rw[hH.len];exact i5);have hF2:FRel w₁ (G1.cut w₁ H2.length) a₁.tmps F2:=zeF (p:=AV.sc H2.length) (λ_ _=>zyv k2) (zBO eJ (zh3 m k3)) eK;obtain⟨e₂,a₂,w₂,hq₂,jz₂⟩:=ih n' ei a₁ w₁ _ F2 H2 kA (k2.cut hsc) hF2 k4 i5 hI2;exact⟨e₂,a₂,w₂,hq₂,.of_steps (Steps.trans jz (.one step_inLoop)) jz₂⟩
   |exit id=>exact⟨_,a₁,w₁,⟨F1,H1,G1,.exit id,rfl,hE.trans k1,k2,k3,k4,k5⟩,.pass (x:=.inLoop c) rfl (λ_ _=>.inl (by simp[AExit.toExit])) jz⟩
   |ret=>exact⟨_,a₁,w₁,⟨F1,H1,G1,.ret,rfl,hE.trans k1,k2,k3,k4,k5⟩,.pass (x:=.inLoop c) rfl (λ_ _=>.inl (by simp[AExit.toExit])) jz⟩
 obtain⟨e,a',w',hq,jz⟩:=key n a w G F H (Ext.refl _ _ _) hH hF hd (ac _) (h0 hH.sc (FRel.sc hH hF));exact⟨e,a',w',hq,.of_steps (.one step_loop) jz⟩

theorem zBP:∀ F:List AV,All2 WkV F F
 |[]=>trivial
 |a::F=>⟨.atom (.refl a),zBP F⟩
theorem Back.same{n0:Nat}{Inv:List AV→zaa→Prop}{F:List AV}{J:zaa}(hn:n0≤H.length)(hsc:HSc H)(hs:F.all (AV.sc H.length)=true)(h:Inv F H):Back n0 Inv F (H++J):=
 ⟨F,H,J,rfl,hn,hsc,zBP F,hs,h⟩

def AV.isV:AV→Bool
 |.tup _=>false
 |_=>true
def zfC(P:Program):List ResultVar→List AV→zaa→(List AV→Prop)→Prop
 |[],_,_,K=>K []
 |.tmp t::rs,F,H,K=>zfC P rs F H λvs=>K (F.getD t .unk::vs)
 | .cell a t::rs,F,H,K=>(match zem P t,za4 P t with
  |some g,some n=>zae g n (F.getD a .unk) H λv=>zfC P rs F H λvs=>K (v::vs)
  |_,_=>False)
def zaF(vs:List AV)(K:AV→Prop):Prop:=
 match vs with
 |[v]=>K v
 |vs=>vs.all AV.isV=true∧K (.tup vs)
def zaB(P:Program)(rs:List ResultVar)(K:AV→zaa→Prop)(e:AExit)(F:List AV)(H:zaa):Prop:=
 match e with
 |.exit _=>False
 |_=>zfC P rs F H λvs=>zaF vs (K · H)

theorem zy3{v:Value}{a:AV}(h:TRel w G v a)(hv:a.isV=true):VRel w G v a:=by cases a <;> first|exact h|(simp[AV.isV]at hv;done)

def zlb(tm:Array Value):ResultVar→Sem Value
 |.tmp t=>pure (tm.getD t undef)
 |.cell a t=>do loadVar t (←asAddr (tm.getD a undef))
theorem zKb(fn:Func)(tm:Array Value):results fn tm=(do
  let vs ←fn.results.mapM (zlb tm)
  pure (if h:vs.size=1 then vs[0] else .tuple vs)):=by
 unfold results;congr 1

theorem zso{tm:Array Value}{F:List AV}(hH:HRel B w G H)(hF:FRel w G tm F):∀ (rs:List ResultVar) (K:List AV→Prop),zfC P rs F H K →
  ∃vs asx,(rs.mapM (m:=Sem) (zlb tm)).run P w=.ok vs w∧All2 (TRel w G) vs asx∧K asx
 |[],K,h=>⟨[],[],by simp,trivial,h⟩
 |.tmp t::rs,K,h=>by obtain⟨vs,asx,h1,h2,h3⟩:=zso hH hF rs _ h;have ht:=zaQ (a:=⟨tm,[]⟩) hF (.tmp t);exact⟨tm.getD t undef::vs,F.getD t .unk::asx,by simp only[List.mapM_cons,Sem.run_bind,zlb,Sem.run_pure,Result.andThen_ok,h1],⟨ht,h2⟩,h3⟩
 |.cell a t::rs,K,h=>by
  unfold zfC at h;split at h
  ·rename_i g n hg hn;have ht:=zaQ (a:=⟨tm,[]⟩) hF (.tmp a);have ht:TRel w G (tm.getD a undef) (F.getD a .unk):=ht;obtain⟨u,h1,av,h2,h3⟩:=zAX (K:=λv _=>zfC P rs F H λvs=>K (v::vs)) hH ht hg hn h;obtain⟨vs,asx,k1,k2,k3⟩:=zso hH hF rs _ h3;refine⟨u::vs,av::asx,?_,⟨h2,k2⟩,k3⟩;have iS:(zlb tm (.cell a t)).run P w=.ok u w:=by
    have hsa:∃x,tm.getD a undef=.pointer (some x):=by
     rw[zhw]at h;split at h
     ·rename_i hx;rw[hx]at ht;obtain⟨b,_,hb⟩:=ht;exact⟨_,hb⟩
     ·rename_i hx;rw[hx]at ht;obtain⟨b,off,hb,_⟩:=ht;exact⟨_,hb⟩
     ·rename_i hx;rw[hx]at ht;obtain⟨⟨b,off,hb⟩,_⟩:=ht;exact⟨_,hb⟩
     ·exact h.elim
    obtain⟨x,hx⟩:=hsa;show ((do loadVar t (←asAddr (tm.getD a undef))):Sem Value).run P w=.ok u w;rw[hx]at h1 ⊢;simpa[Instr.loadAt,Instr.sureAddr,asAddr]using h1
   simp only[List.mapM_cons,Sem.run_bind,iS,Result.andThen_ok,k1,Sem.run_pure]
  ·exact h.elim

theorem zap{M:Nat→List Bool}{f:FuncId}{fn:Func}{c:Code}{args:List AV}{K:AV→zaa→Prop}(hf:P.funcs[f]?=some fn)(hb:fn.body=some c)(h:HSc H→awp P M c (zaB P fn.results.toList K) (args++List.replicate (fn.ntmps-args.length) .unk) H):ACalls P f args H K:=by
 intro B w G vs hH hv;refine calls_of_wp hf hb ?_;have hF:FRel w G (vs++Array.replicate (fn.ntmps-vs.size) undef) (args++List.replicate (fn.ntmps-args.length) .unk):=by
  unfold FRel;have hl:vs.size=args.length:=by simpa using hv.length
  rw[hl];simpa using hv.append (All2.replicate (R:=TRel w G) (a:=undef) (b:=.unk) trivial (fn.ntmps-args.length))
 refine wp_mono (zgB c _ _ H (h hH.sc) B w G ⟨_,[]⟩ hH hF rfl) λe a' w' hp=>?_;obtain⟨F',H',G',e',rfl,h1,h2,h3,h4,h5⟩:=hp;have fin:(zfC P fn.results.toList F' H' λvs=>zaF vs (K · H'))→∃v,(results fn a'.tmps).run P w'=.ok v w'∧∃v' r H'' G'',Ending.returned v=.returned v'∧Ext B w G w' G''∧HRel B w' G'' H''∧TRel w' G'' v' r∧K r H'':=by
  intro h5;obtain⟨us,asx,k1,k2,k3⟩:=zso h2 h3 fn.results.toList _ h5;have hres:(results fn a'.tmps).run P w'=.ok (if hh:us.toArray.size=1 then us.toArray[0] else .tuple us.toArray) w':=by rw[zKb,Sem.run_bind,Array.mapM_eq_mapM_toList,Sem.run_map,k1];rfl
  refine⟨_,hres,(if hh:us.toArray.size=1 then us.toArray[0] else .tuple us.toArray),?_⟩;have hl:=k2.length;unfold zaF at k3;split at k3
  ·rename_i r
   match us,hl,k2,hres with
   |[u],_,k2,_=>exact⟨r,H',G',rfl,h1,h2,by simpa using k2.1,k3⟩
  ·rename_i ey;refine⟨.tup asx,H',G',rfl,h1,h2,?_,k3.2⟩;have eB:¬us.toArray.size=1:=by
    intro hs;have:asx.length=1:=by rw[←hl];simpa using hs
    match asx,this with
    |[x],_=>exact ey x rfl
   rw[dT eB];exact⟨us.toArray,rfl,zeF (p:=AV.isV) (λ_ _=>zy3) k2 k3.1⟩
 cases e' with
 |normal=>exact⟨h4,fin h5⟩
 |ret=>exact⟨h4,fin h5⟩
 |exit id=>exact h5.elim

end
section
open Go.RowKit

variable {P:Program} {B:Nat} {w:World} {G:Gh} {H:zaa}

theorem DRel.of_flat_at{L:Nat→Nat}{g off size cap:Nat}{es:List (List AV)}{zs:List Value}(eB:∀c∈es,c.length=size)(ey:es≠[])(eM:es.length≤cap)(hL:off+es.length*size≤L g)(hr:All2 (DRel w L) zs es.flatten)(hc:∀j v,zs[j]?=some v→w.cell? ⟨g,off+j,none⟩=some v):DRel w L (.slice (some ⟨g,off,none⟩) es.length cap) (.sl es .none):=by
 have eA:∀i j (hi:i<es.length) (hj:j<(es[i]).length),∃v,zs[i*size+j]?=some v∧DRel w L v (es[i])[j]:=λi j hi hj=>hr.get (zhR eB i j hi hj);refine .sl g off cap size es (λi j=>zs.getD (i*size+j) undef) ey eM hL (λi hi=>eB _ (af hi)) (λi j hi hj=>?_) (λi j hi hj=>?_)
 ·obtain⟨v,h1,h2⟩:=eA i j hi hj;simp only[List.getD_eq_getElem?_getD,h1,Option.getD_some,aa];exact hc _ _ h1
 ·obtain⟨v,h1,h2⟩:=eA i j hi hj;simp only[List.getD_eq_getElem?_getD,h1,Option.getD_some];exact h2

inductive OutV (H:zaa) (n:Nat):AV→AV→Prop
 |wk {a b:AV} (h:WkV a b) (hv:b.isV=true) (hs:b.scV n=true):OutV H n a b
 | frz (id off len cap size:Nat) (cs:List AV) (es:List (List AV)) (en:n≤id) (hH:H[id]?=some (.cells cs)) (fd:off+len*size≤cs.length)
   (hp:plain ((cs.drop off).take (len*size))=some es.flatten) (ek:es.length=len) (eB:∀c∈es,c.length=size) (eM:len≤cap):OutV H n (.ms id off len cap) (.sl es .none)
 |vfz (id e size m:Nat) (cs:List AV) (es:List (List AV)) (en:n≤id) (hH:H[id]?=some (.vec e size m cs)) (hp:plain cs=some es.flatten) (ek:es.length=m) (eB:∀c∈es,c.length=size):OutV H n (.ov id m) (.sl es .none)
inductive OutT (H:zaa) (n:Nat):AV→AV→Prop
 |one {a b:AV} (h:OutV H n a b):OutT H n a b
 |tup {asx bs:List AV} (h:All2 (OutV H n) asx bs):OutT H n (.tup asx) (.tup bs)

theorem zIS{n:Nat}{b:AV}(hv:b.isV=true)(hs:b.scV n=true):b.sc n=true:=by cases b <;> first|exact hs|(simp[AV.isV]at hv;done)

theorem OutV.vrel(hH:HRel B w G H){n:Nat}{v:Value}{a b:AV}(h:OutV H n a b)(hr:TRel w G v a):VRel w (G.cut w n) v b:=by
 cases h with
 |wk h hv hs=>exact zy3 (zyv hH (h.trel hr) (zIS hv hs)) hv
 |frz id off len cap size cs es en gL fd hp ek eB eM=>
  obtain⟨b,hμ,rfl⟩:=hr;have eu:=hH.ok id _ _ gL hμ;obtain⟨_,_,vs,e,hw,eN⟩:=eu;subst ek;show DRel w (G.cut w n).L _ _;by_cases ey:es=[]
  ·subst ey;exact .slE _ _
  ·have hl:=eN.length;have hd:=zdM ((eN.drop off).take (es.length*size)) hp;refine DRel.of_flat_at (zs:=(vs.toList.drop off).take (es.length*size)) eB ey eM ?_ (hd.mono λ_ _=>zhM hH) ?_
   ·have:(G.cut w n).L b=vs.size:=by simp only[Gh.cut];rw[az (cut_dropped.2 ⟨id,_,en,hμ,rfl⟩),hw]
    rw[this];simp at hl;omega
   ·intro j u hj;rw[List.getElem?_take]at hj;split at hj
    ·simp only[World.cell?,hw];simpa using hj
    ·cases hj
 |vfz id e size m cs es en gL hp ek eB=>
  obtain⟨⟨a,cap0,rfl,_⟩,v',s0,n',hμ,_,heq⟩:=hr;obtain⟨rfl,rfl,⟨xs,er,eN⟩,_⟩:=hH.ok id _ _ gL hμ;obtain rfl:=heq rfl;subst ek;show DRel w (G.cut w n).L _ _;by_cases ey:es=[]
  ·subst ey;exact .slE _ _
  ·have ga:=er;obtain⟨hl,fk⟩:=ga;rcases fk with ⟨h1,h2⟩ | ⟨g,cap,cur,h1,h2,h3,h4,h5,h6,h7⟩
   ·cases es <;> simp_all
   ·simp at h1;obtain⟨rfl,rfl⟩:=h1;obtain⟨_,_,_,eG⟩:=zdL er;refine DRel.of_flat_at (zs:=xs) eB ey h4 ?_ ((zdM eN hp).mono λ_ _=>zhM hH) ?_
    ·have:(G.cut w n).L g=cur.size:=by simp only[Gh.cut];rw[az (cut_dropped.2 ⟨id,_,en,hμ,rfl⟩),h3]
     rw[this,h6,aC];exact ar _ h4
    ·intro j u hj;rw[aC,eG j (by rw[←hl];exact(List.getElem?_eq_some_iff.1 hj).1)];exact hj

theorem zJG(hH:HRel B w G H){n:Nat}{asx bs:List AV}(h:All2 (OutV H n) asx bs):∀{vs:List Value},All2 (VRel w G) vs asx→All2 (VRel w (G.cut w n)) vs bs:=by
 induction asx generalizing bs with
 |nil=>
  intro vs hr;cases bs with
  |nil=>cases vs <;> first|trivial|exact hr.elim
  |cons b bs=>exact h.elim
 |cons a asx ih=>
  intro vs hr;cases bs with
  |nil=>exact h.elim
  |cons b bs=>
   cases vs with
   |nil=>exact hr.elim
   |cons v vs=>exact⟨h.1.vrel hH (TRel.of_v hr.1),ih h.2 hr.2⟩

def Out(n:Nat)(K:AV→zaa→Prop)(r:AV)(H':zaa):Prop:=∃r2 H2 J,H'=H2++J∧n≤H2.length∧HSc H2∧OutT H' H2.length r r2∧K r2 H2

theorem ACalls.out{f:FuncId}{args:List AV}{K:AV→zaa→Prop}(h:ACalls P f args H (Out H.length K)):ACalls P f args H K:=by
 intro B w G vs hH hv;refine(h B w G vs hH hv).mono λe w' ⟨v,r,H',G',h1,h2,h3,h4,h5⟩=>?_;obtain⟨r2,H2,J,hJ,hn,hsc,ho,hk⟩:=h5;subst hJ;refine⟨v,r2,H2,G'.cut w' H2.length,h1,zyu h3 h2 (by rw[hH.len];exact hn),h3.cut hsc,?_,hk⟩;cases ho with
 |one ho=>exact TRel.of_v (ho.vrel h3 h4)
 |tup ho=>obtain⟨us,hu,hr⟩:=h4;exact⟨us,hu,zJG h3 ho hr⟩

theorem Out.same{n:Nat}{K:AV→zaa→Prop}{r:AV}{J:zaa}(hn:n=H.length)(hsc:HSc H)(hv:r.isV=true)(hr:r.scV H.length=true)(h:K r H):Out n K r (H++J):=
 ⟨r,H,J,rfl,by omega,hsc,.one (.wk (.atom (.refl r)) hv hr),h⟩

theorem ALoop.own{c:Code}{Q:AExit→List AV→zaa→Prop}{F:List AV}(i e size:Nat)(hi:F[i]?=some .snil)(h:ALoop P c Q (F.set i (.sl [] (.own H.length))) (H++[.perm e size 0])):ALoop P c Q F H:=by
 intro B w G a hH hF hd;obtain⟨hE,eU⟩:=hH.newOwn e size;have m0:FRel w ⟨G.L,G.μ++[.own (.slice none 0 0) size 0]⟩ a.tmps (F.set i (.sl [] (.own H.length))):=by
  unfold FRel;obtain⟨v,h1,h2⟩:=All2.get hF hi;have h2:v=.slice none 0 0:=h2;subst h2;have eQ:a.tmps.toList=a.tmps.toList.set i (.slice none 0 0):=by
   apply aL;intro k;by_cases hk:k=i
   ·subst hk;rw[List.getElem?_set_self (List.getElem?_eq_some_iff.1 h1).1];exact h1
   ·rw[List.getElem?_set_ne (λh=>hk h.symm)]
  rw[eQ];refine All2.set i (hF.ext hE) ?_;refine⟨.slE _ _,.slice none 0 0,size,0,?_,ac _,λ_=>⟨rfl,by simp⟩⟩;rw[←hH.len];simp
 refine wp_mono (h B w _ a eU m0 hd) λe a' w' hp=>?_;obtain⟨F'',H'',G'',e'',rfl,k1,k2,k3,k4,k5⟩:=hp;exact⟨F'',H'',G'',e'',rfl,hE.trans k1,k2,k3,k4,k5⟩

def zcF(w:World)(b:Nat):Nat:=match w.heap[b]? with|some (.cells c _ _)=>c.size|_=>0
def G0(w:World):Gh:=⟨zcF w,[]⟩

theorem zIL(w:World):HRel w.heap.size w (G0 w) []:=
 ⟨rfl,λ_ _ _ h=>by simp at h,λ_ _ _ _ _ h=>by simp[G0]at h,λb hb=>by simp[G0,zcF,Array.getElem?_eq_none hb],λ_ _ _ h=>by simp[G0]at h,ac _⟩

theorem zLN{f:FuncId}{args:List AV}(h:ACalls P f args [] λr _=>r=.bool true)(w:World)(vs:Array Value)(hv:All2 (TRel w (G0 w)) vs.toList args):
  Calls P f vs w λe w'=>e=.returned (.bool true)∧Below w.heap.size w w':=by
 refine(h _ w (G0 w) vs (zIL w) hv).mono λe w' ⟨v,r,H',G',h1,h2,h3,h4,h5⟩=>?_;subst h5;have h4:v=.bool true:=h4;subst h4;exact⟨h1,h2.below⟩

end
abbrev Kt:=AV→zaa→Prop
abbrev Lt:=List AV→zaa→Prop
def ux:Nat→List AV→List AV
 |0,l=>l
 |n+1,l=>.unk::ux n l
@[simp] theorem yeS(m n:Nat)(l:List AV):(ux n l).all (AV.sc m)=l.all (AV.sc m):=by
 induction n with
 |zero=>rfl
 |succ n ih=>rw[ux,List.all_cons,ih];rfl
def rl:Bool→List Nat→List Bool
 |_,[]=>[]
 |b,n::l=>List.replicate n b++rl (!b) l
section
open Go.RowKit
variable {P:Program} {M:Nat→List Bool} {c:Code} {Q:AExit→List AV→zaa→Prop} {H:zaa}
def Rd1(fr:AV→List AV)(bd:AV→zaa→Lt→Prop)(H:zaa)(Inv:Nat→AV→zaa→Prop):Prop:=
 ∀n t0 H',Inv n t0 H'→HSc H'→H.length≤H'.length→(fr t0).all (AV.sc H'.length)=true→∀Kb:Lt,(∀F'' H'',(∃n',n'<n∧Back H.length (λF2 H2=>∃t0,F2=fr t0∧Inv n' t0 H2) F'' H'')→Kb F'' H'')→bd t0 H' Kb
theorem lp1{fr:AV→List AV}{bd:AV→zaa→Lt→Prop}(m:List Bool)(t0:AV)(he:(λt0 H Kb=>awp P M c (zbC m Kb Q) (fr t0) H)=bd)(Inv:Nat→AV→zaa→Prop)(n:Nat)(h0:HSc H→Inv n t0 H)(d8:Rd1 fr bd H Inv):ALoop P c Q (fr t0) H:=by subst he;exact zqa (M:=M) m (λn F H=>∃t0,F=fr t0∧Inv n t0 H) n (λhs _=>⟨t0,rfl,h0 hs⟩) (λn F H' ⟨t0,hF,hI⟩ h1 h2 h3=>by subst hF;exact d8 n t0 H' hI h1 h2 h3 _ (λ_ _ h=>h))
def Rd2(fr:AV→AV→List AV)(bd:AV→AV→zaa→Lt→Prop)(H:zaa)(Inv:Nat→AV→AV→zaa→Prop):Prop:=
 ∀n t0 t1 H',Inv n t0 t1 H'→HSc H'→H.length≤H'.length→(fr t0 t1).all (AV.sc H'.length)=true→∀Kb:Lt,(∀F'' H'',(∃n',n'<n∧Back H.length (λF2 H2=>∃t0 t1,F2=fr t0 t1∧Inv n' t0 t1 H2) F'' H'')→Kb F'' H'')→bd t0 t1 H' Kb
theorem lp2{fr:AV→AV→List AV}{bd:AV→AV→zaa→Lt→Prop}(m:List Bool)(t0 t1:AV)(he:(λt0 t1 H Kb=>awp P M c (zbC m Kb Q) (fr t0 t1) H)=bd)(Inv:Nat→AV→AV→zaa→Prop)(n:Nat)(h0:HSc H→Inv n t0 t1 H)(d8:Rd2 fr bd H Inv):ALoop P c Q (fr t0 t1) H:=by subst he;exact zqa (M:=M) m (λn F H=>∃t0 t1,F=fr t0 t1∧Inv n t0 t1 H) n (λhs _=>⟨t0,t1,rfl,h0 hs⟩) (λn F H' ⟨t0,t1,hF,hI⟩ h1 h2 h3=>by subst hF;exact d8 n t0 t1 H' hI h1 h2 h3 _ (λ_ _ h=>h))
def Rd3(fr:AV→AV→AV→List AV)(bd:AV→AV→AV→zaa→Lt→Prop)(H:zaa)(Inv:Nat→AV→AV→AV→zaa→Prop):Prop:=
 ∀n t0 t1 t2 H',Inv n t0 t1 t2 H'→HSc H'→H.length≤H'.length→(fr t0 t1 t2).all (AV.sc H'.length)=true→∀Kb:Lt,(∀F'' H'',(∃n',n'<n∧Back H.length (λF2 H2=>∃t0 t1 t2,F2=fr t0 t1 t2∧Inv n' t0 t1 t2 H2) F'' H'')→Kb F'' H'')→bd t0 t1 t2 H' Kb
theorem lp3{fr:AV→AV→AV→List AV}{bd:AV→AV→AV→zaa→Lt→Prop}(m:List Bool)(t0 t1 t2:AV)(he:(λt0 t1 t2 H Kb=>awp P M c (zbC m Kb Q) (fr t0 t1 t2) H)=bd)(Inv:Nat→AV→AV→AV→zaa→Prop)(n:Nat)(h0:HSc H→Inv n t0 t1 t2 H)(d8:Rd3 fr bd H Inv):ALoop P c Q (fr t0 t1 t2) H:=by subst he;exact zqa (M:=M) m (λn F H=>∃t0 t1 t2,F=fr t0 t1 t2∧Inv n t0 t1 t2 H) n (λhs _=>⟨t0,t1,t2,rfl,h0 hs⟩) (λn F H' ⟨t0,t1,t2,hF,hI⟩ h1 h2 h3=>by subst hF;exact d8 n t0 t1 t2 H' hI h1 h2 h3 _ (λ_ _ h=>h))
def Lo1(fr:AV→List AV)(bd:AV→zaa→Lt→Prop)(t0:AV)(H:zaa)(G:Prop):Prop:=∀(Inv:Nat→AV→zaa→Prop) (n:Nat) (h0:HSc H→Inv n t0 H) (d8:Rd1 fr bd H Inv),G
theorem lq1{P:Program}{c:Code}{Q:AExit→List AV→zaa→Prop}{H:zaa}{fr:AV→List AV}{bd:AV→zaa→Lt→Prop}{t0:AV}(M:Nat→List Bool)(m:List Bool)(he:(λt0 H Kb=>awp P M c (zbC m Kb Q) (fr t0) H)=bd:=by kernel_rfl):Lo1 fr bd t0 H (ALoop P c Q (fr t0) H):=λI n h r=>lp1 (M:=M) m t0 he I n h r
def Lo2(fr:AV→AV→List AV)(bd:AV→AV→zaa→Lt→Prop)(t0 t1:AV)(H:zaa)(G:Prop):Prop:=∀(Inv:Nat→AV→AV→zaa→Prop) (n:Nat) (h0:HSc H→Inv n t0 t1 H) (d8:Rd2 fr bd H Inv),G
theorem lq2{P:Program}{c:Code}{Q:AExit→List AV→zaa→Prop}{H:zaa}{fr:AV→AV→List AV}{bd:AV→AV→zaa→Lt→Prop}{t0 t1:AV}(M:Nat→List Bool)(m:List Bool)(he:(λt0 t1 H Kb=>awp P M c (zbC m Kb Q) (fr t0 t1) H)=bd:=by kernel_rfl):Lo2 fr bd t0 t1 H (ALoop P c Q (fr t0 t1) H):=λI n h r=>lp2 (M:=M) m t0 t1 he I n h r
def Lo3(fr:AV→AV→AV→List AV)(bd:AV→AV→AV→zaa→Lt→Prop)(t0 t1 t2:AV)(H:zaa)(G:Prop):Prop:=∀(Inv:Nat→AV→AV→AV→zaa→Prop) (n:Nat) (h0:HSc H→Inv n t0 t1 t2 H) (d8:Rd3 fr bd H Inv),G
theorem lq3{P:Program}{c:Code}{Q:AExit→List AV→zaa→Prop}{H:zaa}{fr:AV→AV→AV→List AV}{bd:AV→AV→AV→zaa→Lt→Prop}{t0 t1 t2:AV}(M:Nat→List Bool)(m:List Bool)(he:(λt0 t1 t2 H Kb=>awp P M c (zbC m Kb Q) (fr t0 t1 t2) H)=bd:=by kernel_rfl):Lo3 fr bd t0 t1 t2 H (ALoop P c Q (fr t0 t1 t2) H):=λI n h r=>lp3 (M:=M) m t0 t1 t2 he I n h r
def apu(H:zaa)(p:(AV→Prop)→Prop)(K:AV→Prop):Prop:=zab H (λK'=>p λv=>K' v H) K
def apm(H:zaa)(x:AV)(K:AV→Prop):Prop:=zab H (λK'=>K' x H) K
@[congr] theorem ydC{H:zaa}{p:(AV→Prop)→Prop}{k:AV→Prop}:apu H p k=apu H p k:=rfl
@[congr] theorem ydA{H:zaa}{x:AV}{k:AV→Prop}:apm H x k=apm H x k:=rfl
@[simp] theorem ydD{H:zaa}{p:(AV→Prop)→Prop}{k:AV→Prop}:apu H p k=zab H (λK'=>p λv=>K' v H) k:=rfl
@[simp] theorem ydB{H:zaa}{x:AV}{k:AV→Prop}:apm H x k=k x:=by simp[apm,zab]
end
end Go.Proofs.YtdmamdnkcefmmaaGreatDoor

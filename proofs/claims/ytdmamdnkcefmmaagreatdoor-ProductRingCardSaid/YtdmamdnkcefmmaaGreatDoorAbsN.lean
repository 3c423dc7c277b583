import Derived.Test.YtdmamdnkcefmmaaGreatDoorAbsL
set_option linter.unusedSimpArgs false
set_option linter.unusedVariables false
set_option maxRecDepth 8000
namespace Go.Proofs.YtdmamdnkcefmmaaGreatDoor
section
open Go.RowKit

variable {P:Program} {B:Nat} {w:World} {G:Gh} {H:zaa}

def AV.scB(n:Nat):AV→Bool
 |.ptr id _=>decide (id<n)
 |.ms id _ _ _=>decide (id<n)
 |.ov id _=>decide (id<n)
 |.vp id _ _=>decide (id<n)
 |.os id _ _ _=>decide (id<n)
 |.map id=>decide (id<n)
 |.sl _ (.own id)=>decide (id<n)
 |_=>true
def AV.scA(n:Nat):AV→Bool
 |.fn _ caps=>caps.all (AV.scB n)
 |a=>a.scB n
def AV.scV(n:Nat):AV→Bool
 |.agg cs=>cs.all (AV.scA n)
 |a=>a.scA n
def AV.sc(n:Nat):AV→Bool
 |.tup vs=>vs.all (AV.scV n)
 |a=>a.scV n
def AB.sc(n:Nat):AB→Bool
 |.cells cs=>cs.all (AV.scA n)
 |.map kvs=>kvs.all λp=>p.2.scV n
 |.bld _ cs=>cs.all (AV.scA n)
 |.vec _ _ _ cs=>cs.all (AV.scA n)
 |_=>true
def HSc(H:zaa):Prop:=∀b∈H,b.sc H.length=true

theorem lt_of_μ{id:Nat}{gi:GI}(h:G.μ[id]?=some gi):id<G.μ.length:=(List.getElem?_eq_some_iff.1 h).1

theorem BRel.sc{v:Value}{a:AV}(h:BRel w G v a):a.scB G.μ.length=true:=by
 cases a with
 |ptr id off=>obtain⟨b,h1,_⟩:=h;simpa[AV.scB]using lt_of_μ h1
 |ms id off len cap=>obtain⟨b,h1,_⟩:=h;simpa[AV.scB]using lt_of_μ h1
 |ov id n=>obtain⟨_,v',s,n',h1,_⟩:=h;simpa[AV.scB]using lt_of_μ h1
 |vp id n off=>obtain⟨_,v',s,n',h1,_⟩:=h;simpa[AV.scB]using lt_of_μ h1
 |os id n l e=>obtain⟨_,v',s,n',h1,_⟩:=h;simpa[AV.scB]using lt_of_μ h1
 |map id=>obtain⟨b,h1,_⟩:=h;simpa[AV.scB]using lt_of_μ h1
 |sl es tok=>
  cases tok with
  |own id=>obtain⟨_,v',s,n,h1,_⟩:=h;simpa[AV.scB]using lt_of_μ h1
  |none=>rfl
  |full=>rfl
 |_=>rfl
theorem All2.all_of{R:Value→AV→Prop}{p:AV→Bool}(hp:∀ v a,R v a→p a=true):∀ {vs:List Value} {asx:List AV},All2 R vs asx→asx.all p=true
 |[],[],_=>rfl
 |_::_,_::_,h=>by simp only[List.all_cons,ai];exact⟨hp _ _ h.1,All2.all_of hp h.2⟩
theorem ARel.sc{v:Value}{a:AV}(h:ARel w G v a):a.scA G.μ.length=true:=by
 have hb:∀{x:AV},BRel w G v x→x.scB G.μ.length=true:=λh=>h.sc;cases a with
 |fn f caps=>obtain⟨vs,_,h2⟩:=h;exact All2.all_of (λv a (h:BRel w G v a)=>h.sc) h2
 |unk=>exact hb (x:=.unk) h
 |bool b=>exact hb (x:=.bool b) h
 |int k n=>exact hb (x:=.int k n) h
 |str s=>exact hb (x:=.str s) h
 |nilp=>exact hb (x:=.nilp) h
 |ptr i o=>exact hb (x:=.ptr i o) h
 |view cs=>exact hb (x:=.view cs) h
 |snil=>exact hb (x:=.snil) h
 |sl es t=>exact hb (x:=.sl es t) h
 |ms i o l c=>exact hb (x:=.ms i o l c) h
 |ov i n=>exact hb (x:=.ov i n) h
 |vp i n o=>exact hb (x:=.vp i n o) h
 |os i n l e=>exact hb (x:=.os i n l e) h
 |map i=>exact hb (x:=.map i) h
 |nilfn=>exact hb (x:=.nilfn) h
 |nili=>exact hb (x:=.nili) h
 |ifc=>exact hb (x:=.ifc) h
 |agg cs=>exact hb (x:=.agg cs) h
 |tup vs=>exact hb (x:=.tup vs) h
theorem VRel.sc{v:Value}{a:AV}(h:VRel w G v a):a.scV G.μ.length=true:=by
 have ha:∀{x:AV},ARel w G v x→x.scA G.μ.length=true:=λh=>h.sc;cases a with
 |agg cs=>obtain⟨vs,_,h2⟩:=h;exact All2.all_of (λv a (h:ARel w G v a)=>h.sc) h2
 |fn f caps=>exact ha (x:=.fn f caps) h
 |unk=>rfl
 |bool b=>rfl
 |int k n=>rfl
 |str s=>rfl
 |nilp=>rfl
 |ptr i o=>exact ha (x:=.ptr i o) h
 |view cs=>rfl
 |snil=>rfl
 |sl es t=>exact ha (x:=.sl es t) h
 |ms i o l c=>exact ha (x:=.ms i o l c) h
 |ov i n=>exact ha (x:=.ov i n) h
 |vp i n o=>exact ha (x:=.vp i n o) h
 |os i n l e=>exact ha (x:=.os i n l e) h
 |map i=>exact ha (x:=.map i) h
 |nilfn=>rfl
 |nili=>rfl
 |ifc=>rfl
 |tup vs=>exact ha (x:=.tup vs) h
theorem ERel.sc{e:MapEntry}{p:List UInt8×AV}(h:ERel w G e p):p.2.scV G.μ.length=true:=h.2.sc
theorem All2.all_ents{p:AV→Bool}{R:MapEntry→List UInt8 × AV→Prop}(hp:∀ v a,R v a→p a.2=true):∀ {vs:List MapEntry} {asx:List (List UInt8 × AV)},All2 R vs asx→(asx.all λa=>p a.2)=true
 |[],[],_=>rfl
 |_::_,_::_,h=>by simp only[List.all_cons,ai];exact⟨hp _ _ h.1,All2.all_ents hp h.2⟩
theorem HRel.sc(h:HRel B w G H):HSc H:=by
 intro ab eS;obtain⟨id,d9⟩:=aM.1 eS;have d7:id<G.μ.length:=by rw[h.len];exact(List.getElem?_eq_some_iff.1 d9).1
 have eh:=h.ok id ab _ d9 (List.getElem?_eq_getElem d7);cases ab with
 |cells cs=>
  cases hg:G.μ[id] with
  |blk b=>rw[hg]at eh;obtain⟨_,_,vs,e,_,h2⟩:=eh;have:=All2.all_of (λv a (h:ARel w G v a)=>h.sc) h2;rw[h.len]at this;exact this
  |own v s n=>rw[hg]at eh;exact eh.elim
  |gap=>rw[hg]at eh;exact eh.elim
 |vec e s n cs=>
  cases hg:G.μ[id] with
  |blk b=>rw[hg]at eh;exact eh.elim
  |own v s n=>rw[hg]at eh;obtain⟨_,_,⟨xs,_,h2⟩,_⟩:=eh;have:=All2.all_of (λv a (h:ARel w G v a)=>h.sc) h2;rw[h.len]at this;exact this
  |gap=>rw[hg]at eh;exact eh.elim
 |bld t cs=>
  cases hg:G.μ[id] with
  |blk b=>rw[hg]at eh;obtain⟨_,_,vs,_,h2⟩:=eh;have:=All2.all_of (λv a (h:ARel w G v a)=>h.sc) h2;rw[h.len]at this;exact this
  |own v s n=>rw[hg]at eh;exact eh.elim
  |gap=>rw[hg]at eh;exact eh.elim
 |map kvs=>
  cases hg:G.μ[id] with
  |blk b=>rw[hg]at eh;obtain⟨_,_,es,clk,_,h2⟩:=eh;have:=All2.all_ents (p:=AV.scV G.μ.length) (λv a (h:ERel w G v a)=>h.sc) h2;rw[h.len]at this;exact this
  |own v s n=>rw[hg]at eh;exact eh.elim
  |gap=>rw[hg]at eh;exact eh.elim
 |perm e s n=>rfl
 |gap=>rfl
 |dead=>rfl
 |fact φ=>rfl
 |frz e s n=>rfl

def Gh.cut(G:Gh)(w:World)(n:Nat):Gh:=
 ⟨λb=>if (G.μ.drop n).any (λgi=>gi.block == some b)=true then (match w.heap[b]? with|some (.cells c _ _)=>c.size|_=>0) else G.L b,G.μ.take n⟩

theorem zeS{n id:Nat}(h:id<n):(G.cut w n).μ[id]?=G.μ[id]?:=by simp[Gh.cut,h]
theorem zja{n id:Nat}{gi:GI}(h:(G.cut w n).μ[id]?=some gi):id<n∧G.μ[id]?=some gi:=by
 simp only[Gh.cut,List.getElem?_take]at h;split at h
 ·rename_i d7;exact⟨d7,h⟩
 ·cases h
theorem cut_dropped{n b:Nat}:((G.μ.drop n).any (λgi=>gi.block == some b)=true)↔∃id gi,n≤id∧G.μ[id]?=some gi∧gi.block=some b:=by
 rw[List.any_eq_true];constructor
 ·rintro⟨gi,h1,h2⟩;obtain⟨k,hk⟩:=aM.1 h1;rw[List.getElem?_drop]at hk;exact⟨n+k,gi,by omega,hk,by simpa using h2⟩
 ·rintro⟨id,gi,h1,h2,h3⟩;refine⟨gi,aM.2 ⟨id-n,?_⟩,by simp[h3]⟩;rw[List.getElem?_drop,show n+(id-n)=id by omega];exact h2

theorem zoN(h:HRel B w G H)(n b:Nat):G.L b≤(G.cut w n).L b:=by
 simp only[Gh.cut];split
 ·rename_i hd;obtain⟨id,gi,_,d9,fA⟩:=cut_dropped.1 hd;have d7:id<H.length:=by rw[←h.len];exact lt_of_μ d9
  have eh:=h.ok id _ _ (List.getElem?_eq_getElem d7) d9;cases gi with
  |gap=>cases fA
  |blk x=>
   simp[GI.block]at fA;subst fA;cases hb:H[id] with
   |cells cs=>rw[hb]at eh;rw[eh.2.1];exact bu _
   |perm e s n=>rw[hb]at eh;exact eh.elim
   |map kvs=>rw[hb]at eh;rw[eh.2.1];exact bu _
   |bld t cs=>rw[hb]at eh;rw[eh.2.1];exact bu _
   |vec e s n cs=>rw[hb]at eh;exact eh.elim
   |gap=>rw[hb]at eh;exact eh.elim
   |dead=>rw[hb]at eh;obtain⟨vs,e,fr,h1,h2⟩:=eh;rw[h1];exact h2
   |frz e s n=>rw[hb]at eh;exact eh.elim
   |fact φ=>rw[hb]at eh;exact eh.elim
  |own v s n=>
   simp only[GI.block]at fA;have big:∀{e m:Nat} {xs:List Value},w.ownsRow B e s v m xs→m*s≤(match w.heap[b]? with|some (.cells c _ _)=>c.size|_=>0):=by
    rintro e m xs ⟨hl,h1|⟨g,cap,cur,rfl,h1,h2,h3,h4,h5,h6⟩⟩
    ·rw[h1.1]at fA;cases fA
    ·simp[Value.ownBlock]at fA;subst fA;rw[h2];simp only[h5];exact au _ h3
   cases hb:H[id] with
   |perm e s' n'=>rw[hb]at eh;obtain⟨rfl,rfl,⟨xs,hx⟩,hL⟩:=eh;rw[hL b fA];exact big hx
   |vec e s' n' cs=>rw[hb]at eh;obtain⟨rfl,rfl,_,hL⟩:=eh;rw[hL b fA];exact bu _
   |cells cs=>rw[hb]at eh;exact eh.elim
   |map kvs=>rw[hb]at eh;exact eh.elim
   |bld t cs=>rw[hb]at eh;exact eh.elim
   |gap=>rw[hb]at eh;exact eh.elim
   |frz e s' n'=>rw[hb]at eh;obtain⟨g,cap,vs,fr,rfl,rfl,rfl,h1,h2,h3,h4,h5,h6⟩:=eh;simp[Value.ownBlock]at fA;subst fA;rw[h1,h3];simp only[h6];exact au _ h4
   |fact φ=>rw[hb]at eh;exact eh.elim
   |dead=>rw[hb]at eh;obtain⟨vs,e,fr,h1,h2⟩:=eh b fA;rw[h1];exact h2
 ·exact aa _


theorem zeT(h:HRel B w G H){n id:Nat}{gi:GI}{b:Nat}(hn:id<n)(d9:G.μ[id]?=some gi)(hb:gi.block=some b):(G.cut w n).L b=G.L b:=by
 simp only[Gh.cut];split
 ·rename_i hd;obtain⟨id',gi',h1,h2,h3⟩:=cut_dropped.1 hd;have:=h.dist id id' gi _ b d9 h2 hb h3;omega
 ·rfl

theorem zwe(h:HRel B w G H){w0:World}{G0:Gh}{n:Nat}(hE:Ext B w0 G0 w G)(hn:G0.μ.length≤n):Ext B w0 G0 w (G.cut w n):=
 ⟨hE.dr,hE.below,λb=>ar (hE.lev b) (zoN h n b),hE.cell,λid gi hg=>by
  obtain⟨g',h1,h2⟩:=hE.ids id gi hg;exact⟨g',by rw[zeS (bg (lt_of_μ hg) hn)];exact h1,h2⟩⟩

theorem zhl(h:HRel B w G H){n:Nat}{v:Value}{a:AV}(hd:DRel w G.L v a):DRel w (G.cut w n).L v a:=hd.mono (λb=>zoN h n b) (λ_ _ _=>rfl)
theorem zwc(h:HRel B w G H){n:Nat}{v:Value}{a:AV}(hr:BRel w G v a)(hs:a.scB n=true):BRel w (G.cut w n) v a:=by
 cases a with
 |ptr id off=>obtain⟨b,h1,h2⟩:=hr;simp[AV.scB]at hs;exact⟨b,by rw[zeS hs];exact h1,h2⟩
 |ms id off len cap=>obtain⟨b,h1,h2⟩:=hr;simp[AV.scB]at hs;exact⟨b,by rw[zeS hs];exact h1,h2⟩
 |map id=>obtain⟨b,h1,h2⟩:=hr;simp[AV.scB]at hs;exact⟨b,by rw[zeS hs];exact h1,h2⟩
 |ov id m=>obtain⟨h0,v',s,m',h1,h2⟩:=hr;simp[AV.scB]at hs;exact⟨h0,v',s,m',by rw[zeS hs];exact h1,h2⟩
 |vp id m off=>obtain⟨h0,v',s,m',h1,h2⟩:=hr;simp[AV.scB]at hs;exact⟨h0,v',s,m',by rw[zeS hs];exact h1,h2⟩
 |os id m l e=>obtain⟨h0,v',s,m',h1,h2⟩:=hr;simp[AV.scB]at hs;exact⟨h0,v',s,m',by rw[zeS hs];exact h1,h2⟩
 |view cs=>obtain⟨b,off,h1,h2⟩:=hr;exact⟨b,off,h1,h2.mono (λb=>zoN h n b) (λ_ _ _=>rfl)⟩
 |sl es tok=>
  cases tok with
  |none=>exact zhl h hr
  |full=>exact⟨zhl h hr.1,hr.2⟩
  |own id=>obtain⟨h1,v',s,m,h2,h3⟩:=hr;simp[AV.scB]at hs;exact⟨zhl h h1,v',s,m,by rw[zeS hs];exact h2,h3⟩
 |_=>exact hr
theorem zeo{R R':Value→AV→Prop}{p:AV→Bool}(hp:∀ v a,R v a→p a=true→R' v a):∀ {vs:List Value} {asx:List AV},All2 R vs asx→asx.all p=true→All2 R' vs asx
 |[],[],_,_=>trivial
 |_::_,_::_,h,hs=>by simp only[List.all_cons,ai]at hs;exact⟨hp _ _ h.1 hs.1,zeo hp h.2 hs.2⟩
theorem zhk(h:HRel B w G H){n:Nat}{v:Value}{a:AV}(hr:ARel w G v a)(hs:a.scA n=true):ARel w (G.cut w n) v a:=by
 cases a with
 |fn f caps=>obtain⟨vs,h1,h2⟩:=hr;exact⟨vs,h1,zeo (p:=AV.scB n) (λ_ _=>zwc h) h2 hs⟩
 |_=>exact ARel.of_b (zwc h hr hs)
theorem zoO(h:HRel B w G H){n:Nat}{v:Value}{a:AV}(hr:VRel w G v a)(hs:a.scV n=true):VRel w (G.cut w n) v a:=by
 cases a with
 |agg cs=>obtain⟨vs,h1,h2⟩:=hr;exact⟨vs,h1,zeo (p:=AV.scA n) (λ_ _=>zhk h) h2 hs⟩
 |_=>exact VRel.of_a (zhk h hr hs)
theorem zwf(h:HRel B w G H){n:Nat}{v:Value}{a:AV}(hr:TRel w G v a)(hs:a.sc n=true):TRel w (G.cut w n) v a:=by
 cases a with
 |tup cs=>obtain⟨vs,h1,h2⟩:=hr;exact⟨vs,h1,zeo (p:=AV.scV n) (λ_ _=>zoO h) h2 hs⟩
 |_=>exact TRel.of_v (zoO h hr hs)

theorem zwd{G':Gh}{p:AV→Bool}(hp:∀ v a,VRel w G v a→p a=true→VRel w G' v a):∀ {es:List MapEntry} {kvs:List (List UInt8 × AV)},All2 (ERel w G) es kvs→(kvs.all λa=>p a.2)=true→All2 (ERel w G') es kvs
 |[],[],_,_=>trivial
 |_::_,_::_,h,hs=>by simp only[List.all_cons,ai]at hs;exact⟨⟨h.1.1,hp _ _ h.1.2 hs.1⟩,zwd hp h.2 hs.2⟩
theorem HRel.cut{J:zaa}(h:HRel B w G (H++J))(hs:HSc H):HRel B w (G.cut w H.length) H:=by
 refine⟨?_,?_,?_,?_,?_,h.base⟩
 ·have:=h.len;simp[Gh.cut]at this ⊢;omega
 ·intro id ab gi h1 h2;obtain⟨d7,h2⟩:=zja h2;have eh:=h.ok id ab gi (by rw[List.getElem?_append_left d7];exact h1) h2;have hsc:=hs ab (aM.2 ⟨id,h1⟩);cases ab with
  |cells cs=>
   cases gi with
   |blk b=>obtain⟨k1,k2,vs,e,k3,k4⟩:=eh;exact⟨k1,by rw[zeT h d7 h2 rfl];exact k2,vs,e,k3,zeo (p:=AV.scA H.length) (λ_ _=>zhk h) k4 hsc⟩
   |own v s n=>exact eh.elim
   |gap=>exact eh.elim
  |perm e s n=>
   cases gi with
   |blk b=>exact eh.elim
   |gap=>exact eh.elim
   |own v s' n'=>obtain⟨k1,k2,k3,k4⟩:=eh;exact⟨k1,k2,k3,λb hb=>by rw[zeT h d7 h2 (by simpa[GI.block]using hb)];exact k4 b hb⟩
  |vec e s n cs=>
   cases gi with
   |blk b=>exact eh.elim
   |gap=>exact eh.elim
   |own v s' n'=>obtain⟨k1,k2,⟨xs,k3,k5⟩,k4⟩:=eh;exact⟨k1,k2,⟨xs,k3,zeo (p:=AV.scA H.length) (λ_ _=>zhk h) k5 hsc⟩,λb hb=>by rw[zeT h d7 h2 (by simpa[GI.block]using hb)];exact k4 b hb⟩
  |map kvs=>
   cases gi with
   |blk b=>obtain⟨k1,k2,es,clk,k3,k4⟩:=eh;exact⟨k1,by rw[zeT h d7 h2 rfl];exact k2,es,clk,k3,zwd (λ_ _ h1 h2=>zoO h h1 h2) k4 hsc⟩
   |own v s n=>exact eh.elim
   |gap=>exact eh.elim
  |gap=>
   cases gi with
   |blk b=>exact eh.elim
   |own v s n=>exact eh.elim
   |gap=>trivial
  |frz e s n=>
   cases gi with
   |blk b=>exact eh.elim
   |own v s' n'=>obtain⟨g,cap,vs,fr,rfl,rfl,rfl,k1,k2,k3,k4⟩:=eh;exact⟨g,cap,vs,fr,rfl,rfl,rfl,k1,k2,by rw[zeT h d7 h2 rfl];exact k3,k4⟩
   |gap=>exact eh.elim
  |fact φ=>
   cases gi with
   |blk b=>exact eh.elim
   |own v s n=>exact eh.elim
   |gap=>exact eh
  |dead=>
   cases gi with
   |blk b=>obtain⟨vs,e,fr,k1,k2⟩:=eh;exact⟨vs,e,fr,k1,by rw[zeT h d7 h2 rfl];exact k2⟩
   |own v s n=>exactλb hb=>by rw[zeT h d7 h2 (by simpa[GI.block]using hb)];exact eh b hb
   |gap=>exact eh.elim
  |bld t cs=>
   cases gi with
   |blk b=>obtain⟨k1,k2,vs,k3,k4⟩:=eh;exact⟨k1,by rw[zeT h d7 h2 rfl];exact k2,vs,k3,zeo (p:=AV.scA H.length) (λ_ _=>zhk h) k4 hsc⟩
   |own v s n=>exact eh.elim
   |gap=>exact eh.elim
 ·intro id id' gi gi' b h1 h2;exact h.dist id id' gi gi' b (zja h1).2 (zja h2).2
 ·intro b hb;simp only[Gh.cut];split
  ·rename_i hd;obtain⟨id,gi,_,d9,hgb⟩:=cut_dropped.1 hd;have:=h.lt id _ b d9 hgb;omega
  ·exact h.fresh b hb
 ·intro id gi b h1 h2;exact h.lt id gi b (zja h1).2 h2

inductive WkA:AV→AV→Prop
 |refl (a:AV):WkA a a
 |sl (es:List (List AV)) (t:Tok):WkA (.sl es t) (.sl es .none)
 |snil:WkA .snil (.sl [] .none)
inductive WkV:AV→AV→Prop
 |unk (a:AV):WkV a .unk
 |atom {a b:AV} (h:WkA a b):WkV a b
 |agg {cs ds:List AV} (h:All2 WkA cs ds):WkV (.agg cs) (.agg ds)
theorem WkA.arel{v:Value}{a b:AV}(h:WkA a b)(hr:ARel w G v a):ARel w G v b:=by
 cases h with
 |refl=>exact hr
 | sl es t=>cases t with
  |none=>exact hr
  |full=>exact hr.1
  |own id=>exact hr.1
 |snil=>cases hr;exact .slE _ _
theorem All2.wk{asx bs:List AV}(h:All2 WkA asx bs):∀{vs:List Value},All2 (ARel w G) vs asx→All2 (ARel w G) vs bs:=by
 induction asx generalizing bs with
 |nil=>
  intro vs hr;cases bs with
  |nil=>exact hr
  |cons b bs=>exact h.elim
 |cons a asx ih=>
  intro vs hr;cases bs with
  |nil=>exact h.elim
  |cons b bs=>
   cases vs with
   |nil=>exact hr.elim
   |cons v vs=>exact⟨h.1.arel hr.1,ih h.2 hr.2⟩
theorem WkV.trel{v:Value}{a b:AV}(h:WkV a b)(hr:TRel w G v a):TRel w G v b:=by
 cases h with
 |unk=>trivial
 |atom h=>
  cases h with
  |refl=>exact hr
  |sl es t=>exact TRel.of_v (VRel.of_a (WkA.arel (.sl es t) hr))
  |snil=>exact TRel.of_v (VRel.of_a (WkA.arel .snil hr))
 |agg h=>obtain⟨vs,h1,h2⟩:=hr;exact⟨vs,h1,h.wk h2⟩
theorem zzs{asx bs:List AV}(h:All2 WkV asx bs):∀{vs:List Value},All2 (TRel w G) vs asx→All2 (TRel w G) vs bs:=by
 induction asx generalizing bs with
 |nil=>
  intro vs hr;cases bs with
  |nil=>exact hr
  |cons b bs=>exact h.elim
 |cons a asx ih=>
  intro vs hr;cases bs with
  |nil=>exact h.elim
  |cons b bs=>
   cases vs with
   |nil=>exact hr.elim
   |cons v vs=>exact⟨h.1.trel hr.1,ih h.2 hr.2⟩

theorem ACalls.mono{f:FuncId}{args:List AV}{K K':AV→zaa→Prop}(h:ACalls P f args H K)(hk:∀r H',K r H'→K' r H'):ACalls P f args H K':=
 λB w G vs hH hv=>(h B w G vs hH hv).mono λ_ _ ⟨v,r,H',G',h1,h2,h3,h4,h5⟩=>⟨v,r,H',G',h1,h2,h3,h4,hk _ _ h5⟩
theorem ACalls.wk{f:FuncId}{args args':List AV}{K:AV→zaa→Prop}(h:ACalls P f args' H K)(ha:All2 WkV args args'):ACalls P f args H K:=
 λB w G vs hH hv=>h B w G vs hH (zzs ha hv)

def Back(n0:Nat)(Inv:List AV→zaa→Prop)(F:List AV)(H:zaa):Prop:=
 ∃F2 H2 J,H=H2++J∧n0≤H2.length∧HSc H2∧All2 WkV F F2∧F2.all (AV.sc H2.length)=true∧Inv F2 H2

theorem TRel.sc{v:Value}{a:AV}(h:TRel w G v a):a.sc G.μ.length=true:=by
 have ha:∀{x:AV},VRel w G v x→x.scV G.μ.length=true:=λh=>h.sc;cases a with
 |tup vs=>obtain⟨us,_,h2⟩:=h;exact All2.all_of (λv a (h:VRel w G v a)=>h.sc) h2
 |agg cs=>exact ha (x:=.agg cs) h
 |fn f caps=>exact ha (x:=.fn f caps) h
 |unk=>rfl
 |bool b=>rfl
 |int k n=>rfl
 |str s=>rfl
 |nilp=>rfl
 |ptr i o=>exact ha (x:=.ptr i o) h
 |view cs=>rfl
 |snil=>rfl
 |sl es t=>exact ha (x:=.sl es t) h
 |ms i o l c=>exact ha (x:=.ms i o l c) h
 |ov i n=>exact ha (x:=.ov i n) h
 |vp i n o=>exact ha (x:=.vp i n o) h
 |os i n l e=>exact ha (x:=.os i n l e) h
 |map i=>exact ha (x:=.map i) h
 |nilfn=>rfl
 |nili=>rfl
 |ifc=>rfl
theorem FRel.sc{tm:Array Value}{F:List AV}(hH:HRel B w G H)(h:FRel w G tm F):F.all (AV.sc H.length)=true:=by rw[←hH.len];exact All2.all_of (λv a (h:TRel w G v a)=>h.sc) h

theorem zoy{M:Nat→List Bool}{c:Code}{Q:AExit→List AV→zaa→Prop}{F:List AV}(m:List Bool)(Inv:Nat→List AV→zaa→Prop)(n:Nat)(h0:HSc H→F.all (AV.sc H.length)=true→Inv n F H)(dV:∀n F H',Inv n F H'→HSc H'→H.length≤H'.length→F.all (AV.sc H'.length)=true→awp P M c (zbR m (λF'' H''=>∃n',n'<n∧Back H.length (Inv n') F'' H'') Q) F H'):ALoop P c Q F H:=by
 intro B w G a hH hF hd b k cs;have key:∀ n (a':Act) (w':World) (G':Gh) (F':List AV) (H':zaa),Ext B w G w' G'→HRel B w' G' H'→FRel w' G' a'.tmps F'→a'.defers=[]→H.length≤H'.length→Inv n F' H' →
   ∃e a'' w'',Post B w G Q e a'' w''∧Arrives P (lone (b.at a' (.code c::.inLoop c::k)) cs w') b k cs e a'' w'':=by
  intro n;induction n using Nat.strongRecOn with
  |_ n ih=>
   intro a' w' G' F' H' hE eJ l7 jT d8 hI;obtain⟨e,a₁,w₁,hq,i6⟩:=zf7 c _ F' H' (dV n F' H' hI eJ.sc d8 (FRel.sc eJ l7)) B w' G' a' eJ l7 jT b (.inLoop c::k) cs;obtain⟨F1,H1,G1,e1,rfl,k1,k2,k3,k4,k5⟩:=hq;cases e1 with
   |normal=>obtain⟨n',d7,F2,H2,J,hJ,jC,hsc,eu,eC,hI2⟩:=k5;subst hJ;have jG:Ext B w G w₁ (G1.cut w₁ H2.length):=zwe k2 (hE.trans k1) (by rw[hH.len];exact jC);have hF2:FRel w₁ (G1.cut w₁ H2.length) a₁.tmps F2:=zeo (p:=AV.sc H2.length) (λ_ _=>zwf k2) (zzs eu (zhB m k3)) eC;obtain⟨e₂,a₂,w₂,hq₂,i6₂⟩:=ih n' d7 a₁ w₁ _ F2 H2 jG (k2.cut hsc) hF2 k4 jC hI2;exact⟨e₂,a₂,w₂,hq₂,.of_steps (Steps.trans i6 (.one step_inLoop)) i6₂⟩
   |exit id=>exact⟨_,a₁,w₁,⟨F1,H1,G1,.exit id,rfl,hE.trans k1,k2,k3,k4,k5⟩,.pass (x:=.inLoop c) rfl (λ_ _=>.inl (by simp[AExit.toExit])) i6⟩
   |ret=>exact⟨_,a₁,w₁,⟨F1,H1,G1,.ret,rfl,hE.trans k1,k2,k3,k4,k5⟩,.pass (x:=.inLoop c) rfl (λ_ _=>.inl (by simp[AExit.toExit])) i6⟩
 obtain⟨e,a',w',hq,i6⟩:=key n a w G F H (Ext.refl _ _ _) hH hF hd (aa _) (h0 hH.sc (FRel.sc hH hF));exact⟨e,a',w',hq,.of_steps (.one step_loop) i6⟩

theorem zzt:∀ F:List AV,All2 WkV F F
 |[]=>trivial
 |a::F=>⟨.atom (.refl a),zzt F⟩
theorem Back.same{n0:Nat}{Inv:List AV→zaa→Prop}{F:List AV}{J:zaa}(hn:n0≤H.length)(hsc:HSc H)(hs:F.all (AV.sc H.length)=true)(h:Inv F H):Back n0 Inv F (H++J):=
 ⟨F,H,J,rfl,hn,hsc,zzt F,hs,h⟩

def AV.isV:AV→Bool
 |.tup _=>false
 |_=>true
def zfg(P:Program):List ResultVar→List AV→zaa→(List AV→Prop)→Prop
 |[],_,_,K=>K []
 |.tmp t::rs,F,H,K=>zfg P rs F H λvs=>K (F.getD t .unk::vs)
 | .cell a t::rs,F,H,K=>(match zd9 P t,za0 P t with
  |some g,some n=>zae g n (F.getD a .unk) H λv=>zfg P rs F H λvs=>K (v::vs)
  |_,_=>False)
def zaG(vs:List AV)(K:AV→Prop):Prop:=
 match vs with
 |[v]=>K v
 |vs=>vs.all AV.isV=true∧K (.tup vs)
def zaB(P:Program)(rs:List ResultVar)(K:AV→zaa→Prop)(e:AExit)(F:List AV)(H:zaa):Prop:=
 match e with
 |.exit _=>False
 |_=>zfg P rs F H λvs=>zaG vs (K · H)

theorem zwK{v:Value}{a:AV}(h:TRel w G v a)(hv:a.isV=true):VRel w G v a:=by cases a <;> first|exact h|(simp[AV.isV]at hv;done)

def zko(tm:Array Value):ResultVar→Sem Value
 |.tmp t=>pure (tm.getD t undef)
 |.cell a t=>do loadVar t (←asAddr (tm.getD a undef))
theorem zHy(fn:Func)(tm:Array Value):results fn tm=(do
  let vs ←fn.results.mapM (zko tm)
  pure (if h:vs.size=1 then vs[0] else .tuple vs)):=by
 unfold results;congr 1

theorem zqJ{tm:Array Value}{F:List AV}(hH:HRel B w G H)(hF:FRel w G tm F):∀ (rs:List ResultVar) (K:List AV→Prop),zfg P rs F H K →
  ∃vs asx,(rs.mapM (m:=Sem) (zko tm)).run P w=.ok vs w∧All2 (TRel w G) vs asx∧K asx
 |[],K,h=>⟨[],[],by simp,trivial,h⟩
 |.tmp t::rs,K,h=>by obtain⟨vs,asx,h1,h2,h3⟩:=zqJ hH hF rs _ h;have ht:=zaP (a:=⟨tm,[]⟩) hF (.tmp t);exact⟨tm.getD t undef::vs,F.getD t .unk::asx,by simp only[List.mapM_cons,Sem.run_bind,zko,Sem.run_pure,Result.andThen_ok,h1],⟨ht,h2⟩,h3⟩
 |.cell a t::rs,K,h=>by
  unfold zfg at h;split at h
  ·rename_i g n hg hn;have ht:=zaP (a:=⟨tm,[]⟩) hF (.tmp a);have ht:TRel w G (tm.getD a undef) (F.getD a .unk):=ht;obtain⟨u,h1,av,h2,h3⟩:=zyz (K:=λv _=>zfg P rs F H λvs=>K (v::vs)) hH ht hg hn h;obtain⟨vs,asx,k1,k2,k3⟩:=zqJ hH hF rs _ h3;refine⟨u::vs,av::asx,?_,⟨h2,k2⟩,k3⟩;have iD:(zko tm (.cell a t)).run P w=.ok u w:=by
    have hsa:∃x,tm.getD a undef=.pointer (some x):=by
     rw[zg2]at h;split at h
     ·rename_i hx;rw[hx]at ht;obtain⟨b,_,hb⟩:=ht;exact⟨_,hb⟩
     ·rename_i hx;rw[hx]at ht;obtain⟨b,off,hb,_⟩:=ht;exact⟨_,hb⟩
     ·rename_i hx;rw[hx]at ht;obtain⟨⟨b,off,hb⟩,_⟩:=ht;exact⟨_,hb⟩
     ·exact h.elim
    obtain⟨x,hx⟩:=hsa;show ((do loadVar t (←asAddr (tm.getD a undef))):Sem Value).run P w=.ok u w;rw[hx]at h1 ⊢;simpa[Instr.loadAt,Instr.sureAddr,asAddr]using h1
   simp only[List.mapM_cons,Sem.run_bind,iD,Result.andThen_ok,k1,Sem.run_pure]
  ·exact h.elim

theorem zap{M:Nat→List Bool}{f:FuncId}{fn:Func}{c:Code}{args:List AV}{K:AV→zaa→Prop}(hf:P.funcs[f]?=some fn)(hb:fn.body=some c)(h:HSc H→awp P M c (zaB P fn.results.toList K) (args++List.replicate (fn.ntmps-args.length) .unk) H):ACalls P f args H K:=by
 intro B w G vs hH hv;refine calls_of_wp hf hb ?_;have hF:FRel w G (vs++Array.replicate (fn.ntmps-vs.size) undef) (args++List.replicate (fn.ntmps-args.length) .unk):=by
  unfold FRel;have hl:vs.size=args.length:=by simpa using hv.length
  rw[hl];simpa using hv.append (All2.replicate (R:=TRel w G) (a:=undef) (b:=.unk) trivial (fn.ntmps-args.length))
 refine wp_mono (zf7 c _ _ H (h hH.sc) B w G ⟨_,[]⟩ hH hF rfl) λe a' w' hp=>?_;obtain⟨F',H',G',e',rfl,h1,h2,h3,h4,h5⟩:=hp;have fin:(zfg P fn.results.toList F' H' λvs=>zaG vs (K · H'))→∃v,(results fn a'.tmps).run P w'=.ok v w'∧∃v' r H'' G'',Ending.returned v=.returned v'∧Ext B w G w' G''∧HRel B w' G'' H''∧TRel w' G'' v' r∧K r H'':=by
  intro h5;obtain⟨us,asx,k1,k2,k3⟩:=zqJ h2 h3 fn.results.toList _ h5;have hres:(results fn a'.tmps).run P w'=.ok (if hh:us.toArray.size=1 then us.toArray[0] else .tuple us.toArray) w':=by rw[zHy,Sem.run_bind,Array.mapM_eq_mapM_toList,Sem.run_map,k1];rfl
  refine⟨_,hres,(if hh:us.toArray.size=1 then us.toArray[0] else .tuple us.toArray),?_⟩;have hl:=k2.length;unfold zaG at k3;split at k3
  ·rename_i r
   match us,hl,k2,hres with
   |[u],_,k2,_=>exact⟨r,H',G',rfl,h1,h2,by simpa using k2.1,k3⟩
  ·rename_i en;refine⟨.tup asx,H',G',rfl,h1,h2,?_,k3.2⟩;have ep:¬us.toArray.size=1:=by
    intro hs;have:asx.length=1:=by rw[←hl];simpa using hs
    match asx,this with
    |[x],_=>exact en x rfl
   rw[dif_neg ep];exact⟨us.toArray,rfl,zeo (p:=AV.isV) (λ_ _=>zwK) k2 k3.1⟩
 cases e' with
 |normal=>exact⟨h4,fin h5⟩
 |ret=>exact⟨h4,fin h5⟩
 |exit id=>exact h5.elim

end
section
open Go.RowKit

variable {P:Program} {B:Nat} {w:World} {G:Gh} {H:zaa}

theorem DRel.of_flat_at{L:Nat→Nat}{g off size cap:Nat}{es:List (List AV)}{zs:List Value}(ep:∀c∈es,c.length=size)(en:es≠[])(ey:es.length≤cap)(hL:off+es.length*size≤L g)(hr:All2 (DRel w L) zs es.flatten)(hc:∀j v,zs[j]?=some v→w.cell? ⟨g,off+j,none⟩=some v):DRel w L (.slice (some ⟨g,off,none⟩) es.length cap) (.sl es .none):=by
 have ek:∀i j (hi:i<es.length) (hj:j<(es[i]).length),∃v,zs[i*size+j]?=some v∧DRel w L v (es[i])[j]:=λi j hi hj=>hr.get (zhp ep i j hi hj);refine .sl g off cap size es (λi j=>zs.getD (i*size+j) undef) en ey hL (λi hi=>ep _ (ah hi)) (λi j hi hj=>?_) (λi j hi hj=>?_)
 ·obtain⟨v,h1,h2⟩:=ek i j hi hj;simp only[List.getD_eq_getElem?_getD,h1,Option.getD_some,ae];exact hc _ _ h1
 ·obtain⟨v,h1,h2⟩:=ek i j hi hj;simp only[List.getD_eq_getElem?_getD,h1,Option.getD_some];exact h2

inductive OutV (H:zaa) (n:Nat):AV→AV→Prop
 |wk {a b:AV} (h:WkV a b) (hv:b.isV=true) (hs:b.scV n=true):OutV H n a b
 | frz (id off len cap size:Nat) (cs:List AV) (es:List (List AV)) (d9:n≤id) (hH:H[id]?=some (.cells cs)) (eU:off+len*size≤cs.length)
   (hp:plain ((cs.drop off).take (len*size))=some es.flatten) (d8:es.length=len) (ep:∀c∈es,c.length=size) (ey:len≤cap):OutV H n (.ms id off len cap) (.sl es .none)
 |vfz (id e size m:Nat) (cs:List AV) (es:List (List AV)) (d9:n≤id) (hH:H[id]?=some (.vec e size m cs)) (hp:plain cs=some es.flatten) (d8:es.length=m) (ep:∀c∈es,c.length=size):OutV H n (.ov id m) (.sl es .none)
inductive OutT (H:zaa) (n:Nat):AV→AV→Prop
 |one {a b:AV} (h:OutV H n a b):OutT H n a b
 |tup {asx bs:List AV} (h:All2 (OutV H n) asx bs):OutT H n (.tup asx) (.tup bs)

theorem zGa{n:Nat}{b:AV}(hv:b.isV=true)(hs:b.scV n=true):b.sc n=true:=by cases b <;> first|exact hs|(simp[AV.isV]at hv;done)

theorem OutV.vrel(hH:HRel B w G H){n:Nat}{v:Value}{a b:AV}(h:OutV H n a b)(hr:TRel w G v a):VRel w (G.cut w n) v b:=by
 cases h with
 |wk h hv hs=>exact zwK (zwf hH (h.trel hr) (zGa hv hs)) hv
 |frz id off len cap size cs es d9 gh eU hp d8 ep ey=>
  obtain⟨b,hμ,rfl⟩:=hr;have eh:=hH.ok id _ _ gh hμ;obtain⟨_,_,vs,e,hw,ew⟩:=eh;subst d8;show DRel w (G.cut w n).L _ _;by_cases en:es=[]
  ·subst en;exact .slE _ _
  ·have hl:=ew.length;have hd:=zdx ((ew.drop off).take (es.length*size)) hp;refine DRel.of_flat_at (zs:=(vs.toList.drop off).take (es.length*size)) ep en ey ?_ (hd.mono λ_ _=>zhl hH) ?_
   ·have:(G.cut w n).L b=vs.size:=by simp only[Gh.cut];rw[aA (cut_dropped.2 ⟨id,_,d9,hμ,rfl⟩),hw]
    rw[this];simp at hl;omega
   ·intro j u hj;rw[List.getElem?_take]at hj;split at hj
    ·simp only[World.cell?,hw];simpa using hj
    ·cases hj
 |vfz id e size m cs es d9 gh hp d8 ep=>
  obtain⟨⟨a,cap0,rfl,_⟩,v',s0,n',hμ,_,heq⟩:=hr;obtain⟨rfl,rfl,⟨xs,ed,ew⟩,_⟩:=hH.ok id _ _ gh hμ;obtain rfl:=heq rfl;subst d8;show DRel w (G.cut w n).L _ _;by_cases en:es=[]
  ·subst en;exact .slE _ _
  ·have fJ:=ed;obtain⟨hl,eW⟩:=fJ;rcases eW with ⟨h1,h2⟩ | ⟨g,cap,cur,h1,h2,h3,h4,h5,h6,h7⟩
   ·cases es <;> simp_all
   ·simp at h1;obtain⟨rfl,rfl⟩:=h1;obtain⟨_,_,_,er⟩:=zdw ed;refine DRel.of_flat_at (zs:=xs) ep en h4 ?_ ((zdx ew hp).mono λ_ _=>zhl hH) ?_
    ·have:(G.cut w n).L g=cur.size:=by simp only[Gh.cut];rw[aA (cut_dropped.2 ⟨id,_,d9,hμ,rfl⟩),h3]
     rw[this,h6,aG];exact au _ h4
    ·intro j u hj;rw[aG,er j (by rw[←hl];exact(List.getElem?_eq_some_iff.1 hj).1)];exact hj

theorem zG4(hH:HRel B w G H){n:Nat}{asx bs:List AV}(h:All2 (OutV H n) asx bs):∀{vs:List Value},All2 (VRel w G) vs asx→All2 (VRel w (G.cut w n)) vs bs:=by
 induction asx generalizing bs with
 |nil=>
  intro vs hr;cases bs with
  |nil=>cases vs <;> first|trivial|exact hr.elim
  |cons b bs=>exact h.elim
 |cons a asx ih=>
  intro vs hr;cases bs with
  |nil=>exact h.elim
  |cons b bs=>
   cases vs with
   |nil=>exact hr.elim
   |cons v vs=>exact⟨h.1.vrel hH (TRel.of_v hr.1),ih h.2 hr.2⟩

def Out(n:Nat)(K:AV→zaa→Prop)(r:AV)(H':zaa):Prop:=∃r2 H2 J,H'=H2++J∧n≤H2.length∧HSc H2∧OutT H' H2.length r r2∧K r2 H2

theorem ACalls.out{f:FuncId}{args:List AV}{K:AV→zaa→Prop}(h:ACalls P f args H (Out H.length K)):ACalls P f args H K:=by
 intro B w G vs hH hv;refine(h B w G vs hH hv).mono λe w' ⟨v,r,H',G',h1,h2,h3,h4,h5⟩=>?_;obtain⟨r2,H2,J,hJ,hn,hsc,ho,hk⟩:=h5;subst hJ;refine⟨v,r2,H2,G'.cut w' H2.length,h1,zwe h3 h2 (by rw[hH.len];exact hn),h3.cut hsc,?_,hk⟩;cases ho with
 |one ho=>exact TRel.of_v (ho.vrel h3 h4)
 |tup ho=>obtain⟨us,hu,hr⟩:=h4;exact⟨us,hu,zG4 h3 ho hr⟩

theorem Out.same{n:Nat}{K:AV→zaa→Prop}{r:AV}{J:zaa}(hn:n=H.length)(hsc:HSc H)(hv:r.isV=true)(hr:r.scV H.length=true)(h:K r H):Out n K r (H++J):=
 ⟨r,H,J,rfl,by omega,hsc,.one (.wk (.atom (.refl r)) hv hr),h⟩

theorem ALoop.own{c:Code}{Q:AExit→List AV→zaa→Prop}{F:List AV}(i e size:Nat)(hi:F[i]?=some .snil)(h:ALoop P c Q (F.set i (.sl [] (.own H.length))) (H++[.perm e size 0])):ALoop P c Q F H:=by
 intro B w G a hH hF hd;obtain⟨hE,eJ⟩:=hH.newOwn e size;have l7:FRel w ⟨G.L,G.μ++[.own (.slice none 0 0) size 0]⟩ a.tmps (F.set i (.sl [] (.own H.length))):=by
  unfold FRel;obtain⟨v,h1,h2⟩:=All2.get hF hi;have h2:v=.slice none 0 0:=h2;subst h2;have eI:a.tmps.toList=a.tmps.toList.set i (.slice none 0 0):=by
   apply aJ;intro k;by_cases hk:k=i
   ·subst hk;rw[List.getElem?_set_self (List.getElem?_eq_some_iff.1 h1).1];exact h1
   ·rw[List.getElem?_set_ne (λh=>hk h.symm)]
  rw[eI];refine All2.set i (hF.ext hE) ?_;refine⟨.slE _ _,.slice none 0 0,size,0,?_,aa _,λ_=>⟨rfl,by simp⟩⟩;rw[←hH.len];simp
 refine wp_mono (h B w _ a eJ l7 hd) λe a' w' hp=>?_;obtain⟨F'',H'',G'',e'',rfl,k1,k2,k3,k4,k5⟩:=hp;exact⟨F'',H'',G'',e'',rfl,hE.trans k1,k2,k3,k4,k5⟩

def zcr(w:World)(b:Nat):Nat:=match w.heap[b]? with|some (.cells c _ _)=>c.size|_=>0
def G0(w:World):Gh:=⟨zcr w,[]⟩

theorem zF3(w:World):HRel w.heap.size w (G0 w) []:=
 ⟨rfl,λ_ _ _ h=>by simp at h,λ_ _ _ _ _ h=>by simp[G0]at h,λb hb=>by simp[G0,zcr,Array.getElem?_eq_none hb],λ_ _ _ h=>by simp[G0]at h,aa _⟩

theorem zJn{f:FuncId}{args:List AV}(h:ACalls P f args [] λr _=>r=.bool true)(w:World)(vs:Array Value)(hv:All2 (TRel w (G0 w)) vs.toList args):
  Calls P f vs w λe w'=>e=.returned (.bool true)∧Below w.heap.size w w':=by
 refine(h _ w (G0 w) vs (zF3 w) hv).mono λe w' ⟨v,r,H',G',h1,h2,h3,h4,h5⟩=>?_;subst h5;have h4:v=.bool true:=h4;subst h4;exact⟨h1,h2.below⟩

end
end Go.Proofs.YtdmamdnkcefmmaaGreatDoor

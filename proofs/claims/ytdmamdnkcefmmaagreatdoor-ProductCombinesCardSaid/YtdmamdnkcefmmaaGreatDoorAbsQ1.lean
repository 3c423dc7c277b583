import Derived.Test.YtdmamdnkcefmmaaGreatDoorAbsL
import Derived.KernelRfl
set_option linter.unusedSimpArgs false
set_option linter.unusedVariables false
set_option linter.unusedSectionVars false
set_option maxRecDepth 8000
namespace Go.Proofs.YtdmamdnkcefmmaaGreatDoor
section
open Go.RowKit

variable {P:Program} {B:Nat} {w:World} {G:Gh} {H:or}

def AV.ZI(n:Nat):AV→Bool
 |.ptr id _=>decide (id<n)
 |.ms id _ _ _=>decide (id<n)
 |.ov id _=>decide (id<n)
 |.vp id _ _=>decide (id<n)
 |.os id _ _ _=>decide (id<n)
 |.pf id _ _=>decide (id<n)
 |.map id=>decide (id<n)
 |.sl _ (.own id)=>decide (id<n)
 |_=>true
def AV.ZH(n:Nat):AV→Bool
 |.fn _ caps=>caps.all (AV.ZI n)
 |a=>a.ZI n
def AV.ZJ(n:Nat):AV→Bool
 |.agg cs=>cs.all (AV.ZH n)
 |a=>a.ZH n
def AV.sc(n:Nat):AV→Bool
 |.tup vs=>vs.all (AV.ZJ n)
 |a=>a.ZJ n
def AB.sc(n:Nat):AB→Bool
 |.cells cs=>cs.all (AV.ZH n)
 |.map kvs=>kvs.all λp=>p.2.ZJ n
 |.bld _ cs=>cs.all (AV.ZH n)
 |.vec _ _ _ cs=>cs.all (AV.ZH n)
 |_=>true
def HSc(H:or):Prop:=∀b∈H,b.sc H.length=true

theorem lt_of_μ{id:Nat}{gi:GI}(h:G.μ[id]?=some gi):id<G.μ.length:=(ac.1 h).1

theorem BRel.sc{v:Value}{a:AV}(h:BRel w G v a):a.ZI G.μ.length=true:=by
 cases a with
 |ptr id off=>obtain⟨b,h1,_⟩:=h;simpa[AV.ZI]using lt_of_μ h1
 |ms id off len cap=>obtain⟨b,h1,_⟩:=h;simpa[AV.ZI]using lt_of_μ h1
 |ov id n=>obtain⟨_,v',s,n',h1,_⟩:=h;simpa[AV.ZI]using lt_of_μ h1
 |vp id n off=>obtain⟨_,v',s,n',h1,_⟩:=h;simpa[AV.ZI]using lt_of_μ h1
 |os id n l e=>obtain⟨_,v',s,n',h1,_⟩:=h;simpa[AV.ZI]using lt_of_μ h1
 |pf id n l=>obtain⟨_,v',s,n',h1,_⟩:=h;simpa[AV.ZI]using lt_of_μ h1
 |map id=>obtain⟨b,h1,_⟩:=h;simpa[AV.ZI]using lt_of_μ h1
 |sl es tok=>
  cases tok with
  |own id=>obtain⟨_,v',s,n,h1,_⟩:=h;simpa[AV.ZI]using lt_of_μ h1
  |none=>rfl
  |full=>rfl
 |_=>rfl
theorem All2.all_of{R:Value→AV→Prop}{p:AV→Bool}(hp:∀ v a,R v a→p a=true):∀ {vs:List Value} {asx:List AV},All2 R vs asx→asx.all p=true
 |[],[],_=>rfl
 |_::_,_::_,h=>by simp only[List.all_cons,ap];exact⟨hp _ _ h.1,All2.all_of hp h.2⟩
theorem ARel.sc{v:Value}{a:AV}(h:ARel w G v a):a.ZH G.μ.length=true:=by
 have hb:∀{x:AV},BRel w G v x→x.ZI G.μ.length=true:=λh=>h.sc;cases a with
 |fn f caps=>obtain⟨vs,_,h2⟩:=h;exact All2.all_of (λv a (h:BRel w G v a)=>h.sc) h2
 |unk=>exact hb (x:=.unk) h
 |bool b=>exact hb (x:=.bool b) h
 |int k n=>exact hb (x:=.int k n) h
 |str s=>exact hb (x:=.str s) h
 |nilp=>exact hb (x:=.nilp) h
 |ptr i o=>exact hb (x:=.ptr i o) h
 |view cs=>exact hb (x:=.view cs) h
 |ZG=>exact hb (x:=.ZG) h
 |sl es t=>exact hb (x:=.sl es t) h
 |ms i o l c=>exact hb (x:=.ms i o l c) h
 |ov i n=>exact hb (x:=.ov i n) h
 |vp i n o=>exact hb (x:=.vp i n o) h
 |os i n l e=>exact hb (x:=.os i n l e) h
 |pf i n l=>exact hb (x:=.pf i n l) h
 |map i=>exact hb (x:=.map i) h
 |nilfn=>exact hb (x:=.nilfn) h
 |nili=>exact hb (x:=.nili) h
 |ifc=>exact hb (x:=.ifc) h
 |flt=>exact hb (x:=.flt) h
 |agg cs=>exact hb (x:=.agg cs) h
 |tup vs=>exact hb (x:=.tup vs) h
theorem VRel.sc{v:Value}{a:AV}(h:VRel w G v a):a.ZJ G.μ.length=true:=by
 have ha:∀{x:AV},ARel w G v x→x.ZH G.μ.length=true:=λh=>h.sc;cases a with
 |agg cs=>obtain⟨vs,_,h2⟩:=h;exact All2.all_of (λv a (h:ARel w G v a)=>h.sc) h2
 |fn f caps=>exact ha (x:=.fn f caps) h
 |unk=>rfl
 |bool b=>rfl
 |int k n=>rfl
 |str s=>rfl
 |nilp=>rfl
 |ptr i o=>exact ha (x:=.ptr i o) h
 |view cs=>rfl
 |ZG=>rfl
 |sl es t=>exact ha (x:=.sl es t) h
 |ms i o l c=>exact ha (x:=.ms i o l c) h
 |ov i n=>exact ha (x:=.ov i n) h
 |vp i n o=>exact ha (x:=.vp i n o) h
 |os i n l e=>exact ha (x:=.os i n l e) h
 |pf i n l=>exact ha (x:=.pf i n l) h
 |map i=>exact ha (x:=.map i) h
 |nilfn=>rfl
 |nili=>rfl
 |ifc=>rfl
 |flt=>rfl
 |tup vs=>exact ha (x:=.tup vs) h
theorem ERel.sc{e:MapEntry}{p:List UInt8×AV}(h:ERel w G e p):p.2.ZJ G.μ.length=true:=h.2.sc
theorem All2.all_ents{p:AV→Bool}{R:MapEntry→List UInt8 × AV→Prop}(hp:∀ v a,R v a→p a.2=true):∀ {vs:List MapEntry} {asx:List (List UInt8 × AV)},All2 R vs asx→(asx.all λa=>p a.2)=true
 |[],[],_=>rfl
 |_::_,_::_,h=>by simp only[List.all_cons,ap];exact⟨hp _ _ h.1,All2.all_ents hp h.2⟩
theorem tU.sc(h:tU B w G H):HSc H:=by
 intro ab gc;obtain⟨id,fA⟩:=a8.1 gc;have fy:id<G.μ.length:=by rw[h.len];exact(ac.1 fA).1
 have fH:=h.ok id ab _ fA (aw fy);cases ab with
 |cells cs=>
  cases hg:G.μ[id] with
  |blk b=>rw[hg]at fH;obtain⟨_,_,vs,e,_,h2⟩:=fH;have:=All2.all_of (λv a (h:ARel w G v a)=>h.sc) h2;rw[h.len]at this;exact this
  |own v s n=>rw[hg]at fH;exact fH.elim
  |gap=>rw[hg]at fH;exact fH.elim
 |vec e s n cs=>
  cases hg:G.μ[id] with
  |blk b=>rw[hg]at fH;exact fH.elim
  |own v s n=>rw[hg]at fH;obtain⟨_,_,⟨xs,_,h2⟩,_⟩:=fH;have:=All2.all_of (λv a (h:ARel w G v a)=>h.sc) h2;rw[h.len]at this;exact this
  |gap=>rw[hg]at fH;exact fH.elim
 |bld t cs=>
  cases hg:G.μ[id] with
  |blk b=>rw[hg]at fH;obtain⟨_,_,vs,_,h2⟩:=fH;have:=All2.all_of (λv a (h:ARel w G v a)=>h.sc) h2;rw[h.len]at this;exact this
  |own v s n=>rw[hg]at fH;exact fH.elim
  |gap=>rw[hg]at fH;exact fH.elim
 |map kvs=>
  cases hg:G.μ[id] with
  |blk b=>rw[hg]at fH;obtain⟨_,_,es,clk,_,h2⟩:=fH;have:=All2.all_ents (p:=AV.ZJ G.μ.length) (λv a (h:ERel w G v a)=>h.sc) h2;rw[h.len]at this;exact this
  |own v s n=>rw[hg]at fH;exact fH.elim
  |gap=>rw[hg]at fH;exact fH.elim
 |perm e s n=>rfl
 |gap=>rfl
 |dead=>rfl
 |nodr=>rfl
 |fact φ=>rfl
 |frz e s n=>rfl

def Gh.cut(G:Gh)(w:World)(n:Nat):Gh:=
 ⟨λb=>if (G.μ.drop n).any (λgi=>gi.block == some b)=true then (match w.heap[b]? with|some (.cells c _ _)=>c.size|_=>0) else G.L b,G.μ.take n⟩

theorem zM{n id:Nat}(h:id<n):(G.cut w n).μ[id]?=G.μ[id]?:=by simp[Gh.cut,h]
theorem D8{n id:Nat}{gi:GI}(h:(G.cut w n).μ[id]?=some gi):id<n∧G.μ[id]?=some gi:=by
 simp only[Gh.cut,bQ]at h;split at h
 ·rename_i fy;exact⟨fy,h⟩
 ·cases h
theorem cut_dropped{n b:Nat}:((G.μ.drop n).any (λgi=>gi.block == some b)=true)↔∃id gi,n≤id∧G.μ[id]?=some gi∧gi.block=some b:=by
 rw[d9];constructor
 ·rintro⟨gi,h1,h2⟩;obtain⟨k,hk⟩:=a8.1 h1;rw[cD]at hk;exact⟨n+k,gi,by omega,hk,by simpa using h2⟩
 ·rintro⟨id,gi,h1,h2,h3⟩;refine⟨gi,a8.2 ⟨id-n,?_⟩,by simp[h3]⟩;rw[cD,show n+(id-n)=id by omega];exact h2

theorem N2(h:tU B w G H)(n b:Nat):G.L b≤(G.cut w n).L b:=by
 simp only[Gh.cut];split
 ·rename_i hd;obtain⟨id,gi,_,fA,gk⟩:=cut_dropped.1 hd;have fy:id<H.length:=by rw[←h.len];exact lt_of_μ fA
  have fH:=h.ok id _ _ (aw fy) fA;cases gi with
  |gap=>cases gk
  |blk x=>
   simp[GI.block]at gk;subst gk;cases hb:H[id] with
   |cells cs=>rw[hb]at fH;rw[fH.2.1];exact bM _
   |perm e s n=>rw[hb]at fH;exact fH.elim
   |map kvs=>rw[hb]at fH;rw[fH.2.1];exact bM _
   |bld t cs=>rw[hb]at fH;rw[fH.2.1];exact bM _
   |vec e s n cs=>rw[hb]at fH;exact fH.elim
   |gap=>rw[hb]at fH;exact fH.elim
   |dead=>rw[hb]at fH;obtain⟨vs,e,fr,h1,h2⟩:=fH;rw[h1];exact h2
   |frz e s n=>rw[hb]at fH;exact fH.elim
   |nodr=>rw[hb]at fH;exact fH.elim
   |fact φ=>rw[hb]at fH;exact fH.elim
  |own v s n=>
   simp only[GI.block]at gk;have big:∀{e m:Nat} {xs:List Value},w.ownsRow B e s v m xs→m*s≤(match w.heap[b]? with|some (.cells c _ _)=>c.size|_=>0):=by
    rintro e m xs ⟨hl,h1|⟨g,cap,cur,rfl,h1,h2,h3,h4,h5,h6⟩⟩
    ·rw[h1.1]at gk;cases gk
    ·simp[Value.ownBlock]at gk;subst gk;rw[h2];simp only[h5];exact aD _ h3
   cases hb:H[id] with
   |perm e s' n'=>rw[hb]at fH;obtain⟨rfl,rfl,⟨xs,hx⟩,hL⟩:=fH;rw[hL b gk];exact big hx
   |vec e s' n' cs=>rw[hb]at fH;obtain⟨rfl,rfl,_,hL⟩:=fH;rw[hL b gk];exact bM _
   |cells cs=>rw[hb]at fH;exact fH.elim
   |map kvs=>rw[hb]at fH;exact fH.elim
   |bld t cs=>rw[hb]at fH;exact fH.elim
   |gap=>rw[hb]at fH;exact fH.elim
   |frz e s' n'=>rw[hb]at fH;obtain⟨g,cap,vs,fr,rfl,rfl,rfl,h1,h2,h3,h4,h5,h6⟩:=fH;simp[Value.ownBlock]at gk;subst gk;rw[h1,h3];simp only[h6];exact aD _ h4
   |nodr=>rw[hb]at fH;rw[fH]at gk;cases gk
   |fact φ=>rw[hb]at fH;exact fH.elim
   |dead=>rw[hb]at fH;obtain⟨vs,e,fr,h1,h2⟩:=fH b gk;rw[h1];exact h2
 ·exact af _


theorem As(h:tU B w G H){n id:Nat}{gi:GI}{b:Nat}(hn:id<n)(fA:G.μ[id]?=some gi)(hb:gi.block=some b):(G.cut w n).L b=G.L b:=by
 simp only[Gh.cut];split
 ·rename_i hd;obtain⟨id',gi',h1,h2,h3⟩:=cut_dropped.1 hd;have:=h.dist id id' gi _ b fA h2 hb h3;omega
 ·rfl

theorem Vx(h:tU B w G H){w0:World}{G0:Gh}{n:Nat}(hE:Ext B w0 G0 w G)(hn:G0.μ.length≤n):Ext B w0 G0 w (G.cut w n):=
 ⟨⟨hE.dr.le,λhn=>hE.dr.nn (by obtain⟨s,m,hn⟩:=hn;exact⟨s,m,(D8 hn).2⟩)⟩,hE.below,λb=>aC (hE.lev b) (N2 h n b),hE.cell,λid gi hg=>by
  obtain⟨g',h1,h2⟩:=hE.ids id gi hg;exact⟨g',by rw[zM (bK (lt_of_μ hg) hn)];exact h1,h2⟩⟩

theorem D9(h:tU B w G H){n:Nat}{v:Value}{a:AV}(hd:DRel w G.L v a):DRel w (G.cut w n).L v a:=hd.mono (λb=>N2 h n b) (λ_ _ _=>rfl)
theorem Vy(h:tU B w G H){n:Nat}{v:Value}{a:AV}(hr:BRel w G v a)(hs:a.ZI n=true):BRel w (G.cut w n) v a:=by
 cases a with
 |ptr id off=>obtain⟨b,h1,h2⟩:=hr;simp[AV.ZI]at hs;exact⟨b,by rw[zM hs];exact h1,h2⟩
 |ms id off len cap=>obtain⟨b,h1,h2⟩:=hr;simp[AV.ZI]at hs;exact⟨b,by rw[zM hs];exact h1,h2⟩
 |map id=>obtain⟨b,h1,h2⟩:=hr;simp[AV.ZI]at hs;exact⟨b,by rw[zM hs];exact h1,h2⟩
 |ov id m=>obtain⟨h0,v',s,m',h1,h2⟩:=hr;simp[AV.ZI]at hs;exact⟨h0,v',s,m',by rw[zM hs];exact h1,h2⟩
 |vp id m off=>obtain⟨h0,v',s,m',h1,h2⟩:=hr;simp[AV.ZI]at hs;exact⟨h0,v',s,m',by rw[zM hs];exact h1,h2⟩
 |os id m l e=>obtain⟨h0,v',s,m',h1,h2⟩:=hr;simp[AV.ZI]at hs;exact⟨h0,v',s,m',by rw[zM hs];exact h1,h2⟩
 |pf id m l=>obtain⟨h0,v',s,m',h1,h2⟩:=hr;simp[AV.ZI]at hs;exact⟨h0,v',s,m',by rw[zM hs];exact h1,h2⟩
 |view cs=>obtain⟨b,off,h1,h2⟩:=hr;exact⟨b,off,h1,h2.mono (λb=>N2 h n b) (λ_ _ _=>rfl)⟩
 |sl es tok=>
  cases tok with
  |none=>exact D9 h hr
  |full=>exact⟨D9 h hr.1,hr.2⟩
  |own id=>obtain⟨h1,v',s,m,h2,h3⟩:=hr;simp[AV.ZI]at hs;exact⟨D9 h h1,v',s,m,by rw[zM hs];exact h2,h3⟩
 |_=>exact hr
theorem zN{R R':Value→AV→Prop}{p:AV→Bool}(hp:∀ v a,R v a→p a=true→R' v a):∀ {vs:List Value} {asx:List AV},All2 R vs asx→asx.all p=true→All2 R' vs asx
 |[],[],_,_=>trivial
 |_::_,_::_,h,hs=>by simp only[List.all_cons,ap]at hs;exact⟨hp _ _ h.1 hs.1,zN hp h.2 hs.2⟩
theorem Ea(h:tU B w G H){n:Nat}{v:Value}{a:AV}(hr:ARel w G v a)(hs:a.ZH n=true):ARel w (G.cut w n) v a:=by
 cases a with
 |fn f caps=>obtain⟨vs,h1,h2⟩:=hr;exact⟨vs,h1,zN (p:=AV.ZI n) (λ_ _=>Vy h) h2 hs⟩
 |_=>exact ARel.of_b (Vy h hr hs)
theorem N3(h:tU B w G H){n:Nat}{v:Value}{a:AV}(hr:VRel w G v a)(hs:a.ZJ n=true):VRel w (G.cut w n) v a:=by
 cases a with
 |agg cs=>obtain⟨vs,h1,h2⟩:=hr;exact⟨vs,h1,zN (p:=AV.ZH n) (λ_ _=>Ea h) h2 hs⟩
 |_=>exact VRel.of_a (Ea h hr hs)
theorem Vz(h:tU B w G H){n:Nat}{v:Value}{a:AV}(hr:TRel w G v a)(hs:a.sc n=true):TRel w (G.cut w n) v a:=by
 cases a with
 |tup cs=>obtain⟨vs,h1,h2⟩:=hr;exact⟨vs,h1,zN (p:=AV.ZJ n) (λ_ _=>N3 h) h2 hs⟩
 |_=>exact TRel.of_v (N3 h hr hs)

theorem VA{G':Gh}{p:AV→Bool}(hp:∀ v a,VRel w G v a→p a=true→VRel w G' v a):∀ {es:List MapEntry} {kvs:List (List UInt8 × AV)},All2 (ERel w G) es kvs→(kvs.all λa=>p a.2)=true→All2 (ERel w G') es kvs
 |[],[],_,_=>trivial
 |_::_,_::_,h,hs=>by simp only[List.all_cons,ap]at hs;exact⟨⟨h.1.1,hp _ _ h.1.2 hs.1⟩,VA hp h.2 hs.2⟩
theorem tU.cut{J:or}(h:tU B w G (H++J))(hs:HSc H):tU B w (G.cut w H.length) H:=by
 refine⟨?_,?_,?_,?_,?_,h.base⟩
 ·have:=h.len;simp[Gh.cut]at this ⊢;omega
 ·intro id ab gi h1 h2;obtain⟨fy,h2⟩:=D8 h2;have fH:=h.ok id ab gi (by rw[ah fy];exact h1) h2;have hsc:=hs ab (a8.2 ⟨id,h1⟩);cases ab with
  |cells cs=>
   cases gi with
   |blk b=>obtain⟨k1,k2,vs,e,k3,k4⟩:=fH;exact⟨k1,by rw[As h fy h2 rfl];exact k2,vs,e,k3,zN (p:=AV.ZH H.length) (λ_ _=>Ea h) k4 hsc⟩
   |own v s n=>exact fH.elim
   |gap=>exact fH.elim
  |perm e s n=>
   cases gi with
   |blk b=>exact fH.elim
   |gap=>exact fH.elim
   |own v s' n'=>obtain⟨k1,k2,k3,k4⟩:=fH;exact⟨k1,k2,k3,λb hb=>by rw[As h fy h2 (by simpa[GI.block]using hb)];exact k4 b hb⟩
  |vec e s n cs=>
   cases gi with
   |blk b=>exact fH.elim
   |gap=>exact fH.elim
   |own v s' n'=>obtain⟨k1,k2,⟨xs,k3,k5⟩,k4⟩:=fH;exact⟨k1,k2,⟨xs,k3,zN (p:=AV.ZH H.length) (λ_ _=>Ea h) k5 hsc⟩,λb hb=>by rw[As h fy h2 (by simpa[GI.block]using hb)];exact k4 b hb⟩
  |map kvs=>
   cases gi with
   |blk b=>obtain⟨k1,k2,es,clk,k3,k4⟩:=fH;exact⟨k1,by rw[As h fy h2 rfl];exact k2,es,clk,k3,VA (λ_ _ h1 h2=>N3 h h1 h2) k4 hsc⟩
   |own v s n=>exact fH.elim
   |gap=>exact fH.elim
  |gap=>
   cases gi with
   |blk b=>exact fH.elim
   |own v s n=>exact fH.elim
   |gap=>trivial
  |frz e s n=>
   cases gi with
   |blk b=>exact fH.elim
   |own v s' n'=>obtain⟨g,cap,vs,fr,rfl,rfl,rfl,k1,k2,k3,k4⟩:=fH;exact⟨g,cap,vs,fr,rfl,rfl,rfl,k1,k2,by rw[As h fy h2 rfl];exact k3,k4⟩
   |gap=>exact fH.elim
  |nodr=>
   cases gi with
   |blk b=>exact fH.elim
   |own v s n=>exact fH
   |gap=>exact fH.elim
  |fact φ=>
   cases gi with
   |blk b=>exact fH.elim
   |own v s n=>exact fH.elim
   |gap=>exact fH
  |dead=>
   cases gi with
   |blk b=>obtain⟨vs,e,fr,k1,k2⟩:=fH;exact⟨vs,e,fr,k1,by rw[As h fy h2 rfl];exact k2⟩
   |own v s n=>exactλb hb=>by rw[As h fy h2 (by simpa[GI.block]using hb)];exact fH b hb
   |gap=>exact fH.elim
  |bld t cs=>
   cases gi with
   |blk b=>obtain⟨k1,k2,vs,k3,k4⟩:=fH;exact⟨k1,by rw[As h fy h2 rfl];exact k2,vs,k3,zN (p:=AV.ZH H.length) (λ_ _=>Ea h) k4 hsc⟩
   |own v s n=>exact fH.elim
   |gap=>exact fH.elim
 ·intro id id' gi gi' b h1 h2;exact h.dist id id' gi gi' b (D8 h1).2 (D8 h2).2
 ·intro b hb;simp only[Gh.cut];split
  ·rename_i hd;obtain⟨id,gi,_,fA,hgb⟩:=cut_dropped.1 hd;have:=h.lt id _ b fA hgb;omega
  ·exact h.fresh b hb
 ·intro id gi b h1 h2;exact h.lt id gi b (D8 h1).2 h2

inductive yU:AV→AV→Prop
 |refl (a:AV):yU a a
 |sl (es:List (List AV)) (t:Tok):yU (.sl es t) (.sl es .none)
 |ZG:yU .ZG (.sl [] .none)
inductive vK:AV→AV→Prop
 |unk (a:AV):vK a .unk
 |atom {a b:AV} (h:yU a b):vK a b
 |agg {cs ds:List AV} (h:All2 yU cs ds):vK (.agg cs) (.agg ds)
theorem yU.arel{v:Value}{a b:AV}(h:yU a b)(hr:ARel w G v a):ARel w G v b:=by
 cases h with
 |refl=>exact hr
 | sl es t=>cases t with
  |none=>exact hr
  |full=>exact hr.1
  |own id=>exact hr.1
 |ZG=>cases hr;exact .slE _ _
theorem All2.wk{asx bs:List AV}(h:All2 yU asx bs):∀{vs:List Value},All2 (ARel w G) vs asx→All2 (ARel w G) vs bs:=by
 induction asx generalizing bs with
 |nil=>
  intro vs hr;cases bs with
  |nil=>exact hr
  |cons b bs=>exact h.elim
 |cons a asx ih=>
  intro vs hr;cases bs with
  |nil=>exact h.elim
  |cons b bs=>
   cases vs with
   |nil=>exact hr.elim
   |cons v vs=>exact⟨h.1.arel hr.1,ih h.2 hr.2⟩
theorem vK.trel{v:Value}{a b:AV}(h:vK a b)(hr:TRel w G v a):TRel w G v b:=by
 cases h with
 |unk=>trivial
 |atom h=>
  cases h with
  |refl=>exact hr
  |sl es t=>exact TRel.of_v (VRel.of_a (yU.arel (.sl es t) hr))
  |ZG=>exact TRel.of_v (VRel.of_a (yU.arel .ZG hr))
 |agg h=>obtain⟨vs,h1,h2⟩:=hr;exact⟨vs,h1,h.wk h2⟩
theorem VC{asx bs:List AV}(h:All2 vK asx bs):∀{vs:List Value},All2 (TRel w G) vs asx→All2 (TRel w G) vs bs:=by
 induction asx generalizing bs with
 |nil=>
  intro vs hr;cases bs with
  |nil=>exact hr
  |cons b bs=>exact h.elim
 |cons a asx ih=>
  intro vs hr;cases bs with
  |nil=>exact h.elim
  |cons b bs=>
   cases vs with
   |nil=>exact hr.elim
   |cons v vs=>exact⟨h.1.trel hr.1,ih h.2 hr.2⟩

theorem ge.mono{f:FuncId}{args:List AV}{K K':AV→or→Prop}(h:ge P f args H K)(hk:∀r H',K r H'→K' r H'):ge P f args H K':=
 λB w G vs hH hv=>(h B w G vs hH hv).mono λ_ _ ⟨v,r,H',G',h1,h2,h3,h4,h5⟩=>⟨v,r,H',G',h1,h2,h3,h4,hk _ _ h5⟩
theorem ge.wk{f:FuncId}{args args':List AV}{K:AV→or→Prop}(h:ge P f args' H K)(ha:All2 vK args args'):ge P f args H K:=
 λB w G vs hH hv=>h B w G vs hH (VC ha hv)

def Back(n0:Nat)(Inv:List AV→or→Prop)(F:List AV)(H:or):Prop:=
 ∃F2 H2 J,H=H2++J∧n0≤H2.length∧HSc H2∧All2 vK F F2∧F2.all (AV.sc H2.length)=true∧Inv F2 H2

theorem TRel.sc{v:Value}{a:AV}(h:TRel w G v a):a.sc G.μ.length=true:=by
 have ha:∀{x:AV},VRel w G v x→x.ZJ G.μ.length=true:=λh=>h.sc;cases a with
 |tup vs=>obtain⟨us,_,h2⟩:=h;exact All2.all_of (λv a (h:VRel w G v a)=>h.sc) h2
 |agg cs=>exact ha (x:=.agg cs) h
 |fn f caps=>exact ha (x:=.fn f caps) h
 |unk=>rfl
 |bool b=>rfl
 |int k n=>rfl
 |str s=>rfl
 |nilp=>rfl
 |ptr i o=>exact ha (x:=.ptr i o) h
 |view cs=>rfl
 |ZG=>rfl
 |sl es t=>exact ha (x:=.sl es t) h
 |ms i o l c=>exact ha (x:=.ms i o l c) h
 |ov i n=>exact ha (x:=.ov i n) h
 |vp i n o=>exact ha (x:=.vp i n o) h
 |os i n l e=>exact ha (x:=.os i n l e) h
 |pf i n l=>exact ha (x:=.pf i n l) h
 |map i=>exact ha (x:=.map i) h
 |nilfn=>rfl
 |nili=>rfl
 |ifc=>rfl
 |flt=>rfl
theorem FRel.sc{tm:Array Value}{F:List AV}(hH:tU B w G H)(h:FRel w G tm F):F.all (AV.sc H.length)=true:=by rw[←hH.len];exact All2.all_of (λv a (h:TRel w G v a)=>h.sc) h

theorem N4{M:Nat→List Bool}{c:Code}{Q:AExit→List AV→or→Prop}{F:List AV}(m:List Bool)(Inv:Nat→List AV→or→Prop)(n:Nat)(h0:HSc H→F.all (AV.sc H.length)=true→Inv n F H)(fm:∀n F H',Inv n F H'→HSc H'→H.length≤H'.length→F.all (AV.sc H'.length)=true→awp P M c (vz m (λF'' H''=>∃n',n'<n∧Back H.length (Inv n') F'' H'') Q) F H'):tM P c Q F H:=by
 intro B w G a hH hF hd b k cs;have key:∀ n (a':Act) (w':World) (G':Gh) (F':List AV) (H':or),Ext B w G w' G'→tU B w' G' H'→FRel w' G' a'.tmps F'→a'.defers=[]→H.length≤H'.length→Inv n F' H' →
   ∃e a'' w'',Post B w G Q e a'' w''∧Arrives P (lone (b.at a' (.code c::.inLoop c::k)) cs w') b k cs e a'' w'':=by
  intro n;induction n using Nat.strongRecOn with
  |_ n ih=>
   intro a' w' G' F' H' hE f7 oS my fz hI;obtain⟨e,a₁,w₁,hq,lm⟩:=Cz c _ F' H' (fm n F' H' hI f7.sc fz (FRel.sc f7 oS)) B w' G' a' f7 oS my b (.inLoop c::k) cs;obtain⟨F1,H1,G1,e1,rfl,k1,k2,k3,k4,k5⟩:=hq;cases e1 with
   |normal=>obtain⟨n',fy,F2,H2,J,hJ,kQ,hsc,fQ,fM,qt⟩:=k5;subst hJ;have mg:Ext B w G w₁ (G1.cut w₁ H2.length):=Vx k2 (hE.trans k1) (by rw[hH.len];exact kQ);have hF2:FRel w₁ (G1.cut w₁ H2.length) a₁.tmps F2:=zN (p:=AV.sc H2.length) (λ_ _=>Vz k2) (VC fQ (D7 m k3)) fM;obtain⟨e₂,a₂,w₂,hq₂,lm₂⟩:=ih n' fy a₁ w₁ _ F2 H2 mg (k2.cut hsc) hF2 k4 kQ qt;exact⟨e₂,a₂,w₂,hq₂,.of_steps (Steps.trans lm (.one step_inLoop)) lm₂⟩
   |exit id=>exact⟨_,a₁,w₁,⟨F1,H1,G1,.exit id,rfl,hE.trans k1,k2,k3,k4,k5⟩,.pass (x:=.inLoop c) rfl (λ_ _=>.inl (by simp[AExit.toExit])) lm⟩
   |ret=>exact⟨_,a₁,w₁,⟨F1,H1,G1,.ret,rfl,hE.trans k1,k2,k3,k4,k5⟩,.pass (x:=.inLoop c) rfl (λ_ _=>.inl (by simp[AExit.toExit])) lm⟩
 obtain⟨e,a',w',hq,lm⟩:=key n a w G F H (Ext.refl _ _ _) hH hF hd (af _) (h0 hH.sc (FRel.sc hH hF));exact⟨e,a',w',hq,.of_steps (.one step_loop) lm⟩

theorem VD:∀ F:List AV,All2 vK F F
 |[]=>trivial
 |a::F=>⟨.atom (.refl a),VD F⟩
theorem Back.same{n0:Nat}{Inv:List AV→or→Prop}{F:List AV}{J:or}(hn:n0≤H.length)(hsc:HSc H)(hs:F.all (AV.sc H.length)=true)(h:Inv F H):Back n0 Inv F (H++J):=
 ⟨F,H,J,rfl,hn,hsc,VD F,hs,h⟩

def AV.isV:AV→Bool
 |.tup _=>false
 |_=>true
def Ba(P:Program):List ResultVar→List AV→or→(List AV→Prop)→Prop
 |[],_,_,K=>K []
 |.tmp t::rs,F,H,K=>Ba P rs F H λvs=>K (F.getD t .unk::vs)
 | .cell a t::rs,F,H,K=>(match y7 P t,uV P t with
  |some g,some n=>tL g n (F.getD a .unk) H λv=>Ba P rs F H λvs=>K (v::vs)
  |_,_=>False)
def ut(vs:List AV)(K:AV→Prop):Prop:=
 match vs with
 |[v]=>K v
 |vs=>vs.all AV.isV=true∧K (.tup vs)
def uq(P:Program)(rs:List ResultVar)(K:AV→or→Prop)(e:AExit)(F:List AV)(H:or):Prop:=
 match e with
 |.exit _=>False
 |_=>Ba P rs F H λvs=>ut vs (K · H)

theorem VE{v:Value}{a:AV}(h:TRel w G v a)(hv:a.isV=true):VRel w G v a:=by cases a <;> first|exact h|(simp[AV.isV]at hv;done)

def Gs(tm:Array Value):ResultVar→Sem Value
 |.tmp t=>pure (tm.getD t undef)
 |.cell a t=>do loadVar t (←asAddr (tm.getD a undef))
theorem zNP(fn:Func)(tm:Array Value):results fn tm=(do
  let vs ←fn.results.mapM (Gs tm)
  pure (if h:vs.size=1 then vs[0] else .tuple vs)):=by
 unfold results;congr 1

theorem N5{tm:Array Value}{F:List AV}(hH:tU B w G H)(hF:FRel w G tm F):∀ (rs:List ResultVar) (K:List AV→Prop),Ba P rs F H K →
  ∃vs asx,(rs.mapM (m:=Sem) (Gs tm)).run P w=.ok vs w∧All2 (TRel w G) vs asx∧K asx
 |[],K,h=>⟨[],[],by simp,trivial,h⟩
 |.tmp t::rs,K,h=>by obtain⟨vs,asx,h1,h2,h3⟩:=N5 hH hF rs _ h;have ht:=uG (a:=⟨tm,[]⟩) hF (.tmp t);exact⟨tm.getD t undef::vs,F.getD t .unk::asx,by simp only[List.mapM_cons,Sem.run_bind,Gs,Sem.run_pure,Result.andThen_ok,h1],⟨ht,h2⟩,h3⟩
 |.cell a t::rs,K,h=>by
  unfold Ba at h;split at h
  ·rename_i g n hg hn;have ht:=uG (a:=⟨tm,[]⟩) hF (.tmp a);have ht:TRel w G (tm.getD a undef) (F.getD a .unk):=ht;obtain⟨u,h1,av,h2,h3⟩:=UJ (K:=λv _=>Ba P rs F H λvs=>K (v::vs)) hH ht hg hn h;obtain⟨vs,asx,k1,k2,k3⟩:=N5 hH hF rs _ h3;refine⟨u::vs,av::asx,?_,⟨h2,k2⟩,k3⟩;have l8:(Gs tm (.cell a t)).run P w=.ok u w:=by
    have hsa:∃x,tm.getD a undef=.pointer (some x):=by
     rw[Ch]at h;split at h
     ·rename_i hx;rw[hx]at ht;obtain⟨b,_,hb⟩:=ht;exact⟨_,hb⟩
     ·rename_i hx;rw[hx]at ht;obtain⟨b,off,hb,_⟩:=ht;exact⟨_,hb⟩
     ·rename_i hx;rw[hx]at ht;obtain⟨⟨b,off,hb⟩,_⟩:=ht;exact⟨_,hb⟩
     ·exact h.elim
    obtain⟨x,hx⟩:=hsa;show ((do loadVar t (←asAddr (tm.getD a undef))):Sem Value).run P w=.ok u w;rw[hx]at h1 ⊢;simpa[Instr.loadAt,Instr.sureAddr,asAddr]using h1
   simp only[List.mapM_cons,Sem.run_bind,l8,Result.andThen_ok,k1,Sem.run_pure]
  ·exact h.elim

theorem zao{M:Nat→List Bool}{f:FuncId}{fn:Func}{c:Code}{args:List AV}{K:AV→or→Prop}(hf:P.funcs[f]?=some fn)(hb:fn.body=some c)(h:HSc H→awp P M c (uq P fn.results.toList K) (args++List.replicate (fn.ntmps-args.length) .unk) H):ge P f args H K:=by
 intro B w G vs hH hv;refine calls_of_wp hf hb ?_;have hF:FRel w G (vs++Array.replicate (fn.ntmps-vs.size) undef) (args++List.replicate (fn.ntmps-args.length) .unk):=by
  unfold FRel;have hl:vs.size=args.length:=by simpa using hv.length
  rw[hl];simpa using hv.append (All2.replicate (R:=TRel w G) (a:=undef) (b:=.unk) trivial (fn.ntmps-args.length))
 refine wp_mono (Cz c _ _ H (h hH.sc) B w G ⟨_,[]⟩ hH hF rfl) λe a' w' hp=>?_;obtain⟨F',H',G',e',rfl,h1,h2,h3,h4,h5⟩:=hp;have fin:(Ba P fn.results.toList F' H' λvs=>ut vs (K · H'))→∃v,(results fn a'.tmps).run P w'=.ok v w'∧∃v' r H'' G'',Ending.returned v=.returned v'∧Ext B w G w' G''∧tU B w' G'' H''∧TRel w' G'' v' r∧K r H'':=by
  intro h5;obtain⟨us,asx,k1,k2,k3⟩:=N5 h2 h3 fn.results.toList _ h5;have kH:(results fn a'.tmps).run P w'=.ok (if hh:us.toArray.size=1 then us.toArray[0] else .tuple us.toArray) w':=by rw[zNP,Sem.run_bind,Array.mapM_eq_mapM_toList,Sem.run_map,k1];rfl
  refine⟨_,kH,(if hh:us.toArray.size=1 then us.toArray[0] else .tuple us.toArray),?_⟩;have hl:=k2.length;unfold ut at k3;split at k3
  ·rename_i r
   match us,hl,k2,kH with
   |[u],_,k2,_=>exact⟨r,H',G',rfl,h1,h2,by simpa using k2.1,k3⟩
  ·rename_i fI;refine⟨.tup asx,H',G',rfl,h1,h2,?_,k3.2⟩;have fP:¬us.toArray.size=1:=by
    intro hs;have:asx.length=1:=by rw[←hl];simpa using hs
    match asx,this with
    |[x],_=>exact fI x rfl
   rw[eK fP];exact⟨us.toArray,rfl,zN (p:=AV.isV) (λ_ _=>VE) k2 k3.1⟩
 cases e' with
 |normal=>exact⟨h4,fin h5⟩
 |ret=>exact⟨h4,fin h5⟩
 |exit id=>exact h5.elim

end
section
open Go.RowKit

variable {P:Program} {B:Nat} {w:World} {G:Gh} {H:or}

theorem DRel.of_flat_at{L:Nat→Nat}{g off size cap:Nat}{es:List (List AV)}{zs:List Value}(fP:∀c∈es,c.length=size)(fI:es≠[])(fZ:es.length≤cap)(hL:off+es.length*size≤L g)(hr:All2 (DRel w L) zs es.flatten)(hc:∀j v,zs[j]?=some v→w.cell? ⟨g,off+j,none⟩=some v):DRel w L (.slice (some ⟨g,off,none⟩) es.length cap) (.sl es .none):=by
 have fJ:∀i j (hi:i<es.length) (hj:j<(es[i]).length),∃v,zs[i*size+j]?=some v∧DRel w L v (es[i])[j]:=λi j hi hj=>hr.get (D4 fP i j hi hj);refine .sl g off cap size es (λi j=>zs.getD (i*size+j) undef) fI fZ hL (λi hi=>fP _ (ae hi)) (λi j hi hj=>?_) (λi j hi hj=>?_)
 ·obtain⟨v,h1,h2⟩:=fJ i j hi hj;simp only[aq,h1,Option.getD_some,aa];exact hc _ _ h1
 ·obtain⟨v,h1,h2⟩:=fJ i j hi hj;simp only[aq,h1,Option.getD_some];exact h2

inductive OutV (H:or) (n:Nat):AV→AV→Prop
 |wk {a b:AV} (h:vK a b) (hv:b.isV=true) (hs:b.ZJ n=true):OutV H n a b
 | frz (id off len cap size:Nat) (cs:List AV) (es:List (List AV)) (fA:n≤id) (hH:H[id]?=some (.cells cs)) (gC:off+len*size≤cs.length)
   (hp:plain ((cs.drop off).take (len*size))=some es.flatten) (fz:es.length=len) (fP:∀c∈es,c.length=size) (fZ:len≤cap):OutV H n (.ms id off len cap) (.sl es .none)
 |vfz (id e size m:Nat) (cs:List AV) (es:List (List AV)) (fA:n≤id) (hH:H[id]?=some (.vec e size m cs)) (hp:plain cs=some es.flatten) (fz:es.length=m) (fP:∀c∈es,c.length=size):OutV H n (.ov id m) (.sl es .none)
inductive OutT (H:or) (n:Nat):AV→AV→Prop
 |one {a b:AV} (h:OutV H n a b):OutT H n a b
 |tup {asx bs:List AV} (h:All2 (OutV H n) asx bs):OutT H n (.tup asx) (.tup bs)

theorem zMc{n:Nat}{b:AV}(hv:b.isV=true)(hs:b.ZJ n=true):b.sc n=true:=by cases b <;> first|exact hs|(simp[AV.isV]at hv;done)

theorem OutV.vrel(hH:tU B w G H){n:Nat}{v:Value}{a b:AV}(h:OutV H n a b)(hr:TRel w G v a):VRel w (G.cut w n) v b:=by
 cases h with
 |wk h hv hs=>exact VE (Vz hH (h.trel hr) (zMc hv hs)) hv
 |frz id off len cap size cs es fA kZ gC hp fz fP fZ=>
  obtain⟨b,hμ,rfl⟩:=hr;have fH:=hH.ok id _ _ kZ hμ;obtain⟨_,_,vs,e,hw,f5⟩:=fH;subst fz;show DRel w (G.cut w n).L _ _;by_cases fI:es=[]
  ·subst fI;exact .slE _ _
  ·have hl:=f5.length;have hd:=Ap ((f5.drop off).take (es.length*size)) hp;refine DRel.of_flat_at (zs:=(vs.toList.drop off).take (es.length*size)) fP fI fZ ?_ (hd.mono λ_ _=>D9 hH) ?_
   ·have:(G.cut w n).L b=vs.size:=by simp only[Gh.cut];rw[aN (cut_dropped.2 ⟨id,_,fA,hμ,rfl⟩),hw]
    rw[this];simp at hl;omega
   ·intro j u hj;rw[bQ]at hj;split at hj
    ·simp only[World.cell?,hw];simpa using hj
    ·cases hj
 |vfz id e size m cs es fA kZ hp fz fP=>
  obtain⟨⟨a,cap0,rfl,_⟩,v',s0,n',hμ,_,heq⟩:=hr;obtain⟨rfl,rfl,⟨xs,fF,f5⟩,_⟩:=hH.ok id _ _ kZ hμ;obtain rfl:=heq rfl;subst fz;show DRel w (G.cut w n).L _ _;by_cases fI:es=[]
  ·subst fI;exact .slE _ _
  ·have mR:=fF;obtain⟨hl,ic⟩:=mR;rcases ic with ⟨h1,h2⟩ | ⟨g,cap,cur,h1,h2,h3,h4,h5,h6,h7⟩
   ·cases es <;> simp_all
   ·simp at h1;obtain⟨rfl,rfl⟩:=h1;obtain⟨_,_,_,fR⟩:=ze fF;refine DRel.of_flat_at (zs:=xs) fP fI h4 ?_ ((Ap f5 hp).mono λ_ _=>D9 hH) ?_
    ·have:(G.cut w n).L g=cur.size:=by simp only[Gh.cut];rw[aN (cut_dropped.2 ⟨id,_,fA,hμ,rfl⟩),h3]
     rw[this,h6,aX];exact aD _ h4
    ·intro j u hj;rw[aX,fR j (by rw[←hl];exact(ac.1 hj).1)];exact hj

theorem zM2(hH:tU B w G H){n:Nat}{asx bs:List AV}(h:All2 (OutV H n) asx bs):∀{vs:List Value},All2 (VRel w G) vs asx→All2 (VRel w (G.cut w n)) vs bs:=by
 induction asx generalizing bs with
 |nil=>
  intro vs hr;cases bs with
  |nil=>cases vs <;> first|trivial|exact hr.elim
  |cons b bs=>exact h.elim
 |cons a asx ih=>
  intro vs hr;cases bs with
  |nil=>exact h.elim
  |cons b bs=>
   cases vs with
   |nil=>exact hr.elim
   |cons v vs=>exact⟨h.1.vrel hH (TRel.of_v hr.1),ih h.2 hr.2⟩

def Out(n:Nat)(K:AV→or→Prop)(r:AV)(H':or):Prop:=∃r2 H2 J,H'=H2++J∧n≤H2.length∧HSc H2∧OutT H' H2.length r r2∧K r2 H2

theorem ge.out{f:FuncId}{args:List AV}{K:AV→or→Prop}(h:ge P f args H (Out H.length K)):ge P f args H K:=by
 intro B w G vs hH hv;refine(h B w G vs hH hv).mono λe w' ⟨v,r,H',G',h1,h2,h3,h4,h5⟩=>?_;obtain⟨r2,H2,J,hJ,hn,hsc,ho,hk⟩:=h5;subst hJ;refine⟨v,r2,H2,G'.cut w' H2.length,h1,Vx h3 h2 (by rw[hH.len];exact hn),h3.cut hsc,?_,hk⟩;cases ho with
 |one ho=>exact TRel.of_v (ho.vrel h3 h4)
 |tup ho=>obtain⟨us,hu,hr⟩:=h4;exact⟨us,hu,zM2 h3 ho hr⟩

theorem Out.same{n:Nat}{K:AV→or→Prop}{r:AV}{J:or}(hn:n=H.length)(hsc:HSc H)(hv:r.isV=true)(hr:r.ZJ H.length=true)(h:K r H):Out n K r (H++J):=
 ⟨r,H,J,rfl,by omega,hsc,.one (.wk (.atom (.refl r)) hv hr),h⟩

theorem tM.own{c:Code}{Q:AExit→List AV→or→Prop}{F:List AV}(i e size:Nat)(hi:F[i]?=some .ZG)(h:tM P c Q (F.set i (.sl [] (.own H.length))) (H++[.perm e size 0])):tM P c Q F H:=by
 intro B w G a hH hF hd;obtain⟨hE,f7⟩:=hH.newOwn e size;have oS:FRel w ⟨G.L,G.μ++[.own (.slice none 0 0) size 0]⟩ a.tmps (F.set i (.sl [] (.own H.length))):=by
  unfold FRel;obtain⟨v,h1,h2⟩:=All2.get hF hi;have h2:v=.slice none 0 0:=h2;subst h2;have fW:a.tmps.toList=a.tmps.toList.set i (.slice none 0 0):=by
   apply aU;intro k;by_cases hk:k=i
   ·subst hk;rw[ak (ac.1 h1).1];exact h1
   ·rw[aj (λh=>hk h.symm)]
  rw[fW];refine All2.set i (hF.ext hE) ?_;refine⟨.slE _ _,.slice none 0 0,size,0,?_,af _,λ_=>⟨rfl,by simp⟩⟩;rw[←hH.len];simp
 refine wp_mono (h B w _ a f7 oS hd) λe a' w' hp=>?_;obtain⟨F'',H'',G'',e'',rfl,k1,k2,k3,k4,k5⟩:=hp;exact⟨F'',H'',G'',e'',rfl,hE.trans k1,k2,k3,k4,k5⟩

def yV(w:World)(b:Nat):Nat:=match w.heap[b]? with|some (.cells c _ _)=>c.size|_=>0
def G0(w:World):Gh:=⟨yV w,[]⟩

theorem zL6(w:World):tU w.heap.size w (G0 w) []:=
 ⟨rfl,λ_ _ _ h=>by simp at h,λ_ _ _ _ _ h=>by simp[G0]at h,λb hb=>by simp[G0,yV,eQ hb],λ_ _ _ h=>by simp[G0]at h,af _⟩

theorem zPB{f:FuncId}{args:List AV}(h:ge P f args [] λr _=>r=.bool true)(w:World)(vs:Array Value)(hv:All2 (TRel w (G0 w)) vs.toList args):
  Calls P f vs w λe w'=>e=.returned (.bool true)∧Below w.heap.size w w':=by
 refine(h _ w (G0 w) vs (zL6 w) hv).mono λe w' ⟨v,r,H',G',h1,h2,h3,h4,h5⟩=>?_;subst h5;have h4:v=.bool true:=h4;subst h4;exact⟨h1,h2.below⟩

end
abbrev Kt:=AV→or→Prop
abbrev Lt:=List AV→or→Prop
def ux:Nat→List AV→List AV
 |0,l=>l
 |n+1,l=>.unk::ux n l
@[simp] theorem yjh(m n:Nat)(l:List AV):(ux n l).all (AV.sc m)=l.all (AV.sc m):=by
 induction n with
 |zero=>rfl
 |succ n ih=>rw[ux,List.all_cons,ih];rfl
def rl:Bool→List Nat→List Bool
 |_,[]=>[]
 |b,n::l=>List.replicate n b++rl (!b) l
section
open Go.RowKit
variable {P:Program} {M:Nat→List Bool} {c:Code} {Q:AExit→List AV→or→Prop} {H:or}
def Rd1(fr:AV→List AV)(bd:AV→or→Lt→Prop)(H:or)(Inv:Nat→AV→or→Prop):Prop:=
 ∀n t0 H',Inv n t0 H'→HSc H'→H.length≤H'.length→(fr t0).all (AV.sc H'.length)=true→∀Kb:Lt,(∀F'' H'',(∃n',n'<n∧Back H.length (λF2 H2=>∃t0,F2=fr t0∧Inv n' t0 H2) F'' H'')→Kb F'' H'')→bd t0 H' Kb
theorem lp1{fr:AV→List AV}{bd:AV→or→Lt→Prop}(m:List Bool)(t0:AV)(he:(λt0 H Kb=>awp P M c (vz m Kb Q) (fr t0) H)=bd)(Inv:Nat→AV→or→Prop)(n:Nat)(h0:HSc H→Inv n t0 H)(fm:Rd1 fr bd H Inv):tM P c Q (fr t0) H:=by subst he;exact N4 (M:=M) m (λn F H=>∃t0,F=fr t0∧Inv n t0 H) n (λhs _=>⟨t0,rfl,h0 hs⟩) (λn F H' ⟨t0,hF,hI⟩ h1 h2 h3=>by subst hF;exact fm n t0 H' hI h1 h2 h3 _ (λ_ _ h=>h))
def Rd2(fr:AV→AV→List AV)(bd:AV→AV→or→Lt→Prop)(H:or)(Inv:Nat→AV→AV→or→Prop):Prop:=
 ∀n t0 t1 H',Inv n t0 t1 H'→HSc H'→H.length≤H'.length→(fr t0 t1).all (AV.sc H'.length)=true→∀Kb:Lt,(∀F'' H'',(∃n',n'<n∧Back H.length (λF2 H2=>∃t0 t1,F2=fr t0 t1∧Inv n' t0 t1 H2) F'' H'')→Kb F'' H'')→bd t0 t1 H' Kb
theorem lp2{fr:AV→AV→List AV}{bd:AV→AV→or→Lt→Prop}(m:List Bool)(t0 t1:AV)(he:(λt0 t1 H Kb=>awp P M c (vz m Kb Q) (fr t0 t1) H)=bd)(Inv:Nat→AV→AV→or→Prop)(n:Nat)(h0:HSc H→Inv n t0 t1 H)(fm:Rd2 fr bd H Inv):tM P c Q (fr t0 t1) H:=by subst he;exact N4 (M:=M) m (λn F H=>∃t0 t1,F=fr t0 t1∧Inv n t0 t1 H) n (λhs _=>⟨t0,t1,rfl,h0 hs⟩) (λn F H' ⟨t0,t1,hF,hI⟩ h1 h2 h3=>by subst hF;exact fm n t0 t1 H' hI h1 h2 h3 _ (λ_ _ h=>h))
def Rd3(fr:AV→AV→AV→List AV)(bd:AV→AV→AV→or→Lt→Prop)(H:or)(Inv:Nat→AV→AV→AV→or→Prop):Prop:=
 ∀n t0 t1 t2 H',Inv n t0 t1 t2 H'→HSc H'→H.length≤H'.length→(fr t0 t1 t2).all (AV.sc H'.length)=true→∀Kb:Lt,(∀F'' H'',(∃n',n'<n∧Back H.length (λF2 H2=>∃t0 t1 t2,F2=fr t0 t1 t2∧Inv n' t0 t1 t2 H2) F'' H'')→Kb F'' H'')→bd t0 t1 t2 H' Kb
theorem lp3{fr:AV→AV→AV→List AV}{bd:AV→AV→AV→or→Lt→Prop}(m:List Bool)(t0 t1 t2:AV)(he:(λt0 t1 t2 H Kb=>awp P M c (vz m Kb Q) (fr t0 t1 t2) H)=bd)(Inv:Nat→AV→AV→AV→or→Prop)(n:Nat)(h0:HSc H→Inv n t0 t1 t2 H)(fm:Rd3 fr bd H Inv):tM P c Q (fr t0 t1 t2) H:=by subst he;exact N4 (M:=M) m (λn F H=>∃t0 t1 t2,F=fr t0 t1 t2∧Inv n t0 t1 t2 H) n (λhs _=>⟨t0,t1,t2,rfl,h0 hs⟩) (λn F H' ⟨t0,t1,t2,hF,hI⟩ h1 h2 h3=>by subst hF;exact fm n t0 t1 t2 H' hI h1 h2 h3 _ (λ_ _ h=>h))
def Lo1(fr:AV→List AV)(bd:AV→or→Lt→Prop)(t0:AV)(H:or)(G:Prop):Prop:=∀(Inv:Nat→AV→or→Prop) (n:Nat) (h0:HSc H→Inv n t0 H) (fm:Rd1 fr bd H Inv),G
theorem lq1{P:Program}{c:Code}{Q:AExit→List AV→or→Prop}{H:or}{fr:AV→List AV}{bd:AV→or→Lt→Prop}{t0:AV}(M:Nat→List Bool)(m:List Bool)(he:(λt0 H Kb=>awp P M c (vz m Kb Q) (fr t0) H)=bd:=by kernel_rfl):Lo1 fr bd t0 H (tM P c Q (fr t0) H):=λI n h r=>lp1 (M:=M) m t0 he I n h r
def Lo2(fr:AV→AV→List AV)(bd:AV→AV→or→Lt→Prop)(t0 t1:AV)(H:or)(G:Prop):Prop:=∀(Inv:Nat→AV→AV→or→Prop) (n:Nat) (h0:HSc H→Inv n t0 t1 H) (fm:Rd2 fr bd H Inv),G
theorem lq2{P:Program}{c:Code}{Q:AExit→List AV→or→Prop}{H:or}{fr:AV→AV→List AV}{bd:AV→AV→or→Lt→Prop}{t0 t1:AV}(M:Nat→List Bool)(m:List Bool)(he:(λt0 t1 H Kb=>awp P M c (vz m Kb Q) (fr t0 t1) H)=bd:=by kernel_rfl):Lo2 fr bd t0 t1 H (tM P c Q (fr t0 t1) H):=λI n h r=>lp2 (M:=M) m t0 t1 he I n h r
def Lo3(fr:AV→AV→AV→List AV)(bd:AV→AV→AV→or→Lt→Prop)(t0 t1 t2:AV)(H:or)(G:Prop):Prop:=∀(Inv:Nat→AV→AV→AV→or→Prop) (n:Nat) (h0:HSc H→Inv n t0 t1 t2 H) (fm:Rd3 fr bd H Inv),G
theorem lq3{P:Program}{c:Code}{Q:AExit→List AV→or→Prop}{H:or}{fr:AV→AV→AV→List AV}{bd:AV→AV→AV→or→Lt→Prop}{t0 t1 t2:AV}(M:Nat→List Bool)(m:List Bool)(he:(λt0 t1 t2 H Kb=>awp P M c (vz m Kb Q) (fr t0 t1 t2) H)=bd:=by kernel_rfl):Lo3 fr bd t0 t1 t2 H (tM P c Q (fr t0 t1 t2) H):=λI n h r=>lp3 (M:=M) m t0 t1 t2 he I n h r
def apu(H:or)(p:(AV→Prop)→Prop)(K:AV→Prop):Prop:=ub H (λK'=>p λv=>K' v H) K
def apm(H:or)(x:AV)(K:AV→Prop):Prop:=ub H (λK'=>K' x H) K
def agu(c:AV)(w:Bool)(H:or)(p:(AV→Prop)→Prop)(K:AV→or→Prop):Prop:=ui c w H (λK'=>p λv=>K' v H) K
def agm(c:AV)(w:Bool)(H:or)(x:AV)(K:AV→or→Prop):Prop:=ui c w H (λK'=>K' x H) K
def agc(P:Program)(c:AV)(w:Bool)(H:or)(f:FuncId)(a:List AV)(K:AV→or→Prop):Prop:=ui c w H (λK'=>ge P f a H K') K
def apc(P:Program)(H:or)(f:FuncId)(a:List AV)(K:AV→Prop):Prop:=xZ H (λH K'=>ge P f a H K') K
@[congr] theorem yhY{c c':AV}{w:Bool}{H H':or}{p:(AV→Prop)→Prop}{k:AV→or→Prop}(h:c=c')(e:H=H'):agu c w H p k=agu c' w H' p k:=by rw[h,e]
@[congr] theorem yhW{c c':AV}{w:Bool}{H H':or}{x:AV}{k:AV→or→Prop}(h:c=c')(e:H=H'):agm c w H x k=agm c' w H' x k:=by rw[h,e]
@[congr] theorem yhU{P:Program}{c c':AV}{w:Bool}{H H':or}{f:FuncId}{a:List AV}{k:AV→or→Prop}(h:c=c')(e:H=H'):agc P c w H f a k=agc P c' w H' f a k:=by rw[h,e]
@[congr] theorem yh0{P:Program}{H H':or}{f:FuncId}{a:List AV}{k:AV→Prop}(e:H=H'):apc P H f a k=apc P H' f a k:=by rw[e]
@[simp] theorem yhZ{c:AV}{w:Bool}{H:or}{p:(AV→Prop)→Prop}{k:AV→or→Prop}:agu c w H p k=ui c w H (λK'=>p λv=>K' v H) k:=rfl
@[simp] theorem yhX{c:AV}{w:Bool}{H:or}{x:AV}{k:AV→or→Prop}:agm c w H x k=ui c w H (λK'=>K' x H) k:=rfl
@[simp] theorem yhV{P:Program}{c:AV}{w:Bool}{H:or}{f:FuncId}{a:List AV}{k:AV→or→Prop}:agc P c w H f a k=ui c w H (λK'=>ge P f a H K') k:=rfl
@[simp] theorem yh1{P:Program}{H:or}{f:FuncId}{a:List AV}{k:AV→Prop}:apc P H f a k=xZ H (λH K'=>ge P f a H K') k:=rfl
@[congr] theorem yh4{H:or}{p:(AV→Prop)→Prop}{k:AV→Prop}:apu H p k=apu H p k:=rfl
@[congr] theorem yh2{H:or}{x:AV}{k:AV→Prop}:apm H x k=apm H x k:=rfl
@[simp] theorem yh5{H:or}{p:(AV→Prop)→Prop}{k:AV→Prop}:apu H p k=ub H (λK'=>p λv=>K' v H) k:=rfl
@[simp] theorem yh3{H:or}{x:AV}{k:AV→Prop}:apm H x k=k x:=by simp[apm,ub]
end
end Go.Proofs.YtdmamdnkcefmmaaGreatDoor

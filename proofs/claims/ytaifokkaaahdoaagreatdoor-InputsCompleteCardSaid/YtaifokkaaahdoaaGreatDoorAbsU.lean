import Derived.Test.YtaifokkaaahdoaaGreatDoorAbsL
import Derived.IntWalk
set_option linter.unusedSimpArgs false
set_option linter.unusedVariables false
set_option linter.unusedSectionVars false
set_option maxRecDepth 8000
namespace Go.Abs
open Go Go.RowKit

variable {P:Program} {B:Nat} {w:World} {G:Gh} {H:zaa}

def AV.scB(n:Nat):AV→Bool
 |.ptr id _=>decide (id<n)
 |.ms id _ _ _=>decide (id<n)
 |.ov id _=>decide (id<n)
 |.vp id _ _=>decide (id<n)
 |.os id _ _ _=>decide (id<n)
 |.map id=>decide (id<n)
 |.sl _ (.own id)=>decide (id<n)
 |_=>true
def AV.scA(n:Nat):AV→Bool
 |.fn _ caps=>caps.all (AV.scB n)
 |a=>a.scB n
def AV.scV(n:Nat):AV→Bool
 |.agg cs=>cs.all (AV.scA n)
 |a=>a.scA n
def AV.sc(n:Nat):AV→Bool
 |.tup vs=>vs.all (AV.scV n)
 |a=>a.scV n
def AB.sc(n:Nat):AB→Bool
 |.cells cs=>cs.all (AV.scA n)
 |.map kvs=>kvs.all λp=>p.2.scV n
 |.mapP kvs=>kvs.all λp=>p.2.scV n
 |.bld _ cs=>cs.all (AV.scA n)
 |.vec _ _ _ cs=>cs.all (AV.scA n)
 |_=>true
def HSc(H:zaa):Prop:=∀b∈H,b.sc H.length=true

theorem lt_of_μ{id:Nat}{gi:GI}(h:G.μ[id]?=some gi):id<G.μ.length:=(List.getElem?_eq_some_iff.1 h).1

theorem BRel.sc{v:Value}{a:AV}(h:BRel w G v a):a.scB G.μ.length=true:=by
 cases a with
 |ptr id off=>obtain⟨b,h1,_⟩:=h;simpa[AV.scB]using lt_of_μ h1
 |ms id off len cap=>obtain⟨b,h1,_⟩:=h;simpa[AV.scB]using lt_of_μ h1
 |ov id n=>obtain⟨_,v',s,n',h1,_⟩:=h;simpa[AV.scB]using lt_of_μ h1
 |vp id n off=>obtain⟨_,v',s,n',h1,_⟩:=h;simpa[AV.scB]using lt_of_μ h1
 |os id n l e=>obtain⟨_,v',s,n',h1,_⟩:=h;simpa[AV.scB]using lt_of_μ h1
 |map id=>obtain⟨b,h1,_⟩:=h;simpa[AV.scB]using lt_of_μ h1
 |sl es tok=>
  cases tok with
  |own id=>obtain⟨_,v',s,n,h1,_⟩:=h;simpa[AV.scB]using lt_of_μ h1
  |none=>rfl
  |full=>rfl
 |_=>rfl
theorem All2.all_of{R:Value→AV→Prop}{p:AV→Bool}(hp:∀ v a,R v a→p a=true):∀ {vs:List Value} {asx:List AV},All2 R vs asx→asx.all p=true
 |[],[],_=>rfl
 |_::_,_::_,h=>by simp only[List.all_cons,Bool.and_eq_true];exact⟨hp _ _ h.1,All2.all_of hp h.2⟩
theorem ARel.sc{v:Value}{a:AV}(h:ARel w G v a):a.scA G.μ.length=true:=by
 have hb:∀{x:AV},BRel w G v x→x.scB G.μ.length=true:=λh=>h.sc;cases a with
 |fn f caps=>obtain⟨vs,_,h2⟩:=h;exact All2.all_of (λv a (h:BRel w G v a)=>h.sc) h2
 |unk=>exact hb (x:=.unk) h
 |bool b=>exact hb (x:=.bool b) h
 |int k n=>exact hb (x:=.int k n) h
 |str s=>exact hb (x:=.str s) h
 |nilp=>exact hb (x:=.nilp) h
 |ptr i o=>exact hb (x:=.ptr i o) h
 |view cs=>exact hb (x:=.view cs) h
 |snil=>exact hb (x:=.snil) h
 |sl es t=>exact hb (x:=.sl es t) h
 |ms i o l c=>exact hb (x:=.ms i o l c) h
 |ov i n=>exact hb (x:=.ov i n) h
 |vp i n o=>exact hb (x:=.vp i n o) h
 |os i n l e=>exact hb (x:=.os i n l e) h
 |map i=>exact hb (x:=.map i) h
 |nilfn=>exact hb (x:=.nilfn) h
 |nili=>exact hb (x:=.nili) h
 |ifc=>exact hb (x:=.ifc) h
 |agg cs=>exact hb (x:=.agg cs) h
 |tup vs=>exact hb (x:=.tup vs) h
theorem VRel.sc{v:Value}{a:AV}(h:VRel w G v a):a.scV G.μ.length=true:=by
 have ha:∀{x:AV},ARel w G v x→x.scA G.μ.length=true:=λh=>h.sc;cases a with
 |agg cs=>obtain⟨vs,_,h2⟩:=h;exact All2.all_of (λv a (h:ARel w G v a)=>h.sc) h2
 |fn f caps=>exact ha (x:=.fn f caps) h
 |unk=>rfl
 |bool b=>rfl
 |int k n=>rfl
 |str s=>rfl
 |nilp=>rfl
 |ptr i o=>exact ha (x:=.ptr i o) h
 |view cs=>rfl
 |snil=>rfl
 |sl es t=>exact ha (x:=.sl es t) h
 |ms i o l c=>exact ha (x:=.ms i o l c) h
 |ov i n=>exact ha (x:=.ov i n) h
 |vp i n o=>exact ha (x:=.vp i n o) h
 |os i n l e=>exact ha (x:=.os i n l e) h
 |map i=>exact ha (x:=.map i) h
 |nilfn=>rfl
 |nili=>rfl
 |ifc=>rfl
 |tup vs=>exact ha (x:=.tup vs) h
theorem ERel.sc{e:MapEntry}{p:List UInt8×AV}(h:ERel w G e p):p.2.scV G.μ.length=true:=h.2.sc
theorem ERelP.sc{e:MapEntry}{p:(Int×Int)×AV}(h:ERelP w G e p):p.2.scV G.μ.length=true:=h.2.sc
theorem All2.all_ents{p:AV→Bool}{R:MapEntry→List UInt8 × AV→Prop}(hp:∀ v a,R v a→p a.2=true):∀ {vs:List MapEntry} {asx:List (List UInt8 × AV)},All2 R vs asx→(asx.all λa=>p a.2)=true
 |[],[],_=>rfl
 |_::_,_::_,h=>by simp only[List.all_cons,Bool.and_eq_true];exact⟨hp _ _ h.1,All2.all_ents hp h.2⟩
theorem All2.all_entsP{p:AV→Bool}{R:MapEntry→(Int × Int) × AV→Prop}(hp:∀ v a,R v a→p a.2=true):∀ {vs:List MapEntry} {asx:List ((Int × Int) × AV)},All2 R vs asx→(asx.all λa=>p a.2)=true
 |[],[],_=>rfl
 |_::_,_::_,h=>by simp only[List.all_cons,Bool.and_eq_true];exact⟨hp _ _ h.1,All2.all_entsP hp h.2⟩
theorem HRel.sc(h:HRel B w G H):HSc H:=by
 intro ab hab;obtain⟨id,hid⟩:=List.mem_iff_getElem?.1 hab;have hlt:id<G.μ.length:=by rw[h.len];exact(List.getElem?_eq_some_iff.1 hid).1
 have hok:=h.ok id ab _ hid (List.getElem?_eq_getElem hlt);cases ab with
 |cells cs=>
  cases hg:G.μ[id] with
  |blk b=>rw[hg]at hok;obtain⟨_,_,vs,e,_,h2⟩:=hok;have:=All2.all_of (λv a (h:ARel w G v a)=>h.sc) h2;rw[h.len]at this;exact this
  |own v s n=>rw[hg]at hok;exact hok.elim
  |gap=>rw[hg]at hok;exact hok.elim
 |vec e s n cs=>
  cases hg:G.μ[id] with
  |blk b=>rw[hg]at hok;exact hok.elim
  |own v s n=>rw[hg]at hok;obtain⟨_,_,⟨xs,_,h2⟩,_⟩:=hok;have:=All2.all_of (λv a (h:ARel w G v a)=>h.sc) h2;rw[h.len]at this;exact this
  |gap=>rw[hg]at hok;exact hok.elim
 |bld t cs=>
  cases hg:G.μ[id] with
  |blk b=>rw[hg]at hok;obtain⟨_,_,vs,_,h2⟩:=hok;have:=All2.all_of (λv a (h:ARel w G v a)=>h.sc) h2;rw[h.len]at this;exact this
  |own v s n=>rw[hg]at hok;exact hok.elim
  |gap=>rw[hg]at hok;exact hok.elim
 |map kvs=>
  cases hg:G.μ[id] with
  |blk b=>rw[hg]at hok;obtain⟨_,_,es,clk,_,h2⟩:=hok;have:=All2.all_ents (p:=AV.scV G.μ.length) (λv a (h:ERel w G v a)=>h.sc) h2;rw[h.len]at this;exact this
  |own v s n=>rw[hg]at hok;exact hok.elim
  |gap=>rw[hg]at hok;exact hok.elim
 |mapP kvs=>
  cases hg:G.μ[id] with
  |blk b=>rw[hg]at hok;obtain⟨_,_,es,clk,_,h2⟩:=hok;have:=All2.all_entsP (p:=AV.scV G.μ.length) (λv a (h:ERelP w G v a)=>h.sc) h2;rw[h.len]at this;exact this
  |own v s n=>rw[hg]at hok;exact hok.elim
  |gap=>rw[hg]at hok;exact hok.elim
 |perm e s n=>rfl
 |gap=>rfl
 |dead=>rfl
 |nodr=>rfl
 |fact φ=>rfl
 |frz e s n=>rfl

def Gh.cut(G:Gh)(w:World)(n:Nat):Gh:=
 ⟨λb=>if (G.μ.drop n).any (λgi=>gi.block == some b)=true then (match w.heap[b]? with|some (.cells c _ _)=>c.size|_=>0) else G.L b,G.μ.take n⟩

theorem ze0{n id:Nat}(h:id<n):(G.cut w n).μ[id]?=G.μ[id]?:=by simp[Gh.cut,h]
theorem zhu{n id:Nat}{gi:GI}(h:(G.cut w n).μ[id]?=some gi):id<n∧G.μ[id]?=some gi:=by
 simp only[Gh.cut,List.getElem?_take]at h;split at h
 ·rename_i hlt;exact⟨hlt,h⟩
 ·cases h
theorem cut_dropped{n b:Nat}:((G.μ.drop n).any (λgi=>gi.block == some b)=true)↔∃id gi,n≤id∧G.μ[id]?=some gi∧gi.block=some b:=by
 rw[List.any_eq_true];constructor
 ·rintro⟨gi,h1,h2⟩;obtain⟨k,hk⟩:=List.mem_iff_getElem?.1 h1;rw[List.getElem?_drop]at hk;exact⟨n+k,gi,by omega,hk,by simpa using h2⟩
 ·rintro⟨id,gi,h1,h2,h3⟩;refine⟨gi,List.mem_iff_getElem?.2 ⟨id-n,?_⟩,by simp[h3]⟩;rw[List.getElem?_drop,show n+(id-n)=id by omega];exact h2

theorem zn3(h:HRel B w G H)(n b:Nat):G.L b≤(G.cut w n).L b:=by
 simp only[Gh.cut];split
 ·rename_i hd;obtain⟨id,gi,_,hid,hb0⟩:=cut_dropped.1 hd;have hlt:id<H.length:=by rw[←h.len];exact lt_of_μ hid
  have hok:=h.ok id _ _ (List.getElem?_eq_getElem hlt) hid;cases gi with
  |gap=>cases hb0
  |blk x=>
   simp[GI.block]at hb0;subst hb0;cases hb:H[id] with
   |cells cs=>rw[hb]at hok;rw[hok.2.1];exact Nat.zero_le _
   |perm e s n=>rw[hb]at hok;exact hok.elim
   |map kvs=>rw[hb]at hok;rw[hok.2.1];exact Nat.zero_le _
   |mapP kvs=>rw[hb]at hok;rw[hok.2.1];exact Nat.zero_le _
   |bld t cs=>rw[hb]at hok;rw[hok.2.1];exact Nat.zero_le _
   |vec e s n cs=>rw[hb]at hok;exact hok.elim
   |gap=>rw[hb]at hok;exact hok.elim
   |dead=>rw[hb]at hok;obtain⟨vs,e,fr,h1,h2⟩:=hok;rw[h1];exact h2
   |frz e s n=>rw[hb]at hok;exact hok.elim
   |nodr=>rw[hb]at hok;exact hok.elim
   |fact φ=>rw[hb]at hok;exact hok.elim
  |own v s n=>
   simp only[GI.block]at hb0;have big:∀{e m:Nat} {xs:List Value},w.ownsRow B e s v m xs→m*s≤(match w.heap[b]? with|some (.cells c _ _)=>c.size|_=>0):=by
    rintro e m xs ⟨hl,h1|⟨g,cap,cur,rfl,h1,h2,h3,h4,h5,h6⟩⟩
    ·rw[h1.1]at hb0;cases hb0
    ·simp[Value.ownBlock]at hb0;subst hb0;rw[h2];simp only[h5];exact Nat.mul_le_mul_right _ h3
   cases hb:H[id] with
   |perm e s' n'=>rw[hb]at hok;obtain⟨rfl,rfl,⟨xs,hx⟩,hL⟩:=hok;rw[hL b hb0];exact big hx
   |vec e s' n' cs=>rw[hb]at hok;obtain⟨rfl,rfl,_,hL⟩:=hok;rw[hL b hb0];exact Nat.zero_le _
   |cells cs=>rw[hb]at hok;exact hok.elim
   |map kvs=>rw[hb]at hok;exact hok.elim
   |mapP kvs=>rw[hb]at hok;exact hok.elim
   |bld t cs=>rw[hb]at hok;exact hok.elim
   |gap=>rw[hb]at hok;exact hok.elim
   |frz e s' n'=>rw[hb]at hok;obtain⟨g,cap,vs,fr,rfl,rfl,rfl,h1,h2,h3,h4,h5,h6⟩:=hok;simp[Value.ownBlock]at hb0;subst hb0;rw[h1,h3];simp only[h6];exact Nat.mul_le_mul_right _ h4
   |nodr=>rw[hb]at hok;rw[hok]at hb0;cases hb0
   |fact φ=>rw[hb]at hok;exact hok.elim
   |dead=>rw[hb]at hok;obtain⟨vs,e,fr,h1,h2⟩:=hok b hb0;rw[h1];exact h2
 ·exact Nat.le_refl _


theorem zev(h:HRel B w G H){n id:Nat}{gi:GI}{b:Nat}(hn:id<n)(hid:G.μ[id]?=some gi)(hb:gi.block=some b):(G.cut w n).L b=G.L b:=by
 simp only[Gh.cut];split
 ·rename_i hd;obtain⟨id',gi',h1,h2,h3⟩:=cut_dropped.1 hd;have:=h.dist id id' gi _ b hid h2 hb h3;omega
 ·rfl

theorem zn2(h:HRel B w G H){w0:World}{G0:Gh}{n:Nat}(hE:Ext B w0 G0 w G)(hn:G0.μ.length≤n):Ext B w0 G0 w (G.cut w n):=
 ⟨⟨hE.dr.le,λhn=>hE.dr.nn (by obtain⟨s,m,hn⟩:=hn;exact⟨s,m,(zhu hn).2⟩)⟩,hE.below,λb=>Nat.le_trans (hE.lev b) (zn3 h n b),hE.cell,λid gi hg=>by
  obtain⟨g',h1,h2⟩:=hE.ids id gi hg;exact⟨g',by rw[ze0 (Nat.lt_of_lt_of_le (lt_of_μ hg) hn)];exact h1,h2⟩⟩

theorem zht(h:HRel B w G H){n:Nat}{v:Value}{a:AV}(hd:DRel w G.L v a):DRel w (G.cut w n).L v a:=hd.mono (λb=>zn3 h n b) (λ_ _ _=>rfl)
theorem zue(h:HRel B w G H){n:Nat}{v:Value}{a:AV}(hr:BRel w G v a)(hs:a.scB n=true):BRel w (G.cut w n) v a:=by
 cases a with
 |ptr id off=>obtain⟨b,h1,h2⟩:=hr;simp[AV.scB]at hs;exact⟨b,by rw[ze0 hs];exact h1,h2⟩
 |ms id off len cap=>obtain⟨b,h1,h2⟩:=hr;simp[AV.scB]at hs;exact⟨b,by rw[ze0 hs];exact h1,h2⟩
 |map id=>obtain⟨b,h1,h2⟩:=hr;simp[AV.scB]at hs;exact⟨b,by rw[ze0 hs];exact h1,h2⟩
 |ov id m=>obtain⟨h0,v',s,m',h1,h2⟩:=hr;simp[AV.scB]at hs;exact⟨h0,v',s,m',by rw[ze0 hs];exact h1,h2⟩
 |vp id m off=>obtain⟨h0,v',s,m',h1,h2⟩:=hr;simp[AV.scB]at hs;exact⟨h0,v',s,m',by rw[ze0 hs];exact h1,h2⟩
 |os id m l e=>obtain⟨h0,v',s,m',h1,h2⟩:=hr;simp[AV.scB]at hs;exact⟨h0,v',s,m',by rw[ze0 hs];exact h1,h2⟩
 |view cs=>obtain⟨b,off,h1,h2⟩:=hr;exact⟨b,off,h1,h2.mono (λb=>zn3 h n b) (λ_ _ _=>rfl)⟩
 |sl es tok=>
  cases tok with
  |none=>exact zht h hr
  |full=>exact⟨zht h hr.1,hr.2⟩
  |own id=>obtain⟨h1,v',s,m,h2,h3⟩:=hr;simp[AV.scB]at hs;exact⟨zht h h1,v',s,m,by rw[ze0 hs];exact h2,h3⟩
 |_=>exact hr
theorem zeu{R R':Value→AV→Prop}{p:AV→Bool}(hp:∀ v a,R v a→p a=true→R' v a):∀ {vs:List Value} {asx:List AV},All2 R vs asx→asx.all p=true→All2 R' vs asx
 |[],[],_,_=>trivial
 |_::_,_::_,h,hs=>by simp only[List.all_cons,Bool.and_eq_true]at hs;exact⟨hp _ _ h.1 hs.1,zeu hp h.2 hs.2⟩
theorem zhs(h:HRel B w G H){n:Nat}{v:Value}{a:AV}(hr:ARel w G v a)(hs:a.scA n=true):ARel w (G.cut w n) v a:=by
 cases a with
 |fn f caps=>obtain⟨vs,h1,h2⟩:=hr;exact⟨vs,h1,zeu (p:=AV.scB n) (λ_ _=>zue h) h2 hs⟩
 |_=>exact ARel.of_b (zue h hr hs)
theorem zjv(h:HRel B w G H){n:Nat}{v:Value}{a:AV}(hr:VRel w G v a)(hs:a.scV n=true):VRel w (G.cut w n) v a:=by
 cases a with
 |agg cs=>obtain⟨vs,h1,h2⟩:=hr;exact⟨vs,h1,zeu (p:=AV.scA n) (λ_ _=>zhs h) h2 hs⟩
 |_=>exact VRel.of_a (zhs h hr hs)
theorem zuh(h:HRel B w G H){n:Nat}{v:Value}{a:AV}(hr:TRel w G v a)(hs:a.sc n=true):TRel w (G.cut w n) v a:=by
 cases a with
 |tup cs=>obtain⟨vs,h1,h2⟩:=hr;exact⟨vs,h1,zeu (p:=AV.scV n) (λ_ _=>zjv h) h2 hs⟩
 |_=>exact TRel.of_v (zjv h hr hs)

theorem zuf{G':Gh}{p:AV→Bool}(hp:∀ v a,VRel w G v a→p a=true→VRel w G' v a):∀ {es:List MapEntry} {kvs:List (List UInt8 × AV)},All2 (ERel w G) es kvs→(kvs.all λa=>p a.2)=true→All2 (ERel w G') es kvs
 |[],[],_,_=>trivial
 |_::_,_::_,h,hs=>by simp only[List.all_cons,Bool.and_eq_true]at hs;exact⟨⟨h.1.1,hp _ _ h.1.2 hs.1⟩,zuf hp h.2 hs.2⟩
theorem zug{G':Gh}{p:AV→Bool}(hp:∀ v a,VRel w G v a→p a=true→VRel w G' v a):∀ {es:List MapEntry} {kvs:List ((Int × Int) × AV)},All2 (ERelP w G) es kvs→(kvs.all λa=>p a.2)=true→All2 (ERelP w G') es kvs
 |[],[],_,_=>trivial
 |_::_,_::_,h,hs=>by simp only[List.all_cons,Bool.and_eq_true]at hs;exact⟨⟨h.1.1,hp _ _ h.1.2 hs.1⟩,zug hp h.2 hs.2⟩
theorem HRel.cut{J:zaa}(h:HRel B w G (H++J))(hs:HSc H):HRel B w (G.cut w H.length) H:=by
 refine⟨?_,?_,?_,?_,?_,h.base⟩
 ·have:=h.len;simp[Gh.cut]at this ⊢;omega
 ·intro id ab gi h1 h2;obtain⟨hlt,h2⟩:=zhu h2;have hok:=h.ok id ab gi (by rw[List.getElem?_append_left hlt];exact h1) h2;have hsc:=hs ab (List.mem_iff_getElem?.2 ⟨id,h1⟩);cases ab with
  |cells cs=>
   cases gi with
   |blk b=>obtain⟨k1,k2,vs,e,k3,k4⟩:=hok;exact⟨k1,by rw[zev h hlt h2 rfl];exact k2,vs,e,k3,zeu (p:=AV.scA H.length) (λ_ _=>zhs h) k4 hsc⟩
   |own v s n=>exact hok.elim
   |gap=>exact hok.elim
  |perm e s n=>
   cases gi with
   |blk b=>exact hok.elim
   |gap=>exact hok.elim
   |own v s' n'=>obtain⟨k1,k2,k3,k4⟩:=hok;exact⟨k1,k2,k3,λb hb=>by rw[zev h hlt h2 (by simpa[GI.block]using hb)];exact k4 b hb⟩
  |vec e s n cs=>
   cases gi with
   |blk b=>exact hok.elim
   |gap=>exact hok.elim
   |own v s' n'=>obtain⟨k1,k2,⟨xs,k3,k5⟩,k4⟩:=hok;exact⟨k1,k2,⟨xs,k3,zeu (p:=AV.scA H.length) (λ_ _=>zhs h) k5 hsc⟩,λb hb=>by rw[zev h hlt h2 (by simpa[GI.block]using hb)];exact k4 b hb⟩
  |map kvs=>
   cases gi with
   |blk b=>obtain⟨k1,k2,es,clk,k3,k4⟩:=hok;exact⟨k1,by rw[zev h hlt h2 rfl];exact k2,es,clk,k3,zuf (λ_ _ h1 h2=>zjv h h1 h2) k4 hsc⟩
   |own v s n=>exact hok.elim
   |gap=>exact hok.elim
  |mapP kvs=>
   cases gi with
   |blk b=>obtain⟨k1,k2,es,clk,k3,k4⟩:=hok;exact⟨k1,by rw[zev h hlt h2 rfl];exact k2,es,clk,k3,zug (λ_ _ h1 h2=>zjv h h1 h2) k4 hsc⟩
   |own v s n=>exact hok.elim
   |gap=>exact hok.elim
  |gap=>
   cases gi with
   |blk b=>exact hok.elim
   |own v s n=>exact hok.elim
   |gap=>trivial
  |frz e s n=>
   cases gi with
   |blk b=>exact hok.elim
   |own v s' n'=>obtain⟨g,cap,vs,fr,rfl,rfl,rfl,k1,k2,k3,k4⟩:=hok;exact⟨g,cap,vs,fr,rfl,rfl,rfl,k1,k2,by rw[zev h hlt h2 rfl];exact k3,k4⟩
   |gap=>exact hok.elim
  |nodr=>
   cases gi with
   |blk b=>exact hok.elim
   |own v s n=>exact hok
   |gap=>exact hok.elim
  |fact φ=>
   cases gi with
   |blk b=>exact hok.elim
   |own v s n=>exact hok.elim
   |gap=>exact hok
  |dead=>
   cases gi with
   |blk b=>obtain⟨vs,e,fr,k1,k2⟩:=hok;exact⟨vs,e,fr,k1,by rw[zev h hlt h2 rfl];exact k2⟩
   |own v s n=>exactλb hb=>by rw[zev h hlt h2 (by simpa[GI.block]using hb)];exact hok b hb
   |gap=>exact hok.elim
  |bld t cs=>
   cases gi with
   |blk b=>obtain⟨k1,k2,vs,k3,k4⟩:=hok;exact⟨k1,by rw[zev h hlt h2 rfl];exact k2,vs,k3,zeu (p:=AV.scA H.length) (λ_ _=>zhs h) k4 hsc⟩
   |own v s n=>exact hok.elim
   |gap=>exact hok.elim
 ·intro id id' gi gi' b h1 h2;exact h.dist id id' gi gi' b (zhu h1).2 (zhu h2).2
 ·intro b hb;simp only[Gh.cut];split
  ·rename_i hd;obtain⟨id,gi,_,hid,hgb⟩:=cut_dropped.1 hd;have:=h.lt id _ b hid hgb;omega
  ·exact h.fresh b hb
 ·intro id gi b h1 h2;exact h.lt id gi b (zhu h1).2 h2

inductive WkA:AV→AV→Prop
 |refl (a:AV):WkA a a
 |sl (es:List (List AV)) (t:Tok):WkA (.sl es t) (.sl es .none)
 |snil:WkA .snil (.sl [] .none)
inductive WkV:AV→AV→Prop
 |unk (a:AV):WkV a .unk
 |atom {a b:AV} (h:WkA a b):WkV a b
 |agg {cs ds:List AV} (h:All2 WkA cs ds):WkV (.agg cs) (.agg ds)
theorem WkA.arel{v:Value}{a b:AV}(h:WkA a b)(hr:ARel w G v a):ARel w G v b:=by
 cases h with
 |refl=>exact hr
 | sl es t=>cases t with
  |none=>exact hr
  |full=>exact hr.1
  |own id=>exact hr.1
 |snil=>cases hr;exact .slE _ _
theorem All2.wk{asx bs:List AV}(h:All2 WkA asx bs):∀{vs:List Value},All2 (ARel w G) vs asx→All2 (ARel w G) vs bs:=by
 induction asx generalizing bs with
 |nil=>
  intro vs hr;cases bs with
  |nil=>exact hr
  |cons b bs=>exact h.elim
 |cons a asx ih=>
  intro vs hr;cases bs with
  |nil=>exact h.elim
  |cons b bs=>
   cases vs with
   |nil=>exact hr.elim
   |cons v vs=>exact⟨h.1.arel hr.1,ih h.2 hr.2⟩
theorem WkV.trel{v:Value}{a b:AV}(h:WkV a b)(hr:TRel w G v a):TRel w G v b:=by
 cases h with
 |unk=>trivial
 |atom h=>
  cases h with
  |refl=>exact hr
  |sl es t=>exact TRel.of_v (VRel.of_a (WkA.arel (.sl es t) hr))
  |snil=>exact TRel.of_v (VRel.of_a (WkA.arel .snil hr))
 |agg h=>obtain⟨vs,h1,h2⟩:=hr;exact⟨vs,h1,h.wk h2⟩
theorem zxq{asx bs:List AV}(h:All2 WkV asx bs):∀{vs:List Value},All2 (TRel w G) vs asx→All2 (TRel w G) vs bs:=by
 induction asx generalizing bs with
 |nil=>
  intro vs hr;cases bs with
  |nil=>exact hr
  |cons b bs=>exact h.elim
 |cons a asx ih=>
  intro vs hr;cases bs with
  |nil=>exact h.elim
  |cons b bs=>
   cases vs with
   |nil=>exact hr.elim
   |cons v vs=>exact⟨h.1.trel hr.1,ih h.2 hr.2⟩

theorem ACalls.mono{f:FuncId}{args:List AV}{K K':AV→zaa→Prop}(h:ACalls P f args H K)(hk:∀r H',K r H'→K' r H'):ACalls P f args H K':=
 λB w G vs hH hv=>(h B w G vs hH hv).mono λ_ _ ⟨v,r,H',G',h1,h2,h3,h4,h5⟩=>⟨v,r,H',G',h1,h2,h3,h4,hk _ _ h5⟩
theorem ACalls.wk{f:FuncId}{args args':List AV}{K:AV→zaa→Prop}(h:ACalls P f args' H K)(ha:All2 WkV args args'):ACalls P f args H K:=
 λB w G vs hH hv=>h B w G vs hH (zxq ha hv)

def Back(n0:Nat)(Inv:List AV→zaa→Prop)(F:List AV)(H:zaa):Prop:=
 ∃F2 H2 J,H=H2++J∧n0≤H2.length∧HSc H2∧All2 WkV F F2∧F2.all (AV.sc H2.length)=true∧Inv F2 H2

theorem TRel.sc{v:Value}{a:AV}(h:TRel w G v a):a.sc G.μ.length=true:=by
 have ha:∀{x:AV},VRel w G v x→x.scV G.μ.length=true:=λh=>h.sc;cases a with
 |tup vs=>obtain⟨us,_,h2⟩:=h;exact All2.all_of (λv a (h:VRel w G v a)=>h.sc) h2
 |agg cs=>exact ha (x:=.agg cs) h
 |fn f caps=>exact ha (x:=.fn f caps) h
 |unk=>rfl
 |bool b=>rfl
 |int k n=>rfl
 |str s=>rfl
 |nilp=>rfl
 |ptr i o=>exact ha (x:=.ptr i o) h
 |view cs=>rfl
 |snil=>rfl
 |sl es t=>exact ha (x:=.sl es t) h
 |ms i o l c=>exact ha (x:=.ms i o l c) h
 |ov i n=>exact ha (x:=.ov i n) h
 |vp i n o=>exact ha (x:=.vp i n o) h
 |os i n l e=>exact ha (x:=.os i n l e) h
 |map i=>exact ha (x:=.map i) h
 |nilfn=>rfl
 |nili=>rfl
 |ifc=>rfl
theorem FRel.sc{tm:Array Value}{F:List AV}(hH:HRel B w G H)(h:FRel w G tm F):F.all (AV.sc H.length)=true:=by rw[←hH.len];exact All2.all_of (λv a (h:TRel w G v a)=>h.sc) h

theorem znJ{M:Nat→List Bool}{c:Code}{Q:AExit→List AV→zaa→Prop}{F:List AV}(m:List Bool)(Inv:Nat→List AV→zaa→Prop)(n:Nat)(h0:HSc H→F.all (AV.sc H.length)=true→Inv n F H)(round:∀n F H',Inv n F H'→HSc H'→H.length≤H'.length→F.all (AV.sc H'.length)=true→awp P M c (zbK m (λF'' H''=>∃n',n'<n∧Back H.length (Inv n') F'' H'') Q) F H'):ALoop P c Q F H:=by
 intro B w G a hH hF hd b k cs;have key:∀ n (a':Act) (w':World) (G':Gh) (F':List AV) (H':zaa),Ext B w G w' G'→HRel B w' G' H'→FRel w' G' a'.tmps F'→a'.defers=[]→H.length≤H'.length→Inv n F' H' →
   ∃e a'' w'',Post B w G Q e a'' w''∧Arrives P (lone (b.at a' (.code c::.inLoop c::k)) cs w') b k cs e a'' w'':=by
  intro n;induction n using Nat.strongRecOn with
  |_ n ih=>
   intro a' w' G' F' H' hE hH' hF' hd' hlen hI;obtain⟨e,a₁,w₁,hq,harr⟩:=zgn c _ F' H' (round n F' H' hI hH'.sc hlen (FRel.sc hH' hF')) B w' G' a' hH' hF' hd' b (.inLoop c::k) cs;obtain⟨F1,H1,G1,e1,rfl,k1,k2,k3,k4,k5⟩:=hq;cases e1 with
   |normal=>obtain⟨n',hlt,F2,H2,J,hJ,hn0,hsc,hwk,hsF,hI2⟩:=k5;subst hJ;have hE2:Ext B w G w₁ (G1.cut w₁ H2.length):=zn2 k2 (hE.trans k1) (by rw[hH.len];exact hn0);have hF2:FRel w₁ (G1.cut w₁ H2.length) a₁.tmps F2:=zeu (p:=AV.sc H2.length) (λ_ _=>zuh k2) (zxq hwk (zhN m k3)) hsF;obtain⟨e₂,a₂,w₂,hq₂,harr₂⟩:=ih n' hlt a₁ w₁ _ F2 H2 hE2 (k2.cut hsc) hF2 k4 hn0 hI2;exact⟨e₂,a₂,w₂,hq₂,.of_steps (Steps.trans harr (.one step_inLoop)) harr₂⟩
   |exit id=>exact⟨_,a₁,w₁,⟨F1,H1,G1,.exit id,rfl,hE.trans k1,k2,k3,k4,k5⟩,.pass (x:=.inLoop c) rfl (λ_ _=>.inl (by simp[AExit.toExit])) harr⟩
   |ret=>exact⟨_,a₁,w₁,⟨F1,H1,G1,.ret,rfl,hE.trans k1,k2,k3,k4,k5⟩,.pass (x:=.inLoop c) rfl (λ_ _=>.inl (by simp[AExit.toExit])) harr⟩
 obtain⟨e,a',w',hq,harr⟩:=key n a w G F H (Ext.refl _ _ _) hH hF hd (Nat.le_refl _) (h0 hH.sc (FRel.sc hH hF));exact⟨e,a',w',hq,.of_steps (.one step_loop) harr⟩

theorem zxr:∀ F:List AV,All2 WkV F F
 |[]=>trivial
 |a::F=>⟨.atom (.refl a),zxr F⟩
theorem Back.same{n0:Nat}{Inv:List AV→zaa→Prop}{F:List AV}{J:zaa}(hn:n0≤H.length)(hsc:HSc H)(hs:F.all (AV.sc H.length)=true)(h:Inv F H):Back n0 Inv F (H++J):=
 ⟨F,H,J,rfl,hn,hsc,zxr F,hs,h⟩

def AV.isV:AV→Bool
 |.tup _=>false
 |_=>true
def zfw(P:Program):List ResultVar→List AV→zaa→(List AV→Prop)→Prop
 |[],_,_,K=>K []
 |.tmp t::rs,F,H,K=>zfw P rs F H λvs=>K (F.getD t .unk::vs)
 | .cell a t::rs,F,H,K=>(match zec P t,zaP P t with
  |some g,some n=>zae g n (F.getD a .unk) H λv=>zfw P rs F H λvs=>K (v::vs)
  |_,_=>False)
def zbb(vs:List AV)(K:AV→Prop):Prop:=
 match vs with
 |[v]=>K v
 |vs=>vs.all AV.isV=true∧K (.tup vs)
def zaB(P:Program)(rs:List ResultVar)(K:AV→zaa→Prop)(e:AExit)(F:List AV)(H:zaa):Prop:=
 match e with
 |.exit _=>False
 |_=>zfw P rs F H λvs=>zbb vs (K · H)

theorem zu4{v:Value}{a:AV}(h:TRel w G v a)(hv:a.isV=true):VRel w G v a:=by cases a <;> first|exact h|(simp[AV.isV]at hv;done)

def zky(tm:Array Value):ResultVar→Sem Value
 |.tmp t=>pure (tm.getD t undef)
 |.cell a t=>do loadVar t (←asAddr (tm.getD a undef))
theorem zEX(fn:Func)(tm:Array Value):results fn tm=(do
  let vs ←fn.results.mapM (zky tm)
  pure (if h:vs.size=1 then vs[0] else .tuple vs)):=by
 unfold results;congr 1

theorem zpJ{tm:Array Value}{F:List AV}(hH:HRel B w G H)(hF:FRel w G tm F):∀ (rs:List ResultVar) (K:List AV→Prop),zfw P rs F H K →
  ∃vs asx,(rs.mapM (m:=Sem) (zky tm)).run P w=.ok vs w∧All2 (TRel w G) vs asx∧K asx
 |[],K,h=>⟨[],[],by simp,trivial,h⟩
 |.tmp t::rs,K,h=>by obtain⟨vs,asx,h1,h2,h3⟩:=zpJ hH hF rs _ h;have ht:=zaF (a:=⟨tm,[]⟩) hF (.tmp t);exact⟨tm.getD t undef::vs,F.getD t .unk::asx,by simp only[List.mapM_cons,Sem.run_bind,zky,Sem.run_pure,Result.andThen_ok,h1],⟨ht,h2⟩,h3⟩
 |.cell a t::rs,K,h=>by
  unfold zfw at h;split at h
  ·rename_i g n hg hn;have ht:=zaF (a:=⟨tm,[]⟩) hF (.tmp a);have ht:TRel w G (tm.getD a undef) (F.getD a .unk):=ht;obtain⟨u,h1,av,h2,h3⟩:=zwF (K:=λv _=>zfw P rs F H λvs=>K (v::vs)) hH ht hg hn h;obtain⟨vs,asx,k1,k2,k3⟩:=zpJ hH hF rs _ h3;refine⟨u::vs,av::asx,?_,⟨h2,k2⟩,k3⟩;have hld:(zky tm (.cell a t)).run P w=.ok u w:=by
    have hsa:∃x,tm.getD a undef=.pointer (some x):=by
     rw[zgj]at h;split at h
     ·rename_i hx;rw[hx]at ht;obtain⟨b,_,hb⟩:=ht;exact⟨_,hb⟩
     ·rename_i hx;rw[hx]at ht;obtain⟨b,off,hb,_⟩:=ht;exact⟨_,hb⟩
     ·rename_i hx;rw[hx]at ht;obtain⟨⟨b,off,hb⟩,_⟩:=ht;exact⟨_,hb⟩
     ·exact h.elim
    obtain⟨x,hx⟩:=hsa;show ((do loadVar t (←asAddr (tm.getD a undef))):Sem Value).run P w=.ok u w;rw[hx]at h1 ⊢;simpa[Instr.loadAt,Instr.sureAddr,asAddr]using h1
   simp only[List.mapM_cons,Sem.run_bind,hld,Result.andThen_ok,k1,Sem.run_pure]
  ·exact h.elim

theorem zan{M:Nat→List Bool}{f:FuncId}{fn:Func}{c:Code}{args:List AV}{K:AV→zaa→Prop}(hf:P.funcs[f]?=some fn)(hb:fn.body=some c)(h:HSc H→awp P M c (zaB P fn.results.toList K) (args++List.replicate (fn.ntmps-args.length) .unk) H):ACalls P f args H K:=by
 intro B w G vs hH hv;refine calls_of_wp hf hb ?_;have hF:FRel w G (vs++Array.replicate (fn.ntmps-vs.size) undef) (args++List.replicate (fn.ntmps-args.length) .unk):=by
  unfold FRel;have hl:vs.size=args.length:=by simpa using hv.length
  rw[hl];simpa using hv.append (All2.replicate (R:=TRel w G) (a:=undef) (b:=.unk) trivial (fn.ntmps-args.length))
 refine wp_mono (zgn c _ _ H (h hH.sc) B w G ⟨_,[]⟩ hH hF rfl) λe a' w' hp=>?_;obtain⟨F',H',G',e',rfl,h1,h2,h3,h4,h5⟩:=hp;have fin:(zfw P fn.results.toList F' H' λvs=>zbb vs (K · H'))→∃v,(results fn a'.tmps).run P w'=.ok v w'∧∃v' r H'' G'',Ending.returned v=.returned v'∧Ext B w G w' G''∧HRel B w' G'' H''∧TRel w' G'' v' r∧K r H'':=by
  intro h5;obtain⟨us,asx,k1,k2,k3⟩:=zpJ h2 h3 fn.results.toList _ h5;have hres:(results fn a'.tmps).run P w'=.ok (if hh:us.toArray.size=1 then us.toArray[0] else .tuple us.toArray) w':=by rw[zEX,Sem.run_bind,Array.mapM_eq_mapM_toList,Sem.run_map,k1];rfl
  refine⟨_,hres,(if hh:us.toArray.size=1 then us.toArray[0] else .tuple us.toArray),?_⟩;have hl:=k2.length;unfold zbb at k3;split at k3
  ·rename_i r
   match us,hl,k2,hres with
   |[u],_,k2,_=>exact⟨r,H',G',rfl,h1,h2,by simpa using k2.1,k3⟩
  ·rename_i hne;refine⟨.tup asx,H',G',rfl,h1,h2,?_,k3.2⟩;have hsz:¬us.toArray.size=1:=by
    intro hs;have:asx.length=1:=by rw[←hl];simpa using hs
    match asx,this with
    |[x],_=>exact hne x rfl
   rw[dif_neg hsz];exact⟨us.toArray,rfl,zeu (p:=AV.isV) (λ_ _=>zu4) k2 k3.1⟩
 cases e' with
 |normal=>exact⟨h4,fin h5⟩
 |ret=>exact⟨h4,fin h5⟩
 |exit id=>exact h5.elim

end Go.Abs
namespace Go.Abs
open Go Go.RowKit

variable {P:Program} {B:Nat} {w:World} {G:Gh} {H:zaa}

theorem DRel.of_flat_at{L:Nat→Nat}{g off size cap:Nat}{es:List (List AV)}{zs:List Value}(hsz:∀c∈es,c.length=size)(hne:es≠[])(hcap:es.length≤cap)(hL:off+es.length*size≤L g)(hr:All2 (DRel w L) zs es.flatten)(hc:∀j v,zs[j]?=some v→w.cell? ⟨g,off+j,none⟩=some v):DRel w L (.slice (some ⟨g,off,none⟩) es.length cap) (.sl es .none):=by
 have hget:∀i j (hi:i<es.length) (hj:j<(es[i]).length),∃v,zs[i*size+j]?=some v∧DRel w L v (es[i])[j]:=λi j hi hj=>hr.get (zhy hsz i j hi hj);refine .sl g off cap size es (λi j=>zs.getD (i*size+j) undef) hne hcap hL (λi hi=>hsz _ (List.getElem_mem hi)) (λi j hi hj=>?_) (λi j hi hj=>?_)
 ·obtain⟨v,h1,h2⟩:=hget i j hi hj;simp only[List.getD_eq_getElem?_getD,h1,Option.getD_some,Nat.add_assoc];exact hc _ _ h1
 ·obtain⟨v,h1,h2⟩:=hget i j hi hj;simp only[List.getD_eq_getElem?_getD,h1,Option.getD_some];exact h2

inductive OutV (H:zaa) (n:Nat):AV→AV→Prop
 |wk {a b:AV} (h:WkV a b) (hv:b.isV=true) (hs:b.scV n=true):OutV H n a b
 | frz (id off len cap size:Nat) (cs:List AV) (es:List (List AV)) (hid:n≤id) (hH:H[id]?=some (.cells cs)) (hfit:off+len*size≤cs.length)
   (hp:plain ((cs.drop off).take (len*size))=some es.flatten) (hlen:es.length=len) (hsz:∀c∈es,c.length=size) (hcap:len≤cap):OutV H n (.ms id off len cap) (.sl es .none)
 |vfz (id e size m:Nat) (cs:List AV) (es:List (List AV)) (hid:n≤id) (hH:H[id]?=some (.vec e size m cs)) (hp:plain cs=some es.flatten) (hlen:es.length=m) (hsz:∀c∈es,c.length=size):OutV H n (.ov id m) (.sl es .none)
inductive OutT (H:zaa) (n:Nat):AV→AV→Prop
 |one {a b:AV} (h:OutV H n a b):OutT H n a b
 |tup {asx bs:List AV} (h:All2 (OutV H n) asx bs):OutT H n (.tup asx) (.tup bs)

theorem zDA{n:Nat}{b:AV}(hv:b.isV=true)(hs:b.scV n=true):b.sc n=true:=by cases b <;> first|exact hs|(simp[AV.isV]at hv;done)

theorem OutV.vrel(hH:HRel B w G H){n:Nat}{v:Value}{a b:AV}(h:OutV H n a b)(hr:TRel w G v a):VRel w (G.cut w n) v b:=by
 cases h with
 |wk h hv hs=>exact zu4 (zuh hH (h.trel hr) (zDA hv hs)) hv
 |frz id off len cap size cs es hid hHid hfit hp hlen hsz hcap=>
  obtain⟨b,hμ,rfl⟩:=hr;have hok:=hH.ok id _ _ hHid hμ;obtain⟨_,_,vs,e,hw,hcs⟩:=hok;subst hlen;show DRel w (G.cut w n).L _ _;by_cases hne:es=[]
  ·subst hne;exact .slE _ _
  ·have hl:=hcs.length;have hd:=zez ((hcs.drop off).take (es.length*size)) hp;refine DRel.of_flat_at (zs:=(vs.toList.drop off).take (es.length*size)) hsz hne hcap ?_ (hd.mono λ_ _=>zht hH) ?_
   ·have:(G.cut w n).L b=vs.size:=by simp only[Gh.cut];rw[if_pos (cut_dropped.2 ⟨id,_,hid,hμ,rfl⟩),hw]
    rw[this];simp at hl;omega
   ·intro j u hj;rw[List.getElem?_take]at hj;split at hj
    ·simp only[World.cell?,hw];simpa using hj
    ·cases hj
 |vfz id e size m cs es hid hHid hp hlen hsz=>
  obtain⟨⟨a,cap0,rfl,_⟩,v',s0,n',hμ,_,heq⟩:=hr;obtain⟨rfl,rfl,⟨xs,hown,hcs⟩,_⟩:=hH.ok id _ _ hHid hμ;obtain rfl:=heq rfl;subst hlen;show DRel w (G.cut w n).L _ _;by_cases hne:es=[]
  ·subst hne;exact .slE _ _
  ·have hown2:=hown;obtain⟨hl,hrow⟩:=hown2;rcases hrow with ⟨h1,h2⟩ | ⟨g,cap,cur,h1,h2,h3,h4,h5,h6,h7⟩
   ·cases es <;> simp_all
   ·simp at h1;obtain⟨rfl,rfl⟩:=h1;obtain⟨_,_,_,hcell⟩:=zdJ hown;refine DRel.of_flat_at (zs:=xs) hsz hne h4 ?_ ((zez hcs hp).mono λ_ _=>zht hH) ?_
    ·have:(G.cut w n).L g=cur.size:=by simp only[Gh.cut];rw[if_pos (cut_dropped.2 ⟨id,_,hid,hμ,rfl⟩),h3]
     rw[this,h6,Nat.zero_add];exact Nat.mul_le_mul_right _ h4
    ·intro j u hj;rw[Nat.zero_add,hcell j (by rw[←hl];exact(List.getElem?_eq_some_iff.1 hj).1)];exact hj

theorem zvW(hH:HRel B w G H){n:Nat}{asx bs:List AV}(h:All2 (OutV H n) asx bs):∀{vs:List Value},All2 (VRel w G) vs asx→All2 (VRel w (G.cut w n)) vs bs:=by
 induction asx generalizing bs with
 |nil=>
  intro vs hr;cases bs with
  |nil=>cases vs <;> first|trivial|exact hr.elim
  |cons b bs=>exact h.elim
 |cons a asx ih=>
  intro vs hr;cases bs with
  |nil=>exact h.elim
  |cons b bs=>
   cases vs with
   |nil=>exact hr.elim
   |cons v vs=>exact⟨h.1.vrel hH (TRel.of_v hr.1),ih h.2 hr.2⟩

def Out(n:Nat)(K:AV→zaa→Prop)(r:AV)(H':zaa):Prop:=∃r2 H2 J,H'=H2++J∧n≤H2.length∧HSc H2∧OutT H' H2.length r r2∧K r2 H2

theorem ACalls.out{f:FuncId}{args:List AV}{K:AV→zaa→Prop}(h:ACalls P f args H (Out H.length K)):ACalls P f args H K:=by
 intro B w G vs hH hv;refine(h B w G vs hH hv).mono λe w' ⟨v,r,H',G',h1,h2,h3,h4,h5⟩=>?_;obtain⟨r2,H2,J,hJ,hn,hsc,ho,hk⟩:=h5;subst hJ;refine⟨v,r2,H2,G'.cut w' H2.length,h1,zn2 h3 h2 (by rw[hH.len];exact hn),h3.cut hsc,?_,hk⟩;cases ho with
 |one ho=>exact TRel.of_v (ho.vrel h3 h4)
 |tup ho=>obtain⟨us,hu,hr⟩:=h4;exact⟨us,hu,zvW h3 ho hr⟩

theorem Out.same{n:Nat}{K:AV→zaa→Prop}{r:AV}{J:zaa}(hn:n=H.length)(hsc:HSc H)(hv:r.isV=true)(hr:r.scV H.length=true)(h:K r H):Out n K r (H++J):=
 ⟨r,H,J,rfl,by omega,hsc,.one (.wk (.atom (.refl r)) hv hr),h⟩

theorem ALoop.own{c:Code}{Q:AExit→List AV→zaa→Prop}{F:List AV}(i e size:Nat)(hi:F[i]?=some .snil)(h:ALoop P c Q (F.set i (.sl [] (.own H.length))) (H++[.perm e size 0])):ALoop P c Q F H:=by
 intro B w G a hH hF hd;obtain⟨hE,hH'⟩:=hH.newOwn e size;have hF':FRel w ⟨G.L,G.μ++[.own (.slice none 0 0) size 0]⟩ a.tmps (F.set i (.sl [] (.own H.length))):=by
  unfold FRel;obtain⟨v,h1,h2⟩:=All2.get hF hi;have h2:v=.slice none 0 0:=h2;subst h2;have hset:a.tmps.toList=a.tmps.toList.set i (.slice none 0 0):=by
   apply List.ext_getElem?;intro k;by_cases hk:k=i
   ·subst hk;rw[List.getElem?_set_self (List.getElem?_eq_some_iff.1 h1).1];exact h1
   ·rw[List.getElem?_set_ne (λh=>hk h.symm)]
  rw[hset];refine All2.set i (hF.ext hE) ?_;refine⟨.slE _ _,.slice none 0 0,size,0,?_,Nat.le_refl _,λ_=>⟨rfl,by simp⟩⟩;rw[←hH.len];simp
 refine wp_mono (h B w _ a hH' hF' hd) λe a' w' hp=>?_;obtain⟨F'',H'',G'',e'',rfl,k1,k2,k3,k4,k5⟩:=hp;exact⟨F'',H'',G'',e'',rfl,hE.trans k1,k2,k3,k4,k5⟩

def zcA(w:World)(b:Nat):Nat:=match w.heap[b]? with|some (.cells c _ _)=>c.size|_=>0
def G0(w:World):Gh:=⟨zcA w,[]⟩

theorem zDq(w:World):HRel w.heap.size w (G0 w) []:=
 ⟨rfl,λ_ _ _ h=>by simp at h,λ_ _ _ _ _ h=>by simp[G0]at h,λb hb=>by simp[G0,zcA,Array.getElem?_eq_none hb],λ_ _ _ h=>by simp[G0]at h,Nat.le_refl _⟩

end Go.Abs
namespace Go.Abs
open Go Go.RowKit

section
variable {H:zaa} {K:AV→zaa→Prop} {k:AV→Prop}
@[simp] theorem zRR(p q:Prop):aIf true p q=p:=propext Iff.rfl
@[simp] theorem zRQ(p q:Prop):aIf false p q=q:=propext Iff.rfl
theorem ztC(b:Bool)(p q:Prop):zag (.bool b) p q=(if b=true then p else q):=rfl
@[simp] theorem zTt(p q:Prop):zag (.bool true) p q=p:=propext Iff.rfl
@[simp] theorem zTs(p q:Prop):zag (.bool false) p q=q:=propext Iff.rfl
@[simp] theorem zSV(x y:AV):zai (.bool true) x y k=k x:=propext Iff.rfl
@[simp] theorem zSU(x y:AV):zai (.bool false) x y k=k y:=propext Iff.rfl
@[simp] theorem zRI(p q:Prop):zdf (.bool true) true p q=p:=propext Iff.rfl
@[simp] theorem zRF(p q:Prop):zdf (.bool false) false p q=p:=propext Iff.rfl
@[simp] theorem zRH(p q:Prop):zdf (.bool true) false p q=q:=propext Iff.rfl
@[simp] theorem zRG(p q:Prop):zdf (.bool false) true p q=q:=propext Iff.rfl
@[simp] theorem zRJ(want:Bool)(p q:Prop):zdf (.tup []) want p q=q:=propext Iff.rfl
@[simp] theorem zRC(p:(AV→zaa→Prop)→Prop)(J:AV→zaa→Prop):zab (.bool true) true H p J=p J:=propext Iff.rfl
@[simp] theorem zRz(p:(AV→zaa→Prop)→Prop)(J:AV→zaa→Prop):zab (.bool false) false H p J=p J:=propext Iff.rfl
@[simp] theorem zRB(p:(AV→zaa→Prop)→Prop)(J:AV→zaa→Prop):zab (.bool true) false H p J=J (.tup []) H:=propext Iff.rfl
@[simp] theorem zRA(p:(AV→zaa→Prop)→Prop)(J:AV→zaa→Prop):zab (.bool false) true H p J=J (.tup []) H:=propext Iff.rfl
@[simp] theorem zRD(want:Bool)(p:(AV→zaa→Prop)→Prop)(J:AV→zaa→Prop):zab (.tup []) want H p J=J (.tup []) H:=propext Iff.rfl
@[simp] theorem zTB(cs:List AV):(AV.agg cs).cs?=some cs:=rfl
@[simp] theorem zTE(j:IntKind)(n:Int):(AV.int j n).cs?=some [.int j n]:=rfl
@[simp] theorem zTC(b:Bool):(AV.bool b).cs?=some [.bool b]:=rfl
@[simp] theorem zTP(s:List UInt8):(AV.str s).cs?=some [.str s]:=rfl
@[simp] theorem zTN(es:List (List AV))(t:Tok):(AV.sl es t).cs?=some [.sl es t]:=rfl
@[simp] theorem zTO:(AV.snil).cs?=some [.snil]:=rfl
@[simp] theorem zTM(i o:Nat):(AV.ptr i o).cs?=some [.ptr i o]:=rfl
@[simp] theorem zTG(i o l c:Nat):(AV.ms i o l c).cs?=some [.ms i o l c]:=rfl
@[simp] theorem zTD(f:Nat)(c:List AV):(AV.fn f c).cs?=some [.fn f c]:=rfl
@[simp] theorem zTJ:(AV.nilp).cs?=some [.nilp]:=rfl
@[simp] theorem zTI:(AV.nili).cs?=some [.nili]:=rfl
@[simp] theorem zTL(i n:Nat):(AV.ov i n).cs?=some [.ov i n]:=rfl
@[simp] theorem zTQ(i n o:Nat):(AV.vp i n o).cs?=some [.vp i n o]:=rfl
@[simp] theorem zTH:(AV.nilfn).cs?=some [.nilfn]:=rfl
@[simp] theorem zSI(cs:List AV):zay cs H K=K (.ptr H.length 0) (H++[.cells cs]):=propext Iff.rfl
@[simp] theorem zQR(cs:List AV):zaw (.agg cs) H K=K (.ptr H.length 0) (H++[.cells cs]):=propext Iff.rfl
@[simp] theorem zQV(j:IntKind)(n:Int):zaw (.int j n) H K=K (.ptr H.length 0) (H++[.cells [.int j n]]):=propext Iff.rfl
@[simp] theorem zQ2(s:List UInt8):zaw (.str s) H K=K (.ptr H.length 0) (H++[.cells [.str s]]):=propext Iff.rfl
@[simp] theorem zQS(b:Bool):zaw (.bool b) H K=K (.ptr H.length 0) (H++[.cells [.bool b]]):=propext Iff.rfl
@[simp] theorem zQ0(es:List (List AV))(t:Tok):zaw (.sl es t) H K=K (.ptr H.length 0) (H++[.cells [.sl es t]]):=propext Iff.rfl
@[simp] theorem zfr(n off:Nat)(cs:List AV):zbp true n off cs k=(off+n≤cs.length∧k (.agg ((cs.drop off).take n))):=propext Iff.rfl
theorem zdc{cs:List AV}{off:Nat}{c:AV}(n:Nat)(h:cs[off]?=some c):zbp false n off cs k=k c:=by simp[zbp,h]
@[simp] theorem zQ8(n:Nat)(c:AV)(cs:List AV):zbp false n 0 (c::cs) k=k c:=propext Iff.rfl
@[simp] theorem zQ7(n i:Nat)(c:AV)(cs:List AV):zbp false n (i+1) (c::cs) k=zbp false n i cs k:=by simp[zbp]
@[simp] theorem zSd(g:Bool)(n:Nat)(cs:List AV):zae g n (.view cs) H k=zbp g n 0 cs k:=propext Iff.rfl
def zgi(g:Bool)(n off:Nat)(b:Option AB)(k:AV→Prop):Prop:=
 match b with
 |some (.cells cs)=>zbp g n off cs k
 |_=>False
@[simp] theorem zfu(g:Bool)(n off:Nat)(cs:List AV):zgi g n off (some (.cells cs)) k=zbp g n off cs k:=propext Iff.rfl
@[simp] theorem zcW(g:Bool)(n id off:Nat):zae g n (.ptr id off) H k=zgi g n off H[id]? k:=by rw[zgj];rfl
def zdV(n off id:Nat)(xs:Option (List AV))(b:Option AB)(H:zaa)(K:zaa→Prop):Prop:=
 match xs,b with
 |some xs,some (.cells cs)=>(xs.length=n∧off+n≤cs.length∧xs.all AV.known=true)∧K (H.set id (.cells (cs.take off++xs++cs.drop (off+n))))
 |_,_=>False
@[simp] theorem zdW{K':zaa→Prop}(n off id:Nat)(xs cs:List AV):zdV n off id (some xs) (some (.cells cs)) H K'=((xs.length=n∧off+n≤cs.length∧xs.all AV.known=true)∧K' (H.set id (.cells (cs.take off++xs++cs.drop (off+n))))):=propext Iff.rfl
@[simp] theorem zhk{K':zaa→Prop}(n id off:Nat)(x:AV):zak n (.ptr id off) x H K'=zdV n off id x.cs? H[id]? H K':=by
 cases hx:x.cs? with
 |none=>simp[zeU,zdV,hx]
 | some xs=>cases hb:H[id]? with
  |none=>simp[zeU,zdV,hx,hb]
  |some b=>cases b <;> simp[zeU,zdV,hx,hb]
def ztx(g:Bool)(n m off:Nat)(b:Option AB)(k:AV→Prop):Prop:=
 match b with
 |some (.vec _ _ m' cs)=>m'=m∧zbp g n off cs k
 |_=>False
@[simp] theorem zSb(g:Bool)(n m off e s m':Nat)(cs:List AV):ztx g n m off (some (.vec e s m' cs)) k=(m'=m∧zbp g n off cs k):=propext Iff.rfl
@[simp] theorem zSe(g:Bool)(n id m off:Nat):zae g n (.vp id m off) H k=ztx g n m off H[id]? k:=by rw[zgj];rfl
def zhj(n m off id:Nat)(xs:Option (List AV))(b:Option AB)(H:zaa)(K':zaa→Prop):Prop:=
 match xs,b with
 |some xs,some (.vec e s m' cs)=>(m'=m∧xs.length=n∧off+n≤cs.length∧xs.all AV.known=true)∧K' (H.set id (.vec e s m' (cs.take off++xs++cs.drop (off+n))))
 |_,_=>False
@[simp] theorem zBQ{K':zaa→Prop}(n m off id e s m':Nat)(xs cs:List AV):zhj n m off id (some xs) (some (.vec e s m' cs)) H K'=((m'=m∧xs.length=n∧off+n≤cs.length∧xs.all AV.known=true)∧K' (H.set id (.vec e s m' (cs.take off++xs++cs.drop (off+n))))):=propext Iff.rfl
@[simp] theorem ztB{K':zaa→Prop}(n id m off:Nat)(x:AV):zak n (.vp id m off) x H K'=zhj n m off id x.cs? H[id]? H K':=by
 cases hx:x.cs? with
 |none=>simp[zeU,zhj,hx]
 | some xs=>cases hb:H[id]? with
  |none=>simp[zeU,zhj,hx,hb]
  |some b=>cases b <;> simp[zeU,zhj,hx,hb]
def znD(e size bytes n id:Nat)(ys:List (List AV))(b:Option AB)(H:zaa)(K:AV→zaa→Prop):Prop:=
 match b with
 |some (.vec e' s' n' cs)=>((e'=e∧s'=size∧n'=n)∧(n+ys.length)*bytes≤140737488355328∧n+ys.length≤9223372036854775807)∧K (.ov id (n+ys.length)) (H.set id (.vec e size (n+ys.length) (cs++ys.flatten)))
 |_=>False
@[simp] theorem zQN(e size bytes n id e' s' n':Nat)(ys:List (List AV))(cs:List AV):znD e size bytes n id ys (some (.vec e' s' n' cs)) H K=(((e'=e∧s'=size∧n'=n)∧(n+ys.length)*bytes≤140737488355328∧n+ys.length≤9223372036854775807)∧K (.ov id (n+ys.length)) (H.set id (.vec e size (n+ys.length) (cs++ys.flatten)))):=propext Iff.rfl
@[simp] theorem zQM(e size bytes id n:Nat)(ys:List (List AV)):za2 e size bytes (.ov id n) ys H K=znD e size bytes n id ys H[id]? H K:=by unfold za2 znD;rfl
@[simp] theorem zBF(esz id m:Nat)(j:IntKind)(n:Int):zaj esz (.ov id m) (.int j n) k=((0≤n∧n<m)∧k (.vp id m (n.toNat*esz))):=zft ..
@[simp] theorem zRT(id n:Nat):zah 1 (.ov id n) k=k (.int .i64 n):=propext Iff.rfl
@[simp] theorem zRv(off i m o:Nat):zaf off (.vp i m o) k=k (.vp i m (o+off)):=propext Iff.rfl
@[simp] theorem zSR(i m o:Nat):zaG (.vp i m o) k=k (.vp i m o):=propext Iff.rfl
@[simp] theorem zQY(i n:Nat):zaw (.ov i n) H K=K (.ptr H.length 0) (H++[.cells [.ov i n]]):=propext Iff.rfl
@[simp] theorem zTZ(i n:Nat):(AV.ov i n).known=true:=rfl
@[simp] theorem zUb(m i n:Nat):(AV.ov i n).scA m=decide (i<m):=rfl
@[simp] theorem zSP(i o:Nat):zaG (.ptr i o) k=k (.ptr i o):=propext Iff.rfl
@[simp] theorem zSQ(cs:List AV):zaG (.view cs) k=k (.view cs):=propext Iff.rfl
@[simp] theorem zSO(f:Nat)(c:List AV):zaG (.fn f c) k=k (.fn f c):=propext Iff.rfl
@[simp] theorem zRt(off i o:Nat):zaf off (.ptr i o) k=k (.ptr i (o+off)):=propext Iff.rfl
@[simp] theorem zRu(off:Nat)(cs:List AV):zaf off (.view cs) k=(off≤cs.length∧k (.view (cs.drop off))):=ztw ..
@[simp] theorem zRq(g:Bool)(n off:Nat)(cs:List AV):zdT g n off (.agg cs) k=zbp g n off cs k:=propext Iff.rfl
@[simp] theorem zRM(esz:Nat)(es:List (List AV))(t:Tok)(j:IntKind)(n:Int):zaj esz (.sl es t) (.int j n) k=((0≤n∧n<es.length)∧((es.getD n.toNat []).length=esz∧k (.view (es.getD n.toNat [])))):=zft ..
@[simp] theorem zRL(esz id off len cap:Nat)(j:IntKind)(n:Int):zaj esz (.ms id off len cap) (.int j n) k=((0≤n∧n<len)∧k (.ptr id (off+n.toNat*esz))):=zft ..
@[simp] theorem zRO(s:List UInt8)(j:IntKind)(n:Int):zbA (.str s) (.int j n) k=((0≤n∧n<s.length)∧k (.int .u8 (s.getD n.toNat 0).toNat)):=propext Iff.rfl
@[simp] theorem zRV(s:List UInt8):zah 0 (.str s) k=k (.int .i64 s.length):=propext Iff.rfl
@[simp] theorem zen(es:List (List AV))(t:Tok):zah 1 (.sl es t) k=k (.int .i64 es.length):=propext Iff.rfl
@[simp] theorem zRU:zah 1 .snil k=k (.int .i64 0):=propext Iff.rfl
@[simp] theorem zBH(i o l c:Nat):zah 1 (.ms i o l c) k=k (.int .i64 l):=propext Iff.rfl
@[simp] theorem zBD(d:Nat)(q:Nat→Prop):zbC none d q=q d:=propext Iff.rfl
@[simp] theorem zBC(j:IntKind)(n:Int)(d:Nat)(q:Nat→Prop):zbC (some (.int j n)) d q=(0≤n∧q n.toNat):=propext Iff.rfl
@[simp] theorem zSs{K:AV→zaa→Prop}{H:zaa}(e s b:Nat)(c:Int):zep e s b (.int .i64 c) H K=((0≤c∧c*b≤140737488355328∧c≤9223372036854775807)∧K (.ov H.length 0) (H++[.vec e s 0 []])):=propext Iff.rfl
@[congr] theorem zSr{K:AV→zaa→Prop}{H H':zaa}{e s b:Nat}{c c':AV}(hc:c=c')(hH:H=H'):zep e s b c H K=zep e s b c' H' K:=by rw[hc,hH]
@[simp] theorem zSv{K:AV→Prop}(k k':IntKind)(m n:Int):zhh (.int k m) (.int k' n) K=K (.int k (if n>m then n else m)):=propext Iff.rfl
@[congr] theorem zSu{K:AV→Prop}{x x' y y':AV}(h:x=x')(hy:y=y'):zhh x y K=zhh x' y' K:=by rw[h,hy]
@[simp] theorem zSx{K:AV→Prop}(k k':IntKind)(m n:Int):zhi (.int k m) (.int k' n) K=K (.int k (if n<m then n else m)):=propext Iff.rfl
@[congr] theorem zSw{K:AV→Prop}{x x' y y':AV}(h:x=x')(hy:y=y'):zhi x y K=zhi x' y' K:=by rw[h,hy]
@[simp] theorem zTl(esz id n:Nat)(lo hi:Option AV):za7 1 esz (.ov id n) lo hi k=zbC hi n λh=>zbC lo 0 λl=>(l≤h∧h=n)∧k (.os id n l esz):=propext Iff.rfl
@[simp] theorem zTK(i n l z:Nat):(AV.os i n l z).cs?=some [.os i n l z]:=rfl
def ztu(size id n lo z id' n' lo' z':Nat)(b:Option AB)(H:zaa)(K:AV→zaa→Prop):Prop:=
 match b with
 | some (.vec e s m cs) => (((id' = id ∧ n' = n ∧ m = n) ∧ z = size ∧ z' = size ∧ s = size) ∧ cs.all AV.known = true) ∧
    K (.int .i64 ((min (n-lo') (n-lo):Nat):Int)) (H.set id (.vec e s m (zcO cs (lo*size) ((cs.drop (lo'*size)).take (min (n-lo') (n-lo)*size)))))
 |_=>False
@[simp] theorem zRi{K:AV→zaa→Prop}(size id n lo z id' n' lo' z':Nat):zgf size (.os id n lo z) (.os id' n' lo' z') H K=ztu size id n lo z id' n' lo' z' H[id]? H K:=propext Iff.rfl
@[simp] theorem zRf{K : AV → zaa → Prop}(size id n lo z id' n' lo' z' e s m : Nat)(cs : List AV): ztu size id n lo z id' n' lo' z' (some (.vec e s m cs)) H K = ((((id' = id ∧ n' = n ∧ m = n) ∧ z = size ∧ z' = size ∧ s = size) ∧ cs.all AV.known = true) ∧
        K (.int .i64 ((min (n-lo') (n-lo):Nat):Int)) (H.set id (.vec e s m (zcO cs (lo*size) ((cs.drop (lo'*size)).take (min (n-lo') (n-lo)*size)))))):=propext Iff.rfl
def ztv(size off len:Nat)(id:Nat)(es:List (List AV))(b:Option AB)(H:zaa)(K:AV→zaa→Prop):Prop:=
 match b with
 | some (.cells cs) => ((off + min es.length len * size ≤ cs.length ∧ ∀ c ∈ es, c.length = size) ∧ es.flatten.all AV.known = true) ∧
    K (.int .i64 ((min es.length len:Nat):Int)) (H.set id (.cells (zcO cs off (es.flatten.take (min es.length len*size)))))
 |_=>False
@[simp] theorem zRh{K:AV→zaa→Prop}(size id off len cap:Nat)(es:List (List AV))(t:Tok):zgf size (.ms id off len cap) (.sl es t) H K=ztv size off len id es H[id]? H K:=propext Iff.rfl
@[simp] theorem zRg{K : AV → zaa → Prop}(size off len id : Nat)(es : List (List AV))(cs : List AV): ztv size off len id es (some (.cells cs)) H K = (((off + min es.length len * size ≤ cs.length ∧ ∀ c ∈ es, c.length = size) ∧ es.flatten.all AV.known = true) ∧
        K (.int .i64 ((min es.length len:Nat):Int)) (H.set id (.cells (zcO cs off (es.flatten.take (min es.length len*size)))))):=propext Iff.rfl
@[simp] theorem zBO(s:List UInt8)(lo hi:Option AV):za7 0 0 (.str s) lo hi k=zbC hi s.length λh=>zbC lo 0 λl=>(l≤h∧h≤s.length)∧k (.str ((s.take h).drop l)):=propext Iff.rfl
@[simp] theorem zTm(esz:Nat)(es:List (List AV))(t:Tok)(lo hi:Option AV):za7 1 esz (.sl es t) lo hi k=zbC hi es.length λh=>zbC lo 0 λl=>(l≤h∧h≤es.length∧∀c∈es,c.length=esz)∧k (.sl ((es.take h).drop l) .none):=propext Iff.rfl
@[simp] theorem zQJ(b:Bool)(j:IntKind)(m n:Int):zac .add b (.int j m) (.int j n) k=k (.int j (j.wrap (m+n))):=by simp[zca]
@[simp] theorem zTq(b:Bool)(j:IntKind)(m n:Int):zac .sub b (.int j m) (.int j n) k=k (.int j (j.wrap (m-n))):=by simp[zca]
@[simp] theorem zSC(b:Bool)(j:IntKind)(m n:Int):zac .mul b (.int j m) (.int j n) k=k (.int j (j.wrap (m*n))):=by simp[zca]
@[simp] theorem zRl(b:Bool)(j:IntKind)(m n:Int):zac .eql b (.int j m) (.int j n) k=k (.bool (m == n)):=by simp[zca]
@[simp] theorem zSF(b:Bool)(j:IntKind)(m n:Int):zac .neq b (.int j m) (.int j n) k=k (.bool (m != n)):=by simp[zca]
@[simp] theorem zSf(b:Bool)(j:IntKind)(m n:Int):zac .lss b (.int j m) (.int j n) k=k (.bool (decide (m<n))):=by simp[zca]
@[simp] theorem zRW(b:Bool)(j:IntKind)(m n:Int):zac .leq b (.int j m) (.int j n) k=k (.bool (decide (m≤n))):=by simp[zca]
@[simp] theorem zRx(b:Bool)(j:IntKind)(m n:Int):zac .gtr b (.int j m) (.int j n) k=k (.bool (decide (m>n))):=by simp[zca]
@[simp] theorem zRw(b:Bool)(j:IntKind)(m n:Int):zac .geq b (.int j m) (.int j n) k=k (.bool (decide (m≥n))):=by simp[zca]
@[simp] theorem zRm(b:Bool)(s t:List UInt8):zac .eql b (.str s) (.str t) k=k (.bool (s == t)):=propext Iff.rfl
@[simp] theorem zSG(b:Bool)(s t:List UInt8):zac .neq b (.str s) (.str t) k=k (.bool (!(s == t))):=rfl
@[simp] theorem zQK(b:Bool)(s t:List UInt8):zac .add b (.str s) (.str t) k=(s.length+t.length≤9223372036854775807∧k (.str (s++t))):=zca ..
@[simp] theorem zRk(m n:Bool):zac .eql true (.bool m) (.bool n) k=k (.bool (m == n)):=by simp[zca]
@[simp] theorem zSE(m n:Bool):zac .neq true (.bool m) (.bool n) k=k (.bool (!(m == n))):=by simp[zca]
@[simp] theorem zSS(b:Bool):aUn .not (.bool b) k=k (.bool (!b)):=rfl
@[simp] theorem zSD(j:IntKind)(n:Int):aUn .neg (.int j n) k=k (.int j (j.wrap (0-n))):=rfl
@[simp] theorem zRe(j i:IntKind)(n:Int):zbJ j (.int i n) k=k (.int j (j.wrap n)):=propext Iff.rfl
@[simp] theorem zRc(s:List UInt8):zdS (.str s) k=k (.str s):=propext Iff.rfl
@[simp] theorem zRn(v:AV)(vs:List AV):zaN (.tup (v::vs)) 0 k=k v:=propext Iff.rfl
@[simp] theorem zRp(v:AV)(vs:List AV)(i:Nat):zaN (.tup (v::vs)) (i+1) k=zaN (.tup vs) i k:=by simp[zaN]
@[simp] theorem zRa(f:Nat)(caps:List AV):zcb f caps k=(caps.all AV.isB=true∧k (.fn f caps)):=propext Iff.rfl
@[simp] theorem zTi(v:AV):zbb [v] k=k v:=propext Iff.rfl
@[simp] theorem zTj(v u:AV)(vs:List AV):zbb (v::u::vs) k=((v::u::vs).all AV.isV=true∧k (.tup (v::u::vs))):=propext Iff.rfl
end


section
variable {H:zaa} {K:AV→zaa→Prop} {k:AV→Prop} {kh:zaa→Prop}
@[simp] theorem zTF(i:Nat):(AV.map i).cs?=some [.map i]:=rfl
@[simp] theorem zSB:zdU H K=K (.map H.length) (H++[.map []]):=propext Iff.rfl
def zgg(zero:AV)(ok:Bool)(s:List UInt8)(b:Option AB)(k:AV→Prop):Prop:=
 match b with
 | some (.map kvs)=>k (match ok with
   |true=>.tup [(zbY kvs s).getD zero,.bool (zbY kvs s).isSome]
   |false=>(zbY kvs s).getD zero)
 |_=>False
@[simp] theorem zR6(z:AV)(ok:Bool)(id:Nat)(s:List UInt8):zdC z ok (.map id) (.str s) H k=zgg z ok s H[id]? k:=by unfold zdC zgg;rfl
@[simp] theorem zRY(z:AV)(s:List UInt8)(kvs:List (List UInt8×AV)):zgg z false s (some (.map kvs)) k=k ((zbY kvs s).getD z):=propext Iff.rfl
@[simp] theorem zRZ(z:AV)(s:List UInt8)(kvs:List (List UInt8×AV)):zgg z true s (some (.map kvs)) k=k (.tup [(zbY kvs s).getD z,.bool (zbY kvs s).isSome]):=propext Iff.rfl
def zgk(id:Nat)(s:List UInt8)(x:AV)(b:Option AB)(H:zaa)(kh:zaa→Prop):Prop:=
 match b with
 | some (.map kvs)=>(match x with
   |.tup _=>False
   |x=>kh (H.set id (.map (zcP kvs s x))))
 |_=>False
@[simp] theorem zSq(id:Nat)(s:List UInt8)(x:AV):zcL (.map id) (.str s) x H kh=zgk id s x H[id]? H kh:=by unfold zcL zgk;rfl
@[simp] theorem zSg(id:Nat)(s:List UInt8)(b:Bool)(kvs:List (List UInt8×AV)):zgk id s (.bool b) (some (.map kvs)) H kh=kh (H.set id (.map (zcP kvs s (.bool b)))):=propext Iff.rfl
@[simp] theorem zSi(id:Nat)(s:List UInt8)(j:IntKind)(n:Int)(kvs:List (List UInt8×AV)):zgk id s (.int j n) (some (.map kvs)) H kh=kh (H.set id (.map (zcP kvs s (.int j n)))):=propext Iff.rfl
@[congr] theorem zSA{H':zaa}(hH:H=H'):zdU H K=zdU H' K:=by rw[hH]
@[congr] theorem zR5{H':zaa}{z:AV}{ok:Bool}{m m' x x':AV}(hm:m=m')(hx:x=x')(hH:H=H'):zdC z ok m x H k=zdC z ok m' x' H' k:=by rw[hm,hx,hH]
@[congr] theorem zRX{z:AV}{ok:Bool}{s s':List UInt8}{b b':Option AB}(hs:s=s')(hb:b=b'):zgg z ok s b k=zgg z ok s' b' k:=by rw[hs,hb]
@[congr] theorem zSp{H':zaa}{m m' y y' x x':AV}(hm:m=m')(hy:y=y')(hx:x=x')(hH:H=H'):zcL m y x H kh=zcL m' y' x' H' kh:=by rw[hm,hy,hx,hH]
@[congr] theorem zSh{H':zaa}{id id':Nat}{s s':List UInt8}{x x':AV}{b b':Option AB}(hi:id=id')(hs:s=s')(hx:x=x')(hb:b=b')(hH:H=H'):zgk id s x b H kh=zgk id' s' x' b' H' kh:=by rw[hi,hs,hx,hb,hH]
@[simp] theorem zSz:zeq H K=K (.map H.length) (H++[.mapP []]):=propext Iff.rfl
def zgh(zero:AV)(ok:Bool)(s:Int×Int)(b:Option AB)(k:AV→Prop):Prop:=
 match b with
 | some (.mapP kvs)=>k (match ok with
   |true=>.tup [(zb9 kvs s).getD zero,.bool (zb9 kvs s).isSome]
   |false=>(zb9 kvs s).getD zero)
 |_=>False
@[simp] theorem zR4(z:AV)(ok:Bool)(id:Nat)(a b:Int):zeo z ok (.map id) (.agg [.int .i64 a,.int .i64 b]) H k=zgh z ok (a,b) H[id]? k:=by unfold zeo zgh;rfl
@[simp] theorem zR1(z:AV)(s:Int×Int)(kvs:List ((Int×Int)×AV)):zgh z false s (some (.mapP kvs)) k=k ((zb9 kvs s).getD z):=propext Iff.rfl
@[simp] theorem zR2(z:AV)(s:Int×Int)(kvs:List ((Int×Int)×AV)):zgh z true s (some (.mapP kvs)) k=k (.tup [(zb9 kvs s).getD z,.bool (zb9 kvs s).isSome]):=propext Iff.rfl
def zfv(id:Nat)(s:Int×Int)(x:AV)(b:Option AB)(H:zaa)(kh:zaa→Prop):Prop:=
 match b with
 | some (.mapP kvs)=>(match x with
   |.tup _=>False
   |x=>kh (H.set id (.mapP (zcG kvs s x))))
 |_=>False
@[simp] theorem zSo(id:Nat)(a b:Int)(x:AV):zdg (.map id) (.agg [.int .i64 a,.int .i64 b]) x H kh=zfv id (a,b) x H[id]? H kh:=by unfold zdg zfv;rfl
@[simp] theorem zSj(id:Nat)(s:Int×Int)(cs:List AV)(kvs:List ((Int×Int)×AV)):zfv id s (.agg cs) (some (.mapP kvs)) H kh=kh (H.set id (.mapP (zcG kvs s (.agg cs)))):=propext Iff.rfl
@[simp] theorem zSl(id:Nat)(s:Int×Int)(es:List (List AV))(tok:Tok)(kvs:List ((Int×Int)×AV)):zfv id s (.sl es tok) (some (.mapP kvs)) H kh=kh (H.set id (.mapP (zcG kvs s (.sl es tok)))):=propext Iff.rfl
@[simp] theorem zSm(id:Nat)(s:Int×Int)(kvs:List ((Int×Int)×AV)):zfv id s .snil (some (.mapP kvs)) H kh=kh (H.set id (.mapP (zcG kvs s .snil))):=propext Iff.rfl
@[congr] theorem zSy{H':zaa}(hH:H=H'):zeq H K=zeq H' K:=by rw[hH]
@[congr] theorem zR3{H':zaa}{z:AV}{ok:Bool}{m m' x x':AV}(hm:m=m')(hx:x=x')(hH:H=H'):zeo z ok m x H k=zeo z ok m' x' H' k:=by rw[hm,hx,hH]
@[congr] theorem zR0{z:AV}{ok:Bool}{s s':Int×Int}{b b':Option AB}(hs:s=s')(hb:b=b'):zgh z ok s b k=zgh z ok s' b' k:=by rw[hs,hb]
@[congr] theorem zSn{H':zaa}{m m' y y' x x':AV}(hm:m=m')(hy:y=y')(hx:x=x')(hH:H=H'):zdg m y x H kh=zdg m' y' x' H' kh:=by rw[hm,hy,hx,hH]
@[congr] theorem zSk{H':zaa}{id id':Nat}{s s':Int×Int}{x x':AV}{b b':Option AB}(hi:id=id')(hs:s=s')(hx:x=x')(hb:b=b')(hH:H=H'):zfv id s x b H kh=zfv id' s' x' b' H' kh:=by rw[hi,hs,hx,hb,hH]
@[simp] theorem zTx(n id off:Nat):zfy n (.ptr id off)=.ms id off n n:=rfl
end

section
variable {H H':zaa} {K:AV→zaa→Prop} {k:AV→Prop} {kh:zaa→Prop}
@[congr] theorem zRP{b b':Bool}{p q:Prop}(h:b=b'):aIf b p q=aIf b' p q:=by rw[h]
@[congr] theorem zTr{c c':AV}{p q:Prop}(h:c=c'):zag c p q=zag c' p q:=by rw[h]
@[congr] theorem zRE{c c':AV}{w:Bool}{p q:Prop}(h:c=c'):zdf c w p q=zdf c' w p q:=by rw[h]
@[congr] theorem zRy{c c':AV}{w:Bool}{p:(AV→zaa→Prop)→Prop}{J:AV→zaa→Prop}(h:c=c')(hH:H=H'):zab c w H p J=zab c' w H' p J:=by rw[h,hH]
@[congr] theorem zST{c c' a a' b b':AV}(h:c=c')(ha:a=a')(hb:b=b'):zai c a b k=zai c' a' b' k:=by rw[h,ha,hb]
@[congr] theorem zQT{x x':AV}(h:x=x')(hH:H=H'):zaw x H K=zaw x' H' K:=by rw[h,hH]
@[congr] theorem zSH{x x':List AV}(h:x=x')(hH:H=H'):zay x H K=zay x' H' K:=by rw[h,hH]
@[congr] theorem zQ6{g:Bool}{n n' o o':Nat}{c c':List AV}(hn:n=n')(ho:o=o')(hc:c=c'):zbp g n o c k=zbp g n' o' c' k:=by rw[hn,ho,hc]
@[congr] theorem zSc{g:Bool}{n:Nat}{x x':AV}(h:x=x')(hH:H=H'):zae g n x H k=zae g n x' H' k:=by rw[h,hH]
@[congr] theorem zR8{g:Bool}{n o o':Nat}{b b':Option AB}(ho:o=o')(h:b=b'):zgi g n o b k=zgi g n o' b' k:=by rw[h,ho]
@[congr] theorem zTp{n:Nat}{a a' x x':AV}(ha:a=a')(h:x=x')(hH:H=H'):zak n a x H kh=zak n a' x' H' kh:=by rw[ha,h,hH]
@[congr] theorem zTo{n o o' i i':Nat}{x x':Option (List AV)}{b b':Option AB}(ho:o=o')(hi:i=i')(h:x=x')(hb:b=b')(hH:H=H'):zdV n o i x b H kh=zdV n o' i' x' b' H' kh:=by rw[ho,hi,h,hb,hH]
@[congr] theorem zRs{n:Nat}{x x':AV}(h:x=x'):zaf n x k=zaf n x' k:=by rw[h]
@[congr] theorem zRr{g:Bool}{n o:Nat}{x x':AV}(h:x=x'):zdT g n o x k=zdT g n o x' k:=by rw[h]
@[congr] theorem zRK{n:Nat}{x x' i i':AV}(h:x=x')(hi:i=i'):zaj n x i k=zaj n x' i' k:=by rw[h,hi]
@[congr] theorem zRN{x x' i i':AV}(h:x=x')(hi:i=i'):zbA x i k=zbA x' i' k:=by rw[h,hi]
@[congr] theorem zRS{u:Nat}{x x':AV}(h:x=x'):zah u x k=zah u x' k:=by rw[h]
@[congr] theorem zQQ{x x':Option AV}{d d':Nat}{q:Nat→Prop}(h:x=x')(hd:d=d'):zbC x d q=zbC x' d' q:=by rw[h,hd]
@[congr] theorem zTk{u e:Nat}{x x':AV}{l l' h h':Option AV}(hx:x=x')(hl:l=l')(hh:h=h'):za7 u e x l h k=za7 u e x' l' h' k:=by rw[hx,hl,hh]
@[congr] theorem zQP{o:BinOp}{b:Bool}{x x' y y':AV}(h:x=x')(hy:y=y'):zac o b x y k=zac o b x' y' k:=by rw[h,hy]
@[congr] theorem zTu{o:UnOp}{x x':AV}(h:x=x'):aUn o x k=aUn o x' k:=by rw[h]
@[congr] theorem zRd{o:IntKind}{x x':AV}(h:x=x'):zbJ o x k=zbJ o x' k:=by rw[h]
@[congr] theorem zRb{x x':AV}(h:x=x'):zdS x k=zdS x' k:=by rw[h]
@[congr] theorem zRo{x x':AV}{i:Nat}(h:x=x'):zaN x i k=zaN x' i k:=by rw[h]
@[congr] theorem zQ9{f:Nat}{x x':List AV}(h:x=x'):zcb f x k=zcb f x' k:=by rw[h]
@[congr] theorem zSN{x x':AV}(h:x=x'):zaG x k=zaG x' k:=by rw[h]
@[congr] theorem zQ4{z:List AV}{p:List (Nat×Nat)}{x x':List (Nat×AV)}(h:x=x'):zao z p x k=zao z p x' k:=by rw[h]
@[congr] theorem zQ3{e:Nat}{z:List AV}{l:Nat}{x x':List (Nat×AV)}(h:x=x'):zas e z l x k=zas e z l x' k:=by rw[h]
@[congr] theorem zSt{b:Nat}{z:List AV}{l l' c c':AV}(h:l=l')(hc:c=c')(hH:H=H'):zbu b z l c H K=zbu b z l' c' H' K:=by rw[h,hc,hH]
@[congr] theorem zQO{e s b:Nat}{x x' y y':AV}(h:x=x')(hy:y=y')(hH:H=H'):zax e s b x y H K=zax e s b x' y' H' K:=by rw[h,hy,hH]
@[congr] theorem zQL{e s b:Nat}{x x':AV}{y y':List (List AV)}(h:x=x')(hy:y=y')(hH:H=H'):za2 e s b x y H K=za2 e s b x' y' H' K:=by rw[h,hy,hH]
@[congr] theorem zTn{x x':AV}{q:List (List AV)→Prop}(h:x=x'):zbc x q=zbc x' q:=by rw[h]
@[congr] theorem zQH{P:Program}{f:FuncId}{x x':List AV}(h:x=x')(hH:H=H'):ACalls P f x H K=ACalls P f x' H' K:=by rw[h,hH]
@[congr] theorem zQ5{P:Program}{g g':AV}{x x':List AV}(hg:g=g')(h:x=x')(hH:H=H'):aCallV P g x H K=aCallV P g' x' H' K:=by rw[hg,h,hH]
@[congr] theorem zSZ{p:(AV→zaa→Prop)→Prop}:zad H p k=zad H p k:=rfl
@[congr] theorem zQI{n:Nat}{r r':AV}(hr:r=r')(hH:H=H'):Out n K r H=Out n K r' H':=by rw[hr,hH]
end
section
variable {H:zaa} {k:AV→Prop}
theorem zb5{p:(AV→Prop)→Prop}(h:∀q:AV→Prop,p q↔∃v,p (λu=>u=v)∧q v):zad H (λK'=>p λv=>K' v H) k=p k:=by unfold zad;rw[eq_iff_iff,h k];simp only[and_true]
@[simp] theorem zS7(x:AV):zad H (λK'=>K' x H) k=k x:=by simp[zad]
theorem znX(g:Bool)(n o:Nat)(cs:List AV)(q:AV→Prop):zbp g n o cs q↔∃v,zbp g n o cs (λu=>u=v)∧q v:=by
 unfold zbp;split
 ·constructor
  ·rintro⟨h1,h2⟩;exact⟨_,⟨h1,rfl⟩,h2⟩
  ·rintro⟨v,⟨h1,rfl⟩,h2⟩;exact⟨h1,h2⟩
 ·split <;> simp
theorem zB1{a:Prop}{p:Prop}{p':AV→Prop}{q:AV→Prop}(h:p↔∃v,p' v∧q v):(a∧p)↔∃v,(a∧p' v)∧q v:=by
 constructor
 ·rintro⟨h1,h2⟩;obtain⟨v,h3,h4⟩:=h.1 h2;exact⟨v,⟨h1,h3⟩,h4⟩
 ·rintro⟨v,⟨h1,h3⟩,h4⟩;exact⟨h1,h.2 ⟨v,h3,h4⟩⟩
@[simp] theorem zTb(g:Bool)(n:Nat)(a:AV):zad H (λK'=>zae g n a H λv=>K' v H) k=zae g n a H k:=zb5 (p:=λq=>zae g n a H q) λq=>by
 unfold zae;split
 ·exact znX _ _ _ _ q
 ·simp
@[simp] theorem zR9(g:Bool)(n id off:Nat):zam g n (.ptr id off) H k=zae g n (.ptr id off) H k:=propext Iff.rfl
@[simp] theorem zSa(g:Bool)(n:Nat)(cs:List AV):zam g n (.view cs) H k=zae g n (.view cs) H k:=propext Iff.rfl
@[simp] theorem zTc(g:Bool)(n:Nat)(a:AV):zad H (λK'=>zam g n a H λv=>K' v H) k=zam g n a H k:=zb5 (p:=λq=>zam g n a H q) λq=>by
 unfold zam;split
 ·simp
 unfold zae;split
 ·exact znX _ _ _ _ q
 ·simp
@[simp] theorem zTe(b:Bool)(o:BinOp)(x:AV):zad H (λK'=>zcM b o x λv=>K' v H) k=zcM b o x k:=zb5 (p:=λq=>zcM b o x q) λq=>by
 unfold zcM;refine zB1 ?_;split
 ·split <;> simp
 ·split <;> simp
 ·simp
@[simp] theorem zSM:zcM true .neq .nili k=k (.bool false):=by simp[zcM]
@[simp] theorem zSK:zcM true .neq .ifc k=k (.bool true):=by simp[zcM]
@[simp] theorem zSL:zcM true .eql .nili k=k (.bool true):=by simp[zcM]
@[simp] theorem zSJ:zcM true .eql .ifc k=k (.bool false):=by simp[zcM]
@[simp] theorem zTf(c a b:AV):zad H (λK'=>zai c a b λv=>K' v H) k=zai c a b k:=zb5 (p:=λq=>zai c a b q) λq=>by unfold zai;split <;> simp
@[simp] theorem zS5(o:Nat)(a:AV):zad H (λK'=>zaf o a λv=>K' v H) k=zaf o a k:=zb5 (p:=λq=>zaf o a q) λq=>by unfold zaf;split <;> simp
@[simp] theorem zS6(g:Bool)(n o:Nat)(a:AV):zad H (λK'=>zdT g n o a λv=>K' v H) k=zdT g n o a k:=zb5 (p:=λq=>zdT g n o a q) λq=>by
 unfold zdT;split
 ·exact znX _ _ _ _ q
 ·simp
@[simp] theorem zS8(n:Nat)(x i:AV):zad H (λK'=>zaj n x i λv=>K' v H) k=zaj n x i k:=zb5 (p:=λq=>zaj n x i q) λq=>by unfold zaj;split <;> simp
@[simp] theorem zS9(x i:AV):zad H (λK'=>zbA x i λv=>K' v H) k=zbA x i k:=zb5 (p:=λq=>zbA x i q) λq=>by
 unfold zbA;split
 ·constructor
  ·rintro⟨h1,h2⟩;exact⟨_,⟨h1,rfl⟩,h2⟩
  ·rintro⟨v,⟨h1,rfl⟩,h2⟩;exact⟨h1,h2⟩
 ·simp
@[simp] theorem zTa(u:Nat)(x:AV):zad H (λK'=>zah u x λv=>K' v H) k=zah u x k:=zb5 (p:=λq=>zah u x q) λq=>by unfold zah;split <;> simp
@[simp] theorem zTh(o:UnOp)(x:AV):zad H (λK'=>aUn o x λv=>K' v H) k=aUn o x k:=zb5 (p:=λq=>aUn o x q) λq=>by unfold aUn;split <;> simp
@[simp] theorem zS1(o:IntKind)(x:AV):zad H (λK'=>zbJ o x λv=>K' v H) k=zbJ o x k:=zb5 (p:=λq=>zbJ o x q) λq=>by unfold zbJ;split <;> simp
@[simp] theorem zS3(x:AV):zad H (λK'=>zdS x λv=>K' v H) k=zdS x k:=zb5 (p:=λq=>zdS x q) λq=>by unfold zdS;split <;> simp
@[simp] theorem zS2(x:AV):zad H (λK'=>zfs x λv=>K' v H) k=zfs x k:=zb5 (p:=λq=>zfs x q) λq=>by
 unfold zfs;split
 ·split <;> simp
 ·simp
 ·simp
@[simp] theorem zTd(x:AV):zad H (λK'=>zaG x λv=>K' v H) k=zaG x k:=zb5 (p:=λq=>zaG x q) λq=>by unfold zaG;split <;> simp
@[simp] theorem zS4(x:AV)(i:Nat):zad H (λK'=>zaN x i λv=>K' v H) k=zaN x i k:=zb5 (p:=λq=>zaN x i q) λq=>by
 unfold zaN;split
 ·split <;> simp
 ·simp
@[simp] theorem zSX(z:List AV)(ps:List (Nat×Nat))(x:List (Nat×AV)):zad H (λK'=>zao z ps x λv=>K' v H) k=zao z ps x k:=zb5 (p:=λq=>zao z ps x q) λq=>by unfold zao;split <;> simp
@[simp] theorem zSY(e:Nat)(z:List AV)(l:Nat)(x:List (Nat×AV)):zad H (λK'=>zas e z l x λv=>K' v H) k=zas e z l x k:=zb5 (p:=λq=>zas e z l x q) λq=>by
 unfold zas;split
 ·split <;> simp
 ·simp
@[simp] theorem zSW(o:BinOp)(b:Bool)(x y:AV):zad H (λK'=>zac o b x y λv=>K' v H) k=zac o b x y k:=zb5 (p:=λq=>zac o b x y q) λq=>by unfold zac;split <;> simp
@[simp] theorem zS0(f:Nat)(x:List AV):zad H (λK'=>zcb f x λv=>K' v H) k=zcb f x k:=zb5 (p:=λq=>zcb f x q) λq=>by
 unfold zcb;constructor
 ·rintro⟨h1,h2⟩;exact⟨_,⟨h1,rfl⟩,h2⟩
 ·rintro⟨v,⟨h1,rfl⟩,h2⟩;exact⟨h1,h2⟩
end
@[simp] theorem zDh(A l:zaa):(A++l)[A.length]?=l[0]?:=by rw[List.getElem?_append_right (Nat.le_refl _)];simp
@[simp] theorem zDi(A l:zaa)(k:Nat):(A++l)[A.length+k]?=l[k]?:=by rw[List.getElem?_append_right (by omega)];congr 1;omega
@[simp] theorem zFb(A l:zaa)(x:AB):(A++l).set A.length x=A++l.set 0 x:=by rw[List.set_append_right _ _ (Nat.le_refl _)];simp
@[simp] theorem zwu(A l:zaa)(k:Nat)(x:AB):(A++l).set (A.length+k) x=A++l.set k x:=by rw[List.set_append_right _ _ (by omega)];congr 2;omega
@[simp] theorem zTR(A l:zaa)(i:Nat)(y:AB):(A.set i y++l)[A.length]?=l[0]?:=by have:=zDh (A.set i y) l;rwa [List.length_set]at this
@[simp] theorem zTS(A l:zaa)(i:Nat)(y:AB)(k:Nat):(A.set i y++l)[A.length+k]?=l[k]?:=by have:=zDi (A.set i y) l k;rwa [List.length_set]at this
@[simp] theorem zUh(A l:zaa)(i:Nat)(x y:AB):(A.set i y++l).set A.length x=A.set i y++l.set 0 x:=by have:=zFb (A.set i y) l x;rwa [List.length_set]at this
@[simp] theorem zUi(A l:zaa)(i:Nat)(y:AB)(k:Nat)(x:AB):(A.set i y++l).set (A.length+k) x=A.set i y++l.set k x:=by have:=zwu (A.set i y) l k x;rwa [List.length_set]at this
theorem zcm{H J:zaa}{id:Nat}{b:AB}(h:H[id]?=some b):(H++J)[id]?=some b:=by rw[List.getElem?_append_left (List.getElem?_eq_some_iff.1 h).1];exact h
theorem zfL{H:zaa}{id:Nat}{b:AB}(h:H[id]?=some b):id<H.length:=(List.getElem?_eq_some_iff.1 h).1
theorem zet{H J:zaa}{id:Nat}{b:AB}(x:AB)(h:H[id]?=some b):(H++J).set id x=H.set id x++J:=List.set_append_left _ _ (zfL h)
theorem zc7{H:zaa}{id:Nat}{b:AB}(x:AB)(h:H[id]?=some b):(H.set id x)[id]?=some x:=List.getElem?_set_self (zfL h)

theorem zav{n:Int}(h1:-9223372036854775808≤n)(h2:n≤9223372036854775807):IntKind.i64.wrap n=n:=IntWalk.i64_in n ⟨h1,h2⟩

theorem HSc.set{H:zaa}{id:Nat}{b:AB}(h:HSc H)(hb:b.sc H.length=true):HSc (H.set id b):=by
 intro x hx;rw[List.length_set];rcases List.mem_or_eq_of_mem_set hx with h1|h1
 ·exact h x h1
 ·rw[h1];exact hb
theorem zb6{n m:Nat}(h:n≤m):∀{a:AV},a.sc n=true→a.sc m=true:=by
 have hB:∀{a:AV},a.scB n=true→a.scB m=true:=by
  intro a ha;cases a with
  |sl es t=>cases t <;> simp_all [AV.scB];omega
  |_=>simp_all [AV.scB] <;> omega
 have hA:∀{a:AV},a.scA n=true→a.scA m=true:=by
  intro a ha;cases a with
  |fn f caps=>simp only[AV.scA,List.all_eq_true]at ha ⊢;exactλx hx=>hB (ha x hx)
  |_=>simp only[AV.scA]at ha ⊢;exact hB ha
 have hV:∀{a:AV},a.scV n=true→a.scV m=true:=by
  intro a ha;cases a with
  |agg caps=>simp only[AV.scV,List.all_eq_true]at ha ⊢;exactλx hx=>hA (ha x hx)
  |_=>simp only[AV.scV]at ha ⊢;exact hA ha
 intro a ha;cases a with
 |tup caps=>simp only[AV.sc,List.all_eq_true]at ha ⊢;exactλx hx=>hV (ha x hx)
 |_=>simp only[AV.sc]at ha ⊢;exact hV ha
theorem Back.here{n0:Nat}{Inv:List AV→zaa→Prop}{F:List AV}{H:zaa}(hn:n0≤H.length)(hsc:HSc H)(hs:F.all (AV.sc H.length)=true)(h:Inv F H):Back n0 Inv F H:=by have:=Back.same (J:=[]) hn hsc hs h;simpa using this
theorem zpL{n m:Nat}(h:n≤m){a:AV}(ha:a.scA n=true):a.scA m=true:=by
 cases a with
 |agg cs=>rfl
 |tup vs=>rfl
 |fn f caps=>exact zb6 h (a:=.fn f caps) ha
 |sl es t=>exact zb6 h (a:=.sl es t) ha
 |ptr i o=>exact zb6 h (a:=.ptr i o) ha
 |ms i o l c=>exact zb6 h (a:=.ms i o l c) ha
 |ov i n=>exact zb6 h (a:=.ov i n) ha
 |vp i n o=>exact zb6 h (a:=.vp i n o) ha
 |os i n l e=>exact zb6 h (a:=.os i n l e) ha
 |map i=>exact zb6 h (a:=.map i) ha
 |_=>rfl
theorem zws{n m:Nat}(h:n≤m){a:AV}(ha:a.scV n=true):a.scV m=true:=by
 cases a with
 |tup vs=>rfl
 |agg cs=>exact zb6 h (a:=.agg cs) ha
 |fn f caps=>exact zb6 h (a:=.fn f caps) ha
 |sl es t=>exact zb6 h (a:=.sl es t) ha
 |ptr i o=>exact zb6 h (a:=.ptr i o) ha
 |ms i o l c=>exact zb6 h (a:=.ms i o l c) ha
 |ov i n=>exact zb6 h (a:=.ov i n) ha
 |vp i n o=>exact zb6 h (a:=.vp i n o) ha
 |os i n l e=>exact zb6 h (a:=.os i n l e) ha
 |map i=>exact zb6 h (a:=.map i) ha
 |_=>rfl
theorem zBp{n m:Nat}(h:n≤m){b:AB}(hb:b.sc n=true):b.sc m=true:=by
 cases b with
 |cells cs=>simp only[AB.sc,List.all_eq_true]at hb ⊢;exactλx hx=>zpL h (hb x hx)
 |perm e s n=>rfl
 |gap=>rfl
 |dead=>rfl
 |nodr=>rfl
 |fact φ=>rfl
 |frz e s n=>rfl
 |map kvs=>simp only[AB.sc,List.all_eq_true]at hb ⊢;exactλx hx=>zws h (hb x hx)
 |mapP kvs=>simp only[AB.sc,List.all_eq_true]at hb ⊢;exactλx hx=>zws h (hb x hx)
 |bld t cs=>simp only[AB.sc,List.all_eq_true]at hb ⊢;exactλx hx=>zpL h (hb x hx)
 |vec e s n cs=>simp only[AB.sc,List.all_eq_true]at hb ⊢;exactλx hx=>zpL h (hb x hx)
theorem HSc.append{A J:zaa}(hA:HSc A)(hJ:J.all (AB.sc (A.length+J.length))=true):HSc (A++J):=by
 intro x hx;rw[List.length_append];rcases List.mem_append.1 hx with h1|h1
 ·exact zBp (by omega) (hA x h1)
 ·exact List.all_eq_true.1 hJ x h1
end Go.Abs

import Derived.Test.YtdmamdnkcefmmaaGreatDoorAbsL
set_option linter.unusedSimpArgs false
set_option linter.unusedVariables false
set_option maxRecDepth 8000
namespace Go.Abs
open Go Go.RowKit

variable {P:Program} {B:Nat} {w:World} {G:Gh} {H:zaa}

def AV.scB (n:Nat):AV→Bool
 | .ptr id _=>decide (id<n)
 | .ms id _ _ _=>decide (id<n)
 | .ov id _=>decide (id<n)
 | .vp id _ _=>decide (id<n)
 | .os id _ _ _=>decide (id<n)
 | .map id=>decide (id<n)
 | .sl _ (.own id)=>decide (id<n)
 | _=>true
def AV.scA (n:Nat):AV→Bool
 | .fn _ caps=>caps.all (AV.scB n)
 | a=>a.scB n
def AV.scV (n:Nat):AV→Bool
 | .agg cs=>cs.all (AV.scA n)
 | a=>a.scA n
def AV.sc (n:Nat):AV→Bool
 | .tup vs=>vs.all (AV.scV n)
 | a=>a.scV n
def AB.sc (n:Nat):AB→Bool
 | .cells cs=>cs.all (AV.scA n)
 | .map kvs=>kvs.all λp=>p.2.scV n
 | .bld _ cs=>cs.all (AV.scA n)
 | .vec _ _ _ cs=>cs.all (AV.scA n)
 | _=>true
def HSc (H:zaa):Prop:=∀ b∈H,b.sc H.length=true

theorem lt_of_μ {id:Nat} {gi:GI} (h:G.μ[id]?=some gi):id<G.μ.length:=(List.getElem?_eq_some_iff.1 h).1

theorem BRel.sc {v:Value} {a:AV} (h:BRel w G v a):a.scB G.μ.length=true:=by
 cases a with
 | ptr id off=>obtain⟨b,h1,_⟩:=h;simpa[AV.scB]using lt_of_μ h1
 | ms id off len cap=>obtain⟨b,h1,_⟩:=h;simpa[AV.scB]using lt_of_μ h1
 | ov id n=>obtain⟨_,v',s,n',h1,_⟩:=h;simpa[AV.scB]using lt_of_μ h1
 | vp id n off=>obtain⟨_,v',s,n',h1,_⟩:=h;simpa[AV.scB]using lt_of_μ h1
 | os id n l e=>obtain⟨_,v',s,n',h1,_⟩:=h;simpa[AV.scB]using lt_of_μ h1
 | map id=>obtain⟨b,h1,_⟩:=h;simpa[AV.scB]using lt_of_μ h1
 | sl es tok=>
  cases tok with
  | own id=>obtain⟨_,v',s,n,h1,_⟩:=h;simpa[AV.scB]using lt_of_μ h1
  | none=>rfl
  | full=>rfl
 | _=>rfl
theorem All2.all_of {R:Value→AV→Prop} {p:AV→Bool} (hp:∀ v a,R v a→p a=true):∀ {vs:List Value} {asx:List AV},All2 R vs asx→asx.all p=true
 | [],[],_=>rfl
 | _::_,_::_,h=>by simp only[List.all_cons,Bool.and_eq_true];exact⟨hp _ _ h.1,All2.all_of hp h.2⟩
theorem ARel.sc {v:Value} {a:AV} (h:ARel w G v a):a.scA G.μ.length=true:=by
 have hb:∀ {x:AV},BRel w G v x→x.scB G.μ.length=true:=λh=>h.sc;cases a with
 | fn f caps=>obtain⟨vs,_,h2⟩:=h;exact All2.all_of (λv a (h:BRel w G v a)=>h.sc) h2
 | unk=>exact hb (x:=.unk) h
 | bool b=>exact hb (x:=.bool b) h
 | int k n=>exact hb (x:=.int k n) h
 | str s=>exact hb (x:=.str s) h
 | nilp=>exact hb (x:=.nilp) h
 | ptr i o=>exact hb (x:=.ptr i o) h
 | view cs=>exact hb (x:=.view cs) h
 | snil=>exact hb (x:=.snil) h
 | sl es t=>exact hb (x:=.sl es t) h
 | ms i o l c=>exact hb (x:=.ms i o l c) h
 | ov i n=>exact hb (x:=.ov i n) h
 | vp i n o=>exact hb (x:=.vp i n o) h
 | os i n l e=>exact hb (x:=.os i n l e) h
 | map i=>exact hb (x:=.map i) h
 | nilfn=>exact hb (x:=.nilfn) h
 | nili=>exact hb (x:=.nili) h
 | ifc=>exact hb (x:=.ifc) h
 | agg cs=>exact hb (x:=.agg cs) h
 | tup vs=>exact hb (x:=.tup vs) h
theorem VRel.sc {v:Value} {a:AV} (h:VRel w G v a):a.scV G.μ.length=true:=by
 have ha:∀ {x:AV},ARel w G v x→x.scA G.μ.length=true:=λh=>h.sc;cases a with
 | agg cs=>obtain⟨vs,_,h2⟩:=h;exact All2.all_of (λv a (h:ARel w G v a)=>h.sc) h2
 | fn f caps=>exact ha (x:=.fn f caps) h
 | unk=>rfl
 | bool b=>rfl
 | int k n=>rfl
 | str s=>rfl
 | nilp=>rfl
 | ptr i o=>exact ha (x:=.ptr i o) h
 | view cs=>rfl
 | snil=>rfl
 | sl es t=>exact ha (x:=.sl es t) h
 | ms i o l c=>exact ha (x:=.ms i o l c) h
 | ov i n=>exact ha (x:=.ov i n) h
 | vp i n o=>exact ha (x:=.vp i n o) h
 | os i n l e=>exact ha (x:=.os i n l e) h
 | map i=>exact ha (x:=.map i) h
 | nilfn=>rfl
 | nili=>rfl
 | ifc=>rfl
 | tup vs=>exact ha (x:=.tup vs) h
theorem ERel.sc {e:MapEntry} {p:List UInt8 × AV} (h:ERel w G e p):p.2.scV G.μ.length=true:=h.2.sc
theorem All2.all_ents {p:AV→Bool} {R:MapEntry→List UInt8 × AV→Prop} (hp:∀ v a,R v a→p a.2=true):∀ {vs:List MapEntry} {asx:List (List UInt8 × AV)},All2 R vs asx→(asx.all λa=>p a.2)=true
 | [],[],_=>rfl
 | _::_,_::_,h=>by simp only[List.all_cons,Bool.and_eq_true];exact⟨hp _ _ h.1,All2.all_ents hp h.2⟩
theorem HRel.sc (h:HRel B w G H):HSc H:=by
 intro ab bb;obtain⟨id,ap⟩:=List.mem_iff_getElem?.1 bb;have ak:id<G.μ.length:=by rw[h.len];exact (List.getElem?_eq_some_iff.1 ap).1
 have aw:=h.ok id ab _ ap (List.getElem?_eq_getElem ak);cases ab with
 | cells cs=>
  cases hg:G.μ[id] with
  | blk b=>rw[hg]at aw;obtain⟨_,_,vs,e,_,h2⟩:=aw;have:=All2.all_of (λv a (h:ARel w G v a)=>h.sc) h2;rw[h.len]at this;exact this
  | own v s n=>rw[hg]at aw;exact aw.elim
  | gap=>rw[hg]at aw;exact aw.elim
 | vec e s n cs=>
  cases hg:G.μ[id] with
  | blk b=>rw[hg]at aw;exact aw.elim
  | own v s n=>rw[hg]at aw;obtain⟨_,_,⟨xs,_,h2⟩,_⟩:=aw;have:=All2.all_of (λv a (h:ARel w G v a)=>h.sc) h2;rw[h.len]at this;exact this
  | gap=>rw[hg]at aw;exact aw.elim
 | bld t cs=>
  cases hg:G.μ[id] with
  | blk b=>rw[hg]at aw;obtain⟨_,_,vs,_,h2⟩:=aw;have:=All2.all_of (λv a (h:ARel w G v a)=>h.sc) h2;rw[h.len]at this;exact this
  | own v s n=>rw[hg]at aw;exact aw.elim
  | gap=>rw[hg]at aw;exact aw.elim
 | map kvs=>
  cases hg:G.μ[id] with
  | blk b=>rw[hg]at aw;obtain⟨_,_,es,clk,_,h2⟩:=aw;have:=All2.all_ents (p:=AV.scV G.μ.length) (λv a (h:ERel w G v a)=>h.sc) h2;rw[h.len]at this;exact this
  | own v s n=>rw[hg]at aw;exact aw.elim
  | gap=>rw[hg]at aw;exact aw.elim
 | perm e s n=>rfl
 | gap=>rfl
 | dead=>rfl
 | fact φ=>rfl
 | frz e s n=>rfl

def Gh.cut (G:Gh) (w:World) (n:Nat):Gh:=
 ⟨λb=>if (G.μ.drop n).any (λgi=>gi.block == some b)=true then (match w.heap[b]? with | some (.cells c _ _)=>c.size | _=>0) else G.L b,G.μ.take n⟩

theorem zez {n id:Nat} (h:id<n):(G.cut w n).μ[id]?=G.μ[id]?:=by simp[Gh.cut,h]
theorem ziB {n id:Nat} {gi:GI} (h:(G.cut w n).μ[id]?=some gi):id<n∧G.μ[id]?=some gi:=by
 simp only[Gh.cut,List.getElem?_take]at h;split at h
 ·rename_i ak;exact⟨ak,h⟩
 ·cases h
theorem cut_dropped {n b:Nat}:((G.μ.drop n).any (λgi=>gi.block == some b)=true)↔∃ id gi,n≤id∧G.μ[id]?=some gi∧gi.block=some b:=by
 rw[List.any_eq_true];constructor
 ·rintro⟨gi,h1,h2⟩;obtain⟨k,hk⟩:=List.mem_iff_getElem?.1 h1;rw[List.getElem?_drop]at hk;exact⟨n+k,gi,by omega,hk,by simpa using h2⟩
 ·rintro⟨id,gi,h1,h2,h3⟩;refine⟨gi,List.mem_iff_getElem?.2 ⟨id-n,?_⟩,by simp[h3]⟩;rw[List.getElem?_drop,show n+(id-n)=id by omega];exact h2

theorem zn7 (h:HRel B w G H) (n b:Nat):G.L b≤(G.cut w n).L b:=by
 simp only[Gh.cut];split
 ·rename_i hd;obtain⟨id,gi,_,ap,bE⟩:=cut_dropped.1 hd;have ak:id<H.length:=by rw[←h.len];exact lt_of_μ ap
  have aw:=h.ok id _ _ (List.getElem?_eq_getElem ak) ap;cases gi with
  | gap=>cases bE
  | blk x=>
   simp[GI.block]at bE;subst bE;cases hb:H[id] with
   | cells cs=>rw[hb]at aw;rw[aw.2.1];exact Nat.zero_le _
   | perm e s n=>rw[hb]at aw;exact aw.elim
   | map kvs=>rw[hb]at aw;rw[aw.2.1];exact Nat.zero_le _
   | bld t cs=>rw[hb]at aw;rw[aw.2.1];exact Nat.zero_le _
   | vec e s n cs=>rw[hb]at aw;exact aw.elim
   | gap=>rw[hb]at aw;exact aw.elim
   | dead=>rw[hb]at aw;obtain⟨vs,e,fr,h1,h2⟩:=aw;rw[h1];exact h2
   | frz e s n=>rw[hb]at aw;exact aw.elim
   | fact φ=>rw[hb]at aw;exact aw.elim
  | own v s n=>
   simp only[GI.block]at bE;have big:∀ {e m:Nat} {xs:List Value},w.ownsRow B e s v m xs→m*s≤(match w.heap[b]? with | some (.cells c _ _)=>c.size | _=>0):=by
    rintro e m xs ⟨hl,h1 | ⟨g,cap,cur,rfl,h1,h2,h3,h4,h5,h6⟩⟩
    ·rw[h1.1]at bE;cases bE
    ·simp[Value.ownBlock]at bE;subst bE;rw[h2];simp only[h5];exact Nat.mul_le_mul_right _ h3
   cases hb:H[id] with
   | perm e s' n'=>rw[hb]at aw;obtain⟨rfl,rfl,⟨xs,hx⟩,hL⟩:=aw;rw[hL b bE];exact big hx
   | vec e s' n' cs=>rw[hb]at aw;obtain⟨rfl,rfl,_,hL⟩:=aw;rw[hL b bE];exact Nat.zero_le _
   | cells cs=>rw[hb]at aw;exact aw.elim
   | map kvs=>rw[hb]at aw;exact aw.elim
   | bld t cs=>rw[hb]at aw;exact aw.elim
   | gap=>rw[hb]at aw;exact aw.elim
   | frz e s' n'=>rw[hb]at aw;obtain⟨g,cap,vs,fr,rfl,rfl,rfl,h1,h2,h3,h4,h5,h6⟩:=aw;simp[Value.ownBlock]at bE;subst bE;rw[h1,h3];simp only[h6];exact Nat.mul_le_mul_right _ h4
   | fact φ=>rw[hb]at aw;exact aw.elim
   | dead=>rw[hb]at aw;obtain⟨vs,e,fr,h1,h2⟩:=aw b bE;rw[h1];exact h2
 ·exact Nat.le_refl _


theorem zeA (h:HRel B w G H) {n id:Nat} {gi:GI} {b:Nat} (hn:id<n) (ap:G.μ[id]?=some gi) (hb:gi.block=some b):(G.cut w n).L b=G.L b:=by
 simp only[Gh.cut];split
 ·rename_i hd;obtain⟨id',gi',h1,h2,h3⟩:=cut_dropped.1 hd;have:=h.dist id id' gi _ b ap h2 hb h3;omega
 ·rfl

theorem zvm (h:HRel B w G H) {w0:World} {G0:Gh} {n:Nat} (hE:Ext B w0 G0 w G) (hn:G0.μ.length≤n):Ext B w0 G0 w (G.cut w n):=
 ⟨hE.dr,hE.below,λb=>Nat.le_trans (hE.lev b) (zn7 h n b),hE.cell,λid gi hg=>by
  obtain⟨g',h1,h2⟩:=hE.ids id gi hg;exact⟨g',by rw[zez (Nat.lt_of_lt_of_le (lt_of_μ hg) hn)];exact h1,h2⟩⟩

theorem zgT (h:HRel B w G H) {n:Nat} {v:Value} {a:AV} (hd:DRel w G.L v a):DRel w (G.cut w n).L v a:=hd.mono (λb=>zn7 h n b) (λ_ _ _=>rfl)
theorem zvk (h:HRel B w G H) {n:Nat} {v:Value} {a:AV} (hr:BRel w G v a) (hs:a.scB n=true):BRel w (G.cut w n) v a:=by
 cases a with
 | ptr id off=>obtain⟨b,h1,h2⟩:=hr;simp[AV.scB]at hs;exact⟨b,by rw[zez hs];exact h1,h2⟩
 | ms id off len cap=>obtain⟨b,h1,h2⟩:=hr;simp[AV.scB]at hs;exact⟨b,by rw[zez hs];exact h1,h2⟩
 | map id=>obtain⟨b,h1,h2⟩:=hr;simp[AV.scB]at hs;exact⟨b,by rw[zez hs];exact h1,h2⟩
 | ov id m=>obtain⟨h0,v',s,m',h1,h2⟩:=hr;simp[AV.scB]at hs;exact⟨h0,v',s,m',by rw[zez hs];exact h1,h2⟩
 | vp id m off=>obtain⟨h0,v',s,m',h1,h2⟩:=hr;simp[AV.scB]at hs;exact⟨h0,v',s,m',by rw[zez hs];exact h1,h2⟩
 | os id m l e=>obtain⟨h0,v',s,m',h1,h2⟩:=hr;simp[AV.scB]at hs;exact⟨h0,v',s,m',by rw[zez hs];exact h1,h2⟩
 | view cs=>obtain⟨b,off,h1,h2⟩:=hr;exact⟨b,off,h1,h2.mono (λb=>zn7 h n b) (λ_ _ _=>rfl)⟩
 | sl es tok=>
  cases tok with
  | none=>exact zgT h hr
  | full=>exact⟨zgT h hr.1,hr.2⟩
  | own id=>obtain⟨h1,v',s,m,h2,h3⟩:=hr;simp[AV.scB]at hs;exact⟨zgT h h1,v',s,m,by rw[zez hs];exact h2,h3⟩
 | _=>exact hr
theorem zd9 {R R':Value→AV→Prop} {p:AV→Bool} (hp:∀ v a,R v a→p a=true→R' v a):∀ {vs:List Value} {asx:List AV},All2 R vs asx→asx.all p=true→All2 R' vs asx
 | [],[],_,_=>trivial
 | _::_,_::_,h,hs=>by simp only[List.all_cons,Bool.and_eq_true]at hs;exact⟨hp _ _ h.1 hs.1,zd9 hp h.2 hs.2⟩
theorem zgS (h:HRel B w G H) {n:Nat} {v:Value} {a:AV} (hr:ARel w G v a) (hs:a.scA n=true):ARel w (G.cut w n) v a:=by
 cases a with
 | fn f caps=>obtain⟨vs,h1,h2⟩:=hr;exact⟨vs,h1,zd9 (p:=AV.scB n) (λ_ _=>zvk h) h2 hs⟩
 | _=>exact ARel.of_b (zvk h hr hs)
theorem zn8 (h:HRel B w G H) {n:Nat} {v:Value} {a:AV} (hr:VRel w G v a) (hs:a.scV n=true):VRel w (G.cut w n) v a:=by
 cases a with
 | agg cs=>obtain⟨vs,h1,h2⟩:=hr;exact⟨vs,h1,zd9 (p:=AV.scA n) (λ_ _=>zgS h) h2 hs⟩
 | _=>exact VRel.of_a (zgS h hr hs)
theorem zvn (h:HRel B w G H) {n:Nat} {v:Value} {a:AV} (hr:TRel w G v a) (hs:a.sc n=true):TRel w (G.cut w n) v a:=by
 cases a with
 | tup cs=>obtain⟨vs,h1,h2⟩:=hr;exact⟨vs,h1,zd9 (p:=AV.scV n) (λ_ _=>zn8 h) h2 hs⟩
 | _=>exact TRel.of_v (zn8 h hr hs)

theorem zvl {G':Gh} {p:AV→Bool} (hp:∀ v a,VRel w G v a→p a=true→VRel w G' v a):∀ {es:List MapEntry} {kvs:List (List UInt8 × AV)},All2 (ERel w G) es kvs→(kvs.all λa=>p a.2)=true→All2 (ERel w G') es kvs
 | [],[],_,_=>trivial
 | _::_,_::_,h,hs=>by simp only[List.all_cons,Bool.and_eq_true]at hs;exact⟨⟨h.1.1,hp _ _ h.1.2 hs.1⟩,zvl hp h.2 hs.2⟩
theorem HRel.cut {J:zaa} (h:HRel B w G (H++J)) (hs:HSc H):HRel B w (G.cut w H.length) H:=by
 refine⟨?_,?_,?_,?_,?_,h.base⟩
 ·have:=h.len;simp[Gh.cut]at this ⊢;omega
 ·intro id ab gi h1 h2;obtain⟨ak,h2⟩:=ziB h2;have aw:=h.ok id ab gi (by rw[List.getElem?_append_left ak];exact h1) h2;have hsc:=hs ab (List.mem_iff_getElem?.2 ⟨id,h1⟩);cases ab with
  | cells cs=>
   cases gi with
   | blk b=>obtain⟨k1,k2,vs,e,k3,k4⟩:=aw;exact⟨k1,by rw[zeA h ak h2 rfl];exact k2,vs,e,k3,zd9 (p:=AV.scA H.length) (λ_ _=>zgS h) k4 hsc⟩
   | own v s n=>exact aw.elim
   | gap=>exact aw.elim
  | perm e s n=>
   cases gi with
   | blk b=>exact aw.elim
   | gap=>exact aw.elim
   | own v s' n'=>obtain⟨k1,k2,k3,k4⟩:=aw;exact⟨k1,k2,k3,λb hb=>by rw[zeA h ak h2 (by simpa[GI.block]using hb)];exact k4 b hb⟩
  | vec e s n cs=>
   cases gi with
   | blk b=>exact aw.elim
   | gap=>exact aw.elim
   | own v s' n'=>obtain⟨k1,k2,⟨xs,k3,k5⟩,k4⟩:=aw;exact⟨k1,k2,⟨xs,k3,zd9 (p:=AV.scA H.length) (λ_ _=>zgS h) k5 hsc⟩,λb hb=>by rw[zeA h ak h2 (by simpa[GI.block]using hb)];exact k4 b hb⟩
  | map kvs=>
   cases gi with
   | blk b=>obtain⟨k1,k2,es,clk,k3,k4⟩:=aw;exact⟨k1,by rw[zeA h ak h2 rfl];exact k2,es,clk,k3,zvl (λ_ _ h1 h2=>zn8 h h1 h2) k4 hsc⟩
   | own v s n=>exact aw.elim
   | gap=>exact aw.elim
  | gap=>
   cases gi with
   | blk b=>exact aw.elim
   | own v s n=>exact aw.elim
   | gap=>trivial
  | frz e s n=>
   cases gi with
   | blk b=>exact aw.elim
   | own v s' n'=>obtain⟨g,cap,vs,fr,rfl,rfl,rfl,k1,k2,k3,k4⟩:=aw;exact⟨g,cap,vs,fr,rfl,rfl,rfl,k1,k2,by rw[zeA h ak h2 rfl];exact k3,k4⟩
   | gap=>exact aw.elim
  | fact φ=>
   cases gi with
   | blk b=>exact aw.elim
   | own v s n=>exact aw.elim
   | gap=>exact aw
  | dead=>
   cases gi with
   | blk b=>obtain⟨vs,e,fr,k1,k2⟩:=aw;exact⟨vs,e,fr,k1,by rw[zeA h ak h2 rfl];exact k2⟩
   | own v s n=>exact λb hb=>by rw[zeA h ak h2 (by simpa[GI.block]using hb)];exact aw b hb
   | gap=>exact aw.elim
  | bld t cs=>
   cases gi with
   | blk b=>obtain⟨k1,k2,vs,k3,k4⟩:=aw;exact⟨k1,by rw[zeA h ak h2 rfl];exact k2,vs,k3,zd9 (p:=AV.scA H.length) (λ_ _=>zgS h) k4 hsc⟩
   | own v s n=>exact aw.elim
   | gap=>exact aw.elim
 ·intro id id' gi gi' b h1 h2;exact h.dist id id' gi gi' b (ziB h1).2 (ziB h2).2
 ·intro b hb;simp only[Gh.cut];split
  ·rename_i hd;obtain⟨id,gi,_,ap,hgb⟩:=cut_dropped.1 hd;have:=h.lt id _ b ap hgb;omega
  ·exact h.fresh b hb
 ·intro id gi b h1 h2;exact h.lt id gi b (ziB h1).2 h2

inductive WkA:AV→AV→Prop
 | refl (a:AV):WkA a a
 | sl (es:List (List AV)) (t:Tok):WkA (.sl es t) (.sl es .none)
 | snil:WkA .snil (.sl [] .none)
inductive WkV:AV→AV→Prop
 | unk (a:AV):WkV a .unk
 | atom {a b:AV} (h:WkA a b):WkV a b
 | agg {cs ds:List AV} (h:All2 WkA cs ds):WkV (.agg cs) (.agg ds)
theorem WkA.arel {v:Value} {a b:AV} (h:WkA a b) (hr:ARel w G v a):ARel w G v b:=by
 cases h with
 | refl=>exact hr
 | sl es t=>cases t with
  | none=>exact hr
  | full=>exact hr.1
  | own id=>exact hr.1
 | snil=>cases hr;exact .slE _ _
theorem All2.wk {asx bs:List AV} (h:All2 WkA asx bs):∀ {vs:List Value},All2 (ARel w G) vs asx→All2 (ARel w G) vs bs:=by
 induction asx generalizing bs with
 | nil=>
  intro vs hr;cases bs with
  | nil=>exact hr
  | cons b bs=>exact h.elim
 | cons a asx ih=>
  intro vs hr;cases bs with
  | nil=>exact h.elim
  | cons b bs=>
   cases vs with
   | nil=>exact hr.elim
   | cons v vs=>exact⟨h.1.arel hr.1,ih h.2 hr.2⟩
theorem WkV.trel {v:Value} {a b:AV} (h:WkV a b) (hr:TRel w G v a):TRel w G v b:=by
 cases h with
 | unk=>trivial
 | atom h=>
  cases h with
  | refl=>exact hr
  | sl es t=>exact TRel.of_v (VRel.of_a (WkA.arel (.sl es t) hr))
  | snil=>exact TRel.of_v (VRel.of_a (WkA.arel .snil hr))
 | agg h=>obtain⟨vs,h1,h2⟩:=hr;exact⟨vs,h1,h.wk h2⟩
theorem zyt {asx bs:List AV} (h:All2 WkV asx bs):∀ {vs:List Value},All2 (TRel w G) vs asx→All2 (TRel w G) vs bs:=by
 induction asx generalizing bs with
 | nil=>
  intro vs hr;cases bs with
  | nil=>exact hr
  | cons b bs=>exact h.elim
 | cons a asx ih=>
  intro vs hr;cases bs with
  | nil=>exact h.elim
  | cons b bs=>
   cases vs with
   | nil=>exact hr.elim
   | cons v vs=>exact⟨h.1.trel hr.1,ih h.2 hr.2⟩

theorem ACalls.mono {f:FuncId} {args:List AV} {K K':AV→zaa→Prop} (h:ACalls P f args H K) (hk:∀ r H',K r H'→K' r H'):ACalls P f args H K':=
 λB w G vs hH hv=>(h B w G vs hH hv).mono λ_ _ ⟨v,r,H',G',h1,h2,h3,h4,h5⟩=>⟨v,r,H',G',h1,h2,h3,h4,hk _ _ h5⟩
theorem ACalls.wk {f:FuncId} {args args':List AV} {K:AV→zaa→Prop} (h:ACalls P f args' H K) (ha:All2 WkV args args'):ACalls P f args H K:=
 λB w G vs hH hv=>h B w G vs hH (zyt ha hv)

def Back (n0:Nat) (Inv:List AV→zaa→Prop) (F:List AV) (H:zaa):Prop:=
 ∃ F2 H2 J,H=H2++J∧n0≤H2.length∧HSc H2∧All2 WkV F F2∧F2.all (AV.sc H2.length)=true∧Inv F2 H2

theorem TRel.sc {v:Value} {a:AV} (h:TRel w G v a):a.sc G.μ.length=true:=by
 have ha:∀ {x:AV},VRel w G v x→x.scV G.μ.length=true:=λh=>h.sc;cases a with
 | tup vs=>obtain⟨us,_,h2⟩:=h;exact All2.all_of (λv a (h:VRel w G v a)=>h.sc) h2
 | agg cs=>exact ha (x:=.agg cs) h
 | fn f caps=>exact ha (x:=.fn f caps) h
 | unk=>rfl
 | bool b=>rfl
 | int k n=>rfl
 | str s=>rfl
 | nilp=>rfl
 | ptr i o=>exact ha (x:=.ptr i o) h
 | view cs=>rfl
 | snil=>rfl
 | sl es t=>exact ha (x:=.sl es t) h
 | ms i o l c=>exact ha (x:=.ms i o l c) h
 | ov i n=>exact ha (x:=.ov i n) h
 | vp i n o=>exact ha (x:=.vp i n o) h
 | os i n l e=>exact ha (x:=.os i n l e) h
 | map i=>exact ha (x:=.map i) h
 | nilfn=>rfl
 | nili=>rfl
 | ifc=>rfl
theorem FRel.sc {tm:Array Value} {F:List AV} (hH:HRel B w G H) (h:FRel w G tm F):F.all (AV.sc H.length)=true:=by rw[←hH.len];exact All2.all_of (λv a (h:TRel w G v a)=>h.sc) h

theorem znT {M:Nat→List Bool} {c:Code} {Q:AExit→List AV→zaa→Prop} {F:List AV} (m:List Bool) (Inv:Nat→List AV→zaa→Prop) (n:Nat) (h0:HSc H→F.all (AV.sc H.length)=true→Inv n F H)
  (ac:∀ n F H',Inv n F H'→HSc H'→H.length≤H'.length→F.all (AV.sc H'.length)=true→awp P M c (zb1 m (λF'' H''=>∃ n',n'<n∧Back H.length (Inv n') F'' H'') Q) F H'):ALoop P c Q F H:=by
 intro B w G a hH hF hd b k cs;have key:∀ n (a':Act) (w':World) (G':Gh) (F':List AV) (H':zaa),Ext B w G w' G'→HRel B w' G' H'→FRel w' G' a'.tmps F'→a'.defers=[]→H.length≤H'.length→Inv n F' H' →
   ∃ e a'' w'',Post B w G Q e a'' w''∧Arrives P (lone (b.at a' (.code c::.inLoop c::k)) cs w') b k cs e a'' w'':=by
  intro n;induction n using Nat.strongRecOn with
  | _ n ih=>
   intro a' w' G' F' H' hE aT gR dK am hI;obtain⟨e,a₁,w₁,hq,d3⟩:=zfP c _ F' H' (ac n F' H' hI aT.sc am (FRel.sc aT gR)) B w' G' a' aT gR dK b (.inLoop c::k) cs;obtain⟨F1,H1,G1,e1,rfl,k1,k2,k3,k4,k5⟩:=hq;cases e1 with
   | normal=>obtain⟨n',ak,F2,H2,J,hJ,dW,hsc,aI,aP,hI2⟩:=k5;subst hJ;have eN:Ext B w G w₁ (G1.cut w₁ H2.length):=zvm k2 (hE.trans k1) (by rw[hH.len];exact dW);have hF2:FRel w₁ (G1.cut w₁ H2.length) a₁.tmps F2:=zd9 (p:=AV.sc H2.length) (λ_ _=>zvn k2) (zyt aI (zg8 m k3)) aP;obtain⟨e₂,a₂,w₂,hq₂,d3₂⟩:=ih n' ak a₁ w₁ _ F2 H2 eN (k2.cut hsc) hF2 k4 dW hI2;exact⟨e₂,a₂,w₂,hq₂,.of_steps (Steps.trans d3 (.one step_inLoop)) d3₂⟩
   | exit id=>exact⟨_,a₁,w₁,⟨F1,H1,G1,.exit id,rfl,hE.trans k1,k2,k3,k4,k5⟩,.pass (x:=.inLoop c) rfl (λ_ _=>.inl (by simp[AExit.toExit])) d3⟩
   | ret=>exact⟨_,a₁,w₁,⟨F1,H1,G1,.ret,rfl,hE.trans k1,k2,k3,k4,k5⟩,.pass (x:=.inLoop c) rfl (λ_ _=>.inl (by simp[AExit.toExit])) d3⟩
 obtain⟨e,a',w',hq,d3⟩:=key n a w G F H (Ext.refl _ _ _) hH hF hd (Nat.le_refl _) (h0 hH.sc (FRel.sc hH hF));exact⟨e,a',w',hq,.of_steps (.one step_loop) d3⟩

theorem zyu:∀ F:List AV,All2 WkV F F
 | []=>trivial
 | a::F=>⟨.atom (.refl a),zyu F⟩
theorem Back.same {n0:Nat} {Inv:List AV→zaa→Prop} {F:List AV} {J:zaa} (hn:n0≤H.length) (hsc:HSc H) (hs:F.all (AV.sc H.length)=true) (h:Inv F H):Back n0 Inv F (H++J):=
 ⟨F,H,J,rfl,hn,hsc,zyu F,hs,h⟩

def AV.isV:AV→Bool
 | .tup _=>false
 | _=>true
def zeV (P:Program):List ResultVar→List AV→zaa→(List AV→Prop)→Prop
 | [],_,_,K=>K []
 | .tmp t::rs,F,H,K=>zeV P rs F H λvs=>K (F.getD t .unk::vs)
 | .cell a t::rs,F,H,K=>(match zdU P t,zaX P t with
  | some g,some n=>zae g n (F.getD a .unk) H λv=>zeV P rs F H λvs=>K (v::vs)
  | _,_=>False)
def zaD (vs:List AV) (K:AV→Prop):Prop:=
 match vs with
 | [v]=>K v
 | vs=>vs.all AV.isV=true∧K (.tup vs)
def zay (P:Program) (rs:List ResultVar) (K:AV→zaa→Prop) (e:AExit) (F:List AV) (H:zaa):Prop:=
 match e with
 | .exit _=>False
 | _=>zeV P rs F H λvs=>zaD vs (K · H)

theorem zvQ {v:Value} {a:AV} (h:TRel w G v a) (hv:a.isV=true):VRel w G v a:=by cases a <;> first | exact h | (simp[AV.isV]at hv;done)

def zjN (tm:Array Value):ResultVar→Sem Value
 | .tmp t=>pure (tm.getD t undef)
 | .cell a t=>do loadVar t (←asAddr (tm.getD a undef))
theorem zF3 (fn:Func) (tm:Array Value):results fn tm=(do
  let vs ←fn.results.mapM (zjN tm)
  pure (if h:vs.size=1 then vs[0] else .tuple vs)):=by
 unfold results;congr 1

theorem zp0 {tm:Array Value} {F:List AV} (hH:HRel B w G H) (hF:FRel w G tm F):∀ (rs:List ResultVar) (K:List AV→Prop),zeV P rs F H K →
  ∃ vs asx,(rs.mapM (m:=Sem) (zjN tm)).run P w=.ok vs w∧All2 (TRel w G) vs asx∧K asx
 | [],K,h=>⟨[],[],by simp,trivial,h⟩
 | .tmp t::rs,K,h=>by obtain⟨vs,asx,h1,h2,h3⟩:=zp0 hH hF rs _ h;have ht:=zaK (a:=⟨tm,[]⟩) hF (.tmp t);exact⟨tm.getD t undef::vs,F.getD t .unk::asx,by simp only[List.mapM_cons,Sem.run_bind,zjN,Sem.run_pure,Result.andThen_ok,h1],⟨ht,h2⟩,h3⟩
 | .cell a t::rs,K,h=>by
  unfold zeV at h;split at h
  ·rename_i g n hg hn;have ht:=zaK (a:=⟨tm,[]⟩) hF (.tmp a);have ht:TRel w G (tm.getD a undef) (F.getD a .unk):=ht;obtain⟨u,h1,av,h2,h3⟩:=zxy (K:=λv _=>zeV P rs F H λvs=>K (v::vs)) hH ht hg hn h;obtain⟨vs,asx,k1,k2,k3⟩:=zp0 hH hF rs _ h3;refine⟨u::vs,av::asx,?_,⟨h2,k2⟩,k3⟩;have dC:(zjN tm (.cell a t)).run P w=.ok u w:=by
    have hsa:∃ x,tm.getD a undef=.pointer (some x):=by
     rw[zgB]at h;split at h
     ·rename_i hx;rw[hx]at ht;obtain⟨b,_,hb⟩:=ht;exact⟨_,hb⟩
     ·rename_i hx;rw[hx]at ht;obtain⟨b,off,hb,_⟩:=ht;exact⟨_,hb⟩
     ·rename_i hx;rw[hx]at ht;obtain⟨⟨b,off,hb⟩,_⟩:=ht;exact⟨_,hb⟩
     ·exact h.elim
    obtain⟨x,hx⟩:=hsa;show ((do loadVar t (←asAddr (tm.getD a undef))):Sem Value).run P w=.ok u w;rw[hx]at h1 ⊢;simpa[Instr.loadAt,Instr.sureAddr,asAddr]using h1
   simp only[List.mapM_cons,Sem.run_bind,dC,Result.andThen_ok,k1,Sem.run_pure]
  ·exact h.elim

theorem zao {M:Nat→List Bool} {f:FuncId} {fn:Func} {c:Code} {args:List AV} {K:AV→zaa→Prop} (hf:P.funcs[f]?=some fn) (hb:fn.body=some c)
  (h:HSc H→awp P M c (zay P fn.results.toList K) (args++List.replicate (fn.ntmps-args.length) .unk) H):ACalls P f args H K:=by
 intro B w G vs hH hv;refine calls_of_wp hf hb ?_;have hF:FRel w G (vs++Array.replicate (fn.ntmps-vs.size) undef) (args++List.replicate (fn.ntmps-args.length) .unk):=by
  unfold FRel;have hl:vs.size=args.length:=by simpa using hv.length
  rw[hl];simpa using hv.append (All2.replicate (R:=TRel w G) (a:=undef) (b:=.unk) trivial (fn.ntmps-args.length))
 refine wp_mono (zfP c _ _ H (h hH.sc) B w G ⟨_,[]⟩ hH hF rfl) λe a' w' hp=>?_;obtain⟨F',H',G',e',rfl,h1,h2,h3,h4,h5⟩:=hp;have fin:(zeV P fn.results.toList F' H' λvs=>zaD vs (K · H'))→∃ v,(results fn a'.tmps).run P w'=.ok v w'∧∃ v' r H'' G'',Ending.returned v=.returned v'∧Ext B w G w' G''∧HRel B w' G'' H''∧TRel w' G'' v' r∧K r H'':=by
  intro h5;obtain⟨us,asx,k1,k2,k3⟩:=zp0 h2 h3 fn.results.toList _ h5;have hres:(results fn a'.tmps).run P w'=.ok (if hh:us.toArray.size=1 then us.toArray[0] else .tuple us.toArray) w':=by rw[zF3,Sem.run_bind,Array.mapM_eq_mapM_toList,Sem.run_map,k1];rfl
  refine⟨_,hres,(if hh:us.toArray.size=1 then us.toArray[0] else .tuple us.toArray),?_⟩;have hl:=k2.length;unfold zaD at k3;split at k3
  ·rename_i r
   match us,hl,k2,hres with
   | [u],_,k2,_=>exact⟨r,H',G',rfl,h1,h2,by simpa using k2.1,k3⟩
  ·rename_i aB;refine⟨.tup asx,H',G',rfl,h1,h2,?_,k3.2⟩;have aC:¬ us.toArray.size=1:=by
    intro hs;have:asx.length=1:=by rw[←hl];simpa using hs
    match asx,this with
    | [x],_=>exact aB x rfl
   rw[dif_neg aC];exact⟨us.toArray,rfl,zd9 (p:=AV.isV) (λ_ _=>zvQ) k2 k3.1⟩
 cases e' with
 | normal=>exact⟨h4,fin h5⟩
 | ret=>exact⟨h4,fin h5⟩
 | exit id=>exact h5.elim

theorem acb {P:Program} {H:zaa} (M:Nat→List Bool) {f:FuncId} {fn:Func} {args:List AV} {K:AV→zaa→Prop} {X:Prop} (hf:P.funcs[f]?=some fn) (c:Code) (hb:fn.body=some c)
  (e:awp P M c (zay P fn.results.toList K) (args++List.replicate (fn.ntmps-args.length) .unk) H=X) (h:HSc H→X):ACalls P f args H K:=
 zao (M:=M) hf hb λhs=>Eq.mpr e (h hs)
end Go.Abs
namespace Go.Abs
open Go Go.RowKit

variable {P:Program} {B:Nat} {w:World} {G:Gh} {H:zaa}

theorem DRel.of_flat_at {L:Nat→Nat} {g off size cap:Nat} {es:List (List AV)} {zs:List Value} (aC:∀ c∈es,c.length=size) (aB:es≠[]) (aJ:es.length≤cap) (hL:off+es.length*size≤L g)
  (hr:All2 (DRel w L) zs es.flatten) (hc:∀ j v,zs[j]?=some v→w.cell? ⟨g,off+j,none⟩=some v):DRel w L (.slice (some ⟨g,off,none⟩) es.length cap) (.sl es .none):=by
 have aA:∀ i j (hi:i<es.length) (hj:j<(es[i]).length),∃ v,zs[i*size+j]?=some v∧DRel w L v (es[i])[j]:=λi j hi hj=>hr.get (zgX aC i j hi hj);refine .sl g off cap size es (λi j=>zs.getD (i*size+j) undef) aB aJ hL (λi hi=>aC _ (List.getElem_mem hi)) (λi j hi hj=>?_) (λi j hi hj=>?_)
 ·obtain⟨v,h1,h2⟩:=aA i j hi hj;simp only[List.getD_eq_getElem?_getD,h1,Option.getD_some,Nat.add_assoc];exact hc _ _ h1
 ·obtain⟨v,h1,h2⟩:=aA i j hi hj;simp only[List.getD_eq_getElem?_getD,h1,Option.getD_some];exact h2

inductive OutV (H:zaa) (n:Nat):AV→AV→Prop
 | wk {a b:AV} (h:WkV a b) (hv:b.isV=true) (hs:b.scV n=true):OutV H n a b
 | frz (id off len cap size:Nat) (cs:List AV) (es:List (List AV)) (ap:n≤id) (hH:H[id]?=some (.cells cs)) (a8:off+len*size≤cs.length)
   (hp:plain ((cs.drop off).take (len*size))=some es.flatten) (am:es.length=len) (aC:∀ c∈es,c.length=size) (aJ:len≤cap):OutV H n (.ms id off len cap) (.sl es .none)
 | vfz (id e size m:Nat) (cs:List AV) (es:List (List AV)) (ap:n≤id) (hH:H[id]?=some (.vec e size m cs)) (hp:plain cs=some es.flatten) (am:es.length=m) (aC:∀ c∈es,c.length=size):OutV H n (.ov id m) (.sl es .none)
inductive OutT (H:zaa) (n:Nat):AV→AV→Prop
 | one {a b:AV} (h:OutV H n a b):OutT H n a b
 | tup {asx bs:List AV} (h:All2 (OutV H n) asx bs):OutT H n (.tup asx) (.tup bs)

theorem zEL {n:Nat} {b:AV} (hv:b.isV=true) (hs:b.scV n=true):b.sc n=true:=by cases b <;> first | exact hs | (simp[AV.isV]at hv;done)

theorem OutV.vrel (hH:HRel B w G H) {n:Nat} {v:Value} {a b:AV} (h:OutV H n a b) (hr:TRel w G v a):VRel w (G.cut w n) v b:=by
 cases h with
 | wk h hv hs=>exact zvQ (zvn hH (h.trel hr) (zEL hv hs)) hv
 | frz id off len cap size cs es ap cr a8 hp am aC aJ=>
  obtain⟨b,hμ,rfl⟩:=hr;have aw:=hH.ok id _ _ cr hμ;obtain⟨_,_,vs,e,hw,aK⟩:=aw;subst am;show DRel w (G.cut w n).L _ _;by_cases aB:es=[]
  ·subst aB;exact .slE _ _
  ·have hl:=aK.length;have hd:=zdm ((aK.drop off).take (es.length*size)) hp;refine DRel.of_flat_at (zs:=(vs.toList.drop off).take (es.length*size)) aC aB aJ ?_ (hd.mono λ_ _=>zgT hH) ?_
   ·have:(G.cut w n).L b=vs.size:=by simp only[Gh.cut];rw[if_pos (cut_dropped.2 ⟨id,_,ap,hμ,rfl⟩),hw]
    rw[this];simp at hl;omega
   ·intro j u hj;rw[List.getElem?_take]at hj;split at hj
    ·simp only[World.cell?,hw];simpa using hj
    ·cases hj
 | vfz id e size m cs es ap cr hp am aC=>
  obtain⟨⟨a,cap0,rfl,_⟩,v',s0,n',hμ,_,heq⟩:=hr;obtain⟨rfl,rfl,⟨xs,aq,aK⟩,_⟩:=hH.ok id _ _ cr hμ;obtain rfl:=heq rfl;subst am;show DRel w (G.cut w n).L _ _;by_cases aB:es=[]
  ·subst aB;exact .slE _ _
  ·have bP:=aq;obtain⟨hl,be⟩:=bP;rcases be with ⟨h1,h2⟩ | ⟨g,cap,cur,h1,h2,h3,h4,h5,h6,h7⟩
   ·cases es <;> simp_all
   ·simp at h1;obtain⟨rfl,rfl⟩:=h1;obtain⟨_,_,_,aG⟩:=zdl aq;refine DRel.of_flat_at (zs:=xs) aC aB h4 ?_ ((zdm aK hp).mono λ_ _=>zgT hH) ?_
    ·have:(G.cut w n).L g=cur.size:=by simp only[Gh.cut];rw[if_pos (cut_dropped.2 ⟨id,_,ap,hμ,rfl⟩),h3]
     rw[this,h6,Nat.zero_add];exact Nat.mul_le_mul_right _ h4
    ·intro j u hj;rw[Nat.zero_add,aG j (by rw[←hl];exact (List.getElem?_eq_some_iff.1 hj).1)];exact hj

theorem zFz (hH:HRel B w G H) {n:Nat} {asx bs:List AV} (h:All2 (OutV H n) asx bs):∀ {vs:List Value},All2 (VRel w G) vs asx→All2 (VRel w (G.cut w n)) vs bs:=by
 induction asx generalizing bs with
 | nil=>
  intro vs hr;cases bs with
  | nil=>cases vs <;> first | trivial | exact hr.elim
  | cons b bs=>exact h.elim
 | cons a asx ih=>
  intro vs hr;cases bs with
  | nil=>exact h.elim
  | cons b bs=>
   cases vs with
   | nil=>exact hr.elim
   | cons v vs=>exact⟨h.1.vrel hH (TRel.of_v hr.1),ih h.2 hr.2⟩

def Out (n:Nat) (K:AV→zaa→Prop) (r:AV) (H':zaa):Prop:=∃ r2 H2 J,H'=H2++J∧n≤H2.length∧HSc H2∧OutT H' H2.length r r2∧K r2 H2

theorem ACalls.out {f:FuncId} {args:List AV} {K:AV→zaa→Prop} (h:ACalls P f args H (Out H.length K)):ACalls P f args H K:=by
 intro B w G vs hH hv;refine (h B w G vs hH hv).mono λe w' ⟨v,r,H',G',h1,h2,h3,h4,h5⟩=>?_;obtain⟨r2,H2,J,hJ,hn,hsc,ho,hk⟩:=h5;subst hJ;refine⟨v,r2,H2,G'.cut w' H2.length,h1,zvm h3 h2 (by rw[hH.len];exact hn),h3.cut hsc,?_,hk⟩;cases ho with
 | one ho=>exact TRel.of_v (ho.vrel h3 h4)
 | tup ho=>obtain⟨us,hu,hr⟩:=h4;exact⟨us,hu,zFz h3 ho hr⟩

theorem Out.same {n:Nat} {K:AV→zaa→Prop} {r:AV} {J:zaa} (hn:n=H.length) (hsc:HSc H) (hv:r.isV=true) (hr:r.scV H.length=true) (h:K r H):Out n K r (H++J):=
 ⟨r,H,J,rfl,by omega,hsc,.one (.wk (.atom (.refl r)) hv hr),h⟩

theorem ALoop.own {c:Code} {Q:AExit→List AV→zaa→Prop} {F:List AV} (i e size:Nat) (hi:F[i]?=some .snil)
  (h:ALoop P c Q (F.set i (.sl [] (.own H.length))) (H++[.perm e size 0])):ALoop P c Q F H:=by
 intro B w G a hH hF hd;obtain⟨hE,aT⟩:=hH.newOwn e size;have gR:FRel w ⟨G.L,G.μ++[.own (.slice none 0 0) size 0]⟩ a.tmps (F.set i (.sl [] (.own H.length))):=by
  unfold FRel;obtain⟨v,h1,h2⟩:=All2.get hF hi;have h2:v=.slice none 0 0:=h2;subst h2;have aU:a.tmps.toList=a.tmps.toList.set i (.slice none 0 0):=by
   apply List.ext_getElem?;intro k;by_cases hk:k=i
   ·subst hk;rw[List.getElem?_set_self (List.getElem?_eq_some_iff.1 h1).1];exact h1
   ·rw[List.getElem?_set_ne (λh=>hk h.symm)]
  rw[aU];refine All2.set i (hF.ext hE) ?_;refine⟨.slE _ _,.slice none 0 0,size,0,?_,Nat.le_refl _,λ_=>⟨rfl,by simp⟩⟩;rw[←hH.len];simp
 refine wp_mono (h B w _ a aT gR hd) λe a' w' hp=>?_;obtain⟨F'',H'',G'',e'',rfl,k1,k2,k3,k4,k5⟩:=hp;exact⟨F'',H'',G'',e'',rfl,hE.trans k1,k2,k3,k4,k5⟩

def zcp (w:World) (b:Nat):Nat:=match w.heap[b]? with | some (.cells c _ _)=>c.size | _=>0
def G0 (w:World):Gh:=⟨zcp w,[]⟩

theorem zED (w:World):HRel w.heap.size w (G0 w) []:=
 ⟨rfl,λ_ _ _ h=>by simp at h,λ_ _ _ _ _ h=>by simp[G0]at h,λb hb=>by simp[G0,zcp,Array.getElem?_eq_none hb],λ_ _ _ h=>by simp[G0]at h,Nat.le_refl _⟩

theorem zHF {f:FuncId} {args:List AV} (h:ACalls P f args [] λr _=>r=.bool true) (w:World) (vs:Array Value) (hv:All2 (TRel w (G0 w)) vs.toList args) :
  Calls P f vs w λe w'=>e=.returned (.bool true)∧Below w.heap.size w w':=by
 refine (h _ w (G0 w) vs (zED w) hv).mono λe w' ⟨v,r,H',G',h1,h2,h3,h4,h5⟩=>?_;subst h5;have h4:v=.bool true:=h4;subst h4;exact⟨h1,h2.below⟩

end Go.Abs
namespace Go.Abs
open Go
abbrev Kt:=AV→zaa→Prop
abbrev Lt:=List AV→zaa→Prop
def ux:Nat→List AV→List AV
 | 0,l=>l
 | n+1,l=>.unk::ux n l
@[simp] theorem zYz (m n:Nat) (l:List AV):(ux n l).all (AV.sc m)=l.all (AV.sc m):=by
 induction n with
 | zero=>rfl
 | succ n ih=>rw[ux,List.all_cons,ih];rfl
def rl:Bool→List Nat→List Bool
 | _,[]=>[]
 | b,n::l=>List.replicate n b++rl (!b) l
end Go.Abs
namespace Go.Abs
open Go Go.RowKit
variable {P:Program} {M:Nat→List Bool} {c:Code} {Q:AExit→List AV→zaa→Prop} {H:zaa}
def Rd1 (fr:AV→List AV) (bd:AV→zaa→Lt→Prop) (H:zaa) (Inv:Nat→AV→zaa→Prop):Prop:=
 ∀ n t0 H',Inv n t0 H'→HSc H'→H.length≤H'.length→(fr t0).all (AV.sc H'.length)=true→∀ Kb:Lt,(∀ F'' H'',(∃ n',n'<n∧Back H.length (λF2 H2=>∃ t0,F2=fr t0∧Inv n' t0 H2) F'' H'')→Kb F'' H'')→bd t0 H' Kb
theorem lp1 {fr:AV→List AV} {bd:AV→zaa→Lt→Prop} (m:List Bool) (t0:AV) (he:(λt0 H Kb=>awp P M c (zb1 m Kb Q) (fr t0) H)=bd) (Inv:Nat→AV→zaa→Prop) (n:Nat) (h0:HSc H→Inv n t0 H) (ac:Rd1 fr bd H Inv):ALoop P c Q (fr t0) H:=by subst he;exact znT (M:=M) m (λn F H=>∃ t0,F=fr t0∧Inv n t0 H) n (λhs _=>⟨t0,rfl,h0 hs⟩) (λn F H' ⟨t0,hF,hI⟩ h1 h2 h3=>by subst hF;exact ac n t0 H' hI h1 h2 h3 _ (λ_ _ h=>h))
def Rd2 (fr:AV→AV→List AV) (bd:AV→AV→zaa→Lt→Prop) (H:zaa) (Inv:Nat→AV→AV→zaa→Prop):Prop:=
 ∀ n t0 t1 H',Inv n t0 t1 H'→HSc H'→H.length≤H'.length→(fr t0 t1).all (AV.sc H'.length)=true→∀ Kb:Lt,(∀ F'' H'',(∃ n',n'<n∧Back H.length (λF2 H2=>∃ t0 t1,F2=fr t0 t1∧Inv n' t0 t1 H2) F'' H'')→Kb F'' H'')→bd t0 t1 H' Kb
theorem lp2 {fr:AV→AV→List AV} {bd:AV→AV→zaa→Lt→Prop} (m:List Bool) (t0 t1:AV) (he:(λt0 t1 H Kb=>awp P M c (zb1 m Kb Q) (fr t0 t1) H)=bd) (Inv:Nat→AV→AV→zaa→Prop) (n:Nat) (h0:HSc H→Inv n t0 t1 H) (ac:Rd2 fr bd H Inv):ALoop P c Q (fr t0 t1) H:=by subst he;exact znT (M:=M) m (λn F H=>∃ t0 t1,F=fr t0 t1∧Inv n t0 t1 H) n (λhs _=>⟨t0,t1,rfl,h0 hs⟩) (λn F H' ⟨t0,t1,hF,hI⟩ h1 h2 h3=>by subst hF;exact ac n t0 t1 H' hI h1 h2 h3 _ (λ_ _ h=>h))
def Rd3 (fr:AV→AV→AV→List AV) (bd:AV→AV→AV→zaa→Lt→Prop) (H:zaa) (Inv:Nat→AV→AV→AV→zaa→Prop):Prop:=
 ∀ n t0 t1 t2 H',Inv n t0 t1 t2 H'→HSc H'→H.length≤H'.length→(fr t0 t1 t2).all (AV.sc H'.length)=true→∀ Kb:Lt,(∀ F'' H'',(∃ n',n'<n∧Back H.length (λF2 H2=>∃ t0 t1 t2,F2=fr t0 t1 t2∧Inv n' t0 t1 t2 H2) F'' H'')→Kb F'' H'')→bd t0 t1 t2 H' Kb
theorem lp3 {fr:AV→AV→AV→List AV} {bd:AV→AV→AV→zaa→Lt→Prop} (m:List Bool) (t0 t1 t2:AV) (he:(λt0 t1 t2 H Kb=>awp P M c (zb1 m Kb Q) (fr t0 t1 t2) H)=bd) (Inv:Nat→AV→AV→AV→zaa→Prop) (n:Nat) (h0:HSc H→Inv n t0 t1 t2 H) (ac:Rd3 fr bd H Inv):ALoop P c Q (fr t0 t1 t2) H:=by subst he;exact znT (M:=M) m (λn F H=>∃ t0 t1 t2,F=fr t0 t1 t2∧Inv n t0 t1 t2 H) n (λhs _=>⟨t0,t1,t2,rfl,h0 hs⟩) (λn F H' ⟨t0,t1,t2,hF,hI⟩ h1 h2 h3=>by subst hF;exact ac n t0 t1 t2 H' hI h1 h2 h3 _ (λ_ _ h=>h))
end Go.Abs

import Derived.Test.YtdmamdnkcefmmaaGreatDoorAbsL
import Derived.IntWalk
set_option linter.unusedSimpArgs false
set_option linter.unusedVariables false
set_option maxRecDepth 8000
namespace Go.Proofs.YtdmamdnkcefmmaaGreatDoor
section
open Go.RowKit

variable {P:Program} {B:Nat} {w:World} {G:Gh} {H:zaa}

def AV.scB (n:Nat):AV→Bool
 | .ptr id _=>decide (id<n)
 | .ms id _ _ _=>decide (id<n)
 | .ov id _=>decide (id<n)
 | .vp id _ _=>decide (id<n)
 | .os id _ _ _=>decide (id<n)
 | .map id=>decide (id<n)
 | .sl _ (.own id)=>decide (id<n)
 | _=>true
def AV.scA (n:Nat):AV→Bool
 | .fn _ caps=>caps.all (AV.scB n)
 | a=>a.scB n
def AV.scV (n:Nat):AV→Bool
 | .agg cs=>cs.all (AV.scA n)
 | a=>a.scA n
def AV.sc (n:Nat):AV→Bool
 | .tup vs=>vs.all (AV.scV n)
 | a=>a.scV n
def AB.sc (n:Nat):AB→Bool
 | .cells cs=>cs.all (AV.scA n)
 | .map kvs=>kvs.all λp=>p.2.scV n
 | .bld _ cs=>cs.all (AV.scA n)
 | .vec _ _ _ cs=>cs.all (AV.scA n)
 | _=>true
def HSc (H:zaa):Prop:=∀ b∈H,b.sc H.length=true

theorem lt_of_μ {id:Nat} {gi:GI} (h:G.μ[id]?=some gi):id<G.μ.length:=(List.getElem?_eq_some_iff.1 h).1

theorem BRel.sc {v:Value} {a:AV} (h:BRel w G v a):a.scB G.μ.length=true:=by
 cases a with
 | ptr id off=>obtain⟨b,h1,_⟩:=h;simpa[AV.scB]using lt_of_μ h1
 | ms id off len cap=>obtain⟨b,h1,_⟩:=h;simpa[AV.scB]using lt_of_μ h1
 | ov id n=>obtain⟨_,v',s,n',h1,_⟩:=h;simpa[AV.scB]using lt_of_μ h1
 | vp id n off=>obtain⟨_,v',s,n',h1,_⟩:=h;simpa[AV.scB]using lt_of_μ h1
 | os id n l e=>obtain⟨_,v',s,n',h1,_⟩:=h;simpa[AV.scB]using lt_of_μ h1
 | map id=>obtain⟨b,h1,_⟩:=h;simpa[AV.scB]using lt_of_μ h1
 | sl es tok=>
  cases tok with
  | own id=>obtain⟨_,v',s,n,h1,_⟩:=h;simpa[AV.scB]using lt_of_μ h1
  | none=>rfl
  | full=>rfl
 | _=>rfl
theorem All2.all_of {R:Value→AV→Prop} {p:AV→Bool} (hp:∀ v a,R v a→p a=true):∀ {vs:List Value} {asx:List AV},All2 R vs asx→asx.all p=true
 | [],[],_=>rfl
 | _::_,_::_,h=>by simp only[List.all_cons,Bool.and_eq_true];exact⟨hp _ _ h.1,All2.all_of hp h.2⟩
theorem ARel.sc {v:Value} {a:AV} (h:ARel w G v a):a.scA G.μ.length=true:=by
 have hb:∀ {x:AV},BRel w G v x→x.scB G.μ.length=true:=λh=>h.sc;cases a with
 | fn f caps=>obtain⟨vs,_,h2⟩:=h;exact All2.all_of (λv a (h:BRel w G v a)=>h.sc) h2
 | unk=>exact hb (x:=.unk) h
 | bool b=>exact hb (x:=.bool b) h
 | int k n=>exact hb (x:=.int k n) h
 | str s=>exact hb (x:=.str s) h
 | nilp=>exact hb (x:=.nilp) h
 | ptr i o=>exact hb (x:=.ptr i o) h
 | view cs=>exact hb (x:=.view cs) h
 | snil=>exact hb (x:=.snil) h
 | sl es t=>exact hb (x:=.sl es t) h
 | ms i o l c=>exact hb (x:=.ms i o l c) h
 | ov i n=>exact hb (x:=.ov i n) h
 | vp i n o=>exact hb (x:=.vp i n o) h
 | os i n l e=>exact hb (x:=.os i n l e) h
 | map i=>exact hb (x:=.map i) h
 | nilfn=>exact hb (x:=.nilfn) h
 | nili=>exact hb (x:=.nili) h
 | ifc=>exact hb (x:=.ifc) h
 | agg cs=>exact hb (x:=.agg cs) h
 | tup vs=>exact hb (x:=.tup vs) h
theorem VRel.sc {v:Value} {a:AV} (h:VRel w G v a):a.scV G.μ.length=true:=by
 have ha:∀ {x:AV},ARel w G v x→x.scA G.μ.length=true:=λh=>h.sc;cases a with
 | agg cs=>obtain⟨vs,_,h2⟩:=h;exact All2.all_of (λv a (h:ARel w G v a)=>h.sc) h2
 | fn f caps=>exact ha (x:=.fn f caps) h
 | unk=>rfl
 | bool b=>rfl
 | int k n=>rfl
 | str s=>rfl
 | nilp=>rfl
 | ptr i o=>exact ha (x:=.ptr i o) h
 | view cs=>rfl
 | snil=>rfl
 | sl es t=>exact ha (x:=.sl es t) h
 | ms i o l c=>exact ha (x:=.ms i o l c) h
 | ov i n=>exact ha (x:=.ov i n) h
 | vp i n o=>exact ha (x:=.vp i n o) h
 | os i n l e=>exact ha (x:=.os i n l e) h
 | map i=>exact ha (x:=.map i) h
 | nilfn=>rfl
 | nili=>rfl
 | ifc=>rfl
 | tup vs=>exact ha (x:=.tup vs) h
theorem ERel.sc {e:MapEntry} {p:List UInt8 × AV} (h:ERel w G e p):p.2.scV G.μ.length=true:=h.2.sc
theorem All2.all_ents {p:AV→Bool} {R:MapEntry→List UInt8 × AV→Prop} (hp:∀ v a,R v a→p a.2=true):∀ {vs:List MapEntry} {asx:List (List UInt8 × AV)},All2 R vs asx→(asx.all λa=>p a.2)=true
 | [],[],_=>rfl
 | _::_,_::_,h=>by simp only[List.all_cons,Bool.and_eq_true];exact⟨hp _ _ h.1,All2.all_ents hp h.2⟩
theorem HRel.sc (h:HRel B w G H):HSc H:=by
 intro ab bb;obtain⟨id,ap⟩:=List.mem_iff_getElem?.1 bb;have ak:id<G.μ.length:=by rw[h.len];exact (List.getElem?_eq_some_iff.1 ap).1
 have az:=h.ok id ab _ ap (List.getElem?_eq_getElem ak);cases ab with
 | cells cs=>
  cases hg:G.μ[id] with
  | blk b=>rw[hg]at az;obtain⟨_,_,vs,e,_,h2⟩:=az;have:=All2.all_of (λv a (h:ARel w G v a)=>h.sc) h2;rw[h.len]at this;exact this
  | own v s n=>rw[hg]at az;exact az.elim
  | gap=>rw[hg]at az;exact az.elim
 | vec e s n cs=>
  cases hg:G.μ[id] with
  | blk b=>rw[hg]at az;exact az.elim
  | own v s n=>rw[hg]at az;obtain⟨_,_,⟨xs,_,h2⟩,_⟩:=az;have:=All2.all_of (λv a (h:ARel w G v a)=>h.sc) h2;rw[h.len]at this;exact this
  | gap=>rw[hg]at az;exact az.elim
 | bld t cs=>
  cases hg:G.μ[id] with
  | blk b=>rw[hg]at az;obtain⟨_,_,vs,_,h2⟩:=az;have:=All2.all_of (λv a (h:ARel w G v a)=>h.sc) h2;rw[h.len]at this;exact this
  | own v s n=>rw[hg]at az;exact az.elim
  | gap=>rw[hg]at az;exact az.elim
 | map kvs=>
  cases hg:G.μ[id] with
  | blk b=>rw[hg]at az;obtain⟨_,_,es,clk,_,h2⟩:=az;have:=All2.all_ents (p:=AV.scV G.μ.length) (λv a (h:ERel w G v a)=>h.sc) h2;rw[h.len]at this;exact this
  | own v s n=>rw[hg]at az;exact az.elim
  | gap=>rw[hg]at az;exact az.elim
 | perm e s n=>rfl
 | gap=>rfl
 | dead=>rfl
 | fact φ=>rfl
 | frz e s n=>rfl

def Gh.cut (G:Gh) (w:World) (n:Nat):Gh:=
 ⟨λb=>if (G.μ.drop n).any (λgi=>gi.block == some b)=true then (match w.heap[b]? with | some (.cells c _ _)=>c.size | _=>0) else G.L b,G.μ.take n⟩

theorem zeO {n id:Nat} (h:id<n):(G.cut w n).μ[id]?=G.μ[id]?:=by simp[Gh.cut,h]
theorem zjg {n id:Nat} {gi:GI} (h:(G.cut w n).μ[id]?=some gi):id<n∧G.μ[id]?=some gi:=by
 simp only[Gh.cut,List.getElem?_take]at h;split at h
 ·rename_i ak;exact⟨ak,h⟩
 ·cases h
theorem cut_dropped {n b:Nat}:((G.μ.drop n).any (λgi=>gi.block == some b)=true)↔∃ id gi,n≤id∧G.μ[id]?=some gi∧gi.block=some b:=by
 rw[List.any_eq_true];constructor
 ·rintro⟨gi,h1,h2⟩;obtain⟨k,hk⟩:=List.mem_iff_getElem?.1 h1;rw[List.getElem?_drop]at hk;exact⟨n+k,gi,by omega,hk,by simpa using h2⟩
 ·rintro⟨id,gi,h1,h2,h3⟩;refine⟨gi,List.mem_iff_getElem?.2 ⟨id-n,?_⟩,by simp[h3]⟩;rw[List.getElem?_drop,show n+(id-n)=id by omega];exact h2

theorem zpt (h:HRel B w G H) (n b:Nat):G.L b≤(G.cut w n).L b:=by
 simp only[Gh.cut];split
 ·rename_i hd;obtain⟨id,gi,_,ap,bE⟩:=cut_dropped.1 hd;have ak:id<H.length:=by rw[←h.len];exact lt_of_μ ap
  have az:=h.ok id _ _ (List.getElem?_eq_getElem ak) ap;cases gi with
  | gap=>cases bE
  | blk x=>
   simp[GI.block]at bE;subst bE;cases hb:H[id] with
   | cells cs=>rw[hb]at az;rw[az.2.1];exact Nat.zero_le _
   | perm e s n=>rw[hb]at az;exact az.elim
   | map kvs=>rw[hb]at az;rw[az.2.1];exact Nat.zero_le _
   | bld t cs=>rw[hb]at az;rw[az.2.1];exact Nat.zero_le _
   | vec e s n cs=>rw[hb]at az;exact az.elim
   | gap=>rw[hb]at az;exact az.elim
   | dead=>rw[hb]at az;obtain⟨vs,e,fr,h1,h2⟩:=az;rw[h1];exact h2
   | frz e s n=>rw[hb]at az;exact az.elim
   | fact φ=>rw[hb]at az;exact az.elim
  | own v s n=>
   simp only[GI.block]at bE;have big:∀ {e m:Nat} {xs:List Value},w.ownsRow B e s v m xs→m*s≤(match w.heap[b]? with | some (.cells c _ _)=>c.size | _=>0):=by
    rintro e m xs ⟨hl,h1 | ⟨g,cap,cur,rfl,h1,h2,h3,h4,h5,h6⟩⟩
    ·rw[h1.1]at bE;cases bE
    ·simp[Value.ownBlock]at bE;subst bE;rw[h2];simp only[h5];exact Nat.mul_le_mul_right _ h3
   cases hb:H[id] with
   | perm e s' n'=>rw[hb]at az;obtain⟨rfl,rfl,⟨xs,hx⟩,hL⟩:=az;rw[hL b bE];exact big hx
   | vec e s' n' cs=>rw[hb]at az;obtain⟨rfl,rfl,_,hL⟩:=az;rw[hL b bE];exact Nat.zero_le _
   | cells cs=>rw[hb]at az;exact az.elim
   | map kvs=>rw[hb]at az;exact az.elim
   | bld t cs=>rw[hb]at az;exact az.elim
   | gap=>rw[hb]at az;exact az.elim
   | frz e s' n'=>rw[hb]at az;obtain⟨g,cap,vs,fr,rfl,rfl,rfl,h1,h2,h3,h4,h5,h6⟩:=az;simp[Value.ownBlock]at bE;subst bE;rw[h1,h3];simp only[h6];exact Nat.mul_le_mul_right _ h4
   | fact φ=>rw[hb]at az;exact az.elim
   | dead=>rw[hb]at az;obtain⟨vs,e,fr,h1,h2⟩:=az b bE;rw[h1];exact h2
 ·exact Nat.le_refl _


theorem zeP (h:HRel B w G H) {n id:Nat} {gi:GI} {b:Nat} (hn:id<n) (ap:G.μ[id]?=some gi) (hb:gi.block=some b):(G.cut w n).L b=G.L b:=by
 simp only[Gh.cut];split
 ·rename_i hd;obtain⟨id',gi',h1,h2,h3⟩:=cut_dropped.1 hd;have:=h.dist id id' gi _ b ap h2 hb h3;omega
 ·rfl

theorem zxg (h:HRel B w G H) {w0:World} {G0:Gh} {n:Nat} (hE:Ext B w0 G0 w G) (hn:G0.μ.length≤n):Ext B w0 G0 w (G.cut w n):=
 ⟨hE.dr,hE.below,λb=>Nat.le_trans (hE.lev b) (zpt h n b),hE.cell,λid gi hg=>by
  obtain⟨g',h1,h2⟩:=hE.ids id gi hg;exact⟨g',by rw[zeO (Nat.lt_of_lt_of_le (lt_of_μ hg) hn)];exact h1,h2⟩⟩

theorem zhm (h:HRel B w G H) {n:Nat} {v:Value} {a:AV} (hd:DRel w G.L v a):DRel w (G.cut w n).L v a:=hd.mono (λb=>zpt h n b) (λ_ _ _=>rfl)
theorem zxe (h:HRel B w G H) {n:Nat} {v:Value} {a:AV} (hr:BRel w G v a) (hs:a.scB n=true):BRel w (G.cut w n) v a:=by
 cases a with
 | ptr id off=>obtain⟨b,h1,h2⟩:=hr;simp[AV.scB]at hs;exact⟨b,by rw[zeO hs];exact h1,h2⟩
 | ms id off len cap=>obtain⟨b,h1,h2⟩:=hr;simp[AV.scB]at hs;exact⟨b,by rw[zeO hs];exact h1,h2⟩
 | map id=>obtain⟨b,h1,h2⟩:=hr;simp[AV.scB]at hs;exact⟨b,by rw[zeO hs];exact h1,h2⟩
 | ov id m=>obtain⟨h0,v',s,m',h1,h2⟩:=hr;simp[AV.scB]at hs;exact⟨h0,v',s,m',by rw[zeO hs];exact h1,h2⟩
 | vp id m off=>obtain⟨h0,v',s,m',h1,h2⟩:=hr;simp[AV.scB]at hs;exact⟨h0,v',s,m',by rw[zeO hs];exact h1,h2⟩
 | os id m l e=>obtain⟨h0,v',s,m',h1,h2⟩:=hr;simp[AV.scB]at hs;exact⟨h0,v',s,m',by rw[zeO hs];exact h1,h2⟩
 | view cs=>obtain⟨b,off,h1,h2⟩:=hr;exact⟨b,off,h1,h2.mono (λb=>zpt h n b) (λ_ _ _=>rfl)⟩
 | sl es tok=>
  cases tok with
  | none=>exact zhm h hr
  | full=>exact⟨zhm h hr.1,hr.2⟩
  | own id=>obtain⟨h1,v',s,m,h2,h3⟩:=hr;simp[AV.scB]at hs;exact⟨zhm h h1,v',s,m,by rw[zeO hs];exact h2,h3⟩
 | _=>exact hr
theorem zen {R R':Value→AV→Prop} {p:AV→Bool} (hp:∀ v a,R v a→p a=true→R' v a):∀ {vs:List Value} {asx:List AV},All2 R vs asx→asx.all p=true→All2 R' vs asx
 | [],[],_,_=>trivial
 | _::_,_::_,h,hs=>by simp only[List.all_cons,Bool.and_eq_true]at hs;exact⟨hp _ _ h.1 hs.1,zen hp h.2 hs.2⟩
theorem zhl (h:HRel B w G H) {n:Nat} {v:Value} {a:AV} (hr:ARel w G v a) (hs:a.scA n=true):ARel w (G.cut w n) v a:=by
 cases a with
 | fn f caps=>obtain⟨vs,h1,h2⟩:=hr;exact⟨vs,h1,zen (p:=AV.scB n) (λ_ _=>zxe h) h2 hs⟩
 | _=>exact ARel.of_b (zxe h hr hs)
theorem zpv (h:HRel B w G H) {n:Nat} {v:Value} {a:AV} (hr:VRel w G v a) (hs:a.scV n=true):VRel w (G.cut w n) v a:=by
 cases a with
 | agg cs=>obtain⟨vs,h1,h2⟩:=hr;exact⟨vs,h1,zen (p:=AV.scA n) (λ_ _=>zhl h) h2 hs⟩
 | _=>exact VRel.of_a (zhl h hr hs)
theorem zxh (h:HRel B w G H) {n:Nat} {v:Value} {a:AV} (hr:TRel w G v a) (hs:a.sc n=true):TRel w (G.cut w n) v a:=by
 cases a with
 | tup cs=>obtain⟨vs,h1,h2⟩:=hr;exact⟨vs,h1,zen (p:=AV.scV n) (λ_ _=>zpv h) h2 hs⟩
 | _=>exact TRel.of_v (zpv h hr hs)

theorem zxf {G':Gh} {p:AV→Bool} (hp:∀ v a,VRel w G v a→p a=true→VRel w G' v a):∀ {es:List MapEntry} {kvs:List (List UInt8 × AV)},All2 (ERel w G) es kvs→(kvs.all λa=>p a.2)=true→All2 (ERel w G') es kvs
 | [],[],_,_=>trivial
 | _::_,_::_,h,hs=>by simp only[List.all_cons,Bool.and_eq_true]at hs;exact⟨⟨h.1.1,hp _ _ h.1.2 hs.1⟩,zxf hp h.2 hs.2⟩
theorem HRel.cut {J:zaa} (h:HRel B w G (H++J)) (hs:HSc H):HRel B w (G.cut w H.length) H:=by
 refine⟨?_,?_,?_,?_,?_,h.base⟩
 ·have:=h.len;simp[Gh.cut]at this ⊢;omega
 ·intro id ab gi h1 h2;obtain⟨ak,h2⟩:=zjg h2;have az:=h.ok id ab gi (by rw[List.getElem?_append_left ak];exact h1) h2;have hsc:=hs ab (List.mem_iff_getElem?.2 ⟨id,h1⟩);cases ab with
  | cells cs=>
   cases gi with
   | blk b=>obtain⟨k1,k2,vs,e,k3,k4⟩:=az;exact⟨k1,by rw[zeP h ak h2 rfl];exact k2,vs,e,k3,zen (p:=AV.scA H.length) (λ_ _=>zhl h) k4 hsc⟩
   | own v s n=>exact az.elim
   | gap=>exact az.elim
  | perm e s n=>
   cases gi with
   | blk b=>exact az.elim
   | gap=>exact az.elim
   | own v s' n'=>obtain⟨k1,k2,k3,k4⟩:=az;exact⟨k1,k2,k3,λb hb=>by rw[zeP h ak h2 (by simpa[GI.block]using hb)];exact k4 b hb⟩
  | vec e s n cs=>
   cases gi with
   | blk b=>exact az.elim
   | gap=>exact az.elim
   | own v s' n'=>obtain⟨k1,k2,⟨xs,k3,k5⟩,k4⟩:=az;exact⟨k1,k2,⟨xs,k3,zen (p:=AV.scA H.length) (λ_ _=>zhl h) k5 hsc⟩,λb hb=>by rw[zeP h ak h2 (by simpa[GI.block]using hb)];exact k4 b hb⟩
  | map kvs=>
   cases gi with
   | blk b=>obtain⟨k1,k2,es,clk,k3,k4⟩:=az;exact⟨k1,by rw[zeP h ak h2 rfl];exact k2,es,clk,k3,zxf (λ_ _ h1 h2=>zpv h h1 h2) k4 hsc⟩
   | own v s n=>exact az.elim
   | gap=>exact az.elim
  | gap=>
   cases gi with
   | blk b=>exact az.elim
   | own v s n=>exact az.elim
   | gap=>trivial
  | frz e s n=>
   cases gi with
   | blk b=>exact az.elim
   | own v s' n'=>obtain⟨g,cap,vs,fr,rfl,rfl,rfl,k1,k2,k3,k4⟩:=az;exact⟨g,cap,vs,fr,rfl,rfl,rfl,k1,k2,by rw[zeP h ak h2 rfl];exact k3,k4⟩
   | gap=>exact az.elim
  | fact φ=>
   cases gi with
   | blk b=>exact az.elim
   | own v s n=>exact az.elim
   | gap=>exact az
  | dead=>
   cases gi with
   | blk b=>obtain⟨vs,e,fr,k1,k2⟩:=az;exact⟨vs,e,fr,k1,by rw[zeP h ak h2 rfl];exact k2⟩
   | own v s n=>exact λb hb=>by rw[zeP h ak h2 (by simpa[GI.block]using hb)];exact az b hb
   | gap=>exact az.elim
  | bld t cs=>
   cases gi with
   | blk b=>obtain⟨k1,k2,vs,k3,k4⟩:=az;exact⟨k1,by rw[zeP h ak h2 rfl];exact k2,vs,k3,zen (p:=AV.scA H.length) (λ_ _=>zhl h) k4 hsc⟩
   | own v s n=>exact az.elim
   | gap=>exact az.elim
 ·intro id id' gi gi' b h1 h2;exact h.dist id id' gi gi' b (zjg h1).2 (zjg h2).2
 ·intro b hb;simp only[Gh.cut];split
  ·rename_i hd;obtain⟨id,gi,_,ap,hgb⟩:=cut_dropped.1 hd;have:=h.lt id _ b ap hgb;omega
  ·exact h.fresh b hb
 ·intro id gi b h1 h2;exact h.lt id gi b (zjg h1).2 h2

inductive WkA:AV→AV→Prop
 | refl (a:AV):WkA a a
 | sl (es:List (List AV)) (t:Tok):WkA (.sl es t) (.sl es .none)
 | snil:WkA .snil (.sl [] .none)
inductive WkV:AV→AV→Prop
 | unk (a:AV):WkV a .unk
 | atom {a b:AV} (h:WkA a b):WkV a b
 | agg {cs ds:List AV} (h:All2 WkA cs ds):WkV (.agg cs) (.agg ds)
theorem WkA.arel {v:Value} {a b:AV} (h:WkA a b) (hr:ARel w G v a):ARel w G v b:=by
 cases h with
 | refl=>exact hr
 | sl es t=>cases t with
  | none=>exact hr
  | full=>exact hr.1
  | own id=>exact hr.1
 | snil=>cases hr;exact .slE _ _
theorem All2.wk {asx bs:List AV} (h:All2 WkA asx bs):∀ {vs:List Value},All2 (ARel w G) vs asx→All2 (ARel w G) vs bs:=by
 induction asx generalizing bs with
 | nil=>
  intro vs hr;cases bs with
  | nil=>exact hr
  | cons b bs=>exact h.elim
 | cons a asx ih=>
  intro vs hr;cases bs with
  | nil=>exact h.elim
  | cons b bs=>
   cases vs with
   | nil=>exact hr.elim
   | cons v vs=>exact⟨h.1.arel hr.1,ih h.2 hr.2⟩
theorem WkV.trel {v:Value} {a b:AV} (h:WkV a b) (hr:TRel w G v a):TRel w G v b:=by
 cases h with
 | unk=>trivial
 | atom h=>
  cases h with
  | refl=>exact hr
  | sl es t=>exact TRel.of_v (VRel.of_a (WkA.arel (.sl es t) hr))
  | snil=>exact TRel.of_v (VRel.of_a (WkA.arel .snil hr))
 | agg h=>obtain⟨vs,h1,h2⟩:=hr;exact⟨vs,h1,h.wk h2⟩
theorem zAn {asx bs:List AV} (h:All2 WkV asx bs):∀ {vs:List Value},All2 (TRel w G) vs asx→All2 (TRel w G) vs bs:=by
 induction asx generalizing bs with
 | nil=>
  intro vs hr;cases bs with
  | nil=>exact hr
  | cons b bs=>exact h.elim
 | cons a asx ih=>
  intro vs hr;cases bs with
  | nil=>exact h.elim
  | cons b bs=>
   cases vs with
   | nil=>exact hr.elim
   | cons v vs=>exact⟨h.1.trel hr.1,ih h.2 hr.2⟩

theorem ACalls.mono {f:FuncId} {args:List AV} {K K':AV→zaa→Prop} (h:ACalls P f args H K) (hk:∀ r H',K r H'→K' r H'):ACalls P f args H K':=
 λB w G vs hH hv=>(h B w G vs hH hv).mono λ_ _ ⟨v,r,H',G',h1,h2,h3,h4,h5⟩=>⟨v,r,H',G',h1,h2,h3,h4,hk _ _ h5⟩
theorem ACalls.wk {f:FuncId} {args args':List AV} {K:AV→zaa→Prop} (h:ACalls P f args' H K) (ha:All2 WkV args args'):ACalls P f args H K:=
 λB w G vs hH hv=>h B w G vs hH (zAn ha hv)

def Back (n0:Nat) (Inv:List AV→zaa→Prop) (F:List AV) (H:zaa):Prop:=
 ∃ F2 H2 J,H=H2++J∧n0≤H2.length∧HSc H2∧All2 WkV F F2∧F2.all (AV.sc H2.length)=true∧Inv F2 H2

theorem TRel.sc {v:Value} {a:AV} (h:TRel w G v a):a.sc G.μ.length=true:=by
 have ha:∀ {x:AV},VRel w G v x→x.scV G.μ.length=true:=λh=>h.sc;cases a with
 | tup vs=>obtain⟨us,_,h2⟩:=h;exact All2.all_of (λv a (h:VRel w G v a)=>h.sc) h2
 | agg cs=>exact ha (x:=.agg cs) h
 | fn f caps=>exact ha (x:=.fn f caps) h
 | unk=>rfl
 | bool b=>rfl
 | int k n=>rfl
 | str s=>rfl
 | nilp=>rfl
 | ptr i o=>exact ha (x:=.ptr i o) h
 | view cs=>rfl
 | snil=>rfl
 | sl es t=>exact ha (x:=.sl es t) h
 | ms i o l c=>exact ha (x:=.ms i o l c) h
 | ov i n=>exact ha (x:=.ov i n) h
 | vp i n o=>exact ha (x:=.vp i n o) h
 | os i n l e=>exact ha (x:=.os i n l e) h
 | map i=>exact ha (x:=.map i) h
 | nilfn=>rfl
 | nili=>rfl
 | ifc=>rfl
theorem FRel.sc {tm:Array Value} {F:List AV} (hH:HRel B w G H) (h:FRel w G tm F):F.all (AV.sc H.length)=true:=by rw[←hH.len];exact All2.all_of (λv a (h:TRel w G v a)=>h.sc) h

theorem zpb {M:Nat→List Bool} {c:Code} {Q:AExit→List AV→zaa→Prop} {F:List AV} (m:List Bool) (Inv:Nat→List AV→zaa→Prop) (n:Nat) (h0:HSc H→F.all (AV.sc H.length)=true→Inv n F H)
  (ac:∀ n F H',Inv n F H'→HSc H'→H.length≤H'.length→F.all (AV.sc H'.length)=true→awp P M c (zbL m (λF'' H''=>∃ n',n'<n∧Back H.length (Inv n') F'' H'') Q) F H'):ALoop P c Q F H:=by
 intro B w G a hH hF hd b k cs;have key:∀ n (a':Act) (w':World) (G':Gh) (F':List AV) (H':zaa),Ext B w G w' G'→HRel B w' G' H'→FRel w' G' a'.tmps F'→a'.defers=[]→H.length≤H'.length→Inv n F' H' →
   ∃ e a'' w'',Post B w G Q e a'' w''∧Arrives P (lone (b.at a' (.code c::.inLoop c::k)) cs w') b k cs e a'' w'':=by
  intro n;induction n using Nat.strongRecOn with
  | _ n ih=>
   intro a' w' G' F' H' hE aV iC fJ am hI;obtain⟨e,a₁,w₁,hq,ey⟩:=zge c _ F' H' (ac n F' H' hI aV.sc am (FRel.sc aV iC)) B w' G' a' aV iC fJ b (.inLoop c::k) cs;obtain⟨F1,H1,G1,e1,rfl,k1,k2,k3,k4,k5⟩:=hq;cases e1 with
   | normal=>obtain⟨n',ak,F2,H2,J,hJ,fm,hsc,aK,aM,hI2⟩:=k5;subst hJ;have fw:Ext B w G w₁ (G1.cut w₁ H2.length):=zxg k2 (hE.trans k1) (by rw[hH.len];exact fm);have hF2:FRel w₁ (G1.cut w₁ H2.length) a₁.tmps F2:=zen (p:=AV.sc H2.length) (λ_ _=>zxh k2) (zAn aK (zhD m k3)) aM;obtain⟨e₂,a₂,w₂,hq₂,ey₂⟩:=ih n' ak a₁ w₁ _ F2 H2 fw (k2.cut hsc) hF2 k4 fm hI2;exact⟨e₂,a₂,w₂,hq₂,.of_steps (Steps.trans ey (.one step_inLoop)) ey₂⟩
   | exit id=>exact⟨_,a₁,w₁,⟨F1,H1,G1,.exit id,rfl,hE.trans k1,k2,k3,k4,k5⟩,.pass (x:=.inLoop c) rfl (λ_ _=>.inl (by simp[AExit.toExit])) ey⟩
   | ret=>exact⟨_,a₁,w₁,⟨F1,H1,G1,.ret,rfl,hE.trans k1,k2,k3,k4,k5⟩,.pass (x:=.inLoop c) rfl (λ_ _=>.inl (by simp[AExit.toExit])) ey⟩
 obtain⟨e,a',w',hq,ey⟩:=key n a w G F H (Ext.refl _ _ _) hH hF hd (Nat.le_refl _) (h0 hH.sc (FRel.sc hH hF));exact⟨e,a',w',hq,.of_steps (.one step_loop) ey⟩

theorem zAo:∀ F:List AV,All2 WkV F F
 | []=>trivial
 | a::F=>⟨.atom (.refl a),zAo F⟩
theorem Back.same {n0:Nat} {Inv:List AV→zaa→Prop} {F:List AV} {J:zaa} (hn:n0≤H.length) (hsc:HSc H) (hs:F.all (AV.sc H.length)=true) (h:Inv F H):Back n0 Inv F (H++J):=
 ⟨F,H,J,rfl,hn,hsc,zAo F,hs,h⟩

def AV.isV:AV→Bool
 | .tup _=>false
 | _=>true
def zfg (P:Program):List ResultVar→List AV→zaa→(List AV→Prop)→Prop
 | [],_,_,K=>K []
 | .tmp t::rs,F,H,K=>zfg P rs F H λvs=>K (F.getD t .unk::vs)
 | .cell a t::rs,F,H,K=>(match zd6 P t,zaX P t with
  | some g,some n=>zae g n (F.getD a .unk) H λv=>zfg P rs F H λvs=>K (v::vs)
  | _,_=>False)
def zaF (vs:List AV) (K:AV→Prop):Prop:=
 match vs with
 | [v]=>K v
 | vs=>vs.all AV.isV=true∧K (.tup vs)
def zaz (P:Program) (rs:List ResultVar) (K:AV→zaa→Prop) (e:AExit) (F:List AV) (H:zaa):Prop:=
 match e with
 | .exit _=>False
 | _=>zfg P rs F H λvs=>zaF vs (K · H)

theorem zxN {v:Value} {a:AV} (h:TRel w G v a) (hv:a.isV=true):VRel w G v a:=by cases a <;> first | exact h | (simp[AV.isV]at hv;done)

def zkw (tm:Array Value):ResultVar→Sem Value
 | .tmp t=>pure (tm.getD t undef)
 | .cell a t=>do loadVar t (←asAddr (tm.getD a undef))
theorem zIm (fn:Func) (tm:Array Value):results fn tm=(do
  let vs ←fn.results.mapM (zkw tm)
  pure (if h:vs.size=1 then vs[0] else .tuple vs)):=by
 unfold results;congr 1

theorem zrs {tm:Array Value} {F:List AV} (hH:HRel B w G H) (hF:FRel w G tm F):∀ (rs:List ResultVar) (K:List AV→Prop),zfg P rs F H K →
  ∃ vs asx,(rs.mapM (m:=Sem) (zkw tm)).run P w=.ok vs w∧All2 (TRel w G) vs asx∧K asx
 | [],K,h=>⟨[],[],by simp,trivial,h⟩
 | .tmp t::rs,K,h=>by obtain⟨vs,asx,h1,h2,h3⟩:=zrs hH hF rs _ h;have ht:=zaO (a:=⟨tm,[]⟩) hF (.tmp t);exact⟨tm.getD t undef::vs,F.getD t .unk::asx,by simp only[List.mapM_cons,Sem.run_bind,zkw,Sem.run_pure,Result.andThen_ok,h1],⟨ht,h2⟩,h3⟩
 | .cell a t::rs,K,h=>by
  unfold zfg at h;split at h
  ·rename_i g n hg hn;have ht:=zaO (a:=⟨tm,[]⟩) hF (.tmp a);have ht:TRel w G (tm.getD a undef) (F.getD a .unk):=ht;obtain⟨u,h1,av,h2,h3⟩:=zzt (K:=λv _=>zfg P rs F H λvs=>K (v::vs)) hH ht hg hn h;obtain⟨vs,asx,k1,k2,k3⟩:=zrs hH hF rs _ h3;refine⟨u::vs,av::asx,?_,⟨h2,k2⟩,k3⟩;have dL:(zkw tm (.cell a t)).run P w=.ok u w:=by
    have hsa:∃ x,tm.getD a undef=.pointer (some x):=by
     rw[zg7]at h;split at h
     ·rename_i hx;rw[hx]at ht;obtain⟨b,_,hb⟩:=ht;exact⟨_,hb⟩
     ·rename_i hx;rw[hx]at ht;obtain⟨b,off,hb,_⟩:=ht;exact⟨_,hb⟩
     ·rename_i hx;rw[hx]at ht;obtain⟨⟨b,off,hb⟩,_⟩:=ht;exact⟨_,hb⟩
     ·exact h.elim
    obtain⟨x,hx⟩:=hsa;show ((do loadVar t (←asAddr (tm.getD a undef))):Sem Value).run P w=.ok u w;rw[hx]at h1 ⊢;simpa[Instr.loadAt,Instr.sureAddr,asAddr]using h1
   simp only[List.mapM_cons,Sem.run_bind,dL,Result.andThen_ok,k1,Sem.run_pure]
  ·exact h.elim

theorem zap {M:Nat→List Bool} {f:FuncId} {fn:Func} {c:Code} {args:List AV} {K:AV→zaa→Prop} (hf:P.funcs[f]?=some fn) (hb:fn.body=some c)
  (h:HSc H→awp P M c (zaz P fn.results.toList K) (args++List.replicate (fn.ntmps-args.length) .unk) H):ACalls P f args H K:=by
 intro B w G vs hH hv;refine calls_of_wp hf hb ?_;have hF:FRel w G (vs++Array.replicate (fn.ntmps-vs.size) undef) (args++List.replicate (fn.ntmps-args.length) .unk):=by
  unfold FRel;have hl:vs.size=args.length:=by simpa using hv.length
  rw[hl];simpa using hv.append (All2.replicate (R:=TRel w G) (a:=undef) (b:=.unk) trivial (fn.ntmps-args.length))
 refine wp_mono (zge c _ _ H (h hH.sc) B w G ⟨_,[]⟩ hH hF rfl) λe a' w' hp=>?_;obtain⟨F',H',G',e',rfl,h1,h2,h3,h4,h5⟩:=hp;have fin:(zfg P fn.results.toList F' H' λvs=>zaF vs (K · H'))→∃ v,(results fn a'.tmps).run P w'=.ok v w'∧∃ v' r H'' G'',Ending.returned v=.returned v'∧Ext B w G w' G''∧HRel B w' G'' H''∧TRel w' G'' v' r∧K r H'':=by
  intro h5;obtain⟨us,asx,k1,k2,k3⟩:=zrs h2 h3 fn.results.toList _ h5;have hres:(results fn a'.tmps).run P w'=.ok (if hh:us.toArray.size=1 then us.toArray[0] else .tuple us.toArray) w':=by rw[zIm,Sem.run_bind,Array.mapM_eq_mapM_toList,Sem.run_map,k1];rfl
  refine⟨_,hres,(if hh:us.toArray.size=1 then us.toArray[0] else .tuple us.toArray),?_⟩;have hl:=k2.length;unfold zaF at k3;split at k3
  ·rename_i r
   match us,hl,k2,hres with
   | [u],_,k2,_=>exact⟨r,H',G',rfl,h1,h2,by simpa using k2.1,k3⟩
  ·rename_i aB;refine⟨.tup asx,H',G',rfl,h1,h2,?_,k3.2⟩;have aD:¬ us.toArray.size=1:=by
    intro hs;have:asx.length=1:=by rw[←hl];simpa using hs
    match asx,this with
    | [x],_=>exact aB x rfl
   rw[dif_neg aD];exact⟨us.toArray,rfl,zen (p:=AV.isV) (λ_ _=>zxN) k2 k3.1⟩
 cases e' with
 | normal=>exact⟨h4,fin h5⟩
 | ret=>exact⟨h4,fin h5⟩
 | exit id=>exact h5.elim

theorem acb {P:Program} {H:zaa} (M:Nat→List Bool) {f:FuncId} {fn:Func} {args:List AV} {K:AV→zaa→Prop} {X:Prop} (hf:P.funcs[f]?=some fn) (c:Code) (hb:fn.body=some c)
  (e:awp P M c (zaz P fn.results.toList K) (args++List.replicate (fn.ntmps-args.length) .unk) H=X) (h:HSc H→X):ACalls P f args H K:=
 zap (M:=M) hf hb λhs=>Eq.mpr e (h hs)
end
section
open Go.RowKit

variable {P:Program} {B:Nat} {w:World} {G:Gh} {H:zaa}

theorem DRel.of_flat_at {L:Nat→Nat} {g off size cap:Nat} {es:List (List AV)} {zs:List Value} (aD:∀ c∈es,c.length=size) (aB:es≠[]) (aL:es.length≤cap) (hL:off+es.length*size≤L g)
  (hr:All2 (DRel w L) zs es.flatten) (hc:∀ j v,zs[j]?=some v→w.cell? ⟨g,off+j,none⟩=some v):DRel w L (.slice (some ⟨g,off,none⟩) es.length cap) (.sl es .none):=by
 have aA:∀ i j (hi:i<es.length) (hj:j<(es[i]).length),∃ v,zs[i*size+j]?=some v∧DRel w L v (es[i])[j]:=λi j hi hj=>hr.get (zhr aD i j hi hj);refine .sl g off cap size es (λi j=>zs.getD (i*size+j) undef) aB aL hL (λi hi=>aD _ (List.getElem_mem hi)) (λi j hi hj=>?_) (λi j hi hj=>?_)
 ·obtain⟨v,h1,h2⟩:=aA i j hi hj;simp only[List.getD_eq_getElem?_getD,h1,Option.getD_some,Nat.add_assoc];exact hc _ _ h1
 ·obtain⟨v,h1,h2⟩:=aA i j hi hj;simp only[List.getD_eq_getElem?_getD,h1,Option.getD_some];exact h2

inductive OutV (H:zaa) (n:Nat):AV→AV→Prop
 | wk {a b:AV} (h:WkV a b) (hv:b.isV=true) (hs:b.scV n=true):OutV H n a b
 | frz (id off len cap size:Nat) (cs:List AV) (es:List (List AV)) (ap:n≤id) (hH:H[id]?=some (.cells cs)) (bc:off+len*size≤cs.length)
   (hp:plain ((cs.drop off).take (len*size))=some es.flatten) (am:es.length=len) (aD:∀ c∈es,c.length=size) (aL:len≤cap):OutV H n (.ms id off len cap) (.sl es .none)
 | vfz (id e size m:Nat) (cs:List AV) (es:List (List AV)) (ap:n≤id) (hH:H[id]?=some (.vec e size m cs)) (hp:plain cs=some es.flatten) (am:es.length=m) (aD:∀ c∈es,c.length=size):OutV H n (.ov id m) (.sl es .none)
inductive OutT (H:zaa) (n:Nat):AV→AV→Prop
 | one {a b:AV} (h:OutV H n a b):OutT H n a b
 | tup {asx bs:List AV} (h:All2 (OutV H n) asx bs):OutT H n (.tup asx) (.tup bs)

theorem zG9 {n:Nat} {b:AV} (hv:b.isV=true) (hs:b.scV n=true):b.sc n=true:=by cases b <;> first | exact hs | (simp[AV.isV]at hv;done)

theorem OutV.vrel (hH:HRel B w G H) {n:Nat} {v:Value} {a b:AV} (h:OutV H n a b) (hr:TRel w G v a):VRel w (G.cut w n) v b:=by
 cases h with
 | wk h hv hs=>exact zxN (zxh hH (h.trel hr) (zG9 hv hs)) hv
 | frz id off len cap size cs es ap cG bc hp am aD aL=>
  obtain⟨b,hμ,rfl⟩:=hr;have az:=hH.ok id _ _ cG hμ;obtain⟨_,_,vs,e,hw,aN⟩:=az;subst am;show DRel w (G.cut w n).L _ _;by_cases aB:es=[]
  ·subst aB;exact .slE _ _
  ·have hl:=aN.length;have hd:=zdB ((aN.drop off).take (es.length*size)) hp;refine DRel.of_flat_at (zs:=(vs.toList.drop off).take (es.length*size)) aD aB aL ?_ (hd.mono λ_ _=>zhm hH) ?_
   ·have:(G.cut w n).L b=vs.size:=by simp only[Gh.cut];rw[if_pos (cut_dropped.2 ⟨id,_,ap,hμ,rfl⟩),hw]
    rw[this];simp at hl;omega
   ·intro j u hj;rw[List.getElem?_take]at hj;split at hj
    ·simp only[World.cell?,hw];simpa using hj
    ·cases hj
 | vfz id e size m cs es ap cG hp am aD=>
  obtain⟨⟨a,cap0,rfl,_⟩,v',s0,n',hμ,_,heq⟩:=hr;obtain⟨rfl,rfl,⟨xs,ar,aN⟩,_⟩:=hH.ok id _ _ cG hμ;obtain rfl:=heq rfl;subst am;show DRel w (G.cut w n).L _ _;by_cases aB:es=[]
  ·subst aB;exact .slE _ _
  ·have bX:=ar;obtain⟨hl,bi⟩:=bX;rcases bi with ⟨h1,h2⟩ | ⟨g,cap,cur,h1,h2,h3,h4,h5,h6,h7⟩
   ·cases es <;> simp_all
   ·simp at h1;obtain⟨rfl,rfl⟩:=h1;obtain⟨_,_,_,aH⟩:=zdA ar;refine DRel.of_flat_at (zs:=xs) aD aB h4 ?_ ((zdB aN hp).mono λ_ _=>zhm hH) ?_
    ·have:(G.cut w n).L g=cur.size:=by simp only[Gh.cut];rw[if_pos (cut_dropped.2 ⟨id,_,ap,hμ,rfl⟩),h3]
     rw[this,h6,Nat.zero_add];exact Nat.mul_le_mul_right _ h4
    ·intro j u hj;rw[Nat.zero_add,aH j (by rw[←hl];exact (List.getElem?_eq_some_iff.1 hj).1)];exact hj

theorem zHW (hH:HRel B w G H) {n:Nat} {asx bs:List AV} (h:All2 (OutV H n) asx bs):∀ {vs:List Value},All2 (VRel w G) vs asx→All2 (VRel w (G.cut w n)) vs bs:=by
 induction asx generalizing bs with
 | nil=>
  intro vs hr;cases bs with
  | nil=>cases vs <;> first | trivial | exact hr.elim
  | cons b bs=>exact h.elim
 | cons a asx ih=>
  intro vs hr;cases bs with
  | nil=>exact h.elim
  | cons b bs=>
   cases vs with
   | nil=>exact hr.elim
   | cons v vs=>exact⟨h.1.vrel hH (TRel.of_v hr.1),ih h.2 hr.2⟩

def Out (n:Nat) (K:AV→zaa→Prop) (r:AV) (H':zaa):Prop:=∃ r2 H2 J,H'=H2++J∧n≤H2.length∧HSc H2∧OutT H' H2.length r r2∧K r2 H2

theorem ACalls.out {f:FuncId} {args:List AV} {K:AV→zaa→Prop} (h:ACalls P f args H (Out H.length K)):ACalls P f args H K:=by
 intro B w G vs hH hv;refine (h B w G vs hH hv).mono λe w' ⟨v,r,H',G',h1,h2,h3,h4,h5⟩=>?_;obtain⟨r2,H2,J,hJ,hn,hsc,ho,hk⟩:=h5;subst hJ;refine⟨v,r2,H2,G'.cut w' H2.length,h1,zxg h3 h2 (by rw[hH.len];exact hn),h3.cut hsc,?_,hk⟩;cases ho with
 | one ho=>exact TRel.of_v (ho.vrel h3 h4)
 | tup ho=>obtain⟨us,hu,hr⟩:=h4;exact⟨us,hu,zHW h3 ho hr⟩

theorem Out.same {n:Nat} {K:AV→zaa→Prop} {r:AV} {J:zaa} (hn:n=H.length) (hsc:HSc H) (hv:r.isV=true) (hr:r.scV H.length=true) (h:K r H):Out n K r (H++J):=
 ⟨r,H,J,rfl,by omega,hsc,.one (.wk (.atom (.refl r)) hv hr),h⟩

theorem ALoop.own {c:Code} {Q:AExit→List AV→zaa→Prop} {F:List AV} (i e size:Nat) (hi:F[i]?=some .snil)
  (h:ALoop P c Q (F.set i (.sl [] (.own H.length))) (H++[.perm e size 0])):ALoop P c Q F H:=by
 intro B w G a hH hF hd;obtain⟨hE,aV⟩:=hH.newOwn e size;have iC:FRel w ⟨G.L,G.μ++[.own (.slice none 0 0) size 0]⟩ a.tmps (F.set i (.sl [] (.own H.length))):=by
  unfold FRel;obtain⟨v,h1,h2⟩:=All2.get hF hi;have h2:v=.slice none 0 0:=h2;subst h2;have aW:a.tmps.toList=a.tmps.toList.set i (.slice none 0 0):=by
   apply List.ext_getElem?;intro k;by_cases hk:k=i
   ·subst hk;rw[List.getElem?_set_self (List.getElem?_eq_some_iff.1 h1).1];exact h1
   ·rw[List.getElem?_set_ne (λh=>hk h.symm)]
  rw[aW];refine All2.set i (hF.ext hE) ?_;refine⟨.slE _ _,.slice none 0 0,size,0,?_,Nat.le_refl _,λ_=>⟨rfl,by simp⟩⟩;rw[←hH.len];simp
 refine wp_mono (h B w _ a aV iC hd) λe a' w' hp=>?_;obtain⟨F'',H'',G'',e'',rfl,k1,k2,k3,k4,k5⟩:=hp;exact⟨F'',H'',G'',e'',rfl,hE.trans k1,k2,k3,k4,k5⟩

def zct (w:World) (b:Nat):Nat:=match w.heap[b]? with | some (.cells c _ _)=>c.size | _=>0
def G0 (w:World):Gh:=⟨zct w,[]⟩

theorem zG3 (w:World):HRel w.heap.size w (G0 w) []:=
 ⟨rfl,λ_ _ _ h=>by simp at h,λ_ _ _ _ _ h=>by simp[G0]at h,λb hb=>by simp[G0,zct,Array.getElem?_eq_none hb],λ_ _ _ h=>by simp[G0]at h,Nat.le_refl _⟩

theorem zJW {f:FuncId} {args:List AV} (h:ACalls P f args [] λr _=>r=.bool true) (w:World) (vs:Array Value) (hv:All2 (TRel w (G0 w)) vs.toList args) :
  Calls P f vs w λe w'=>e=.returned (.bool true)∧Below w.heap.size w w':=by
 refine (h _ w (G0 w) vs (zG3 w) hv).mono λe w' ⟨v,r,H',G',h1,h2,h3,h4,h5⟩=>?_;subst h5;have h4:v=.bool true:=h4;subst h4;exact⟨h1,h2.below⟩

end
section
open Go.RowKit

section
variable {H:zaa} {K:AV→zaa→Prop} {k:AV→Prop}
@[simp] theorem zZy (p q:Prop):aIf true p q=p:=propext Iff.rfl
@[simp] theorem zZx (p q:Prop):aIf false p q=q:=propext Iff.rfl
theorem zwr (b:Bool) (p q:Prop):zag (.bool b) p q=(if b=true then p else q):=rfl
@[simp] theorem ya2 (p q:Prop):zag (.bool true) p q=p:=propext Iff.rfl
@[simp] theorem ya1 (p q:Prop):zag (.bool false) p q=q:=propext Iff.rfl
@[simp] theorem yaq (x y:AV):zam (.bool true) x y k=k x:=propext Iff.rfl
@[simp] theorem yap (x y:AV):zam (.bool false) x y k=k y:=propext Iff.rfl
@[simp] theorem zZo (p q:Prop):zdq (.bool true) true p q=p:=propext Iff.rfl
@[simp] theorem zZl (p q:Prop):zdq (.bool false) false p q=p:=propext Iff.rfl
@[simp] theorem zZn (p q:Prop):zdq (.bool true) false p q=q:=propext Iff.rfl
@[simp] theorem zZm (p q:Prop):zdq (.bool false) true p q=q:=propext Iff.rfl
@[simp] theorem zZp (want:Bool) (p q:Prop):zdq (.tup []) want p q=q:=propext Iff.rfl
@[simp] theorem zZi (p:(AV→zaa→Prop)→Prop) (J:AV→zaa→Prop):zad (.bool true) true H p J=p J:=propext Iff.rfl
@[simp] theorem zZf (p:(AV→zaa→Prop)→Prop) (J:AV→zaa→Prop):zad (.bool false) false H p J=p J:=propext Iff.rfl
@[simp] theorem zZh (p:(AV→zaa→Prop)→Prop) (J:AV→zaa→Prop):zad (.bool true) false H p J=J (.tup []) H:=propext Iff.rfl
@[simp] theorem zZg (p:(AV→zaa→Prop)→Prop) (J:AV→zaa→Prop):zad (.bool false) true H p J=J (.tup []) H:=propext Iff.rfl
@[simp] theorem zZj (want:Bool) (p:(AV→zaa→Prop)→Prop) (J:AV→zaa→Prop):zad (.tup []) want H p J=J (.tup []) H:=propext Iff.rfl
@[simp] theorem ya8 (cs:List AV):(AV.agg cs).cs?=some cs:=rfl
@[simp] theorem ybb (j:IntKind) (n:Int):(AV.int j n).cs?=some [.int j n]:=rfl
@[simp] theorem ya9 (b:Bool):(AV.bool b).cs?=some [.bool b]:=rfl
@[simp] theorem ybm (s:List UInt8):(AV.str s).cs?=some [.str s]:=rfl
@[simp] theorem ybk (es:List (List AV)) (t:Tok):(AV.sl es t).cs?=some [.sl es t]:=rfl
@[simp] theorem ybl:(AV.snil).cs?=some [.snil]:=rfl
@[simp] theorem ybj (i o:Nat):(AV.ptr i o).cs?=some [.ptr i o]:=rfl
@[simp] theorem ybd (i o l c:Nat):(AV.ms i o l c).cs?=some [.ms i o l c]:=rfl
@[simp] theorem yba (f:Nat) (c:List AV):(AV.fn f c).cs?=some [.fn f c]:=rfl
@[simp] theorem ybg:(AV.nilp).cs?=some [.nilp]:=rfl
@[simp] theorem ybf:(AV.nili).cs?=some [.nili]:=rfl
@[simp] theorem ybi (i n:Nat):(AV.ov i n).cs?=some [.ov i n]:=rfl
@[simp] theorem ybn (i n o:Nat):(AV.vp i n o).cs?=some [.vp i n o]:=rfl
@[simp] theorem ybe:(AV.nilfn).cs?=some [.nilfn]:=rfl
@[simp] theorem yad (cs:List AV):zay cs H K=K (.ptr H.length 0) (H++[.cells cs]):=propext Iff.rfl
@[simp] theorem zYA (cs:List AV):zat (.agg cs) H K=K (.ptr H.length 0) (H++[.cells cs]):=propext Iff.rfl
@[simp] theorem zYE (j:IntKind) (n:Int):zat (.int j n) H K=K (.ptr H.length 0) (H++[.cells [.int j n]]):=propext Iff.rfl
@[simp] theorem zYL (s:List UInt8):zat (.str s) H K=K (.ptr H.length 0) (H++[.cells [.str s]]):=propext Iff.rfl
@[simp] theorem zYB (b:Bool):zat (.bool b) H K=K (.ptr H.length 0) (H++[.cells [.bool b]]):=propext Iff.rfl
@[simp] theorem zYJ (es:List (List AV)) (t:Tok):zat (.sl es t) H K=K (.ptr H.length 0) (H++[.cells [.sl es t]]):=propext Iff.rfl
@[simp] theorem zYP (n off:Nat) (cs:List AV):zbp true n off cs k=(off+n≤cs.length∧k (.agg ((cs.drop off).take n))):=propext Iff.rfl
theorem zdn {cs:List AV} {off:Nat} {c:AV} (n:Nat) (h:cs[off]?=some c):zbp false n off cs k=k c:=by simp[zbp,h]
@[simp] theorem zYS (n:Nat) (c:AV) (cs:List AV):zbp false n 0 (c::cs) k=k c:=propext Iff.rfl
@[simp] theorem zYR (n i:Nat) (c:AV) (cs:List AV):zbp false n (i+1) (c::cs) k=zbp false n i cs k:=by simp[zbp]
@[simp] theorem zZS (g:Bool) (n:Nat) (cs:List AV):zae g n (.view cs) H k=zbp g n 0 cs k:=propext Iff.rfl
def zgb (g:Bool) (n off:Nat) (b:Option AB) (k:AV→Prop):Prop:=
 match b with
 | some (.cells cs)=>zbp g n off cs k
 | _=>False
@[simp] theorem zZM (g:Bool) (n off:Nat) (cs:List AV):zgb g n off (some (.cells cs)) k=zbp g n off cs k:=propext Iff.rfl
@[simp] theorem zZR (g:Bool) (n id off:Nat):zae g n (.ptr id off) H k=zgb g n off H[id]? k:=by rw[zg7];rfl
def zfh (n off id:Nat) (xs:Option (List AV)) (b:Option AB) (H:zaa) (K:zaa→Prop):Prop:=
 match xs,b with
 | some xs,some (.cells cs)=>(xs.length=n∧off+n≤cs.length∧xs.all AV.known=true)∧K (H.set id (.cells (cs.take off++xs++cs.drop (off+n))))
 | _,_=>False
@[simp] theorem zFK {K':zaa→Prop} (n off id:Nat) (xs cs:List AV):zfh n off id (some xs) (some (.cells cs)) H K'=((xs.length=n∧off+n≤cs.length∧xs.all AV.known=true)∧K' (H.set id (.cells (cs.take off++xs++cs.drop (off+n))))):=propext Iff.rfl
@[simp] theorem yaX {K':zaa→Prop} (n id off:Nat) (x:AV):zao n (.ptr id off) x H K'=zfh n off id x.cs? H[id]? H K':=by
 cases hx:x.cs? with
 | none=>simp[zeK,zfh,hx]
 | some xs=>cases hb:H[id]? with
  | none=>simp[zeK,zfh,hx,hb]
  | some b=>cases b <;> simp[zeK,zfh,hx,hb]
def zwm (g:Bool) (n m off:Nat) (b:Option AB) (k:AV→Prop):Prop:=
 match b with
 | some (.vec _ _ m' cs)=>m'=m∧zbp g n off cs k
 | _=>False
@[simp] theorem zZP (g:Bool) (n m off e s m':Nat) (cs:List AV):zwm g n m off (some (.vec e s m' cs)) k=(m'=m∧zbp g n off cs k):=propext Iff.rfl
@[simp] theorem zZT (g:Bool) (n id m off:Nat):zae g n (.vp id m off) H k=zwm g n m off H[id]? k:=by rw[zg7];rfl
def zg9 (n m off id:Nat) (xs:Option (List AV)) (b:Option AB) (H:zaa) (K':zaa→Prop):Prop:=
 match xs,b with
 | some xs,some (.vec e s m' cs)=>(m'=m∧xs.length=n∧off+n≤cs.length∧xs.all AV.known=true)∧K' (H.set id (.vec e s m' (cs.take off++xs++cs.drop (off+n))))
 | _,_=>False
@[simp] theorem yaV {K':zaa→Prop} (n m off id e s m':Nat) (xs cs:List AV):zg9 n m off id (some xs) (some (.vec e s m' cs)) H K'=((m'=m∧xs.length=n∧off+n≤cs.length∧xs.all AV.known=true)∧K' (H.set id (.vec e s m' (cs.take off++xs++cs.drop (off+n))))):=propext Iff.rfl
@[simp] theorem yaY {K':zaa→Prop} (n id m off:Nat) (x:AV):zao n (.vp id m off) x H K'=zg9 n m off id x.cs? H[id]? H K':=by
 cases hx:x.cs? with
 | none=>simp[zeK,zg9,hx]
 | some xs=>cases hb:H[id]? with
  | none=>simp[zeK,zg9,hx,hb]
  | some b=>cases b <;> simp[zeK,zg9,hx,hb]
def zoZ (e size bytes n id:Nat) (ys:List (List AV)) (b:Option AB) (H:zaa) (K:AV→zaa→Prop):Prop:=
 match b with
 | some (.vec e' s' n' cs)=>((e'=e∧s'=size∧n'=n)∧(n+ys.length)*bytes≤140737488355328∧n+ys.length≤9223372036854775807)∧K (.ov id (n+ys.length)) (H.set id (.vec e size (n+ys.length) (cs++ys.flatten)))
 | _=>False
@[simp] theorem zYw (e size bytes n id e' s' n':Nat) (ys:List (List AV)) (cs:List AV):zoZ e size bytes n id ys (some (.vec e' s' n' cs)) H K=(((e'=e∧s'=size∧n'=n)∧(n+ys.length)*bytes≤140737488355328∧n+ys.length≤9223372036854775807)∧K (.ov id (n+ys.length)) (H.set id (.vec e size (n+ys.length) (cs++ys.flatten)))):=propext Iff.rfl
@[simp] theorem zYv (e size bytes id n:Nat) (ys:List (List AV)):zaJ e size bytes (.ov id n) ys H K=zoZ e size bytes n id ys H[id]? H K:=by unfold zaJ zoZ;rfl
@[simp] theorem zZs (ag id m:Nat) (j:IntKind) (n:Int):zak ag (.ov id m) (.int j n) k=((0≤n∧n<m)∧k (.vp id m (n.toNat*ag))):=zi7 ..
@[simp] theorem zZB (id n:Nat):zah 1 (.ov id n) k=k (.int .i64 n):=propext Iff.rfl
@[simp] theorem zZb (off i m o:Nat):zaf off (.vp i m o) k=k (.vp i m (o+off)):=propext Iff.rfl
@[simp] theorem yam (i m o:Nat):za7 (.vp i m o) k=k (.vp i m o):=propext Iff.rfl
@[simp] theorem zYH (i n:Nat):zat (.ov i n) H K=K (.ptr H.length 0) (H++[.cells [.ov i n]]):=propext Iff.rfl
@[simp] theorem ybG (i n:Nat):(AV.ov i n).known=true:=rfl
@[simp] theorem yb0 (m i n:Nat):(AV.ov i n).scA m=decide (i<m):=rfl
@[simp] theorem yak (i o:Nat):za7 (.ptr i o) k=k (.ptr i o):=propext Iff.rfl
@[simp] theorem yal (cs:List AV):za7 (.view cs) k=k (.view cs):=propext Iff.rfl
@[simp] theorem yaj (f:Nat) (c:List AV):za7 (.fn f c) k=k (.fn f c):=propext Iff.rfl
@[simp] theorem zY9 (off i o:Nat):zaf off (.ptr i o) k=k (.ptr i (o+off)):=propext Iff.rfl
@[simp] theorem zZa (off:Nat) (cs:List AV):zaf off (.view cs) k=(off≤cs.length∧k (.view (cs.drop off))):=zwl ..
@[simp] theorem zY6 (g:Bool) (n off:Nat) (cs:List AV):zdY g n off (.agg cs) k=zbp g n off cs k:=propext Iff.rfl
@[simp] theorem zZt (ag:Nat) (es:List (List AV)) (t:Tok) (j:IntKind) (n:Int):zak ag (.sl es t) (.int j n) k=((0≤n∧n<es.length)∧((es.getD n.toNat []).length=ag∧k (.view (es.getD n.toNat [])))):=zi7 ..
@[simp] theorem zZr (ag id off len cap:Nat) (j:IntKind) (n:Int):zak ag (.ms id off len cap) (.int j n) k=((0≤n∧n<len)∧k (.ptr id (off+n.toNat*ag))):=zi7 ..
@[simp] theorem zZv (s:List UInt8) (j:IntKind) (n:Int):zbI (.str s) (.int j n) k=((0≤n∧n<s.length)∧k (.int .u8 (s.getD n.toNat 0).toNat)):=propext Iff.rfl
@[simp] theorem zZE (s:List UInt8):zah 0 (.str s) k=k (.int .i64 s.length):=propext Iff.rfl
@[simp] theorem zZC (es:List (List AV)) (t:Tok):zah 1 (.sl es t) k=k (.int .i64 es.length):=propext Iff.rfl
@[simp] theorem zZD:zah 1 .snil k=k (.int .i64 0):=propext Iff.rfl
@[simp] theorem zZA (i o l c:Nat):zah 1 (.ms i o l c) k=k (.int .i64 l):=propext Iff.rfl
@[simp] theorem zFC (d:Nat) (q:Nat→Prop):zbN none d q=q d:=propext Iff.rfl
@[simp] theorem zFB (j:IntKind) (n:Int) (d:Nat) (q:Nat→Prop):zbN (some (.int j n)) d q=(0≤n∧q n.toNat):=propext Iff.rfl
@[simp] theorem zZ1 {K:AV→zaa→Prop} {H:zaa} (e s b:Nat) (c:Int):zeJ e s b (.int .i64 c) H K=((0≤c∧c*b≤140737488355328∧c≤9223372036854775807)∧K (.ov H.length 0) (H++[.vec e s 0 []])):=propext Iff.rfl
@[congr] theorem zZ0 {K:AV→zaa→Prop} {H H':zaa} {e s b:Nat} {c c':AV} (hc:c=c') (hH:H=H'):zeJ e s b c H K=zeJ e s b c' H' K:=by rw[hc,hH]
@[simp] theorem zZ4 {K:AV→Prop} (k k':IntKind) (m n:Int):zff (.int k m) (.int k' n) K=K (.int k (if n>m then n else m)):=propext Iff.rfl
@[congr] theorem zZ3 {K:AV→Prop} {x x' y y':AV} (h:x=x') (hy:y=y'):zff x y K=zff x' y' K:=by rw[h,hy]
@[simp] theorem yaR (ag id n:Nat) (lo hi:Option AV):zaN 1 ag (.ov id n) lo hi k=zbN hi n λh=>zbN lo 0 λl=>(l≤h∧h=n)∧k (.os id n l ag):=propext Iff.rfl
@[simp] theorem ybh (i n l z:Nat):(AV.os i n l z).cs?=some [.os i n l z]:=rfl
def zwk (size id n lo z id' n' lo' z':Nat) (b:Option AB) (H:zaa) (K:AV→zaa→Prop):Prop:=
 match b with
 | some (.vec e s m cs) => (((id' = id ∧ n' = n ∧ m = n) ∧ z = size ∧ z' = size ∧ s = size) ∧ cs.all AV.known = true) ∧
    K (.int .i64 ((min (n-lo') (n-lo):Nat):Int)) (H.set id (.vec e s m (zde cs (lo*size) ((cs.drop (lo'*size)).take (min (n-lo') (n-lo)*size)))))
 | _=>False
@[simp] theorem zYY {K:AV→zaa→Prop} (size id n lo z id' n' lo' z':Nat):zfe size (.os id n lo z) (.os id' n' lo' z') H K=zwk size id n lo z id' n' lo' z' H[id]? H K:=propext Iff.rfl
@[simp] theorem zFF {K : AV → zaa → Prop} (size id n lo z id' n' lo' z' e s m : Nat) (cs : List AV) : zwk size id n lo z id' n' lo' z' (some (.vec e s m cs)) H K = ((((id' = id ∧ n' = n ∧ m = n) ∧ z = size ∧ z' = size ∧ s = size) ∧ cs.all AV.known = true) ∧
        K (.int .i64 ((min (n-lo') (n-lo):Nat):Int)) (H.set id (.vec e s m (zde cs (lo*size) ((cs.drop (lo'*size)).take (min (n-lo') (n-lo)*size)))))):=propext Iff.rfl
@[simp] theorem zFJ (s:List UInt8) (lo hi:Option AV):zaN 0 0 (.str s) lo hi k=zbN hi s.length λh=>zbN lo 0 λl=>(l≤h∧h≤s.length)∧k (.str ((s.take h).drop l)):=propext Iff.rfl
@[simp] theorem yaS (ag:Nat) (es:List (List AV)) (t:Tok) (lo hi:Option AV):zaN 1 ag (.sl es t) lo hi k=zbN hi es.length λh=>zbN lo 0 λl=>(l≤h∧h≤es.length∧∀ c∈es,c.length=ag)∧k (.sl ((es.take h).drop l) .none):=propext Iff.rfl
@[simp] theorem zYs (b:Bool) (j:IntKind) (m n:Int):zac .add b (.int j m) (.int j n) k=k (.int j (j.wrap (m+n))):=by simp[zcj]
@[simp] theorem yaZ (b:Bool) (j:IntKind) (m n:Int):zac .sub b (.int j m) (.int j n) k=k (.int j (j.wrap (m-n))):=by simp[zcj]
@[simp] theorem zZ7 (b:Bool) (j:IntKind) (m n:Int):zac .mul b (.int j m) (.int j n) k=k (.int j (j.wrap (m*n))):=by simp[zcj]
@[simp] theorem zY1 (b:Bool) (j:IntKind) (m n:Int):zac .eql b (.int j m) (.int j n) k=k (.bool (m == n)):=by simp[zcj]
@[simp] theorem yaa (b:Bool) (j:IntKind) (m n:Int):zac .neq b (.int j m) (.int j n) k=k (.bool (m != n)):=by simp[zcj]
@[simp] theorem zZU (b:Bool) (j:IntKind) (m n:Int):zac .lss b (.int j m) (.int j n) k=k (.bool (decide (m<n))):=by simp[zcj]
@[simp] theorem zZF (b:Bool) (j:IntKind) (m n:Int):zac .leq b (.int j m) (.int j n) k=k (.bool (decide (m≤n))):=by simp[zcj]
@[simp] theorem zZd (b:Bool) (j:IntKind) (m n:Int):zac .gtr b (.int j m) (.int j n) k=k (.bool (decide (m>n))):=by simp[zcj]
@[simp] theorem zZc (b:Bool) (j:IntKind) (m n:Int):zac .geq b (.int j m) (.int j n) k=k (.bool (decide (m≥n))):=by simp[zcj]
@[simp] theorem zY2 (b:Bool) (s t:List UInt8):zac .eql b (.str s) (.str t) k=k (.bool (s == t)):=propext Iff.rfl
@[simp] theorem yab (b:Bool) (s t:List UInt8):zac .neq b (.str s) (.str t) k=k (.bool (!(s == t))):=rfl
@[simp] theorem zYt (b:Bool) (s t:List UInt8):zac .add b (.str s) (.str t) k=(s.length+t.length≤9223372036854775807∧k (.str (s++t))):=zcj ..
@[simp] theorem zY0 (m n:Bool):zac .eql true (.bool m) (.bool n) k=k (.bool (m == n)):=by simp[zcj]
@[simp] theorem zZ9 (m n:Bool):zac .neq true (.bool m) (.bool n) k=k (.bool (!(m == n))):=by simp[zcj]
@[simp] theorem yan (b:Bool):aUn .not (.bool b) k=k (.bool (!b)):=rfl
@[simp] theorem zZ8 (j:IntKind) (n:Int):aUn .neg (.int j n) k=k (.int j (j.wrap (0-n))):=rfl
@[simp] theorem zFE (j i:IntKind) (n:Int):za0 j (.int i n) k=k (.int j (j.wrap n)):=propext Iff.rfl
@[simp] theorem zYW (s:List UInt8):zdX (.str s) k=k (.str s):=propext Iff.rfl
@[simp] theorem zY3 (v:AV) (vs:List AV):zaC (.tup (v::vs)) 0 k=k v:=propext Iff.rfl
@[simp] theorem zY5 (v:AV) (vs:List AV) (i:Nat):zaC (.tup (v::vs)) (i+1) k=zaC (.tup vs) i k:=by simp[zaC]
@[simp] theorem zYU (f:Nat) (caps:List AV):zcE f caps k=(caps.all AV.isB=true∧k (.fn f caps)):=propext Iff.rfl
@[simp] theorem yaO (v:AV):zaF [v] k=k v:=propext Iff.rfl
@[simp] theorem yaP (v u:AV) (vs:List AV):zaF (v::u::vs) k=((v::u::vs).all AV.isV=true∧k (.tup (v::u::vs))):=propext Iff.rfl
end


section
variable {H:zaa} {K:AV→zaa→Prop} {k:AV→Prop} {kh:zaa→Prop}
@[simp] theorem ybc (i:Nat):(AV.map i).cs?=some [.map i]:=rfl
@[simp] theorem zZ6:zdZ H K=K (.map H.length) (H++[.map []]):=propext Iff.rfl
def zga (zero:AV) (ok:Bool) (s:List UInt8) (b:Option AB) (k:AV→Prop):Prop:=
 match b with
 | some (.map kvs)=>k (match ok with
   | true=>.tup [(zbO kvs s).getD zero,.bool (zbO kvs s).isSome]
   | false=>(zbO kvs s).getD zero)
 | _=>False
@[simp] theorem zZK (z:AV) (ok:Bool) (id:Nat) (s:List UInt8):zdK z ok (.map id) (.str s) H k=zga z ok s H[id]? k:=by unfold zdK zga;rfl
@[simp] theorem zZH (z:AV) (s:List UInt8) (kvs:List (List UInt8 × AV)):zga z false s (some (.map kvs)) k=k ((zbO kvs s).getD z):=propext Iff.rfl
@[simp] theorem zZI (z:AV) (s:List UInt8) (kvs:List (List UInt8 × AV)):zga z true s (some (.map kvs)) k=k (.tup [(zbO kvs s).getD z,.bool (zbO kvs s).isSome]):=propext Iff.rfl
def zgc (id:Nat) (s:List UInt8) (x:AV) (b:Option AB) (H:zaa) (kh:zaa→Prop):Prop:=
 match b with
 | some (.map kvs)=>(match x with
   | .tup _=>False
   | x=>kh (H.set id (.map (zcH kvs s x))))
 | _=>False
@[simp] theorem zZZ (id:Nat) (s:List UInt8) (x:AV):zcW (.map id) (.str s) x H kh=zgc id s x H[id]? H kh:=by unfold zcW zgc;rfl
@[simp] theorem zZV (id:Nat) (s:List UInt8) (b:Bool) (kvs:List (List UInt8 × AV)):zgc id s (.bool b) (some (.map kvs)) H kh=kh (H.set id (.map (zcH kvs s (.bool b)))):=propext Iff.rfl
@[simp] theorem zZX (id:Nat) (s:List UInt8) (j:IntKind) (n:Int) (kvs:List (List UInt8 × AV)):zgc id s (.int j n) (some (.map kvs)) H kh=kh (H.set id (.map (zcH kvs s (.int j n)))):=propext Iff.rfl
@[congr] theorem zZ5 {H':zaa} (hH:H=H'):zdZ H K=zdZ H' K:=by rw[hH]
@[congr] theorem zZJ {H':zaa} {z:AV} {ok:Bool} {m m' x x':AV} (hm:m=m') (hx:x=x') (hH:H=H'):zdK z ok m x H k=zdK z ok m' x' H' k:=by rw[hm,hx,hH]
@[congr] theorem zZG {z:AV} {ok:Bool} {s s':List UInt8} {b b':Option AB} (hs:s=s') (hb:b=b'):zga z ok s b k=zga z ok s' b' k:=by rw[hs,hb]
@[congr] theorem zZY {H':zaa} {m m' y y' x x':AV} (hm:m=m') (hy:y=y') (hx:x=x') (hH:H=H'):zcW m y x H kh=zcW m' y' x' H' kh:=by rw[hm,hy,hx,hH]
@[congr] theorem zZW {H':zaa} {id id':Nat} {s s':List UInt8} {x x':AV} {b b':Option AB} (hi:id=id') (hs:s=s') (hx:x=x') (hb:b=b') (hH:H=H'):zgc id s x b H kh=zgc id' s' x' b' H' kh:=by rw[hi,hs,hx,hb,hH]
end

section
variable {H H':zaa} {K:AV→zaa→Prop} {k:AV→Prop} {kh:zaa→Prop}
@[congr] theorem zZw {b b':Bool} {p q:Prop} (h:b=b'):aIf b p q=aIf b' p q:=by rw[h]
@[congr] theorem ya0 {c c':AV} {p q:Prop} (h:c=c'):zag c p q=zag c' p q:=by rw[h]
@[congr] theorem zZk {c c':AV} {w:Bool} {p q:Prop} (h:c=c'):zdq c w p q=zdq c' w p q:=by rw[h]
@[congr] theorem zZe {c c':AV} {w:Bool} {p:(AV→zaa→Prop)→Prop} {J:AV→zaa→Prop} (h:c=c') (hH:H=H'):zad c w H p J=zad c' w H' p J:=by rw[h,hH]
@[congr] theorem yao {c c' a a' b b':AV} (h:c=c') (ha:a=a') (hb:b=b'):zam c a b k=zam c' a' b' k:=by rw[h,ha,hb]
@[congr] theorem zYC {x x':AV} (h:x=x') (hH:H=H'):zat x H K=zat x' H' K:=by rw[h,hH]
@[congr] theorem yac {x x':List AV} (h:x=x') (hH:H=H'):zay x H K=zay x' H' K:=by rw[h,hH]
@[congr] theorem zYQ {g:Bool} {n n' o o':Nat} {c c':List AV} (hn:n=n') (ho:o=o') (hc:c=c'):zbp g n o c k=zbp g n' o' c' k:=by rw[hn,ho,hc]
@[congr] theorem zZQ {g:Bool} {n:Nat} {x x':AV} (h:x=x') (hH:H=H'):zae g n x H k=zae g n x' H' k:=by rw[h,hH]
@[congr] theorem zZL {g:Bool} {n o o':Nat} {b b':Option AB} (ho:o=o') (h:b=b'):zgb g n o b k=zgb g n o' b' k:=by rw[h,ho]
@[congr] theorem yaW {n:Nat} {a a' x x':AV} (ha:a=a') (h:x=x') (hH:H=H'):zao n a x H kh=zao n a' x' H' kh:=by rw[ha,h,hH]
@[congr] theorem yaU {n o o' i i':Nat} {x x':Option (List AV)} {b b':Option AB} (ho:o=o') (hi:i=i') (h:x=x') (hb:b=b') (hH:H=H'):zfh n o i x b H kh=zfh n o' i' x' b' H' kh:=by rw[ho,hi,h,hb,hH]
@[congr] theorem zY8 {n:Nat} {x x':AV} (h:x=x'):zaf n x k=zaf n x' k:=by rw[h]
@[congr] theorem zY7 {g:Bool} {n o:Nat} {x x':AV} (h:x=x'):zdY g n o x k=zdY g n o x' k:=by rw[h]
@[congr] theorem zZq {n:Nat} {x x' i i':AV} (h:x=x') (hi:i=i'):zak n x i k=zak n x' i' k:=by rw[h,hi]
@[congr] theorem zZu {x x' i i':AV} (h:x=x') (hi:i=i'):zbI x i k=zbI x' i' k:=by rw[h,hi]
@[congr] theorem zZz {u:Nat} {x x':AV} (h:x=x'):zah u x k=zah u x' k:=by rw[h]
@[congr] theorem zYz {x x':Option AV} {d d':Nat} {q:Nat→Prop} (h:x=x') (hd:d=d'):zbN x d q=zbN x' d' q:=by rw[h,hd]
@[congr] theorem yaQ {u e:Nat} {x x':AV} {l l' h h':Option AV} (hx:x=x') (hl:l=l') (hh:h=h'):zaN u e x l h k=zaN u e x' l' h' k:=by rw[hx,hl,hh]
@[congr] theorem zYy {o:BinOp} {b:Bool} {x x' y y':AV} (h:x=x') (hy:y=y'):zac o b x y k=zac o b x' y' k:=by rw[h,hy]
@[congr] theorem ya3 {o:UnOp} {x x':AV} (h:x=x'):aUn o x k=aUn o x' k:=by rw[h]
@[congr] theorem zYX {o:IntKind} {x x':AV} (h:x=x'):za0 o x k=za0 o x' k:=by rw[h]
@[congr] theorem zYV {x x':AV} (h:x=x'):zdX x k=zdX x' k:=by rw[h]
@[congr] theorem zY4 {x x':AV} {i:Nat} (h:x=x'):zaC x i k=zaC x' i k:=by rw[h]
@[congr] theorem zYT {f:Nat} {x x':List AV} (h:x=x'):zcE f x k=zcE f x' k:=by rw[h]
@[congr] theorem yai {x x':AV} (h:x=x'):za7 x k=za7 x' k:=by rw[h]
@[congr] theorem zYN {z:List AV} {p:List (Nat × Nat)} {x x':List (Nat × AV)} (h:x=x'):zaq z p x k=zaq z p x' k:=by rw[h]
@[congr] theorem zYM {e:Nat} {z:List AV} {l:Nat} {x x':List (Nat × AV)} (h:x=x'):zau e z l x k=zau e z l x' k:=by rw[h]
@[congr] theorem zZ2 {b:Nat} {z:List AV} {l l' c c':AV} (h:l=l') (hc:c=c') (hH:H=H'):zbe b z l c H K=zbe b z l' c' H' K:=by rw[h,hc,hH]
@[congr] theorem zYx {e s b:Nat} {x x' y y':AV} (h:x=x') (hy:y=y') (hH:H=H'):zav e s b x y H K=zav e s b x' y' H' K:=by rw[h,hy,hH]
@[congr] theorem zYu {e s b:Nat} {x x':AV} {y y':List (List AV)} (h:x=x') (hy:y=y') (hH:H=H'):zaJ e s b x y H K=zaJ e s b x' y' H' K:=by rw[h,hy,hH]
@[congr] theorem yaT {x x':AV} {q:List (List AV)→Prop} (h:x=x'):zaM x q=zaM x' q:=by rw[h]
@[congr] theorem zYq {P:Program} {f:FuncId} {x x':List AV} (h:x=x') (hH:H=H'):ACalls P f x H K=ACalls P f x' H' K:=by rw[h,hH]
@[congr] theorem zYO {P:Program} {g g':AV} {x x':List AV} (hg:g=g') (h:x=x') (hH:H=H'):aCallV P g x H K=aCallV P g' x' H' K:=by rw[hg,h,hH]
@[congr] theorem yau {p:(AV→zaa→Prop)→Prop}:zab H p k=zab H p k:=rfl
@[congr] theorem zYr {n:Nat} {r r':AV} (hr:r=r') (hH:H=H'):Out n K r H=Out n K r' H':=by rw[hr,hH]
end
section
variable {H:zaa} {k:AV→Prop}
theorem zcf {p:(AV→Prop)→Prop} (h:∀ q:AV→Prop,p q↔∃ v,p (λu=>u=v)∧q v):zab H (λK'=>p λv=>K' v H) k=p k:=by unfold zab;rw[eq_iff_iff,h k];simp only[and_true]
@[simp] theorem yaC (x:AV):zab H (λK'=>K' x H) k=k x:=by simp[zab]
theorem zpm (g:Bool) (n o:Nat) (cs:List AV) (q:AV→Prop):zbp g n o cs q↔∃ v,zbp g n o cs (λu=>u=v)∧q v:=by
 unfold zbp;split
 ·constructor
  ·rintro⟨h1,h2⟩;exact⟨_,⟨h1,rfl⟩,h2⟩
  ·rintro⟨v,⟨h1,rfl⟩,h2⟩;exact⟨h1,h2⟩
 ·split <;> simp
theorem zFX {a:Prop} {p:Prop} {p':AV→Prop} {q:AV→Prop} (h:p↔∃ v,p' v∧q v):(a∧p)↔∃ v,(a∧p' v)∧q v:=by
 constructor
 ·rintro⟨h1,h2⟩;obtain⟨v,h3,h4⟩:=h.1 h2;exact⟨v,⟨h1,h3⟩,h4⟩
 ·rintro⟨v,⟨h1,h3⟩,h4⟩;exact⟨h1,h.2 ⟨v,h3,h4⟩⟩
@[simp] theorem yaG (g:Bool) (n:Nat) (a:AV):zab H (λK'=>zae g n a H λv=>K' v H) k=zae g n a H k:=zcf (p:=λq=>zae g n a H q) λq=>by
 unfold zae;split
 ·exact zpm _ _ _ _ q
 ·simp
@[simp] theorem zZN (g:Bool) (n id off:Nat):zaj g n (.ptr id off) H k=zae g n (.ptr id off) H k:=propext Iff.rfl
@[simp] theorem zZO (g:Bool) (n:Nat) (cs:List AV):zaj g n (.view cs) H k=zae g n (.view cs) H k:=propext Iff.rfl
@[simp] theorem yaH (g:Bool) (n:Nat) (a:AV):zab H (λK'=>zaj g n a H λv=>K' v H) k=zaj g n a H k:=zcf (p:=λq=>zaj g n a H q) λq=>by
 unfold zaj;split
 ·simp
 unfold zae;split
 ·exact zpm _ _ _ _ q
 ·simp
@[simp] theorem yaJ (b:Bool) (o:BinOp) (x:AV):zab H (λK'=>zcX b o x λv=>K' v H) k=zcX b o x k:=zcf (p:=λq=>zcX b o x q) λq=>by
 unfold zcX;refine zFX ?_;split
 ·split <;> simp
 ·split <;> simp
 ·simp
@[simp] theorem yah:zcX true .neq .nili k=k (.bool false):=by simp[zcX]
@[simp] theorem yaf:zcX true .neq .ifc k=k (.bool true):=by simp[zcX]
@[simp] theorem yag:zcX true .eql .nili k=k (.bool true):=by simp[zcX]
@[simp] theorem yae:zcX true .eql .ifc k=k (.bool false):=by simp[zcX]
@[simp] theorem yaK (c a b:AV):zab H (λK'=>zam c a b λv=>K' v H) k=zam c a b k:=zcf (p:=λq=>zam c a b q) λq=>by unfold zam;split <;> simp
@[simp] theorem yaA (o:Nat) (a:AV):zab H (λK'=>zaf o a λv=>K' v H) k=zaf o a k:=zcf (p:=λq=>zaf o a q) λq=>by unfold zaf;split <;> simp
@[simp] theorem yaB (g:Bool) (n o:Nat) (a:AV):zab H (λK'=>zdY g n o a λv=>K' v H) k=zdY g n o a k:=zcf (p:=λq=>zdY g n o a q) λq=>by
 unfold zdY;split
 ·exact zpm _ _ _ _ q
 ·simp
@[simp] theorem yaD (n:Nat) (x i:AV):zab H (λK'=>zak n x i λv=>K' v H) k=zak n x i k:=zcf (p:=λq=>zak n x i q) λq=>by unfold zak;split <;> simp
@[simp] theorem yaE (x i:AV):zab H (λK'=>zbI x i λv=>K' v H) k=zbI x i k:=zcf (p:=λq=>zbI x i q) λq=>by
 unfold zbI;split
 ·constructor
  ·rintro⟨h1,h2⟩;exact⟨_,⟨h1,rfl⟩,h2⟩
  ·rintro⟨v,⟨h1,rfl⟩,h2⟩;exact⟨h1,h2⟩
 ·simp
@[simp] theorem yaF (u:Nat) (x:AV):zab H (λK'=>zah u x λv=>K' v H) k=zah u x k:=zcf (p:=λq=>zah u x q) λq=>by unfold zah;split <;> simp
@[simp] theorem yaM (o:UnOp) (x:AV):zab H (λK'=>aUn o x λv=>K' v H) k=aUn o x k:=zcf (p:=λq=>aUn o x q) λq=>by unfold aUn;split <;> simp
@[simp] theorem yaw (o:IntKind) (x:AV):zab H (λK'=>za0 o x λv=>K' v H) k=za0 o x k:=zcf (p:=λq=>za0 o x q) λq=>by unfold za0;split <;> simp
@[simp] theorem yay (x:AV):zab H (λK'=>zdX x λv=>K' v H) k=zdX x k:=zcf (p:=λq=>zdX x q) λq=>by unfold zdX;split <;> simp
@[simp] theorem yax (x:AV):zab H (λK'=>zfd x λv=>K' v H) k=zfd x k:=zcf (p:=λq=>zfd x q) λq=>by
 unfold zfd;split
 ·split <;> simp
 ·simp
 ·simp
@[simp] theorem yaI (x:AV):zab H (λK'=>za7 x λv=>K' v H) k=za7 x k:=zcf (p:=λq=>za7 x q) λq=>by unfold za7;split <;> simp
@[simp] theorem yaz (x:AV) (i:Nat):zab H (λK'=>zaC x i λv=>K' v H) k=zaC x i k:=zcf (p:=λq=>zaC x i q) λq=>by
 unfold zaC;split
 ·split <;> simp
 ·simp
@[simp] theorem yas (z:List AV) (ps:List (Nat × Nat)) (x:List (Nat × AV)):zab H (λK'=>zaq z ps x λv=>K' v H) k=zaq z ps x k:=zcf (p:=λq=>zaq z ps x q) λq=>by unfold zaq;split <;> simp
@[simp] theorem yat (e:Nat) (z:List AV) (l:Nat) (x:List (Nat × AV)):zab H (λK'=>zau e z l x λv=>K' v H) k=zau e z l x k:=zcf (p:=λq=>zau e z l x q) λq=>by
 unfold zau;split
 ·split <;> simp
 ·simp
@[simp] theorem yar (o:BinOp) (b:Bool) (x y:AV):zab H (λK'=>zac o b x y λv=>K' v H) k=zac o b x y k:=zcf (p:=λq=>zac o b x y q) λq=>by unfold zac;split <;> simp
@[simp] theorem yav (f:Nat) (x:List AV):zab H (λK'=>zcE f x λv=>K' v H) k=zcE f x k:=zcf (p:=λq=>zcE f x q) λq=>by
 unfold zcE;constructor
 ·rintro⟨h1,h2⟩;exact⟨_,⟨h1,rfl⟩,h2⟩
 ·rintro⟨v,⟨h1,rfl⟩,h2⟩;exact⟨h1,h2⟩
end
@[simp] theorem zGU (A l:zaa):(A++l)[A.length]?=l[0]?:=by rw[List.getElem?_append_right (Nat.le_refl _)];simp
@[simp] theorem zGV (A l:zaa) (k:Nat):(A++l)[A.length+k]?=l[k]?:=by rw[List.getElem?_append_right (by omega)];congr 1;omega
@[simp] theorem zIH (A l:zaa) (x:AB):(A++l).set A.length x=A++l.set 0 x:=by rw[List.set_append_right _ _ (Nat.le_refl _)];simp
@[simp] theorem zzm (A l:zaa) (k:Nat) (x:AB):(A++l).set (A.length+k) x=A++l.set k x:=by rw[List.set_append_right _ _ (by omega)];congr 2;omega
@[simp] theorem ybp (A l:zaa) (i:Nat) (y:AB):(A.set i y++l)[A.length]?=l[0]?:=by have:=zGU (A.set i y) l;rwa [List.length_set]at this
@[simp] theorem ybq (A l:zaa) (i:Nat) (y:AB) (k:Nat):(A.set i y++l)[A.length+k]?=l[k]?:=by have:=zGV (A.set i y) l k;rwa [List.length_set]at this
@[simp] theorem yb6 (A l:zaa) (i:Nat) (x y:AB):(A.set i y++l).set A.length x=A.set i y++l.set 0 x:=by have:=zIH (A.set i y) l x;rwa [List.length_set]at this
@[simp] theorem yb7 (A l:zaa) (i:Nat) (y:AB) (k:Nat) (x:AB):(A.set i y++l).set (A.length+k) x=A.set i y++l.set k x:=by have:=zzm (A.set i y) l k x;rwa [List.length_set]at this
theorem zb8 {H J:zaa} {id:Nat} {b:AB} (h:H[id]?=some b):(H++J)[id]?=some b:=by rw[List.getElem?_append_left (List.getElem?_eq_some_iff.1 h).1];exact h
theorem zbr {H:zaa} {id:Nat} {b:AB} (h:H[id]?=some b):id<H.length:=(List.getElem?_eq_some_iff.1 h).1
theorem zej {H J:zaa} {id:Nat} {b:AB} (x:AB) (h:H[id]?=some b):(H++J).set id x=H.set id x++J:=List.set_append_left _ _ (zbr h)
theorem zdC {H:zaa} {id:Nat} {b:AB} (x:AB) (h:H[id]?=some b):(H.set id x)[id]?=some x:=List.getElem?_set_self (zbr h)

theorem zaw {n:Int} (h1:-9223372036854775808≤n) (h2:n≤9223372036854775807):IntKind.i64.wrap n=n:=IntWalk.i64_in n ⟨h1,h2⟩

theorem HSc.set {H:zaa} {id:Nat} {b:AB} (h:HSc H) (hb:b.sc H.length=true):HSc (H.set id b):=by
 intro x hx;rw[List.length_set];rcases List.mem_or_eq_of_mem_set hx with h1 | h1
 ·exact h x h1
 ·rw[h1];exact hb
theorem zcg {n m:Nat} (h:n≤m):∀ {a:AV},a.sc n=true→a.sc m=true:=by
 have hB:∀ {a:AV},a.scB n=true→a.scB m=true:=by
  intro a ha;cases a with
  | sl es t=>cases t <;> simp_all [AV.scB];omega
  | _=>simp_all [AV.scB] <;> omega
 have hA:∀ {a:AV},a.scA n=true→a.scA m=true:=by
  intro a ha;cases a with
  | fn f caps=>simp only[AV.scA,List.all_eq_true]at ha ⊢;exact λx hx=>hB (ha x hx)
  | _=>simp only[AV.scA]at ha ⊢;exact hB ha
 have hV:∀ {a:AV},a.scV n=true→a.scV m=true:=by
  intro a ha;cases a with
  | agg caps=>simp only[AV.scV,List.all_eq_true]at ha ⊢;exact λx hx=>hA (ha x hx)
  | _=>simp only[AV.scV]at ha ⊢;exact hA ha
 intro a ha;cases a with
 | tup caps=>simp only[AV.sc,List.all_eq_true]at ha ⊢;exact λx hx=>hV (ha x hx)
 | _=>simp only[AV.sc]at ha ⊢;exact hV ha
theorem Back.here {n0:Nat} {Inv:List AV→zaa→Prop} {F:List AV} {H:zaa} (hn:n0≤H.length) (hsc:HSc H) (hs:F.all (AV.sc H.length)=true) (h:Inv F H):Back n0 Inv F H:=by have:=Back.same (J:=[]) hn hsc hs h;simpa using this
theorem zru {n m:Nat} (h:n≤m) {a:AV} (ha:a.scA n=true):a.scA m=true:=by
 cases a with
 | agg cs=>rfl
 | tup vs=>rfl
 | fn f caps=>exact zcg h (a:=.fn f caps) ha
 | sl es t=>exact zcg h (a:=.sl es t) ha
 | ptr i o=>exact zcg h (a:=.ptr i o) ha
 | ms i o l c=>exact zcg h (a:=.ms i o l c) ha
 | ov i n=>exact zcg h (a:=.ov i n) ha
 | vp i n o=>exact zcg h (a:=.vp i n o) ha
 | os i n l e=>exact zcg h (a:=.os i n l e) ha
 | map i=>exact zcg h (a:=.map i) ha
 | _=>rfl
theorem zIB {n m:Nat} (h:n≤m) {a:AV} (ha:a.scV n=true):a.scV m=true:=by
 cases a with
 | tup vs=>rfl
 | agg cs=>exact zcg h (a:=.agg cs) ha
 | fn f caps=>exact zcg h (a:=.fn f caps) ha
 | sl es t=>exact zcg h (a:=.sl es t) ha
 | ptr i o=>exact zcg h (a:=.ptr i o) ha
 | ms i o l c=>exact zcg h (a:=.ms i o l c) ha
 | ov i n=>exact zcg h (a:=.ov i n) ha
 | vp i n o=>exact zcg h (a:=.vp i n o) ha
 | os i n l e=>exact zcg h (a:=.os i n l e) ha
 | map i=>exact zcg h (a:=.map i) ha
 | _=>rfl
theorem zFl {n m:Nat} (h:n≤m) {b:AB} (hb:b.sc n=true):b.sc m=true:=by
 cases b with
 | cells cs=>simp only[AB.sc,List.all_eq_true]at hb ⊢;exact λx hx=>zru h (hb x hx)
 | perm e s n=>rfl
 | gap=>rfl
 | dead=>rfl
 | fact φ=>rfl
 | frz e s n=>rfl
 | map kvs=>simp only[AB.sc,List.all_eq_true]at hb ⊢;exact λx hx=>zIB h (hb x hx)
 | bld t cs=>simp only[AB.sc,List.all_eq_true]at hb ⊢;exact λx hx=>zru h (hb x hx)
 | vec e s n cs=>simp only[AB.sc,List.all_eq_true]at hb ⊢;exact λx hx=>zru h (hb x hx)
theorem HSc.append {A J:zaa} (hA:HSc A) (hJ:J.all (AB.sc (A.length+J.length))=true):HSc (A++J):=by
 intro x hx;rw[List.length_append];rcases List.mem_append.1 hx with h1 | h1
 ·exact zFl (by omega) (hA x h1)
 ·exact List.all_eq_true.1 hJ x h1
end

inductive VT where
 | mk (kind num:Int) (kids:List VT)

mutual
def VT.cs:VT→List AV
 | .mk k n ks=>[.int .i64 k,.int .i64 n,.sl (VT.css ks) .none]
def VT.css:List VT→List (List AV)
 | []=>[]
 | v::vs=>VT.cs v::VT.css vs
end
mutual
def VT.nodes:VT→Nat
 | .mk _ _ ks=>VT.nodesL ks+1
def VT.nodesL:List VT→Nat
 | []=>0
 | v::vs=>VT.nodes v+VT.nodesL vs
end
theorem VT.css_map:∀ ks:List VT,VT.css ks=ks.map VT.cs
 | []=>rfl
 | v::vs=>by simp[VT.css,VT.css_map vs]
theorem VT.nodes_pos:∀ v:VT,0<v.nodes
 | .mk _ _ _=>by simp[VT.nodes]
theorem VT.nodesL_app:∀ (a b:List VT),VT.nodesL (a++b)=VT.nodesL a+VT.nodesL b
 | [],b=>by simp[VT.nodesL]
 | v::a,b=>by simp[VT.nodesL,VT.nodesL_app a b];omega
@[simp] theorem VT.cs_len (v:VT):v.cs.length=3:=by cases v;simp[VT.cs]
@[simp] theorem VT.css_len (ks:List VT):(VT.css ks).length=ks.length:=by simp[VT.css_map]
@[simp] theorem VT.cs_take (v:VT):v.cs.take 3=v.cs:=by cases v;simp[VT.cs]
@[simp] theorem VT.cs_known (v:VT):v.cs.all AV.known=true:=by cases v;simp[VT.cs,AV.known]
@[simp] theorem VT.cs_scA (v:VT) (n:Nat):v.cs.all (AV.scA n)=true:=by cases v;simp[VT.cs,AV.scA,AV.scB]
@[simp] theorem VT.css_at {ks:List VT} {i:Nat} (h:i<ks.length):(VT.css ks)[i]?.getD []=(ks[i]).cs:=by simp[VT.css_map,h]
@[simp] theorem VT.css_get {ks:List VT} {i:Nat} (h:i<(VT.css ks).length):(VT.css ks)[i]=(ks[i]'(by simpa using h)).cs:=by simp[VT.css_map]
theorem VT.css_getD {ks:List VT} {i:Nat} (h:i<ks.length):(VT.css ks).getD i []=(ks[i]).cs:=by simp[VT.css_map,List.getD_eq_getElem?_getD,h]
theorem VT.kid_lt {k n:Int} {ks:List VT} {i:Nat} (h:i<ks.length):(ks[i]).nodes<(VT.mk k n ks).nodes:=by
 have h1:VT.nodesL ks=VT.nodesL (ks.take i)+((ks[i]).nodes+VT.nodesL (ks.drop (i+1))):=by
  conv=>lhs;rw[←List.take_append_drop i ks,VT.nodesL_app,List.drop_eq_getElem_cons h]
  rw[VT.nodesL]
 simp only[VT.nodes];omega
theorem VT.len_le:∀ ks:List VT,ks.length≤VT.nodesL ks
 | []=>by simp
 | v::vs=>by have:=VT.len_le vs;have:=v.nodes_pos;simp[VT.nodesL];omega
theorem VT.nodesL_take {ks:List VT} {i:Nat} (h:i<ks.length):VT.nodesL (ks.take (i+1))=VT.nodesL (ks.take i)+(ks[i]).nodes:=by rw[List.take_succ_eq_append_getElem h,VT.nodesL_app];simp[VT.nodesL]
theorem VT.nodesL_take_le (ks:List VT) (i:Nat):VT.nodesL (ks.take i)≤VT.nodesL ks:=by
 conv=>rhs;rw[←List.take_append_drop i ks,VT.nodesL_app]
 omega
def VT.leaf (k:Int):Bool:=k == 6 || k == 7 || k == 8
mutual
def VT.size:VT→Nat
 | .mk k _ ks=>if VT.leaf k=true then 1 else VT.sizeL ks+1
def VT.sizeL:List VT→Nat
 | []=>0
 | v::vs=>VT.size v+VT.sizeL vs
end
mutual
theorem VT.size_le:∀ v:VT,v.size≤v.nodes
 | .mk k n ks=>by have:=VT.sizeL_le ks;simp only[VT.size,VT.nodes];split <;> omega
theorem VT.sizeL_le:∀ ks:List VT,VT.sizeL ks≤VT.nodesL ks
 | []=>by simp[VT.sizeL,VT.nodesL]
 | v::vs=>by have:=VT.size_le v;have:=VT.sizeL_le vs;simp only[VT.sizeL,VT.nodesL];omega
end
/- The guard on a value's nodes: what is left of a number behind it, and whether it was enough. -/
mutual
def VT.val:VT→Int→Bool × Int
 | .mk _ _ ks,n=>if n-1<0 then (false,n-1) else VT.valL ks (n-1)
def VT.valL:List VT→Int→Bool × Int
 | [],n=>(true,n)
 | v::vs,n=>match VT.val v n with
  | (true,m)=>VT.valL vs m
  | (false,m)=>(false,m)
end
mutual
theorem VT.val_spec:∀ (v:VT) (n:Int),0≤n→((VT.val v n).1=true→(VT.val v n).2=n-v.nodes∧0≤(VT.val v n).2)∧-1≤(VT.val v n).2∧(VT.val v n).2≤n
 | .mk k m ks,n,h=>by
  simp only[VT.val,VT.nodes];split
  ·simp;omega
  ·have:=VT.valL_spec ks (n-1) (by omega);refine⟨λht=>?_,by omega,by omega⟩;have:=this.1 ht;omega
theorem VT.valL_spec:∀ (ks:List VT) (n:Int),0≤n→((VT.valL ks n).1=true→(VT.valL ks n).2=n-VT.nodesL ks∧0≤(VT.valL ks n).2)∧-1≤(VT.valL ks n).2∧(VT.valL ks n).2≤n
 | [],n,h=>by simp[VT.valL,VT.nodesL];omega
 | v::vs,n,h=>by
  have h1:=VT.val_spec v n h;simp only[VT.valL,VT.nodesL];split
  ·rename_i m hm;rw[hm]at h1;have h2:=h1.1 rfl;simp only at h2;have h3:=VT.valL_spec vs m h2.2;refine⟨λht=>?_,by omega,by omega⟩;have:=h3.1 ht;omega
  ·rename_i m hm;rw[hm]at h1;simp only at h1;exact⟨by simp,by omega,by omega⟩
end
theorem VT.valL_drop {ks:List VT} {i:Nat} (h:i<ks.length) (n:Int):VT.valL (ks.drop i) n=match VT.val ks[i] n with
  | (true,m)=>VT.valL (ks.drop (i+1)) m
  | (false,m)=>(false,m):=by rw[List.drop_eq_getElem_cons h,VT.valL]
def icmp (a b:Int):Int:=if a<b then -1 else if b<a then 1 else 0
def cor (a b:Int):Int:=if a=0 then b else a
theorem zhu (a b:Int):icmp a b=- icmp b a:=by unfold icmp;split <;> split <;> first | omega | (split <;> omega)
theorem zjj (a b:Int):icmp a b=0↔a=b:=by unfold icmp;split <;> first | omega | (split <;> omega)
theorem zhv (a b:Int):icmp a b=-1∨icmp a b=0∨icmp a b=1:=by unfold icmp;split <;> first | omega | (split <;> omega)
theorem zxI (a:Int):icmp a a=0:=(zjj a a).mpr rfl
theorem zxH {a b:Int} (h:a≠b):icmp a b=if a<b then -1 else 1:=by unfold icmp;split <;> first | omega | (split <;> omega)
theorem zfo {a a' b b':Int} (h:a=- b) (h':a'=- b'):cor a a'=- cor b b':=by unfold cor;split <;> split <;> omega
theorem zhi (a b:Int):cor a b=0↔a=0∧b=0:=by unfold cor;split <;> omega
theorem zfp {a b:Int} (h:a=-1∨a=0∨a=1) (h':b=-1∨b=0∨b=1):cor a b=-1∨cor a b=0∨cor a b=1:=by unfold cor;split <;> omega
theorem zjf {a b:Int} (h:a≠0):cor a b=a:=by simp[cor,h]
theorem zps {a b:Int} (h:a=0):cor a b=b:=by simp[cor,h]
def Tri (a b c:Int):Prop:=a≤0→b≤0→c≤0∧(c=0→a=0∧b=0)
theorem Tri.icmp (x y z:Int):Tri (icmp x y) (icmp y z) (icmp x z):=by unfold Tri Go.Proofs.YtdmamdnkcefmmaaGreatDoor.icmp;intro h1 h2;split at h1 <;> split at h2 <;> (try split at h1) <;> (try split at h2) <;> split <;> (try split) <;> omega
theorem Tri.cor {a b c a' b' c':Int} (h:Tri a b c) (h':Tri a' b' c'):Tri (cor a a') (cor b b') (cor c c'):=by unfold Tri Go.Proofs.YtdmamdnkcefmmaaGreatDoor.cor at *;intro h1 h2;by_cases ha:a=0 <;> by_cases hb:b=0 <;> by_cases hc:c=0 <;> simp only[ha,hb,hc,if_true,if_false]at*<;> first | omega | (simp_all;done) | (have:=h' h1 h2;simp_all;omega)
mutual
def VT.cmp:VT→VT→Int
 | .mk k n ks,.mk k' n' ks'=>cor (icmp k k') (cor (icmp n n') (cor (icmp ks.length ks'.length) (VT.cmpL ks ks')))
def VT.cmpL:List VT→List VT→Int
 | v::vs,w::ws=>cor (VT.cmp v w) (VT.cmpL vs ws)
 | [],[]=>0
 | [],_::_=>-1
 | _::_,[]=>1
end
mutual
def VT.same:VT→VT→Bool
 | .mk k n ks,.mk k' n' ks'=>k == k' && n == n' && VT.sameL ks ks'
def VT.sameL:List VT→List VT→Bool
 | v::vs,w::ws=>VT.same v w && VT.sameL vs ws
 | [],[]=>true
 | [],_::_=>false
 | _::_,[]=>false
end
mutual
theorem VT.cmp_anti:∀ v w:VT,VT.cmp v w=- VT.cmp w v
 | .mk k n ks,.mk k' n' ks'=>by simp only[VT.cmp];exact zfo (zhu _ _) (zfo (zhu _ _) (zfo (zhu _ _) (VT.cmpL_anti ks ks')))
theorem VT.cmpL_anti:∀ v w:List VT,VT.cmpL v w=- VT.cmpL w v
 | v::vs,w::ws=>by simp only[VT.cmpL];exact zfo (VT.cmp_anti v w) (VT.cmpL_anti vs ws)
 | [],[]=>by simp[VT.cmpL]
 | [],_::_=>by simp[VT.cmpL]
 | _::_,[]=>by simp[VT.cmpL]
end
mutual
theorem VT.cmp_rng:∀ v w:VT,VT.cmp v w=-1∨VT.cmp v w=0∨VT.cmp v w=1
 | .mk k n ks,.mk k' n' ks'=>by simp only[VT.cmp];exact zfp (zhv _ _) (zfp (zhv _ _) (zfp (zhv _ _) (VT.cmpL_rng ks ks')))
theorem VT.cmpL_rng:∀ v w:List VT,VT.cmpL v w=-1∨VT.cmpL v w=0∨VT.cmpL v w=1
 | v::vs,w::ws=>by simp only[VT.cmpL];exact zfp (VT.cmp_rng v w) (VT.cmpL_rng vs ws)
 | [],[]=>by simp[VT.cmpL]
 | [],_::_=>by simp[VT.cmpL]
 | _::_,[]=>by simp[VT.cmpL]
end
theorem VT.sameL_len:∀ v w:List VT,VT.sameL v w=true→v.length=w.length
 | v::vs,w::ws=>by simp only[VT.sameL,Bool.and_eq_true,List.length_cons];intro h;have:=VT.sameL_len vs ws h.2;omega
 | [],[]=>by simp
 | [],_::_=>by simp[VT.sameL]
 | _::_,[]=>by simp[VT.sameL]
mutual
theorem VT.cmp_zero:∀ v w:VT,VT.cmp v w=0↔VT.same v w=true
 | .mk k n ks,.mk k' n' ks'=>by
  have h:=VT.cmpL_zero ks ks';simp only[VT.cmp,VT.same,zhi,zjj,Bool.and_eq_true,beq_iff_eq,and_assoc,h];constructor
  ·rintro⟨a,b,_,c⟩;exact⟨a,b,c⟩
  ·rintro⟨a,b,c⟩;exact⟨a,b,by have:=VT.sameL_len _ _ c;omega,c⟩
theorem VT.cmpL_zero:∀ v w:List VT,VT.cmpL v w=0↔VT.sameL v w=true
 | v::vs,w::ws=>by simp only[VT.cmpL,VT.sameL,zhi,Bool.and_eq_true,VT.cmp_zero v w,VT.cmpL_zero vs ws]
 | [],[]=>by simp[VT.cmpL,VT.sameL]
 | [],_::_=>by simp[VT.cmpL,VT.sameL]
 | _::_,[]=>by simp[VT.cmpL,VT.sameL]
end
mutual
theorem VT.cmp_tri:∀ v w x:VT,Tri (VT.cmp v w) (VT.cmp w x) (VT.cmp v x)
 | .mk k n ks,.mk k' n' ks',.mk k'' n'' ks''=>by simp only[VT.cmp];exact (Tri.icmp _ _ _).cor ((Tri.icmp _ _ _).cor ((Tri.icmp _ _ _).cor (VT.cmpL_tri ks ks' ks'')))
theorem VT.cmpL_tri:∀ v w x:List VT,Tri (VT.cmpL v w) (VT.cmpL w x) (VT.cmpL v x)
 | v::vs,w::ws,x::xs=>by simp only[VT.cmpL];exact (VT.cmp_tri v w x).cor (VT.cmpL_tri vs ws xs)
 | [],[],[]=>by simp[VT.cmpL,Tri]
 | [],[],_::_=>by simp[VT.cmpL,Tri]
 | [],_::_,[]=>by simp[VT.cmpL,Tri]
 | [],_::_,_::_=>by simp[VT.cmpL,Tri]
 | _::_,[],[]=>by simp[VT.cmpL,Tri]
 | _::_,[],_::_=>by simp[VT.cmpL,Tri]
 | _::_,_::_,[]=>by simp[VT.cmpL,Tri]
end
theorem VT.cmpL_drop {a b:List VT} {i:Nat} (ha:i<a.length) (hb:i<b.length):VT.cmpL (a.drop i) (b.drop i)=cor (VT.cmp a[i] b[i]) (VT.cmpL (a.drop (i+1)) (b.drop (i+1))):=by rw[List.drop_eq_getElem_cons ha,List.drop_eq_getElem_cons hb,VT.cmpL]
theorem VT.sameL_drop {a b:List VT} {i:Nat} (ha:i<a.length) (hb:i<b.length):VT.sameL (a.drop i) (b.drop i)=(VT.same a[i] b[i] && VT.sameL (a.drop (i+1)) (b.drop (i+1))):=by rw[List.drop_eq_getElem_cons ha,List.drop_eq_getElem_cons hb,VT.sameL]
end Go.Proofs.YtdmamdnkcefmmaaGreatDoor

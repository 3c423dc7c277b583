import Derived.Test.YtaifokkaaahdoaaGreatDoorAbsD
import Derived.Laws.MakeOwn
import Derived.Laws.BytesString
import Derived.MapKept
import Derived.WideKeyRuns
set_option linter.unusedSimpArgs false
set_option linter.unusedVariables false
set_option linter.unusedSectionVars false
set_option maxRecDepth 8000
namespace Go.Proofs.YtaifokkaaahdoaaGreatDoor
section
open Go.RowKit

variable {P:Program} {B:Nat} {w:World} {G:Gh} {H:zaa}

theorem zej{x:Option Value}{ax:Option AV}{d:Nat}{K:Nat→Prop}(hx:All2 (TRel w G) x.toList ax.toList)(h:zbA ax d K):
  ∃l,((x=none∧l=d)∨∃k n,x=some (.int k n)∧0≤n∧l=n.toNat)∧K l:=by
 cases ax with
 |none=>
  cases x with
  |none=>exact⟨d,.inl ⟨rfl,rfl⟩,h⟩
  |some v=>simp[All2]at hx
 |some a=>
  cases x with
  |none=>simp[All2]at hx
  |some v=>
   have hv:TRel w G v a:=hx.1;unfold zbA at h;cases a <;> first|exact h.elim|skip
   rename_i k n;cases hv;exact⟨n.toNat,.inr ⟨k,n,rfl,h.1,rfl⟩,h.2⟩

theorem DRel.sub{v:Value}{es:List (List AV)}{l h:Nat}(hd:DRel w G.L v (.sl es .none))(hl:l≤h)(hh:h≤es.length){a:Option Addr}{cap:Nat}(size:Nat)(hv:v=.slice a es.length cap)(hsz:∀ c∈es,c.length=size):
  DRel w G.L (.slice (if cap=l then a else a.map (·.add (l*size))) (h-l) (cap-l)) (.sl ((es.take h).drop l) .none):=by
 by_cases hlh:l=h
 ·subst hlh;have:(es.take l).drop l=[]:=by apply aK;simp;omega
  rw[this,bU];exact .slE _ _
 ·cases hd with
  |slE a' cap'=>simp at hh;omega
  |sl b off cap' esz _ vs hne hcap hL hsz' hc hdd=>
   cases hv;have hcl:cap≠l:=by omega
   have h0:0<es.length:=by omega
   have hesz:esz=size:=by rw[←hsz' 0 h0];exact hsz _ (ae h0)
   subst hesz;have hlen:((es.take h).drop l).length=h-l:=by simp;omega
   simp only[hcl,aT,Option.map_some,add_lit];have hget:∀i (hi:i<((es.take h).drop l).length),((es.take h).drop l)[i]=es[l+i]'(by rw[hlen]at hi;omega):=by intro i hi;simp
   have key:DRel w G.L (.slice (some ⟨b,off+l*esz,none⟩) ((es.take h).drop l).length (cap-l)) (.sl ((es.take h).drop l) .none):=by
    refine .sl b (off+l*esz) (cap-l) esz _ (λi j=>vs (l+i) j) ?_ (by rw[hlen];omega) ?_ ?_ ?_ ?_
    ·intro hnil;rw[hnil]at hlen;simp at hlen;omega
    ·rw[hlen];have h1:l*esz+(h-l)*esz=h*esz:=by rw[←bb];congr 1;omega
     have h2:h*esz≤es.length*esz:=aq _ hh;omega
    ·intro i hi;rw[hget i hi];exact hsz' _ _
    ·intro i j hi hj;rw[hlen]at hi;have:=hc (l+i) j (by omega) (by rw[hget i (by rw[hlen];exact hi)]at hj;exact hj);rw[show off+l*esz+i*esz+j=off+(l+i)*esz+j by rw[bb];omega];exact this
    ·intro i j hi hj;have hi':=hi;rw[hlen]at hi';have:=hdd (l+i) j (by omega) (by rw[hget i hi]at hj;exact hj);simpa[hget i hi]using this
   rw[hlen]at key;exact key

theorem zge{isS:Bool}{len cap:Nat}{lo hi:Option Value}{l h:Nat}(hhi:(hi=none∧h=len)∨∃ k n,hi=some (.int k n)∧0≤n∧h=n.toNat)(hlo:(lo=none∧l=0)∨∃ k n,lo=some (.int k n)∧0≤n∧l=n.toNat)(hl:l≤h)(hh:h≤cap):
  (Instr.sliceBounds isS len cap lo hi none).run P w=.ok (l,h,cap) w:=by
 rcases hhi with ⟨rfl,rfl⟩|⟨k,n,rfl,hn,rfl⟩ <;> rcases hlo with ⟨rfl,rfl⟩|⟨k',m,rfl,hm,rfl⟩
 ·simp[Instr.sliceBounds]
 ·have:m≤(h:Int):=by omega
  simp[Instr.sliceBounds,Instr.sliceBound,asIntOf,hm,this]
 ·have:n≤(cap:Int):=by omega
  simp[Instr.sliceBounds,Instr.sliceBound,asIntOf,hn,this]
 ·have h1:n≤(cap:Int):=by omega
  have h2:m≤((n.toNat:Nat):Int):=by omega
  simp[Instr.sliceBounds,Instr.sliceBound,asIntOf,hn,h1,hm];try omega

theorem zJ3(s:List UInt8)(l h:Nat):(ByteArray.mk s.toArray).extract l h=⟨((s.take h).drop l).toArray⟩:=by apply ByteArray.ext;simp[ByteArray.data_extract,c0]

theorem zry{t:TypeId}{u size:Nat}{v:Value}{x:AV}{lo hi:Option Value}{alo ahi:Option AV}{K:AV→Prop}(hx:TRel w G v x)(hlo:All2 (TRel w G) lo.toList alo.toList)(hhi:All2 (TRel w G) hi.toList ahi.toList)(ht:zdx P t=some u)(hs:u=1→(zbe P t).bind (zaQ P)=some size)(h:za1 u size x alo ahi K):∃r,(Instr.sliceAt t v lo hi none).run P w=.ok r w∧∃av,TRel w G r av∧K av:=by
 unfold za1 at h;split at h
 ·rename_i s;have hu:=zrT ht;cases hx;obtain⟨hh,hhv,h⟩:=zej hhi h;obtain⟨ll,hlv,⟨h1,h2⟩,hk⟩:=zej hlo h;refine⟨.string ⟨((s.take hh).drop ll).toArray⟩,?_,.str ((s.take hh).drop ll),rfl,hk⟩;have hb:=zge (P:=P) (w:=w) (isS:=false) (len:=s.length) (cap:=s.length) hhv hlv h1 h2;simp only[Instr.sliceAt,Instr.slice,Sem.run_bind,zaT hu,Result.andThen_ok,ziR,hb,Option.isSome_none,aD,aT,Sem.run_pure,zJ3]
 ·rename_i es tok;obtain⟨hh,hhv,h⟩:=zej hhi h;obtain⟨ll,hlv,⟨h1,h2,h3⟩,hk⟩:=zej hlo h;have hs:=hs rfl;cases he:zbe P t with
  |none=>simp[he]at hs
  |some e=>
   simp only[he,Option.bind_some]at hs;have hd:=ziQ hx;obtain⟨a,cap,rfl,hcap⟩:=hd.slice_form;have hcap':hh≤cap:=by
    by_cases hne:es=[]
    ·subst hne;simp at h2;omega
    ·have:=hcap hne;omega
   have hb:=zge (P:=P) (w:=w) (isS:=true) (len:=es.length) (cap:=cap) hhv hlv h1 hcap';have hsub:=hd.sub h1 h2 size rfl h3;refine⟨_,?_,.sl ((es.take hh).drop ll) .none,hsub,hk⟩;simp only[Instr.sliceAt,Instr.slice,Sem.run_bind,zaT (zbI he),Result.andThen_ok,hb,Sem.run_pure,zby hs]
 ·obtain⟨hh,hhv,h⟩:=zej hhi h;obtain⟨ll,hlv,⟨h1,h2⟩,hk⟩:=zej hlo h;have hs:=hs rfl;cases he:zbe P t with
  |none=>simp[he]at hs
  |some e=>
   simp only[he,Option.bind_some]at hs;cases hx;have hb:=zge (P:=P) (w:=w) (isS:=true) (len:=0) (cap:=0) hhv hlv h1 h2;refine⟨.slice none 0 0,?_,.snil,rfl,hk⟩;have:ll=0:=by omega
   subst this;have:hh=0:=by omega
   subst this;simp[Instr.sliceAt,Instr.slice,Sem.run_bind,zaT (zbI he),hb,zby hs]
 ·rename_i id n;obtain⟨hh,hhv,h⟩:=zej hhi h;obtain⟨ll,hlv,⟨h1,rfl⟩,hk⟩:=zej hlo h;have hs:=hs rfl;cases he:zbe P t with
  |none=>simp[he]at hs
  |some e=>
   simp only[he,Option.bind_some]at hs;obtain⟨⟨a,cap,rfl,ha,hnc⟩,v',sz,n',hμ,hle,heq⟩:=hx;have hb:=zge (P:=P) (w:=w) (isS:=true) (len:=hh) (cap:=cap) hhv hlv h1 hnc;refine⟨ziP size ll (.slice a hh cap),?_,.os id hh ll size,⟨⟨h1,?_⟩,v',sz,n',hμ,hle,λe=>by rw[←heq e]⟩,hk⟩
   ·simp only[Instr.sliceAt,Instr.slice,Sem.run_bind,zaT (zbI he),Result.andThen_ok,hb,Sem.run_pure,zby hs];cases a with
    |none=>simp[ziP]
    |some a=>by_cases hc:cap=ll <;> simp[ziP,hc]
   ·cases a with
    |none=>exact⟨none,cap-ll,rfl,by omega⟩
    |some a=>exact⟨_,cap-ll,rfl,by omega⟩
 ·rename_i id off len cap;obtain⟨hh,hhv,h⟩:=zej hhi h;obtain⟨ll,hlv,⟨h1,h2⟩,hk⟩:=zej hlo h;have hs:=hs rfl;cases he:zbe P t with
  |none=>simp[he]at hs
  |some e=>simp only[he,Option.bind_some]at hs;obtain⟨b,hμ,rfl⟩:=hx;have hb:=zge (P:=P) (w:=w) (isS:=true) (len:=len) (cap:=cap) hhv hlv h1 h2;refine⟨.slice (some ⟨b,if cap=ll then off else off+ll*size,none⟩) (hh-ll) (cap-ll),?_,.ms id (if cap=ll then off else off+ll*size) (hh-ll) (cap-ll),⟨b,hμ,rfl⟩,hk⟩;simp only[Instr.sliceAt,Instr.slice,Sem.run_bind,zaT (zbI he),Result.andThen_ok,hb,Sem.run_pure,zby hs];by_cases hc:cap=ll <;> simp[hc,add_lit]
 ·exact h.elim

theorem zIT{op:BinOp}{t:TypeId}{x y:Operand}{k:IntKind}{m:Int}{b:Value}:(eqGuard op t x y (.int k m) b).run P w=.ok () w:=by cases op <;> rfl
theorem zIU{op:BinOp}{t:TypeId}{x y:Operand}{s:ByteArray}{b:Value}:(eqGuard op t x y (.string s) b).run P w=.ok () w:=by cases op <;> rfl
theorem zIS{op:BinOp}{t:TypeId}{x y:Operand}{m:Bool}{b:Value}:(eqGuard op t x y (.bool m) b).run P w=.ok () w:=by cases op <;> rfl

def BinR(P:Program)(w:World)(G:Gh)(op:BinOp)(t:TypeId)(u v:Value)(K:AV→Prop):Prop:=∃r,(binOp op t u v).run P w=.ok r w∧∃av,TRel w G r av∧K av
theorem BinR.mk{op:BinOp}{t:TypeId}{u v r:Value}{K:AV→Prop}(av:AV)(h:(binOp op t u v).run P w=.ok r w)(hr:TRel w G r av)(hk:K av):BinR P w G op t u v K:=⟨r,h,av,hr,hk⟩
theorem zF4{op:BinOp}{t:TypeId}{k:IntKind}{m n:Int}{b:Bool}{K:AV→Prop}(h:zab op b (.int k m) (.int k n) K):BinR P w G op t (.int k m) (.int k n) K:=by
 rw[zch]at h;have h:=h.2;cases op <;> simp only[]at h <;> first|exact h.elim|skip
 case add=>exact BinR.mk (.int k (k.wrap (m+n))) (by simp[binOp,Op.intArith]) rfl h
 case sub=>exact BinR.mk (.int k (k.wrap (m-n))) (by simp[binOp,Op.intArith]) rfl h
 case mul=>exact BinR.mk (.int k (k.wrap (m*n))) (by simp[binOp,Op.intArith]) rfl h
 case quo=>exact BinR.mk (.int k (k.wrap (m.tdiv n))) (by simp[binOp,Op.intDiv,h.1]) rfl h.2
 case rem=>exact BinR.mk (.int k (m.tmod n)) (by simp[binOp,Op.intDiv,h.1]) rfl h.2
 case eql=>exact BinR.mk (.bool (m == n)) (by simp[binOp,Op.intCmp]) rfl h
 case neq=>exact BinR.mk (.bool (m != n)) (by simp[binOp,Op.intCmp]) rfl h
 case lss=>exact BinR.mk (.bool (decide (m<n))) (by simp[binOp,Op.intCmp]) rfl h
 case leq=>exact BinR.mk (.bool (decide (m≤n))) (by simp[binOp,Op.intCmp]) rfl h
 case gtr=>exact BinR.mk (.bool (decide (m>n))) (by simp[binOp,Op.intCmp]) rfl h
 case geq=>exact BinR.mk (.bool (decide (m≥n))) (by simp[binOp,Op.intCmp]) rfl h
theorem zF5{op:BinOp}{t:TypeId}{s s':List UInt8}{b:Bool}{K:AV→Prop}(h:zab op b (.str s) (.str s') K):BinR P w G op t (.string ⟨s.toArray⟩) (.string ⟨s'.toArray⟩) K:=by
 rw[zch]at h;cases op <;> simp only[]at h <;> first|exact h.elim|skip
 case add=>
  obtain⟨h1,h2⟩:=h;refine BinR.mk (r:=.string ⟨(s++s').toArray⟩) (.str (s++s')) ?_ rfl h2;have hlt:¬((((ByteArray.mk s.toArray).size+(ByteArray.mk s'.toArray).size:Nat):Int)>IntKind.i64.max):=by
   have:IntKind.i64.max=9223372036854775807:=by decide
   rw[ziR,ziR];omega
  have happ:(ByteArray.mk s.toArray)++(ByteArray.mk s'.toArray)=⟨(s++s').toArray⟩:=by apply ByteArray.ext;simp
  simp only[binOp,Op.stringOp];rw[ap hlt,happ];rfl
 case eql=>exact BinR.mk (r:=.bool (s == s')) (.bool (s == s')) (by simp only[binOp,Op.stringOp,zhv];rfl) rfl h
 case neq=>exact BinR.mk (r:=.bool (!(s == s'))) (.bool (!(s == s'))) (by simp only[binOp,Op.stringOp,zhv];rfl) rfl h
 case lss=>exact BinR.mk (r:=.bool (Op.bytesLess s s')) (.bool (Op.bytesLess s s')) (by simp only[binOp,Op.stringOp,zhv];rfl) rfl h
 case leq=>exact BinR.mk (r:=.bool (Op.bytesLess s s' || s == s')) (.bool (Op.bytesLess s s' || s == s')) (by simp only[binOp,Op.stringOp,zhv];rfl) rfl h
 case gtr=>exact BinR.mk (r:=.bool (!(Op.bytesLess s s' || s == s'))) (.bool (!(Op.bytesLess s s' || s == s'))) (by simp only[binOp,Op.stringOp,zhv];rfl) rfl h
 case geq=>exact BinR.mk (r:=.bool (!Op.bytesLess s s')) (.bool (!Op.bytesLess s s')) (by simp only[binOp,Op.stringOp,zhv];rfl) rfl h
theorem zF3{op:BinOp}{t:TypeId}{m n b:Bool}{K:AV→Prop}(hu:b=true→P.underlying t=some .bool)(h:zab op b (.bool m) (.bool n) K):BinR P w G op t (.bool m) (.bool n) K:=by
 rw[zch]at h;have hu:=hu h.1;have h:=h.2;have he:∀x y:Bool,(Op.equal t (.bool x) (.bool y)).run P w=.ok (x == y) w:=λx y=>by have hm:Op.equal t (.bool x) (.bool y)=Op.equalIn (9999+1) t (.bool x) (.bool y):=rfl;rw[hm];unfold Op.equalIn;simp only[Sem.run_bind,zaT hu,Result.andThen_ok,Sem.run_pure]
 cases op <;> simp only[]at h <;> first|exact h.elim|skip
 case eql=>exact BinR.mk (.bool (m == n)) (by simp only[binOp,Sem.run_bind,he,Result.andThen_ok,Sem.run_pure]) rfl h
 case neq=>exact BinR.mk (.bool (!(m == n))) (by simp only[binOp,Sem.run_bind,he,Result.andThen_ok,Sem.run_pure]) rfl h

theorem zJn{op:BinOp}{t:TypeId}{xo yo:Operand}{u v:Value}{x y:AV}{K:AV→Prop}(hx:TRel w G u x)(hy:TRel w G v y)(h:zab op (zrB P t) x y K):
  ∃r,((do eqGuard op t xo yo u v;binOp op t u v):Sem Value).run P w=.ok r w∧∃av,TRel w G r av∧K av:=by
 have h0:=h;rw[zch]at h;split at h
 ·cases hx;cases hy;have hk:=h.1;subst hk;obtain⟨r,h1,h2⟩:=zF4 (P:=P) (w:=w) (G:=G) (t:=t) h0;exact⟨r,by rw[Sem.run_bind,zIT];exact h1,h2⟩
 ·cases hx;cases hy;obtain⟨r,h1,h2⟩:=zF5 (P:=P) (w:=w) (G:=G) (t:=t) h0;exact⟨r,by rw[Sem.run_bind,zIU];exact h1,h2⟩
 ·cases hx;cases hy;obtain⟨r,h1,h2⟩:=zF3 (P:=P) (w:=w) (G:=G) (t:=t) (λhb=>by
   unfold zrB at hb;split at hb
   ·assumption
   ·cases hb) h0
  exact⟨r,by rw[Sem.run_bind,zIS];exact h1,h2⟩
 ·exact h.elim

theorem zJM{op:BinOp}{t:TypeId}{xo yo:Operand}{u:Value}{x:AV}{a:Act}{K:AV→Prop}(hx:TRel w G u x)(hy:zpP yo=true)(h:zcS (zrC P t) op x K):
  ∃r,((do eqGuard op t xo yo u (a.eval yo);binOp op t u (a.eval yo)):Sem Value).run P w=.ok r w∧∃av,TRel w G r av∧K av:=by
 obtain⟨ht,h⟩:=h;obtain⟨ms,hu⟩:∃ms,P.underlying t=some (.interface ms):=by
  unfold zrC at ht;split at ht
  ·exact⟨_,by assumption⟩
  ·cases ht
 obtain rfl:yo=.const .nilIface:=by
  unfold zpP at hy;split at hy
  ·rfl
  ·cases hy
 have he:a.eval (.const .nilIface)=.nilIface:=rfl;rw[he];split at h
 ·cases hx;have hq:∀ d:Nat,(Op.equalIn (d+1) t .nilIface .nilIface).run P w=.ok true w:=λd=>by simp[Op.equalIn,zaT hu]
  have hg:∀op,eqGuard op t xo (.const .nilIface) .nilIface .nilIface=pure ():=λop=>eqGuard_nil_constR _ _ _ _;split at h
  ·exact⟨.bool true,by rw[hg];simp only[binOp];simp[Op.equal,Op.maxDepth,hq 9999],.bool true,rfl,h⟩
  ·exact⟨.bool false,by rw[hg];simp only[binOp];simp[Op.equal,Op.maxDepth,hq 9999],.bool false,rfl,h⟩
  ·exact h.elim
 ·obtain⟨ti,xi,rfl⟩:=hx;have hq:∀ d:Nat,(Op.equalIn (d+1) t (.iface ti xi) .nilIface).run P w=.ok false w:=λd=>by simp[Op.equalIn,zaT hu]
  have hg:∀op,eqGuard op t xo (.const .nilIface) (.iface ti xi) .nilIface=pure ():=λop=>eqGuard_at_iface _ _ _ _ _ _ _;split at h
  ·exact⟨.bool false,by rw[hg];simp only[binOp];simp[Op.equal,Op.maxDepth,hq 9999],.bool false,rfl,h⟩
  ·exact⟨.bool true,by rw[hg];simp only[binOp];simp[Op.equal,Op.maxDepth,hq 9999],.bool true,rfl,h⟩
  ·exact h.elim
 ·exact h.elim

theorem zJR{op:UnOp}{v:Value}{x:AV}{K:AV→Prop}(hx:TRel w G v x)(h:aUn op x K):∃r,(Op.unary op v).run P w=.ok r w∧∃av,TRel w G r av∧K av:=by
 unfold aUn at h;split at h
 ·cases hx;exact⟨_,by simp[Op.unary],.bool _,rfl,h⟩
 ·cases hx;exact⟨_,by simp[Op.unary,Op.intArith],.int _ _,rfl,h⟩
 ·exact h.elim
theorem zJu{s t:TypeId}{j k:IntKind}{v:Value}{x:AV}{K:AV→Prop}(hx:TRel w G v x)(hs:P.underlying s=some (.int j))(ht:P.underlying t=some (.int k))(h:zbg k x K):
  ∃r,(convert s t v).run P w=.ok r w∧∃av,TRel w G r av∧K av:=by
 unfold zbg at h;split at h
 ·cases hx;exact⟨_,by simp[convert,zaT hs,zaT ht,Conv.intToInt],.int _ _,rfl,h⟩
 ·exact h.elim
theorem zJw{s t:TypeId}{v:Value}{x:AV}{K:AV→Prop}(hx:TRel w G v x)(hs:P.underlying s=some .string)(ht:P.underlying t=some .string)(h:zdZ x K):
  ∃r,(convert s t v).run P w=.ok r w∧∃av,TRel w G r av∧K av:=by
 unfold zdZ at h;split at h
 ·cases hx;exact⟨_,by simp[convert,zaT hs,zaT ht],.str _,rfl,h⟩
 ·exact h.elim
theorem zJy{v:Value}{x:AV}{i:Nat}{K:AV→Prop}(hx:TRel w G v x)(h:zaI x i K):∃r,(Instr.extract v i).run P w=.ok r w∧∃av,TRel w G r av∧K av:=by
 unfold zaI at h;split at h
 ·obtain⟨vs,rfl,hr⟩:=hx;split at h
  ·rename_i a ha;obtain⟨u,h1,h2⟩:=hr.get ha;have:vs[i]?=some u:=by simpa using h1
   exact⟨u,by simp[Instr.extract,this],a,TRel.of_v h2,h⟩
  ·exact h.elim
 ·exact h.elim

end
section
open Go.RowKit

variable {P:Program} {B:Nat} {w:World} {G:Gh} {H:zaa}

theorem zJS(l:List Value)(k:Nat)(v:Value)(rest:List Value)(hk:k+(rest.length+1)≤l.length):
  (l.set k v).take (k+1)++rest++(l.set k v).drop (k+1+rest.length)=l.take k++(v::rest)++l.drop (k+(rest.length+1)):=list_seg_step l k v rest hk

theorem zw5(off:Nat):∀ (vs:List Value) (k:Nat) (cs:Array Value),off+k+vs.length≤cs.size →
  ((vs.zipIdx k).foldl (λ(cs:Array Value) (p:Value×Nat)=>cs.setIfInBounds (off+p.2) p.1) cs).toList=cs.toList.take (off+k)++vs++cs.toList.drop (off+k+vs.length)
 |[],k,cs,h=>by simp
 |v::vs,k,cs,h=>by simp only[List.zipIdx_cons,List.foldl_cons];rw[zw5 off vs (k+1) (cs.setIfInBounds (off+k) v) (by simp at h ⊢;omega)];have:=zJS cs.toList (off+k) v vs (by simp at h ⊢;omega);simpa[bR,ag]using this

theorem zwl(off:Nat)(vs cs:Array Value)(h:off+vs.size≤cs.size):
  (vs.zipIdx.foldl (λcs (c,j)=>cs.setIfInBounds (off+j) c) cs).toList=cs.toList.take off++vs.toList++cs.toList.drop (off+vs.size):=by
 have:=zw5 off vs.toList 0 cs (by simpa using h);simp only[Nat.add_zero,Array.length_toList]at this;rw[←this,←Array.foldl_toList,Array.toList_zipIdx]

theorem zwW{places:List (Nat × Nat)}:∀ (parts:List (Nat × Value)) (aparts:List (Nat × AV)) (cells:Array Value) (cs cs':List AV),
  All2 (λ(p:Nat×Value) (q:Nat×AV)=>p.1=q.1∧TRel w G p.2 q.2) parts aparts→All2 (ARel w G) cells.toList cs→zaL places aparts cs=some cs' →
  ∃cells',Instr.fill (places.toArray[·]?) cells parts=some cells'∧All2 (ARel w G) cells'.toList cs'
 |[],[],cells,cs,cs',_,hc,hf=>by simp[zaL]at hf;subst hf;exact⟨cells,rfl,hc⟩
 |(i,v)::parts,(i',x)::aparts,cells,cs,cs',hp,hc,hf=>by
  obtain⟨⟨h1,h2⟩,h3⟩:=hp;simp only[]at h1 h2;subst h1;unfold zaL at hf;split at hf
  ·rename_i off size xs hpl hxs;split at hf
   ·rename_i hb;simp only[ac,aY,aH]at hb;have hxr:=zh1 h2 hxs;have hlx:=hxr.length;have hlc:=hc.length;simp at hlx hlc;have hfit:off+v.cells.size≤cells.size:=by omega
    have hsp:=zwl off v.cells cells hfit;have hnew:All2 (ARel w G) (v.cells.zipIdx.foldl (λcs (c,j)=>cs.setIfInBounds (off+j) c) cells).toList (cs.take off++xs++cs.drop (off+size)):=by rw[hsp,hlx,hb.1];exact((hc.take off).append hxr).append (hc.drop (off+size))
    obtain⟨cells',hc1,hc2⟩:=zwW parts aparts _ _ cs' h3 hnew hf;refine⟨cells',?_,hc2⟩;unfold Instr.fill;have hpl':places.toArray[i]?=some (off,size):=by simpa using hpl
    simp only[hpl'];rw[ap (by simp;omega)];exact hc1
   ·cases hf
  ·cases hf

theorem zIC(fs:List Field):(fs.mapM λf=>(zaQ P f.type).map λs=>(f.offset,s))=fs.mapM (λf=>(P.info? f.type).map λi=>(f.offset,i.size)):=by congr 1;funext f;simp[zaQ,Function.comp_def]

theorem zwV{n s:Nat}:∀ (parts:List (Nat × Value)) (cells cells':Array Value),Instr.fill (((List.range n).map λi=>(i*s,s)).toArray[·]?) cells parts=some cells'→some cells'=Instr.fill (λi=>some (i*s,s)) cells parts
 |[],cells,cells',h=>h.symm
 |(i,v)::parts,cells,cells',h=>by
  unfold Instr.fill at h ⊢;by_cases hi:i<n
  ·have e:((List.range n).map λi=>(i*s,s)).toArray[i]?=some (i*s,s):=by simp[hi]
   rw[e]at h;simp only[]at h ⊢;split at h
   ·cases h
   ·rename_i hc;rw[ap hc];exact zwV parts _ _ h
  ·have e:((List.range n).map λi=>(i*s,s)).toArray[i]?=none:=by simp;omega
   rw[e]at h;cases h
theorem zJp{t:TypeId}{z:Value}{ps:List (Nat × Nat)}{parts:Array (Nat × Value)}{aparts:List (Nat × AV)}{K:AV→Prop}(hz:zbq P t=some z)(hp:zrD P t=some ps)(hr:All2 (λ(p:Nat × Value) (q:Nat × AV)=>p.1=q.1∧TRel w G p.2 q.2) parts.toList aparts)(h:zar (zbt z) ps aparts K):
  ∃r,(Instr.build t parts).run P w=.ok r w∧∃av,TRel w G r av∧K av:=by
 unfold zar at h;split at h
 ·rename_i cs' hf;obtain⟨cells',h1,h2⟩:=zwW parts.toList aparts z.cells (zbt z) cs' hr (zdO z) hf;refine⟨.agg cells',run_build w t parts cells' ?_,.agg cs',⟨cells',rfl,h2⟩,h⟩;unfold Program.built;unfold zbq at hz;cases hi:P.info? t with
  |none=>simp[hi]at hz
  |some it=>
   simp[hi]at hz;unfold zrD at hp;cases hu:P.underlying t with
   |none=>simp[hu]at hp
   |some d=>
    cases d;case struct fs=>simp only[hu,Option.bind_some]at hp;rw[zIC]at hp;simp only[hz,hp];exact h1
    case array n e=>
     simp only[hu,Option.bind_some]at hp;cases hie:P.info? e with
     |none=>simp[zaQ,hie]at hp
     |some ie=>simp[zaQ,hie]at hp;simp only[hz,hie];exact(zwV (n:=n) (s:=ie.size) _ _ _ (by rw[hp];exact h1)).symm
    all_goals (simp only[hu,Option.bind_some]at hp;cases hp)
 ·exact h.elim

theorem zIB{v:Value}{a d:AV}(h:ARel w G v a)(hd:a.pd=some d):DRel w G.L v d:=by
 cases a with
 |bool b=>cases hd;cases h;exact .bool b
 |int k n=>cases hd;cases h;exact .int k n
 |str s=>cases hd;cases h;exact .str s
 |snil=>cases hd;cases h;exact .slE _ _
 |sl es tok=>
  cases hd;cases tok with
  |none=>exact h
  |full=>exact h.1
  |own id=>exact h.1
 |_=>cases hd
theorem zeL:∀ {vs:List Value} {asx ds:List AV},All2 (ARel w G) vs asx→plain asx=some ds→All2 (DRel w G.L) vs ds
 |[],[],ds,_,h=>by cases h;trivial
 |v::vs,a::asx,ds,hr,h=>by
  unfold plain at h;split at h
  ·rename_i d ds' h1 h2;cases h;exact⟨zIB hr.1 h1,zeL hr.2 h2⟩
  ·cases h
theorem zyz:∀ {asx ds:List AV},plain asx=some ds→ds.length=asx.length
 |[],ds,h=>by cases h;rfl
 |a::asx,ds,h=>by
  unfold plain at h;split at h
  ·rename_i d ds' h1 h2;cases h;simp[zyz h2]
  ·cases h

theorem zia{size:Nat}:∀ {es:List (List AV)},(∀ c∈es,c.length=size)→es.flatten.length=es.length*size
 |[],_=>by simp
 |e::es,h=>by rw[List.flatten_cons,ao,zia (λc hc=>h c (by simp[hc])),h e (by simp),List.length_cons,bb];omega
theorem zh9{size:Nat}:∀ {es:List (List AV)},(∀ c∈es,c.length=size)→∀ (i j:Nat) (hi:i<es.length) (hj:j<(es[i]).length),es.flatten[i*size+j]?=some (es[i])[j]
 |[],_,i,_,hi,_=>by simp at hi
 |e::es,h,0,j,hi,hj=>by simp only[List.getElem_cons_zero]at hj ⊢;rw[List.flatten_cons,List.getElem?_append_left (by omega)];simp[hj]
 |e::es,h,i+1,j,hi,hj=>by simp only[List.getElem_cons_succ]at hj ⊢;have he:=h e (by simp);have:=zh9 (es:=es) (λc hc=>h c (by simp[hc])) i j (by simpa using hi) hj;rw[List.flatten_cons,List.getElem?_append_right (by rw[he,bb];omega),he];rw[show (i+1)*size+j-size=i*size+j by rw[bb];omega];exact this

theorem DRel.of_flat{L:Nat→Nat}{g size cap:Nat}{es:List (List AV)}{zs:List Value}(hsz:∀c∈es,c.length=size)(hne:es≠[])(hcap:es.length≤cap)(hL:es.length*size≤L g)(hr:All2 (DRel w L) zs es.flatten)(hc:∀j v,zs[j]?=some v→w.cell? ⟨g,j,none⟩=some v):DRel w L (.slice (some ⟨g,0,none⟩) es.length cap) (.sl es .none):=by
 have hget:∀i j (hi:i<es.length) (hj:j<(es[i]).length),∃v,zs[i*size+j]?=some v∧DRel w L v (es[i])[j]:=λi j hi hj=>hr.get (zh9 hsz i j hi hj);refine .sl g 0 cap size es (λi j=>zs.getD (i*size+j) undef) hne hcap (by omega) (λi hi=>hsz _ (ae hi)) (λi j hi hj=>?_) (λi j hi hj=>?_)
 ·obtain⟨v,h1,h2⟩:=hget i j hi hj;simp only[aF,List.getD_eq_getElem?_getD,h1,Option.getD_some];exact hc _ _ h1
 ·obtain⟨v,h1,h2⟩:=hget i j hi hj;simp only[List.getD_eq_getElem?_getD,h1,Option.getD_some];exact h2
theorem DRel.flat{L:Nat→Nat}{v:Value}{es:List (List AV)}{size:Nat}(h:DRel w L v (.sl es .none))(hne:es≠[])(hsz:∀ c∈es,c.length=size):
  ∃b off cap zs,v=.slice (some ⟨b,off,none⟩) es.length cap∧zs.length=es.length*size∧All2 (DRel w L) zs es.flatten∧(∀j u,zs[j]?=some u→w.cell? ⟨b,off+j,none⟩=some u)∧off+es.length*size≤L b:=by
 cases h with
 |slE a cap=>exact absurd rfl hne
 |sl b off cap esz _ vs hne hcap hL hsz' hc hd=>
  have h0:0<es.length:=by cases es <;> simp_all
  have hesz:esz=size:=by rw[←hsz' 0 h0];exact hsz _ (ae h0)
  subst hesz;have hfl:=zia hsz
  -- position k of the row lies in element k / esz
  have hpos:∀k,k<es.length*esz→∃i j,∃(hi:i<es.length) (_:j<(es[i]).length),k=i*esz+j:=by
   intro k hk;have hz:0<esz:=by cases esz <;> simp_all
   refine⟨k / esz,k % esz,?_,?_,?_⟩
   ·exact(dm hz).2 hk
   ·rw[hsz' _ _];exact cI _ hz
   ·rw[bq];exact(Nat.div_add_mod k esz).symm
  refine⟨b,off,cap,(List.range (es.length*esz)).map (λk=>vs (k / esz) (k % esz)),rfl,by simp,?_,?_,hL⟩
  ·refine All2.of_get (by simp[hfl]) λk x y hx hy=>?_;have hk:k<es.length*esz:=by have:=(List.getElem?_eq_some_iff.1 hx).1;simpa using this
   obtain⟨i,j,hi,hj,rfl⟩:=hpos k hk;have hj':j<esz:=by rw[←hsz' i hi];exact hj
   rw[zh9 hsz i j hi hj]at hy;cases hy;simp only[List.getElem?_map,List.getElem?_range hk,Option.map_some,bJ]at hx;have hz:0<esz:=by omega
   rw[show (i*esz+j) / esz=i by rw[bq,dt hz,ce hj'];omega,show (i*esz+j) % esz=j by rw[bq,dw,ci hj']]at hx;rw[←hx];exact hd i j hi hj
  ·intro k u hx;have hk:k<es.length*esz:=by have:=(List.getElem?_eq_some_iff.1 hx).1;simpa using this
   obtain⟨i,j,hi,hj,rfl⟩:=hpos k hk;have hj':j<esz:=by rw[←hsz' i hi];exact hj
   simp only[List.getElem?_map,List.getElem?_range hk,Option.map_some,bJ]at hx;have hz:0<esz:=by omega
   rw[show (i*esz+j) / esz=i by rw[bq,dt hz,ce hj'];omega,show (i*esz+j) % esz=j by rw[bq,dw,ci hj']]at hx;rw[←hx,←ag];exact hc i j hi hj

end
section
open Go.RowKit

variable {P:Program} {B:Nat} {w:World} {G:Gh} {H:zaa}

theorem zp5{R:Value→AV→Prop}{z:Array Value}{zc:List AV}(h:All2 R z.toList zc)(hz:0<z.size):∀n,All2 R ((Array.range (n*z.size)).map (z[· % z.size]!)).toList (List.replicate n zc).flatten:=by
 intro n;have hl:=h.length;simp at hl;have hall:∀c∈List.replicate n zc,c.length=z.size:=λc hc=>by rw[bC hc,hl]
 have hfl:=zia hall;refine All2.of_get (by simp[hl]) λk x y hx hy=>?_;have hk:k<n*z.size:=by have:=(List.getElem?_eq_some_iff.1 hx).1;simpa using this
 have hi:k / z.size<(List.replicate n zc).length:=by simpa using(dm hz).2 hk
 have hj:k % z.size<((List.replicate n zc)[k / z.size]).length:=by simp[←hl];exact cI _ hz
 have:=zh9 hall (k / z.size) (k % z.size) hi hj;rw[show k / z.size*z.size+k % z.size=k by rw[bq];exact Nat.div_add_mod k z.size,hy]at this;simp only[List.getElem_replicate,bJ]at this;have hx':z[k % z.size]! = x:=by simpa[hk]using hx
 have hm:k % z.size<z.size:=cI _ hz;have hzx:z.toList[k % z.size]?=some x:=by rw[←hx'];simp[hm]
 obtain⟨b,h1,h2⟩:=h.get' hzx;have:zc[k % z.size]?=some y:=by rw[this];simp
 rw[this]at h1;cases h1;exact h2

theorem zwX{size:Nat}:∀ {es:List (List AV)},(∀ c∈es,c.length=size)→∀ (i:Nat) (ds:List AV),i<es.length→(es.set i ds).flatten=es.flatten.take (i*size)++ds++es.flatten.drop (i*size+size)
 |[],_,i,_,hi=>by simp at hi
 |e::es,h,0,ds,hi=>by have he:=h e (by simp);simp[←he]
 |e::es,h,i+1,ds,hi=>by
  have he:=h e (by simp);have:=zwX (es:=es) (λc hc=>h c (by simp[hc])) i ds (by simpa using hi);rw[List.set_cons_succ,List.flatten_cons,this,List.flatten_cons];have h1:(i+1)*size=e.length+i*size:=by rw[bb,he];omega
  rw[h1,ag];simp[cP,ch,ak,aK]

theorem zwU{size:Nat}:∀ (parts:List (Nat × Value)) (aparts:List (Nat × AV)) (cells:Array Value) (es es':List (List AV)),(∀ c∈es,c.length=size) →
  All2 (λ(p:Nat×Value) (q:Nat×AV)=>p.1=q.1∧TRel w G p.2 q.2) parts aparts→All2 (DRel w G.L) cells.toList es.flatten→za4 size aparts es=some es' →
  ∃cells',Instr.fill (λi=>some (i*size,size)) cells parts=some cells'∧All2 (DRel w G.L) cells'.toList es'.flatten∧(∀c∈es',c.length=size)∧es'.length=es.length
 |[],[],cells,es,es',hs,_,hc,hf=>by simp[za4]at hf;subst hf;exact⟨cells,rfl,hc,hs,rfl⟩
 |(i,v)::parts,(i',x)::aparts,cells,es,es',hs,hp,hc,hf=>by
  obtain⟨⟨h1,h2⟩,h3⟩:=hp;simp only[]at h1 h2;subst h1;unfold za4 at hf;split at hf
  ·rename_i xs hxs;split at hf
   ·rename_i ds hds;split at hf
    ·rename_i hb;simp only[ac,aY,aH]at hb;have hxr:=zeL (zh1 h2 hxs) hds;have hlx:=hxr.length;have hlc:=hc.length;have hfl:=zia hs;simp at hlx;simp only[Array.length_toList]at hlc;have hmul:(i+1)*size≤es.length*size:=aq _ hb.2;rw[bb]at hmul;have hfit:i*size+v.cells.size≤cells.size:=by omega
     have hsp:=zwl (i*size) v.cells cells hfit;have hnew:All2 (DRel w G.L) (v.cells.zipIdx.foldl (λcs (c,j)=>cs.setIfInBounds (i*size+j) c) cells).toList (es.set i ds).flatten:=by rw[hsp,zwX hs i ds hb.2,hlx,hb.1];exact((hc.take _).append hxr).append (hc.drop _)
     have hs':∀c∈es.set i ds,c.length=size:=λc hcm=>by
      rcases bA hcm with h|h
      ·exact hs c h
      ·rw[h];exact hb.1
     obtain⟨cells',hc1,hc2,hc3,hc4⟩:=zwU parts aparts _ _ es' hs' h3 hnew hf;refine⟨cells',?_,hc2,hc3,by rw[hc4];simp⟩;unfold Instr.fill;simp only[];rw[ap (by simp;omega)];exact hc1
    ·cases hf
   ·cases hf
  ·cases hf

theorem zJq{t e:TypeId}{size len:Nat}{z:Value}{parts:Array (Nat × Value)}{aparts:List (Nat × AV)}{K:AV→zaa→Prop}(hH:HRel B w G H)(he:zbe P t=some e)(hn:zaQ P e=some size)(hz:zbq P e=some z)(h0:0<size)(hlen:len*size≤16777216)(hzl:(zbt z).length=size)(hr:All2 (λ(p:Nat × Value) (q:Nat × AV)=>p.1=q.1∧TRel w G p.2 q.2) parts.toList aparts)(h:zau size (zbt z) len aparts (K · H)):
  OpOK P B w G K (((do pure (.value (←Instr.buildSlice t len parts))):Sem Next).run P w):=by
 unfold zau at h;split at h
 ·rename_i zc hzc;split at h
  ·rename_i es hes;have hzr:=zdO (w:=w) (G:=G) z;have hzs:z.cells.size=size:=by have:=hzr.length;simp at this;omega
   have hzd:=zeL hzr hzc;have hm:=zp5 hzd (by omega) len;rw[hzs]at hm;have hzcl:zc.length=size:=by rw[zyz hzc];exact hzl
   have hall:∀c∈List.replicate len zc,c.length=size:=λc hc=>by rw[bC hc,hzcl]
   obtain⟨cells',h1,h2,h3,h4⟩:=zwU parts.toList aparts _ _ es hall hr hm hes;simp at h4;have hsz':cells'.size=len*size:=by have:=h2.length;rw[zia h3,h4]at this;simpa using this
   obtain⟨hx,hH'⟩:=hH.frozen cells' e (len*size);have hrun:((do pure (.value (←Instr.buildSlice t len parts))):Sem Next).run P w=.ok (.value (.slice (some ⟨w.heap.size,0,none⟩) len len)) (w.alloc (.cells cells' e)):=by
    have hbig:¬(2 ^ 24<len*size):=by omega
    by_cases hl0:len*size=0
    ·have hl:len=0:=by rcases Nat.mul_eq_zero.1 hl0 with h | h <;> omega
     subst hl;simp only[bx,Array.range_zero',Array.map_empty]at h1;simp[Instr.buildSlice,zaT (zbI he),zby hn,h1,newRow,World.alloc_eq,Array.range_zero']
    ·simp[Instr.buildSlice,zaT (zbI he),zby hn,zek hz,hbig,hl0,hzs,h1,newRow,World.alloc_eq]
   rw[hrun];refine⟨.sl es .full,_,H,hx,hH',⟨?_,some ⟨w.heap.size,0,none⟩,by rw[h4]⟩,h⟩;by_cases hne:es=[]
   ·subst hne;simp at h4;subst h4;exact .slE _ _
   ·have:=DRel.of_flat (w:=w.alloc (.cells cells' e)) (L:=λb=>if b=w.heap.size then len*size else G.L b) (g:=w.heap.size) (cap:=len) (zs:=cells'.toList) h3 hne (by omega) (by simp[h4]) (h2.mono λ_ _=>hx.drel)
     (λj v hj=>by rw[World.cell?_alloc_new];simpa using hj)
    rw[h4]at this;exact this
  ·exact h.elim
 ·exact h.elim

theorem zJI{t e:TypeId}{size bytes:Nat}{z:Value}{vl vc:Value}{l c:AV}{K:AV→zaa→Prop}(hH:HRel B w G H)(he:zbe P t=some e)(hn:zaQ P e=some size)(hby:zcO P e=some bytes)(hz:zbq P e=some z)(h0:0<size)(hzl:(zbt z).length=size)(hl:TRel w G vl l)(hc:TRel w G vc c)(h:za9 bytes (zbt z) l c H K):
  OpOK P B w G K (((do pure (.value (←Instr.makeSlice t vl vc))):Sem Next).run P w):=by
 unfold za9 at h;split at h
 ·rename_i l c;cases hl;cases hc;obtain⟨⟨h1,h2,h3,h4⟩,hk⟩:=h;have hzr:=zdO (w:=w) (G:=G) z;have hzs:z.cells.size=size:=by have:=hzr.length;simp at this;omega
  unfold zaQ at hn;unfold zbq at hz;unfold zcO at hby;cases hi:P.info? e with
  |none=>simp[hi]at hn
  |some i=>
   simp[hi]at hn hz hby;have hr:=run_make (P:=P) w t e i z (zbI he) hi hz .i64 .i64 l c h1 h2 (by rw[hby,Int.mul_comm];omega) h4;have hm:=zp5 hzr (by omega) c.toNat;rw[hzs]at hm;rw[hn]at hr;obtain⟨hx,hH'⟩:=hH.new (madeCells z.cells (c.toNat*size)) e _ (by simpa[madeCells,hzs]using hm);have hrun:((do pure (.value (←Instr.makeSlice t (.int .i64 l) (.int .i64 c)))):Sem Next).run P w=.ok (.value (.slice (some ⟨w.heap.size,0,none⟩) l.toNat c.toNat)) (w.alloc (.cells (madeCells z.cells (c.toNat*size)) e)):=by rw[Sem.run_bind,hr];rfl
   rw[hrun];refine⟨.ms H.length 0 l.toNat c.toNat,_,_,hx,hH',⟨w.heap.size,?_,rfl⟩,hk⟩;rw[←hH.len];simp
 ·exact h.elim

theorem zwu:∀ {es:List (List AV)} {s:List UInt8},zhY es=some s→∃ ns:List Int,es=ns.map (λn=>[.int .u8 n])∧s=ns.map (λn=>UInt8.ofNat n.toNat)
 |[],s,h=>by simp[zhY]at h;exact⟨[],rfl,h.symm ▸ rfl⟩
 |c::es,s,h=>by
  unfold zhY at h;split at h
  ·rename_i heq;cases heq
  ·rename_i n es' heq;cases heq;split at h
   ·rename_i s' hs';obtain⟨ns,rfl,rfl⟩:=zwu hs';cases h;exact⟨n::ns,rfl,rfl⟩
   ·cases h
  ·cases h
theorem zyI:∀ (ns:List Int) (acc:List UInt8),ns.foldl (λr n=>r.push (UInt8.ofNat n.toNat)) (ByteArray.mk acc.toArray)=⟨(acc++ns.map λn=>UInt8.ofNat n.toNat).toArray⟩
 |[],acc=>by simp
 |n::ns,acc=>by
  have h:(ByteArray.mk acc.toArray).push (UInt8.ofNat n.toNat)=⟨(acc++[UInt8.ofNat n.toNat]).toArray⟩:=by simp[ByteArray.push]
  rw[List.foldl_cons,h,zyI ns];simp
theorem zxy{L:Nat→Nat}:∀ {zs:List Value} {ns:List Int},All2 (DRel w L) zs (ns.map (AV.int .u8))→zs=ns.map (Value.int .u8)
 |[],[],_=>rfl
 |z::zs,n::ns,h=>by obtain⟨h1,h2⟩:=h;cases h1;rw[zxy h2];rfl
theorem zz2:∀ ns:List Int,(ns.map λn=>[AV.int .u8 n]).flatten=ns.map (AV.int .u8)
 |[]=>rfl
 |n::ns=>by rw[aA,List.flatten_cons,zz2 ns];rfl
theorem zJv{s t e:TypeId}{v:Value}{x:AV}{K:AV→Prop}(hx:TRel w G v x)(hs:P.underlying s=some (.slice e))(ht:P.underlying t=some .string)(he:tU8 P e=true)(h:zfP x K):
  ∃r,(convert s t v).run P w=.ok r w∧∃av,TRel w G r av∧K av:=by
 have hue:P.underlying e=some (.int .u8):=by
  unfold tU8 at he;split at he
  ·assumption
  ·cases he
 unfold zfP at h;split at h
 ·rename_i es tok;have hd:=ziQ hx;split at h
  ·rename_i bs hb;obtain⟨ns,rfl,rfl⟩:=zwu hb;refine⟨.string ⟨(ns.map λn=>UInt8.ofNat n.toNat).toArray⟩,?_,.str _,rfl,h⟩;by_cases hne:ns=[]
   ·subst hne;obtain⟨a,cap,rfl,_⟩:=hd.slice_form;rw[run_convert_bytes_string w s t e _ _ _ hs hue ht];cases a with
    |none=>rfl
    |some a=>
     have hl:(loadCells a 0).run P w=.ok #[] w:=by simpa using run_loadCells_list (P:=P) w a [] (by simp)
     exact run_bytesToString w a 0 cap [] hl
   ·obtain⟨b,off,cap,zs,rfl,hzl,hzr,hzc,_⟩:=hd.flat (size:=1) (by simpa using hne) (by simp);rw[zz2]at hzr;obtain rfl:=zxy hzr;rw[run_convert_bytes_string w s t e _ _ _ hs hue ht];have hld:=run_loadCells_list (P:=P) w ⟨b,off,none⟩ (ns.map (Value.int .u8)) (λj v hj=>by rw[add_lit];exact hzc j v hj);rw[aS]at hld;rw[aS,run_bytesToString w _ _ cap ns hld];have:=zyI ns [];simp only[List.nil_append]at this;rw[←this];rfl
  ·exact h.elim
 ·cases hx;refine⟨.string ⟨#[]⟩,?_,.str [],rfl,h⟩;rw[run_convert_bytes_string w s t e _ _ _ hs hue ht];rfl
 ·exact h.elim

end
section
open Go.RowKit

variable {P:Program} {B:Nat} {w:World} {G:Gh} {H:zaa}

theorem zyQ(v:Value):VRel w G v (zc8 v):=by
 unfold zc8;split
 ·rename_i cs;refine⟨cs,rfl,?_⟩;refine All2.of_get (by simp) λi x y hx hy=>?_;rw[List.getElem?_map,hx]at hy;simp at hy;rw[←hy];exact ARel.of_b (zho x)
 ·exact VRel.of_a (ARel.of_b (zho v))
theorem zz5{t e:TypeId}(h:zeU P t=some e):∃k,P.underlying t=some (.map k e)∧P.underlying k=some .string:=by
 unfold zeU at h;cases hu:P.underlying t with
 |none=>simp[hu]at h
 |some d=>
  simp only[hu,Option.bind_some]at h;cases d <;> simp only[]at h <;> try (cases h;done)
  rename_i k e';split at h
  ·rename_i hk;cases h;exact⟨k,rfl,hk⟩
  ·cases h

theorem zpB{s:List UInt8}{x:AV}:∀ {es:List MapEntry} {kvs:List (List UInt8 × AV)} (i:Nat),All2 (ERel w G) es kvs →
  (zbZ kvs s=none∧Instr.findNow .string (.string ⟨s.toArray⟩) es i=some none∧zcX kvs s x=kvs++[(s,x)]) ∨
  (∃j e v,zbZ kvs s=some v∧Instr.findNow .string (.string ⟨s.toArray⟩) es i=some (some (i+j,e.val))∧es[j]?=some e∧VRel w G e.val v∧e.key=.string ⟨s.toArray⟩∧zcX kvs s x=kvs.set j (s,x))
 |[],[],i,_=>.inl ⟨rfl,rfl,rfl⟩
 |e::es,p::kvs,i,h=>by
  obtain⟨⟨hk,hv⟩,ht⟩:=h;have hbeq:((⟨s.toArray⟩:ByteArray) == ⟨p.1.toArray⟩)=(p.1 == s):=by
   have e1:((⟨s.toArray⟩:ByteArray) == ⟨p.1.toArray⟩)=(s.toArray == p.1.toArray):=rfl;rw[e1,bN,aY,aY];constructor
   ·intro h;have:=congrArg Array.toList h;simpa using this.symm
   ·intro h;rw[h]
  have hsame:Instr.sameNow .string (.string ⟨s.toArray⟩) e.key=some (p.1 == s):=by rw[hk];simp only[Instr.sameNow,hbeq]
  cases hb:(p.1 == s) with
  |true=>
   right;rw[hb]at hsame;have hps:p.1=s:=by simpa using hb
   exact⟨0,e,p.2,by simp only[zbZ,hb],by simp only[Instr.findNow,hsame,Nat.add_zero],rfl,hv,by rw[hk,hps],by simp only[zcX,hb,List.set_cons_zero]⟩
  |false=>
   rw[hb]at hsame;rcases zpB (s:=s) (x:=x) (i+1) ht with ⟨h1,h2,h3⟩|⟨j,e',v,h1,h2,h3,h4,h5,h6⟩
   ·exact .inl ⟨by simp only[zbZ,hb,h1],by simp only[Instr.findNow,hsame,h2],by simp only[zcX,hb,h3,List.cons_append]⟩
   ·refine .inr ⟨j+1,e',v,by simp only[zbZ,hb,h1],?_,by simpa using h3,h4,h5,by simp only[zcX,hb,h6,List.set_cons_succ]⟩;simp only[Instr.findNow,hsame,h2];congr 3;omega
 |[],_::_,_,h=>h.elim
 |_::_,[],_,h=>h.elim

theorem zJK{t:TypeId}{K:AV→zaa→Prop}(hH:HRel B w G H)(h:zd1 H K):OpOK P B w G K (((do pure (.value (←Instr.makeMap t none))):Sem Next).run P w):=by
 obtain⟨he,hH'⟩:=hH.newMap;have hrun:((do pure (.value (←Instr.makeMap t none))):Sem Next).run P w=.ok (.value (.map (some w.heap.size))) (w.alloc (.map #[] 0)):=by simp[Instr.makeMap,newObj,Sem.run,World.alloc_eq]
 rw[hrun];refine⟨.map H.length,_,_,he,hH',⟨w.heap.size,?_,rfl⟩,h⟩;rw[←hH.len];simp

theorem zJG{t e:TypeId}{z vm vk:Value}{m k:AV}{ok:Bool}{K:AV→Prop}(hH:HRel B w G H)(ht:zeU P t=some e)(hz:zbq P e=some z)(hm:TRel w G vm m)(hk:TRel w G vk k)(h:zdC (zc8 z) ok m k H K):∃u,(Instr.lookup t vm vk ok).run P w=.ok u w∧∃av,TRel w G u av∧K av:=by
 obtain⟨kt,hu,huk⟩:=zz5 ht;unfold zdC at h;split at h
 ·rename_i id s;split at h
  ·rename_i kvs hkvs;obtain⟨b,hμ,rfl⟩:=hm;cases hk;obtain⟨_,_,es,clk,hw,hes⟩:=hH.ok id _ _ hkvs hμ;have hkey:MapKept.IsKey .string (.string ⟨s.toArray⟩):=trivial;rcases zpB (s:=s) (x:=.unk) 0 hes with ⟨h1,h2,_⟩ | ⟨j,e',v,h1,h2,h3,h4,h5,_⟩
   ·rw[h1]at h;have hzv:VRel w G z (zc8 z):=zyQ z;cases ok with
    |false=>refine⟨z,?_,_,zrk z,h⟩;simp[Instr.lookup,zaT hu,MapKept.run_getObj_map hw,MapKept.run_checkKey huk hkey,MapKept.run_findKey huk h2,zek hz]
    |true=>refine⟨.tuple #[z,.bool false],?_,.tup [zc8 z,.bool false],⟨_,rfl,hzv,rfl,trivial⟩,h⟩;simp[Instr.lookup,zaT hu,MapKept.run_getObj_map hw,MapKept.run_checkKey huk hkey,MapKept.run_findKey huk h2,zek hz]
   ·rw[h1]at h;cases ok with
    |false=>refine⟨e'.val,?_,_,TRel.of_v h4,h⟩;simp[Instr.lookup,zaT hu,MapKept.run_getObj_map hw,MapKept.run_checkKey huk hkey,MapKept.run_findKey huk h2]
    |true=>refine⟨.tuple #[e'.val,.bool true],?_,.tup [v,.bool true],⟨_,rfl,h4,rfl,trivial⟩,h⟩;simp[Instr.lookup,zaT hu,MapKept.run_getObj_map hw,MapKept.run_checkKey huk hkey,MapKept.run_findKey huk h2]
  ·exact h.elim
 ·exact h.elim

theorem zzn{t e:TypeId}{vm vk vx:Value}{m k x:AV}{K:zaa→Prop}(hH:HRel B w G H)(ht:zeU P t=some e)(hm:TRel w G vm m)(hk:TRel w G vk k)(hx:TRel w G vx x)(h:zcR m k x H K):∃w' H',(Instr.mapUpdate t vm vk vx).run P w=.ok () w'∧Ext B w G w' G∧HRel B w' G H'∧K H':=by
 obtain⟨kt,hu,huk⟩:=zz5 ht;unfold zcR at h;split at h
 ·rename_i id s;split at h
  ·rename_i kvs hkvs;obtain⟨b,hμ,rfl⟩:=hm;cases hk;obtain⟨_,_,es,clk,hw,hes⟩:=hH.ok id _ _ hkvs hμ;have hkey:MapKept.IsKey .string (.string ⟨s.toArray⟩):=trivial;split at h
   ·exact h.elim
   ·rename_i hnt;have hv:VRel w G vx x:=by cases x <;> first | exact hx | exact (hnt _ rfl).elim
    rcases zpB (s:=s) (x:=x) 0 hes with ⟨h1,h2,h6⟩|⟨j,e',v,h1,h2,h3,h4,h5,h6⟩
    ·rw[h6]at h;obtain⟨he,hH'⟩:=hH.storeMap (es':=es.push ⟨.string ⟨s.toArray⟩,vx,clk⟩) (clk':=clk+1) hkvs hμ hw (kvs':=kvs++[(s,x)]) (by
      rw[Array.toList_push];exact hes.append ⟨⟨rfl,hv⟩,trivial⟩)
     refine⟨_,_,?_,he,hH',h⟩;simp[Instr.mapUpdate,zaT hu,MapKept.run_getObj_map hw,MapKept.run_checkKey huk hkey,MapKept.run_findKey huk h2,MapKept.run_setObj_map _ hw]
    ·rw[h6]at h;have hj:es[j]?=some e':=by simpa using h3
     have hjl:j<es.size:=(Array.getElem?_eq_some_iff.1 hj).1;obtain⟨he,hH'⟩:=hH.storeMap (es':=es.modify j λe=>{ e with key:=.string ⟨s.toArray⟩,val:=vx }) (clk':=clk) hkvs hμ hw (kvs':=kvs.set j (s,x)) (by
      have e1:(es.modify j λe=>{ e with key:=.string ⟨s.toArray⟩,val:=vx }).toList=es.toList.set j { e' with key:=.string ⟨s.toArray⟩,val:=vx }:=by rw[Array.toList_modify,List.modify_eq_set];simp[hj]
      rw[e1];exact hes.set j ⟨rfl,hv⟩)
     refine⟨_,_,?_,he,hH',h⟩;have hks:(Instr.keyThatStays (((es[j]?).map (·.key)).getD (.string ⟨s.toArray⟩)) (.string ⟨s.toArray⟩)).run P w=.ok (.string ⟨s.toArray⟩) w:=by rw[hj];simp only[Option.map_some,Option.getD_some,h5];exact MapKept.run_keyThatStays hkey
     simp only[aF]at h2;simp[Instr.mapUpdate,zaT hu,MapKept.run_getObj_map hw,MapKept.run_checkKey huk hkey,MapKept.run_findKey huk h2,hks,MapKept.run_setObj_map _ hw]
  ·exact h.elim
 ·exact h.elim
end
section
open Go.RowKit

variable {P:Program} {B:Nat} {w:World} {G:Gh} {H:zaa}

structure GrB (w w':World) (g:Option Nat):Prop where
 dr:w.drawn≤w'.drawn
 os:w'.os=w.os
 tape:w'.tape=w.tape
 output:w'.output=w.output
 size:w.heap.size≤w'.heap.size
 block:∀k,k<w.heap.size→some k≠g→w'.heap[k]?=w.heap[k]?
theorem zwQ(w:World)(o:Obj):w.drawn≤(w.drew.alloc o).drawn:=cH _

theorem ziN{t t' ty e:TypeId}{a c:Option Addr}{n cap cap':Nat}(he:zbe P t=some e)(he':zbe P t'=some e)(hs:∃ s,zaQ P e=some s)(hk:n≤cap):
  (Builtin.append_ #[t,t'] ty #[.slice a n cap,.slice c 0 cap']).run P w=.ok (.slice a n cap) w:=by
 obtain⟨s,hs⟩:=hs;have hl:∀x,(loadCells x 0).run P w=.ok #[] w:=λx=>by simpa using run_loadCells_list (P:=P) w x [] (by simp)
 have hst:∀x,(storeCells x [] 0).run P w=.ok () w:=λx=>rfl;cases a <;> cases c <;> simp[Builtin.append_,zaT (zbI he),zaT (zbI he'),zby hs,Builtin.lenOf,hk,Builtin.firstCells,hl,hst]

theorem zq9{t ty e:TypeId}{i:TypeInfo}{z:Value}(ht:P.underlying t=some (.slice e))(hi:P.info? e=some i)(hz:i.zero=some z)(hzs:z.cells.size=i.size){v:Value}{n:Nat}{xs:List Value}(hown:w.ownsRow B e i.size v n xs)(a:Addr)(m c:Nat)(news:List Value)(hl:news.length=m*i.size)(hnews:∀ j u,news[j]?=some u→w.cell? (a.add j)=some u)(h1:∀ u∈news,u.oneCell'=true)(hm:0<m)(h63:n+m≤maxLen)(hbytes:(n+m)*i.bytes≤140737488355328)(hbase:B≤w.heap.size):
  ∃ v' w',(Builtin.append_ #[t,t] ty #[v,.slice (some a) m c]).run P w=.ok v' w'∧w'.ownsRow B e i.size v' (n+m) (xs++news) ∧
   ((∃g,v.ownBlock=some g∧v'.ownBlock=some g∧GrB w w' (some g))∨(v'.ownBlock=some w.heap.size∧GrB w w' none)):=by
 have hsmall:n+m≤9223372036854775807:=by simp only[maxLen]at h63;omega
 have hlen:(xs++news).length=(n+m)*i.size:=by rw[ao,hown.1,hl,bb]
 have grown:∀ (old:Nat),old<n+m →
   (w.drew.alloc (.cells (xs.toArray++news.toArray++Builtin.zeroCells z.cells (grownCap w (n+m) old e-(n+m))) e)).ownsRow B e i.size
    (.slice (some ⟨w.heap.size,0,none⟩) (n+m) (grownCap w (n+m) old e)) (n+m) (xs++news) ∧
   GrB w (w.drew.alloc (.cells (xs.toArray++news.toArray++Builtin.zeroCells z.cells (grownCap w (n+m) old e-(n+m))) e)) none:=by
  intro old ho;have hge:=grownCap_ge w (n+m) old e;have hcm:grownCap w (n+m) old e≤maxLen:=grownCap_le_maxLen w (n+m) old e h63;refine⟨⟨hlen,.inr ⟨w.heap.size,_,_,rfl,hbase,zeF (w:=w.drew) _,hge,hcm,?_,?_⟩⟩,⟨zwQ w _,rfl,rfl,rfl,by simp,λk hk _=>zdp (w:=w.drew) hk⟩⟩
  ·simp only[Array.size_append,c7,size_zeroCells,hzs,hown.1,hl,←bb];congr 1;omega
  ·simp only[Array.toList_append,ah];rw[←ah,←hlen];exact c6
 rcases hown.2 with ⟨rfl,rfl⟩|⟨g,cap,cur,rfl,hbg,hg,hnc,hcm,hcs,htake⟩
 ·have hx:xs=[]:=az (by simpa using hown.1);subst hx;have hr:=run_append_nil (P:=P) w t ty e i z ht hi hz a m c news hl hnews hm (by omega) (by have hb:=hbytes;simp only[aF]at hb;omega);have hgr:=grown 0 (by omega);simp only[aF,List.nil_append,cW]at hgr ⊢;exact⟨_,_,hr,hgr.1,.inr ⟨rfl,hgr.2⟩⟩
 ·by_cases hroom:n+m≤cap
  ·have hfit:n*i.size+news.length≤cur.size:=by rw[hl,hcs,←bb];exact aq _ hroom
   have hr:=run_append_room (P:=P) w t ty e i ht hi g n cap cur hg a m c news hl hnews h1 hroom hfit;refine⟨_,_,hr,⟨hlen,.inr ⟨g,cap,_,rfl,hbg,setRow_heap w g cur _ e _ hg,hroom,hcm,?_,?_⟩⟩,.inl ⟨g,rfl,rfl,⟨aa _,rfl,rfl,rfl,by simp,λk _ hk=>setRow_other w g k _ (λe=>hk (by simp[e]))⟩⟩⟩
   ·simp only[c7,ao,aM,List.length_drop,Array.length_toList];omega
   ·rw[htake,←hlen];exact c6
  ·have holds:∀j u,xs[j]?=some u→w.cell? ((⟨g,0,none⟩:Addr).add j)=some u:=hown.cells (g:=g) rfl;have hr:=run_append_grow (P:=P) w t ty e i z ht hi hz ⟨g,0,none⟩ n cap xs hown.1 holds a m c news hl hnews (by omega) (by omega) (growslice_fits (by omega) hbytes);have hgr:=grown cap (by omega);exact⟨_,_,hr,hgr.1,.inr ⟨rfl,hgr.2⟩⟩

theorem zpJ{t ty e:TypeId}{i:TypeInfo}{z:Value}(ht:P.underlying t=some (.slice e))(hi:P.info? e=some i)(hz:i.zero=some z)(hzs:z.cells.size=i.size){ad:Option Addr}{n:Nat}{xs:List Value}(hxl:xs.length=n*i.size)(hx:∀ b,ad=some b→∀ j u,xs[j]?=some u→w.cell? (b.add j)=some u)(hn:ad=none→n=0)(a:Addr)(m c:Nat)(news:List Value)(hl:news.length=m*i.size)(hnews:∀ j u,news[j]?=some u→w.cell? (a.add j)=some u)(hm:0<m)(h63:n+m≤maxLen)(hbytes:(n+m)*i.bytes≤140737488355328)(hbase:B≤w.heap.size):
  ∃v' w',(Builtin.append_ #[t,t] ty #[.slice ad n n,.slice (some a) m c]).run P w=.ok v' w'∧w'.ownsRow B e i.size v' (n+m) (xs++news)∧v'.ownBlock=some w.heap.size∧GrB w w' none:=by
 have hsmall:n+m≤9223372036854775807:=by simp only[maxLen]at h63;omega
 have hlen:(xs++news).length=(n+m)*i.size:=by rw[ao,hxl,hl,bb]
 have grown:∀ (old:Nat),old<n+m →
   (w.drew.alloc (.cells (xs.toArray++news.toArray++Builtin.zeroCells z.cells (grownCap w (n+m) old e-(n+m))) e)).ownsRow B e i.size
    (.slice (some ⟨w.heap.size,0,none⟩) (n+m) (grownCap w (n+m) old e)) (n+m) (xs++news) ∧
   GrB w (w.drew.alloc (.cells (xs.toArray++news.toArray++Builtin.zeroCells z.cells (grownCap w (n+m) old e-(n+m))) e)) none:=by
  intro old ho;have hge:=grownCap_ge w (n+m) old e;have hcm:grownCap w (n+m) old e≤maxLen:=grownCap_le_maxLen w (n+m) old e h63;refine⟨⟨hlen,.inr ⟨w.heap.size,_,_,rfl,hbase,zeF (w:=w.drew) _,hge,hcm,?_,?_⟩⟩,⟨zwQ w _,rfl,rfl,rfl,by simp,λk hk _=>zdp (w:=w.drew) hk⟩⟩
  ·simp only[Array.size_append,c7,size_zeroCells,hzs,hxl,hl,←bb];congr 1;omega
  ·simp only[Array.toList_append,ah];rw[←ah,←hlen];exact c6
 cases ad with
 |none=>obtain rfl:=hn rfl;have hx0:xs=[]:=az (by simpa using hxl);subst hx0;have hr:=run_append_nil (P:=P) w t ty e i z ht hi hz a m c news hl hnews hm (by omega) (by have hb:=hbytes;simp only[aF]at hb;omega);have hgr:=grown 0 (by omega);simp only[aF,List.nil_append,cW]at hgr ⊢;exact⟨_,_,hr,hgr.1,rfl,hgr.2⟩
 |some b=>have hr:=run_append_grow (P:=P) w t ty e i z ht hi hz b n n xs hxl (hx b rfl) a m c news hl hnews (by omega) (by omega) (growslice_fits (by omega) hbytes);have hgr:=grown n (by omega);exact⟨_,_,hr,hgr.1,rfl,hgr.2⟩
theorem zyv{e:TypeId}{size n m id:Nat}{v v':Value}{w':World}{xs news:List Value}{es ys:List (List AV)}(hH:HRel B w G H)(hHid:H[id]?=some (.perm e size n))(hμ:G.μ[id]?=some (.own v size n))(hown:w.ownsRow B e size v n xs)(hown':w'.ownsRow B e size v' (n+m) (xs++news))(hcase:(∃ g,v.ownBlock=some g∧v'.ownBlock=some g∧GrB w w' (some g))∨(v'.ownBlock=some w.heap.size∧GrB w w' none))(hm:ys.length=m)(hm0:0<m)(hes:es.length=n)(hse:∀ c∈es,c.length=size)(hsy:∀ c∈ys,c.length=size)(hx:All2 (DRel w G.L) xs es.flatten)(hn:All2 (DRel w G.L) news ys.flatten):
  ∃G',Ext B w G w' G'∧HRel B w' G' (H.set id (.perm e size (n+m)))∧TRel w' G' v' (.sl (es++ys) (.own id)):=by
 obtain⟨_,_,⟨_,_⟩,hLown⟩:=hH.ok id _ _ hHid hμ;obtain⟨hl',hrow⟩:=hown';rcases hrow with ⟨hv,hz⟩|⟨g,cap,cur,hv,hBg,hg',hc1,hc2,hc3,hc4⟩
 ·omega
 subst hv;have hown':w'.ownsRow B e size (.slice (some ⟨g,0,none⟩) (n+m) cap) (n+m) (xs++news):=⟨hl',.inr ⟨g,cap,cur,rfl,hBg,hg',hc1,hc2,hc3,hc4⟩⟩;obtain⟨_,_,hglt,hcell'⟩:=zdL hown';have hcase:(v.ownBlock=some g∧GrB w w' (some g))∨(g=w.heap.size∧GrB w w' none):=by
  rcases hcase with ⟨g0,h1,h2,h3⟩|⟨h1,h2⟩
  ·simp[Value.ownBlock]at h2;subst h2;exact .inl ⟨h1,h3⟩
  ·simp[Value.ownBlock]at h1;exact .inr ⟨h1,h2⟩
 have hB:∀b,v.ownBlock=some b→B≤b:=λb hb=>by
  rcases hown.2 with ⟨rfl,_⟩|⟨g0,cap0,cur0,rfl,hB0,_⟩
  ·simp[Value.ownBlock]at hb
  ·simp[Value.ownBlock]at hb;omega
 have hLg:G.L g≤(n+m)*size:=by
  rcases hcase with ⟨h,_⟩|⟨h,_⟩
  ·rw[hLown g h];exact aq _ (by omega)
  ·rw[hH.fresh g (by omega)];exact bz _
 -- all other blocks are asx they were
 have hsame:∀b,b<w.heap.size→b≠g→w'.heap[b]?=w.heap[b]?:=by
  intro b hb hne;rcases hcase with ⟨_,h⟩|⟨_,h⟩
  ·exact h.block b hb (by simp[hne])
  ·exact h.block b hb (by simp)
 have hsize:w.heap.size≤w'.heap.size:=by rcases hcase with ⟨_,h⟩|⟨_,h⟩ <;> exact h.size
 have hoth:∀(id':Nat) gi b,id'≠id→G.μ[id']?=some gi→gi.block=some b→b≠g:=by
  intro id' gi b hne h1 h2 hbg;subst hbg;rcases hcase with ⟨h,_⟩|⟨h,_⟩
  ·exact hne (hH.dist id' id gi _ b h1 hμ h2 (by simpa[GI.block]using h))
  ·have:=hH.lt id' gi b h1 h2;omega
 have hidlt:id<G.μ.length:=(List.getElem?_eq_some_iff.1 hμ).1;have he:Ext B w G w' ⟨λb=>if b=g then (n+m)*size else G.L b,G.μ.set id (.own (.slice (some ⟨g,0,none⟩) (n+m) cap) size (n+m))⟩:=by
  refine⟨DR.set (by rcases hcase with ⟨_,h⟩|⟨_,h⟩ <;> exact h.dr) rfl (by simp),?_,?_,?_,?_⟩
  ·have hb:∀k,k<B→w'.heap[k]?=w.heap[k]?:=λk hk=>hsame k (a7 hk hH.base) (by
    intro hkg;subst hkg;rcases hcase with ⟨h,_⟩|⟨h,_⟩
    ·have:=hB k h;omega
    ·have:=hH.base;omega)
   rcases hcase with ⟨_,h⟩|⟨_,h⟩ <;> exact⟨h.os,h.tape,h.output,h.size,hb⟩
  ·intro b;by_cases hb:b=g
   ·subst hb;simpa using hLg
   ·simp[hb]
  ·intro b off hoff;by_cases hbg:b=g
   ·subst hbg;rcases hcase with ⟨h,_⟩ | ⟨h,_⟩
    ·rcases hown.2 with ⟨rfl,_⟩ | ⟨g0,cap0,cur0,rfl,hB0,hw0,_⟩
     ·simp[Value.ownBlock]at h
     ·simp[Value.ownBlock]at h;subst h;rw[hLown _ rfl]at hoff;obtain⟨hxl,_,_,hc0⟩:=zdL hown;rw[hc0 off hoff,hcell' off (a7 hoff (aq _ (by omega))),List.getElem?_append_left (by omega)]
    ·rw[hH.fresh b (by omega)]at hoff;omega
   ·exact zgV (hsame b (zhS hH hoff) hbg)
  ·intro id' gi h1;by_cases hid:id'=id
   ·subst hid;rw[hμ]at h1;cases h1;exact⟨_,List.getElem?_set_self hidlt,rfl,.inr (by omega)⟩
   ·exact⟨gi,by simp only[];rw[List.getElem?_set_ne (λh=>hid h.symm)];exact h1,gi.le_refl⟩
 have hsplit:∀ (id':Nat) gi,(G.μ.set id (.own (.slice (some ⟨g,0,none⟩) (n+m) cap) size (n+m)))[id']?=some gi →
   (id'=id∧gi=.own (.slice (some ⟨g,0,none⟩) (n+m) cap) size (n+m))∨(id'≠id∧G.μ[id']?=some gi):=by
  intro id' gi h;by_cases hid:id'=id
  ·subst hid;rw[List.getElem?_set_self hidlt]at h;cases h;exact .inl ⟨rfl,rfl⟩
  ·rw[List.getElem?_set_ne (λh=>hid h.symm)]at h;exact .inr ⟨hid,h⟩
 refine⟨_,he,⟨by simp[hH.len],?_,?_,?_,?_,aC hH.base hsize⟩,⟨?_,_,size,n+m,List.getElem?_set_self hidlt,by simp;omega,λ_=>⟨rfl,λc hc=>?_⟩⟩⟩
 ·intro id' ab gi h1 h2;rcases hsplit id' gi h2 with ⟨rfl,rfl⟩ | ⟨hid,h2⟩
  ·have hlt:id'<H.length:=by rw[←hH.len];exact hidlt
   rw[List.getElem?_set_self hlt]at h1;cases h1;refine⟨rfl,rfl,⟨_,hown'⟩,λb hb=>?_⟩;simp[Value.ownBlock]at hb;subst hb;simp
  ·rw[List.getElem?_set_ne (λh=>hid h.symm)]at h1;refine(hH.ok id' ab gi h1 h2).keep he (λb hb=>?_);have hne:=hoth id' gi b hid h2 hb;exact⟨hsame b (hH.lt id' gi b h2 hb) hne,by simp[hne]⟩
 ·intro i1 i2 gi1 gi2 b h1 h2 h3 h4;rcases hsplit i1 gi1 h1 with ⟨e1,e2⟩ | ⟨hn1,k1⟩ <;> rcases hsplit i2 gi2 h2 with ⟨e3,e4⟩ | ⟨hn2,k2⟩
  ·rw[e1,e3]
  ·rw[e2]at h3;simp[GI.block,Value.ownBlock]at h3;exact absurd h3.symm (hoth i2 gi2 b hn2 k2 h4)
  ·rw[e4]at h4;simp[GI.block,Value.ownBlock]at h4;exact absurd h4.symm (hoth i1 gi1 b hn1 k1 h3)
  ·exact hH.dist i1 i2 gi1 gi2 b k1 k2 h3 h4
 ·intro b hb;have hne:b≠g:=by intro h;subst h;omega
  simp[hne,hH.fresh b (by omega)]
 ·intro i1 gi b h1 h2;rcases hsplit i1 gi h1 with ⟨rfl,rfl⟩ | ⟨hn1,h1⟩
  ·simp[GI.block,Value.ownBlock]at h2;omega
  ·have:=hH.lt i1 gi b h1 h2;omega
 ·have hne:es++ys≠[]:=by intro h;have:=congrArg List.length h;rw[ao,List.length_nil]at this;omega
  have hall:∀c∈es++ys,c.length=size:=λc hc=>(aP.1 hc).elim (hse c) (hsy c);have hlen:(es++ys).length=n+m:=by simp;omega
  have hfl:=DRel.of_flat (w:=w') (L:=λb=>if b=g then (n+m)*size else G.L b) (g:=g) (cap:=cap) (zs:=xs++news) hall hne (by omega) (by simp[hes,hm])
   (by rw[cR];exact(hx.append hn).mono λ_ _=>he.drel)
   (λj u hj=>by
    have hj':j<(n+m)*size:=by rw[←hl'];exact(List.getElem?_eq_some_iff.1 hj).1
    rw[hcell' j hj'];exact hj)
  rw[hlen]at hfl;exact hfl
 ·rcases aP.1 hc with h | h
  ·exact hse c h
  ·exact hsy c h

theorem zhy{e:TypeId}{size n m id:Nat}{v v':Value}{w':World}{xs news:List Value}{cs ds:List AV}(hH:HRel B w G H)(hHid:H[id]?=some (.vec e size n cs))(hμ:G.μ[id]?=some (.own v size n))(hown:w.ownsRow B e size v n xs)(hown':w'.ownsRow B e size v' (n+m) (xs++news))(hcase:(∃ g,v.ownBlock=some g∧v'.ownBlock=some g∧GrB w w' (some g))∨(v'.ownBlock=some w.heap.size∧GrB w w' none))(hm0:0<m)(hx:All2 (ARel w G) xs cs)(hn:All2 (ARel w G) news ds):
  ∃G',Ext B w G w' G'∧HRel B w' G' (H.set id (.vec e size (n+m) (cs++ds)))∧TRel w' G' v' (.ov id (n+m)):=by
 obtain⟨_,_,⟨_,_,_⟩,hLown⟩:=hH.ok id _ _ hHid hμ;obtain⟨hl',hrow⟩:=hown';rcases hrow with ⟨hv,hz⟩|⟨g,cap,cur,hv,hBg,hg',hc1,hc2,hc3,hc4⟩
 ·omega
 subst hv;have hown':w'.ownsRow B e size (.slice (some ⟨g,0,none⟩) (n+m) cap) (n+m) (xs++news):=⟨hl',.inr ⟨g,cap,cur,rfl,hBg,hg',hc1,hc2,hc3,hc4⟩⟩;obtain⟨_,_,hglt,hcell'⟩:=zdL hown';have hcase:(v.ownBlock=some g∧GrB w w' (some g))∨(g=w.heap.size∧GrB w w' none):=by
  rcases hcase with ⟨g0,h1,h2,h3⟩|⟨h1,h2⟩
  ·simp[Value.ownBlock]at h2;subst h2;exact .inl ⟨h1,h3⟩
  ·simp[Value.ownBlock]at h1;exact .inr ⟨h1,h2⟩
 have hB:∀b,v.ownBlock=some b→B≤b:=λb hb=>by
  rcases hown.2 with ⟨rfl,_⟩|⟨g0,cap0,cur0,rfl,hB0,_⟩
  ·simp[Value.ownBlock]at hb
  ·simp[Value.ownBlock]at hb;omega
 have hLg:G.L g=0:=by
  rcases hcase with ⟨h,_⟩|⟨h,_⟩
  ·exact hLown g h
  ·exact hH.fresh g (by omega)
 have hsame:∀b,b<w.heap.size→b≠g→w'.heap[b]?=w.heap[b]?:=by
  intro b hb hne;rcases hcase with ⟨_,h⟩|⟨_,h⟩
  ·exact h.block b hb (by simp[hne])
  ·exact h.block b hb (by simp)
 have hsize:w.heap.size≤w'.heap.size:=by rcases hcase with ⟨_,h⟩|⟨_,h⟩ <;> exact h.size
 have hoth:∀(id':Nat) gi b,id'≠id→G.μ[id']?=some gi→gi.block=some b→b≠g:=by
  intro id' gi b hne h1 h2 hbg;subst hbg;rcases hcase with ⟨h,_⟩|⟨h,_⟩
  ·exact hne (hH.dist id' id gi _ b h1 hμ h2 (by simpa[GI.block]using h))
  ·have:=hH.lt id' gi b h1 h2;omega
 have hidlt:id<G.μ.length:=(List.getElem?_eq_some_iff.1 hμ).1;have he:Ext B w G w' ⟨G.L,G.μ.set id (.own (.slice (some ⟨g,0,none⟩) (n+m) cap) size (n+m))⟩:=by
  refine⟨DR.set (by rcases hcase with ⟨_,h⟩|⟨_,h⟩ <;> exact h.dr) rfl (by simp),?_,λ_=>aa _,?_,?_⟩
  ·have hb:∀k,k<B→w'.heap[k]?=w.heap[k]?:=λk hk=>hsame k (a7 hk hH.base) (by
    intro hkg;subst hkg;rcases hcase with ⟨h,_⟩|⟨h,_⟩
    ·have:=hB k h;omega
    ·have:=hH.base;omega)
   rcases hcase with ⟨_,h⟩|⟨_,h⟩ <;> exact⟨h.os,h.tape,h.output,h.size,hb⟩
  ·intro b off hoff;by_cases hbg:b=g
   ·subst hbg;omega
   ·exact zgV (hsame b (zhS hH hoff) hbg)
  ·intro id' gi h1;by_cases hid:id'=id
   ·subst hid;rw[hμ]at h1;cases h1;exact⟨_,List.getElem?_set_self hidlt,rfl,.inr (by omega)⟩
   ·exact⟨gi,by simp only[];rw[List.getElem?_set_ne (λh=>hid h.symm)];exact h1,gi.le_refl⟩
 have hsplit:∀ (id':Nat) gi,(G.μ.set id (.own (.slice (some ⟨g,0,none⟩) (n+m) cap) size (n+m)))[id']?=some gi →
   (id'=id∧gi=.own (.slice (some ⟨g,0,none⟩) (n+m) cap) size (n+m))∨(id'≠id∧G.μ[id']?=some gi):=by
  intro id' gi h;by_cases hid:id'=id
  ·subst hid;rw[List.getElem?_set_self hidlt]at h;cases h;exact .inl ⟨rfl,rfl⟩
  ·rw[List.getElem?_set_ne (λh=>hid h.symm)]at h;exact .inr ⟨hid,h⟩
 refine⟨_,he,⟨by simp[hH.len],?_,?_,?_,?_,aC hH.base hsize⟩,⟨⟨_,_,rfl,λ_=>⟨g,rfl⟩,hc1⟩,_,size,n+m,List.getElem?_set_self hidlt,aa _,λ_=>rfl⟩⟩
 ·intro id' ab gi h1 h2;rcases hsplit id' gi h2 with ⟨rfl,rfl⟩ | ⟨hid,h2⟩
  ·have hlt:id'<H.length:=by rw[←hH.len];exact hidlt
   rw[List.getElem?_set_self hlt]at h1;cases h1;refine⟨rfl,rfl,⟨_,hown',(hx.mono λ_ _=>he.arel).append (hn.mono λ_ _=>he.arel)⟩,λb hb=>?_⟩;simp[Value.ownBlock]at hb;subst hb;exact hLg
  ·rw[List.getElem?_set_ne (λh=>hid h.symm)]at h1;refine(hH.ok id' ab gi h1 h2).keep he (λb hb=>?_);have hne:=hoth id' gi b hid h2 hb;exact⟨hsame b (hH.lt id' gi b h2 hb) hne,rfl⟩
 ·intro i1 i2 gi1 gi2 b h1 h2 h3 h4;rcases hsplit i1 gi1 h1 with ⟨e1,e2⟩ | ⟨hn1,k1⟩ <;> rcases hsplit i2 gi2 h2 with ⟨e3,e4⟩ | ⟨hn2,k2⟩
  ·rw[e1,e3]
  ·rw[e2]at h3;simp[GI.block,Value.ownBlock]at h3;exact absurd h3.symm (hoth i2 gi2 b hn2 k2 h4)
  ·rw[e4]at h4;simp[GI.block,Value.ownBlock]at h4;exact absurd h4.symm (hoth i1 gi1 b hn1 k1 h3)
  ·exact hH.dist i1 i2 gi1 gi2 b k1 k2 h3 h4
 ·intro b hb;exact hH.fresh b (by omega)
 ·intro i1 gi b h1 h2;rcases hsplit i1 gi h1 with ⟨rfl,rfl⟩ | ⟨hn1,h1⟩
  ·simp[GI.block,Value.ownBlock]at h2;omega
  ·have:=hH.lt i1 gi b h1 h2;omega

end
section
open Go.RowKit

variable {P:Program} {B:Nat} {w:World} {G:Gh} {H:zaa}

theorem zz4{t e:TypeId}(h:zeT P t=some e):∃k i,P.underlying t=some (.map k e)∧P.underlying k=some (.array 2 i)∧P.underlying i=some (.int .i64)∧zaQ P i=some 1:=by
 unfold zeT at h;cases hu:P.underlying t with
 |none=>simp[hu]at h
 |some d=>
  simp only[hu,Option.bind_some]at h;cases d <;> simp only[]at h <;> try (cases h;done)
  rename_i k e';split at h
  ·rename_i i hk;split at h
   ·rename_i hi hs;cases h;exact⟨k,i,rfl,hk,hi,hs⟩
   ·cases h
  ·cases h
section
variable {k i:TypeId} (hk:P.underlying k=some (.array 2 i)) (hi:P.underlying i=some (.int .i64)) (hs:zaQ P i=some 1)
include hi in
theorem zhs(w:World)(p:Int×Int)(j:Nat)(hj:j<2):(part i #[.int .i64 p.1,.int .i64 p.2] j).run P w=.ok (.int .i64 (if j=0 then p.1 else p.2)) w:=by
 have hp:P.plainKey i=true:=by unfold Program.plainKey;rw[hi]
 refine run_part_plain w hp ?_
 match j,hj with
 |0,_=>rfl
 |1,_=>rfl
include hk hi hs in
theorem zIV(w:World)(p q:Int×Int):(Op.equal k (zbW p) (zbW q)).run P w=.ok (p == q) w:=by
 obtain⟨ti,hti⟩:∃ti,P.info? i=some ti:=by
  unfold zaQ at hs;cases h:P.info? i with
  |none=>simp[h]at hs
  |some ti=>exact⟨ti,rfl⟩
 have hc:P.cellsOf i=1:=by unfold zaQ at hs;rw[hti]at hs;simp[Program.cellsOf,hti]at hs ⊢;exact hs
 have hcell:∀(a b:Int) (d:Nat),(Op.equalIn (d+1) i (.int .i64 a) (.int .i64 b)).run P w=.ok (a == b) w:=λa b d=>by simp[Op.equalIn,run_underlying hi]
 unfold Op.equal Op.maxDepth zbW;rw[run_equalIn_array w 9999 _ _ hk hti,hc];have p0:=zhs hi w p 0 (by omega);have q0:=zhs hi w q 0 (by omega);have p1:=zhs hi w p 1 (by omega);have q1:=zhs hi w q 1 (by omega);obtain⟨a,b⟩:=p;obtain⟨c,d⟩:=q;have e:((a,b) == (c,d))=(a == c && b == d):=rfl;rw[e];simp only[cO,Nat.one_ne_zero,aT]at p0 q0 p1 q1;simp only[List.range,List.range.loop,Op.eqItems,Sem.run_bind,bK,p0,q0,Result.andThen_ok,hcell];cases h1:a == c
 ·simp
 ·simp[p1,q1,hcell];by_cases hbd:b=d
  ·simp[hbd]
  ·have:(b == d)=false:=by simpa using hbd
   simp[hbd,this]
include hk hi hs in
theorem zpC(w:World){s:Int × Int}{x:AV}:∀ {es:List MapEntry} {kvs:List ((Int × Int) × AV)} (j:Nat),All2 (ERelP w G) es kvs →
  (zcd kvs s=none∧(Instr.findAsking k (zbW s) es j).run P w=.ok none w∧zcK kvs s x=kvs++[(s,x)]) ∨
  (∃n e v,zcd kvs s=some v∧(Instr.findAsking k (zbW s) es j).run P w=.ok (some (j+n,e.val)) w∧es[n]?=some e∧VRel w G e.val v∧e.key=zbW s∧zcK kvs s x=kvs.set n (s,x))
 |[],[],j,_=>.inl ⟨rfl,by simp[Instr.findAsking],rfl⟩
 |e::es,p::kvs,j,h=>by
  obtain⟨⟨hke,hv⟩,ht⟩:=h;have heq:=zIV hk hi hs w s p.1;have hsym:(p.1 == s)=(s == p.1):=by rw[bN,aY,aY];exact⟨Eq.symm,Eq.symm⟩
  cases hb:(s == p.1) with
  |true=>
   right;rw[hb]at heq hsym;have hps:s=p.1:=by simpa using hb
   exact⟨0,e,p.2,by simp only[zcd,hsym],by simp[Instr.findAsking,hke,heq],rfl,hv,by rw[hke,hps],by simp only[zcK,hsym,List.set_cons_zero]⟩
  |false=>
   rw[hb]at heq hsym;rcases zpC w (s:=s) (x:=x) (j+1) ht with ⟨h1,h2,h3⟩|⟨n,e',v,h1,h2,h3,h4,h5,h6⟩
   ·exact .inl ⟨by simp only[zcd,hsym,h1],by simp[Instr.findAsking,hke,heq,h2],by simp only[zcK,hsym,h3,List.cons_append]⟩
   ·refine .inr ⟨n+1,e',v,by simp only[zcd,hsym,h1],?_,by simpa using h3,h4,h5,by simp only[zcK,hsym,h6,List.set_cons_succ]⟩;simp[Instr.findAsking,hke,heq,h2];omega
 |[],_::_,_,h=>h.elim
 |_::_,[],_,h=>h.elim
theorem zIQ(hi:P.underlying i=some (.int .i64))(w:World)(em:Bool)(n:Nat)(a:Int):(Instr.checkKey em (n+1) i (.int .i64 a)).run P w=.ok () w:=by simp[Instr.checkKey,run_underlying hi]
include hk hi hs in
theorem zIR(w:World)(em:Bool)(s:Int×Int)(n:Nat):(Instr.checkKey em (n+2) k (zbW s)).run P w=.ok () w:=by have hsz:(sizeOf i).run P w=.ok 1 w:=zby hs;have h0:=zhs hi w s 0 (by omega);have h1:=zhs hi w s 1 (by omega);unfold zbW;rw[Instr.checkKey];simp only[Sem.run_bind,run_underlying hk,Result.andThen_ok];simp only[Std.Legacy.Range.forIn_eq_forIn_range',Std.Legacy.Range.size,Nat.sub_zero,Nat.add_one_sub_one,Nat.div_one];simp only[List.range',List.forIn_cons,List.forIn_nil,Sem.run_bind,hsz,Result.andThen_ok,bx,aF,Nat.one_mul,h0,h1,zIQ hi,Sem.run_pure,cO,Nat.one_ne_zero,aT]
include hk hi hs in
theorem zyZ(w:World)(em:Bool)(s:Int×Int):(Instr.checkKey em 10000 k (zbW s)).run P w=.ok () w:=zIR hk hi hs w em s 9998
end
theorem zJL{t:TypeId}{K:AV→zaa→Prop}(hH:HRel B w G H)(h:zeE H K):OpOK P B w G K (((do pure (.value (←Instr.makeMap t none))):Sem Next).run P w):=by
 obtain⟨he,hH'⟩:=hH.newMapP;have hrun:((do pure (.value (←Instr.makeMap t none))):Sem Next).run P w=.ok (.value (.map (some w.heap.size))) (w.alloc (.map #[] 0)):=by simp[Instr.makeMap,newObj,Sem.run,World.alloc_eq]
 rw[hrun];refine⟨.map H.length,_,_,he,hH',⟨w.heap.size,?_,rfl⟩,h⟩;rw[←hH.len];simp
theorem zk6{kt i:TypeId}(hk:P.underlying kt=some (.array 2 i))(w:World)(x:Value)(es:List MapEntry):(Instr.findKey kt x es).run P w=(Instr.findAsking kt x es).run P w:=run_findKey_eq w (by rw[hk]) x es
theorem zv9{v:Value}{a b:Int}(h:TRel w G v (.agg [.int .i64 a,.int .i64 b])):v=zbW (a,b):=by
 obtain⟨cs,rfl,hr⟩:=h;obtain⟨l⟩:=cs
 match l,hr with
 |[x,y],hr=>obtain⟨h1,h2,_⟩:=hr;cases h1;cases h2;rfl
theorem zJH{t e:TypeId}{z vm vk:Value}{m k:AV}{ok:Bool}{K:AV→Prop}(hH:HRel B w G H)(ht:zeT P t=some e)(hz:zbq P e=some z)(hm:TRel w G vm m)(hk:TRel w G vk k)(h:zeC (zc8 z) ok m k H K):∃u,(Instr.lookup t vm vk ok).run P w=.ok u w∧∃av,TRel w G u av∧K av:=by
 obtain⟨kt,it,hu,huk,hui,hus⟩:=zz4 ht;unfold zeC at h;split at h
 ·rename_i id a b;split at h
  ·rename_i kvs hkvs;obtain⟨bl,hμ,rfl⟩:=hm;have hvk:=zv9 hk;subst hvk;obtain⟨_,_,es,clk,hw,hes⟩:=hH.ok id _ _ hkvs hμ;have hck:=λem=>zyZ huk hui hus w em (a,b);rcases zpC huk hui hus w (s:=(a,b)) (x:=.unk) 0 hes with ⟨h1,h2,_⟩ | ⟨j,e',v,h1,h2,h3,h4,h5,_⟩
   ·rw[h1]at h;have hzv:VRel w G z (zc8 z):=zyQ z;rw[←zk6 huk]at h2;cases ok with
    |false=>refine⟨z,?_,_,zrk z,h⟩;simp[Instr.lookup,zaT hu,MapKept.run_getObj_map hw,hck,h2,zek hz]
    |true=>refine⟨.tuple #[z,.bool false],?_,.tup [zc8 z,.bool false],⟨_,rfl,hzv,rfl,trivial⟩,h⟩;simp[Instr.lookup,zaT hu,MapKept.run_getObj_map hw,hck,h2,zek hz]
   ·rw[h1]at h;rw[←zk6 huk]at h2;cases ok with
    |false=>refine⟨e'.val,?_,_,TRel.of_v h4,h⟩;simp[Instr.lookup,zaT hu,MapKept.run_getObj_map hw,hck,h2]
    |true=>refine⟨.tuple #[e'.val,.bool true],?_,.tup [v,.bool true],⟨_,rfl,h4,rfl,trivial⟩,h⟩;simp[Instr.lookup,zaT hu,MapKept.run_getObj_map hw,hck,h2]
  ·exact h.elim
 ·exact h.elim
theorem zIW(w:World)(s:Int×Int):(Instr.keyThatStays (zbW s) (zbW s)).run P w=.ok (zbW s) w:=by simp[Instr.keyThatStays,Instr.sameBits,zbW]
theorem zzo{t e:TypeId}{vm vk vx:Value}{m k x:AV}{K:zaa→Prop}(hH:HRel B w G H)(ht:zeT P t=some e)(hm:TRel w G vm m)(hk:TRel w G vk k)(hx:TRel w G vx x)(h:zdo m k x H K):∃w' H',(Instr.mapUpdate t vm vk vx).run P w=.ok () w'∧Ext B w G w' G∧HRel B w' G H'∧K H':=by
 obtain⟨kt,it,hu,huk,hui,hus⟩:=zz4 ht;unfold zdo at h;split at h
 ·rename_i id a b;split at h
  ·rename_i kvs hkvs;obtain⟨bl,hμ,rfl⟩:=hm;have hvk:=zv9 hk;subst hvk;obtain⟨_,_,es,clk,hw,hes⟩:=hH.ok id _ _ hkvs hμ;have hck:=λem=>zyZ huk hui hus w em (a,b);split at h
   ·exact h.elim
   ·rename_i hnt;have hv:VRel w G vx x:=by cases x <;> first | exact hx | exact (hnt _ rfl).elim
    rcases zpC huk hui hus w (s:=(a,b)) (x:=x) 0 hes with ⟨h1,h2,h6⟩|⟨j,e',v,h1,h2,h3,h4,h5,h6⟩
    ·rw[h6]at h;rw[←zk6 huk]at h2;obtain⟨he,hH'⟩:=hH.storeMapP (es':=es.push ⟨zbW (a,b),vx,clk⟩) (clk':=clk+1) hkvs hμ hw (kvs':=kvs++[((a,b),x)]) (by
      rw[Array.toList_push];exact hes.append ⟨⟨rfl,hv⟩,trivial⟩)
     refine⟨_,_,?_,he,hH',h⟩;simp[Instr.mapUpdate,zaT hu,MapKept.run_getObj_map hw,hck,h2,MapKept.run_setObj_map _ hw]
    ·rw[h6]at h;rw[←zk6 huk]at h2;have hj:es[j]?=some e':=by simpa using h3
     have hjl:j<es.size:=(Array.getElem?_eq_some_iff.1 hj).1;obtain⟨he,hH'⟩:=hH.storeMapP (es':=es.modify j λe=>{ e with key:=zbW (a,b),val:=vx }) (clk':=clk) hkvs hμ hw (kvs':=kvs.set j ((a,b),x)) (by
      have e1:(es.modify j λe=>{ e with key:=zbW (a,b),val:=vx }).toList=es.toList.set j { e' with key:=zbW (a,b),val:=vx }:=by rw[Array.toList_modify,List.modify_eq_set];simp[hj]
      rw[e1];exact hes.set j ⟨rfl,hv⟩)
     refine⟨_,_,?_,he,hH',h⟩;have hks:(Instr.keyThatStays (((es[j]?).map (·.key)).getD (zbW (a,b))) (zbW (a,b))).run P w=.ok (zbW (a,b)) w:=by rw[hj];simp only[Option.map_some,Option.getD_some,h5];exact zIW w _
     simp only[aF]at h2;simp[Instr.mapUpdate,zaT hu,MapKept.run_getObj_map hw,hck,h2,hks,MapKept.run_setObj_map _ hw]
  ·exact h.elim
 ·exact h.elim
end
end Go.Proofs.YtaifokkaaahdoaaGreatDoor

import Derived.Test.YtaifokkaaahdoaaGreatDoorAbsU
import Derived.KernelRfl
import Derived.JoinedOf
set_option linter.unusedSimpArgs false
set_option linter.unusedVariables false
set_option linter.unusedSectionVars false
set_option maxRecDepth 8000
namespace Go.Abs
open Go Go.RowKit
variable {P:Program} {w:World} {G:Gh} {v:Value}
theorem ztW(h:G.μ=[])(μ:List GI):∀ {a:AV},BRel w G v a→BRel w ⟨G.L,μ⟩ v a
 |.unk,_=>trivial
 |.nilp,hr=>hr
 |.ptr _ _,⟨b,h1,h2⟩=>by rw[h]at h1;simp at h1
 |.view _,⟨b,off,h1,h2⟩=>⟨b,off,h1,h2⟩
 |.snil,hr=>hr
 |.sl _ .none,hr=>hr
 |.sl _ .full,hr=>hr
 |.sl es (.own id),⟨hr,v',size,n,hμ,hle,heq⟩=>by rw[h]at hμ;simp at hμ
 |.ms _ _ _ _,⟨b,h1,h2⟩=>by rw[h]at h1;simp at h1
 |.ov id n,⟨hr,v',size,n',hμ,hle,heq⟩=>by rw[h]at hμ;simp at hμ
 |.vp id n off,⟨hr,v',size,n',hμ,hle,heq⟩=>by rw[h]at hμ;simp at hμ
 |.os id n lo esz,⟨hr,v',size,n',hμ,hle,heq⟩=>by rw[h]at hμ;simp at hμ
 |.map _,⟨b,h1,h2⟩=>by rw[h]at h1;simp at h1
 |.nilfn,hr=>hr
 |.nili,hr=>hr
 |.ifc,hr=>hr
 |.bool _,hr=>hr
 |.int _ _,hr=>hr
 |.str _,hr=>hr
 |.fn _ _,hr=>hr.elim
 |.agg _,hr=>hr.elim
 |.tup _,hr=>hr.elim
theorem ztO(h:G.μ=[])(μ:List GI){a:AV}(hr:ARel w G v a):ARel w ⟨G.L,μ⟩ v a:=by
 cases a with
 |fn f caps=>obtain⟨vs,h1,h2⟩:=hr;exact⟨vs,h1,h2.mono λ_ _=>ztW h μ⟩
 |_=>exact ARel.of_b (ztW h μ hr)
theorem zxl(h:G.μ=[])(μ:List GI){a:AV}(hr:VRel w G v a):VRel w ⟨G.L,μ⟩ v a:=by
 cases a with
 |agg cs=>obtain⟨vs,h1,h2⟩:=hr;exact⟨vs,h1,h2.mono λ_ _=>ztO h μ⟩
 |_=>exact VRel.of_a (ztO h μ hr)
theorem zGl(h:G.μ=[])(μ:List GI){a:AV}(hr:TRel w G v a):TRel w ⟨G.L,μ⟩ v a:=by
 cases a with
 |tup cs=>obtain⟨vs,h1,h2⟩:=hr;exact⟨vs,h1,h2.mono λ_ _=>zxl h μ⟩
 |_=>exact TRel.of_v (zxl h μ hr)
theorem zDr(w:World):HRel w.heap.size w ⟨(G0 w).L,[.own .nilFunc 0 0]⟩ [.nodr]:=by
 have h0:=zDq w;refine⟨rfl,λid ab gi h1 h2=>?_,λid id' gi gi' b h1 h2 h3=>?_,h0.fresh,λid gi b h1 h2=>?_,Nat.le_refl _⟩
 ·match id,h1,h2 with
  |0,h1,h2=>simp at h1 h2;subst h1 h2;rfl
 ·match id,h1 with
  |0,h1=>simp at h1;subst h1;cases h3
 ·match id,h1 with
  |0,h1=>simp at h1;subst h1;cases h2
theorem zGj{f:FuncId}{args:List AV}(h:ACalls P f args [.nodr] λr _=>r=.bool true)(w:World)(vs:Array Value)(hv:All2 (TRel w (G0 w)) vs.toList args):
  Calls P f vs w λe w'=>e=.returned (.bool true)∧Below w.heap.size w w':=by
 refine(h _ w _ vs (zDr w) (hv.mono λ_ _=>zGl rfl _)).mono λe w' ⟨v,r,H',G',h1,h2,h3,h4,h5⟩=>?_;subst h5;have h4:v=.bool true:=h4;subst h4;exact⟨h1,h2.below⟩
end Go.Abs
namespace Go.Abs
open Go
def jt0(P:Program)(f:FuncId)(fn:Func)(s:ChangeSpec)(c:OpenClaim):Bool:=c.wf (OpenSpec.ofChange s) && laidOutB P && mapsRowed P
def jt1(P:Program)(f:FuncId)(fn:Func)(s:ChangeSpec)(c:OpenClaim):Bool:=fn.params.all (P.readableRec ·) && namedTie P c.named s.vars
def jt2(P:Program)(f:FuncId)(fn:Func)(s:ChangeSpec)(c:OpenClaim):Bool:=(c.stops == []) && (P.stops == []) && (c.knobs == []) && (P.stopKnobs == [])
def jt3(P:Program)(f:FuncId)(fn:Func)(s:ChangeSpec)(c:OpenClaim):Bool:=(c.inPlace == P.inPlace f)
def jt4(P:Program)(f:FuncId)(fn:Func)(s:ChangeSpec)(c:OpenClaim):Bool:=(c.unfollowed == P.unfollowed f)
def jt5(P:Program)(f:FuncId)(fn:Func)(s:ChangeSpec)(c:OpenClaim):Bool:=(c.recurses == P.recurses f)
def jt6(P:Program)(f:FuncId)(fn:Func)(s:ChangeSpec)(c:OpenClaim):Bool:=(c.named == P.varsNamed f)
def jt7(P:Program)(f:FuncId)(fn:Func)(s:ChangeSpec)(c:OpenClaim):Bool:=(c.maps == (fn.params.toList++s.plain.varTypes P).any (P.mapsRec ·)) && (c.ifaces == (fn.params.toList++s.plain.varTypes P).any (P.ifacesRec ·)) && (c.mapsOut == P.mapsAmong fn.resultTypes.toList)
def jt8(P:Program)(f:FuncId)(fn:Func)(s:ChangeSpec)(c:OpenClaim):Bool:=(c.loops == (fn.params.toList++s.plain.varTypes P).any (P.loopsFrom ·)) && (c.wideKeys == (fn.params.toList++s.plain.varTypes P++fn.resultTypes.toList).any (P.wideKeysFrom ·))
def jt9(P:Program)(f:FuncId)(fn:Func)(s:ChangeSpec)(c:OpenClaim):Bool:=s.vars.all (P.varReadable ·) && fn.resultTypes.all (λt=>P.readableRec t && decide (t<P.types.size)) && (c.ifacesOut == fn.resultTypes.toList.any (P.ifacesRec ·)) && (c.loopsOut == fn.resultTypes.toList.any (P.loopsFrom ·)) && (c.plainKeys == P.plainKeys) && c.shortTexts.isNone
def zow(P:Program)(f:FuncId)(fn:Func)(s:ChangeSpec)(c:OpenClaim):Bool:=P.stopsHeard && P.mayEnter && (c.lifted == P.liftsFinal) && (P.make == some c.make) && (c.kinds == (if c.domain.isEmpty then [] else fn.params.toList.map λt=>match P.underlying t with|some (.int k)=>some k|_=>none)) && (c.pinned == c.pinnedBy)
def zox(P:Program)(f:FuncId)(fn:Func)(s:ChangeSpec)(c:OpenClaim):Bool:=(c.veiled == (fn.params.toList++s.plain.varTypes P++fn.resultTypes.toList).any (P.veiledRec ·)) && c.veiledFits P fn.params.toList (fn.params.toList++s.plain.varTypes P++fn.resultTypes.toList)
theorem zDC(P:Program)(f:FuncId)(fn:Func)(s:ChangeSpec)(c:OpenClaim)(h0:jt0 P f fn s c=true)(h1:jt1 P f fn s c=true)(h2:jt2 P f fn s c=true)(h3:jt3 P f fn s c=true)(h4:jt4 P f fn s c=true)(h5:jt5 P f fn s c=true)(h6:jt6 P f fn s c=true)(h7:jt7 P f fn s c=true)(h8:jt8 P f fn s c=true)(h9:jt9 P f fn s c=true)(h10:zow P f fn s c=true)(h11:zox P f fn s c=true):joinedFacts P f fn s c=true:=by
 simp only[jt0,jt1,jt2,jt3,jt4,jt5,jt6,jt7,jt8,jt9,zow,zox,Bool.and_eq_true]at h0 h1 h2 h3 h4 h5 h6 h7 h8 h9 h10 h11;obtain⟨⟨h0_0,h0_1⟩,h0_2⟩:=h0;obtain⟨h1_0,h1_1⟩:=h1;obtain⟨⟨⟨h2_0,h2_1⟩,h2_2⟩,h2_3⟩:=h2;obtain⟨⟨h7_0,h7_1⟩,h7_2⟩:=h7;obtain⟨h8_0,h8_1⟩:=h8;obtain⟨⟨⟨⟨⟨h9_0,h9_1⟩,h9_2⟩,h9_3⟩,h9_4⟩,h9_5⟩:=h9;obtain⟨⟨⟨⟨⟨h10_0,h10_1⟩,h10_2⟩,h10_3⟩,h10_4⟩,h10_5⟩:=h10;obtain⟨h11_0,h11_1⟩:=h11;simp only[joinedFacts,Bool.and_eq_true]
 and_intros
 all_goals first|assumption|exact h10_4
end Go.Abs

import Derived.Test.YtdmamdnkcefmmaaGreatDoorKTi
import Derived.JoinedOf
set_option linter.unusedSimpArgs false
set_option linter.unusedVariables false
set_option linter.unusedSectionVars false
set_option maxRecDepth 100000
namespace Go.Proofs.YtdmamdnkcefmmaaGreatDoor
theorem zEB:F6 tP [31,55,28,3,26,46,4,44,88]=true:=by kernel_rfl
theorem zBG(n:Nat)(l:List AV)(h:vQ tP n 44 l):∃r:List Nat,l=[.sl (tX r) .none]∧∀x∈r,x<4294967296:=by
 obtain⟨es,n1,_,gm,_,ja⟩:=Ce Tryz.underlying44 h;have hx:∀c∈es,∃x:{x:Nat // x<4294967296},c=[AV.int .u32 (x.1:Int)]:=λc hc=>by
  obtain⟨m,hm,hw⟩:=F7 Tryz.underlying88 (ja c hc);have pn:(0:Int)≤m∧m≤4294967295:=by simpa[Lit.wf,IntKind.min,IntKind.max,IntKind.signed,IntKind.bits]using hw
  have h0:=pn.1;refine⟨⟨m.toNat,by omega⟩,?_⟩;rw[hm];simp[Int.toNat_of_nonneg h0]
 obtain⟨xs,kV⟩:=AY (cs:=λx:{x:Nat // x<4294967296}=>[AV.int .u32 (x.1:Int)]) hx;refine⟨xs.map Subtype.val,?_,λx hx=>?_⟩
 ·rw[gm,kV];simp[tX]
 ·obtain⟨y,_,rfl⟩:=List.mem_map.1 hx;exact y.2
def DK(r:Raw):Prop:=(∀x∈r.ns,x<4294967296)∧∀x∈r.ds,x<4294967296
theorem zNv(n:Nat)(l:List AV)(h:vQ tP n 46 l):∃r:Raw,l=r.cs∧DK r:=by
 obtain⟨n',hn,hl,hf⟩:=DJ Tryz.underlying46 h;have hc:tP.cellsOf 46=3:=by kernel_rfl
 have kB:tP.cellsOf 4=1:=by kernel_rfl
 have hc44:tP.cellsOf 44=1:=by kernel_rfl
 rw[hc]at hl
 match l,hl with
 |[a,b,c],_=>simp[kB,hc44]at hf;obtain⟨h1,h2,h3⟩:=hf;obtain⟨g,hg⟩:=zPM Tryz.underlying4 h1;obtain⟨ns,gx,ig⟩:=zBG n' _ h2;obtain⟨ds,kS,sF⟩:=zBG n' _ h3;simp at hg gx kS;exact⟨⟨g,ns,ds⟩,by simp[Raw.cs,hg,gx,kS],ig,sF⟩
theorem zP3(n:Nat)(l:List AV)(h:vQ tP n 55 l):∃p:{p:IT×Raw // DK p.2},l=twC p.1:=by
 obtain⟨n',hn,hl,hf⟩:=DJ Tryz.underlying55 h;have hc:tP.cellsOf 55=5:=by kernel_rfl
 have hc28:tP.cellsOf 28=2:=by kernel_rfl
 have hc46:tP.cellsOf 46=3:=by kernel_rfl
 rw[hc]at hl
 match l,hl with
 |[a,b,c,d,e],_=>simp[hc28,hc46]at hf;obtain⟨h1,h2⟩:=hf;obtain⟨i,hi⟩:=zMd n' _ h1;obtain⟨r,hr,hw⟩:=zNv n' _ h2;refine⟨⟨(i,r),hw⟩,?_⟩;show _=i.cs++r.cs;rw[←hi,←hr];rfl
theorem zEC(n:Nat)(a:AV)(h:vQ tP n 31 [a]):∃x:{l:List (IT×Raw) // ∀p∈l,DK p.2},a=.sl (twS x.1) .none:=by
 obtain⟨es,n1,_,gm,_,ja⟩:=Ce Tryz.underlying31 h;obtain⟨xs,kV⟩:=AY (cs:=λp:{p:IT×Raw // DK p.2}=>twC p.1) (λc hc=>zP3 n1 c (ja c hc));simp at gm;refine⟨⟨xs.map Subtype.val,λp hp=>?_⟩,?_⟩
 ·obtain⟨y,_,rfl⟩:=List.mem_map.1 hp;exact y.2
 ·rw[gm,kV];simp[twS,Function.comp_def]
def jt0(P:Program)(f:FuncId)(fn:Func)(s:ChangeSpec)(c:OpenClaim):Bool:=c.wf (OpenSpec.ofChange s) && laidOutB P && mapsRowed P
def jt1(P:Program)(f:FuncId)(fn:Func)(s:ChangeSpec)(c:OpenClaim):Bool:=fn.params.all (P.readableRec ·) && namedTie P c.named s.vars
def jt2(P:Program)(f:FuncId)(fn:Func)(s:ChangeSpec)(c:OpenClaim):Bool:=(c.stops == []) && (P.stops == []) && (c.knobs == []) && (P.stopKnobs == [])
def jt3(P:Program)(f:FuncId)(fn:Func)(s:ChangeSpec)(c:OpenClaim):Bool:=(c.inPlace == P.inPlace f)
def jt4(P:Program)(f:FuncId)(fn:Func)(s:ChangeSpec)(c:OpenClaim):Bool:=(c.unfollowed == P.unfollowed f)
def jt5(P:Program)(f:FuncId)(fn:Func)(s:ChangeSpec)(c:OpenClaim):Bool:=(c.recurses == P.recurses f)
def jt6(P:Program)(f:FuncId)(fn:Func)(s:ChangeSpec)(c:OpenClaim):Bool:=(c.named == P.varsNamed f)
def jt7(P:Program)(f:FuncId)(fn:Func)(s:ChangeSpec)(c:OpenClaim):Bool:=(c.maps == (fn.params.toList++s.plain.varTypes P).any (P.mapsRec ·)) && (c.ifaces == (fn.params.toList++s.plain.varTypes P).any (P.ifacesRec ·)) && (c.mapsOut == P.mapsAmong fn.resultTypes.toList)
def jt8(P:Program)(f:FuncId)(fn:Func)(s:ChangeSpec)(c:OpenClaim):Bool:=(c.loops == (fn.params.toList++s.plain.varTypes P).any (P.loopsFrom ·)) && (c.wideKeys == (fn.params.toList++s.plain.varTypes P++fn.resultTypes.toList).any (P.wideKeysFrom ·))
def jt9(P:Program)(f:FuncId)(fn:Func)(s:ChangeSpec)(c:OpenClaim):Bool:=s.vars.all (P.varReadable ·) && fn.resultTypes.all (λt=>P.readableRec t && decide (t<P.types.size)) && (c.ifacesOut == fn.resultTypes.toList.any (P.ifacesRec ·)) && (c.loopsOut == fn.resultTypes.toList.any (P.loopsFrom ·)) && (c.plainKeys == P.plainKeys) && c.shortTexts.isNone
def Us(P:Program)(f:FuncId)(fn:Func)(s:ChangeSpec)(c:OpenClaim):Bool:=P.stopsHeard && P.mayEnter && (c.lifted == P.liftsFinal) && (P.make == some c.make) && (c.kinds == (if c.domain.isEmpty then [] else fn.params.toList.map λt=>match P.underlying t with|some (.int k)=>some k|_=>none)) && (c.pinned == c.pinnedBy)
def Ut(P:Program)(f:FuncId)(fn:Func)(s:ChangeSpec)(c:OpenClaim):Bool:=(c.veiled == (fn.params.toList++s.plain.varTypes P++fn.resultTypes.toList).any (P.veiledRec ·)) && c.veiledFits P fn.params.toList (fn.params.toList++s.plain.varTypes P++fn.resultTypes.toList)
theorem zMe(P:Program)(f:FuncId)(fn:Func)(s:ChangeSpec)(c:OpenClaim)(h0:jt0 P f fn s c=true)(h1:jt1 P f fn s c=true)(h2:jt2 P f fn s c=true)(h3:jt3 P f fn s c=true)(h4:jt4 P f fn s c=true)(h5:jt5 P f fn s c=true)(h6:jt6 P f fn s c=true)(h7:jt7 P f fn s c=true)(h8:jt8 P f fn s c=true)(h9:jt9 P f fn s c=true)(kR:Us P f fn s c=true)(h11:Ut P f fn s c=true):joinedFacts P f fn s c=true:=by
 simp only[jt0,jt1,jt2,jt3,jt4,jt5,jt6,jt7,jt8,jt9,Us,Ut,Bool.and_eq_true]at h0 h1 h2 h3 h4 h5 h6 h7 h8 h9 kR h11;obtain⟨⟨h0_0,h0_1⟩,h0_2⟩:=h0;obtain⟨h1_0,h1_1⟩:=h1;obtain⟨⟨⟨h2_0,h2_1⟩,h2_2⟩,h2_3⟩:=h2;obtain⟨⟨h7_0,h7_1⟩,h7_2⟩:=h7;obtain⟨h8_0,h8_1⟩:=h8;obtain⟨⟨⟨⟨⟨h9_0,h9_1⟩,h9_2⟩,h9_3⟩,h9_4⟩,h9_5⟩:=h9;obtain⟨⟨⟨⟨⟨h10_0,h10_1⟩,h10_2⟩,h10_3⟩,h10_4⟩,h10_5⟩:=kR;obtain⟨h11_0,h11_1⟩:=h11;simp only[joinedFacts,Bool.and_eq_true]
 and_intros
 all_goals first|assumption|exact h10_4
end Go.Proofs.YtdmamdnkcefmmaaGreatDoor

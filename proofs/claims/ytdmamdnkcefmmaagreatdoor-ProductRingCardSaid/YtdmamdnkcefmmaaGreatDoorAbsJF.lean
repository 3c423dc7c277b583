import Derived.KernelRfl
import Derived.JoinedOf
set_option linter.unusedSimpArgs false
set_option linter.unusedVariables false
set_option maxRecDepth 8000
namespace Go.Proofs.YtdmamdnkcefmmaaGreatDoor
def jt0(P:Program)(f:FuncId)(fn:Func)(s:ChangeSpec)(c:OpenClaim):Bool:=c.wf (OpenSpec.ofChange s) && laidOutB P && mapsRowed P
def jt1(P:Program)(f:FuncId)(fn:Func)(s:ChangeSpec)(c:OpenClaim):Bool:=fn.params.all (P.readableRec ·) && namedTie P c.named s.vars
def jt2(P:Program)(f:FuncId)(fn:Func)(s:ChangeSpec)(c:OpenClaim):Bool:=(c.stops == []) && (P.stops == []) && (c.knobs == []) && (P.stopKnobs == [])
def jt3(P:Program)(f:FuncId)(fn:Func)(s:ChangeSpec)(c:OpenClaim):Bool:=(c.inPlace == P.inPlace f)
def jt4(P:Program)(f:FuncId)(fn:Func)(s:ChangeSpec)(c:OpenClaim):Bool:=(c.unfollowed == P.unfollowed f)
def jt5(P:Program)(f:FuncId)(fn:Func)(s:ChangeSpec)(c:OpenClaim):Bool:=(c.recurses == P.recurses f)
def jt6(P:Program)(f:FuncId)(fn:Func)(s:ChangeSpec)(c:OpenClaim):Bool:=(c.named == P.varsNamed f)
def jt7(P:Program)(f:FuncId)(fn:Func)(s:ChangeSpec)(c:OpenClaim):Bool:=(c.maps == (fn.params.toList++s.plain.varTypes P).any (P.mapsRec ·)) && (c.ifaces == (fn.params.toList++s.plain.varTypes P).any (P.ifacesRec ·)) && (c.mapsOut == P.mapsAmong fn.resultTypes.toList)
def jt8(P:Program)(f:FuncId)(fn:Func)(s:ChangeSpec)(c:OpenClaim):Bool:=(c.loops == (fn.params.toList++s.plain.varTypes P).any (P.loopsFrom ·)) && (c.wideKeys == (fn.params.toList++s.plain.varTypes P++fn.resultTypes.toList).any (P.wideKeysFrom ·))
def jt9(P:Program)(f:FuncId)(fn:Func)(s:ChangeSpec)(c:OpenClaim):Bool:=s.vars.all (P.varReadable ·) && fn.resultTypes.all (λt=>P.readableRec t && decide (t<P.types.size)) && (c.ifacesOut == fn.resultTypes.toList.any (P.ifacesRec ·)) && (c.loopsOut == fn.resultTypes.toList.any (P.loopsFrom ·)) && (c.plainKeys == P.plainKeys) && c.shortTexts.isNone
def zpc(P:Program)(f:FuncId)(fn:Func)(s:ChangeSpec)(c:OpenClaim):Bool:=P.stopsHeard && P.mayEnter && (c.lifted == P.liftsFinal) && (P.make == some c.make) && (c.kinds == (if c.domain.isEmpty then [] else fn.params.toList.map λt=>match P.underlying t with|some (.int k)=>some k|_=>none)) && (c.pinned == c.pinnedBy)
def zpd(P:Program)(f:FuncId)(fn:Func)(s:ChangeSpec)(c:OpenClaim):Bool:=(c.veiled == (fn.params.toList++s.plain.varTypes P++fn.resultTypes.toList).any (P.veiledRec ·)) && c.veiledFits P fn.params.toList (fn.params.toList++s.plain.varTypes P++fn.resultTypes.toList)
theorem zGb(P:Program)(f:FuncId)(fn:Func)(s:ChangeSpec)(c:OpenClaim)(h0:jt0 P f fn s c=true)(h1:jt1 P f fn s c=true)(h2:jt2 P f fn s c=true)(h3:jt3 P f fn s c=true)(h4:jt4 P f fn s c=true)(h5:jt5 P f fn s c=true)(h6:jt6 P f fn s c=true)(h7:jt7 P f fn s c=true)(h8:jt8 P f fn s c=true)(h9:jt9 P f fn s c=true)(jr:zpc P f fn s c=true)(h11:zpd P f fn s c=true):joinedFacts P f fn s c=true:=by
 simp only[jt0,jt1,jt2,jt3,jt4,jt5,jt6,jt7,jt8,jt9,zpc,zpd,Bool.and_eq_true]at h0 h1 h2 h3 h4 h5 h6 h7 h8 h9 jr h11;obtain⟨⟨h0_0,h0_1⟩,h0_2⟩:=h0;obtain⟨h1_0,h1_1⟩:=h1;obtain⟨⟨⟨h2_0,h2_1⟩,h2_2⟩,h2_3⟩:=h2;obtain⟨⟨h7_0,h7_1⟩,h7_2⟩:=h7;obtain⟨h8_0,h8_1⟩:=h8;obtain⟨⟨⟨⟨⟨h9_0,h9_1⟩,h9_2⟩,h9_3⟩,h9_4⟩,h9_5⟩:=h9;obtain⟨⟨⟨⟨⟨h10_0,h10_1⟩,h10_2⟩,h10_3⟩,h10_4⟩,h10_5⟩:=jr;obtain⟨h11_0,h11_1⟩:=h11;simp only[joinedFacts,Bool.and_eq_true]
 and_intros
 all_goals first|assumption|exact h10_4
end Go.Proofs.YtdmamdnkcefmmaaGreatDoor

import Derived.Test.YtdmamdnkcefmmaaGreatDoorKNum
import Derived.Test.YtdmamdnkcefmmaaGreatDoorProg
import Derived.KernelRfl
import Derived.Test.YtdmamdnkcefmmaaGreatDoorKI2
import Derived.Test.YtdmamdnkcefmmaaGreatDoorKOH
import Derived.Test.YtdmamdnkcefmmaaGreatDoorKPW
set_option linter.unusedSimpArgs false
set_option linter.unusedVariables false
set_option maxRecDepth 100000
namespace Go.Proofs.YtdmamdnkcefmmaaGreatDoor
section
variable (t0 t1 t2 t3 t9 t10 t11 t12 t14 t20 t21 t22 t27 t28 t29 t43 t44 t45:AV) (H:zaa) (K:Kt) (Kb3 Kb7:Lt)
def zev:Nat→List Bool|3=>rl false [0,1,1,2,5,1,10,3,47]|7=>rl false [0,1,1,2,6,3,7,3,4,3,40]|10=>rl false [0,1,1,2,6,3,1,1,5,3,4,3,13,3,24]|200012=>rl false [0,2]|_=>[]
noncomputable def zwF:=Tryz.f78.body.getD .skip
noncomputable def zYU:=Tryz.f78.results.toList
def zjm:=t0::ux 1 (t2::t3::ux 5 (t9::ux 10 (t20::t21::t22::ux 47 [])))
def zGf:=zev 3
noncomputable def zwG:=zar [1,1,0,1,0,0] zwF
def zGb:=zas tP zev [1,1,0,1,0] zwF (zaB tP zYU K)
def zGe:=ALoop tP zwG (zGb K) (zjm t0 t2 t3 t9 t20 t21 t22) H
def zpf:=t0::ux 1 (t2::t3::ux 6 (t10::t11::t12::ux 7 (t20::t21::t22::ux 4 (t27::t28::t29::ux 40 []))))
def zGg:=zev 7
noncomputable def zwH:=zar [1,1,0,0,1,1,0,1,0,0] zwG
def zGc:=zas tP zev [1,1,0,0,1,1,0,1,0] zwG (zbC zGf Kb3 (zGb K))
def zpg:=ALoop tP zwH (zGc K Kb3) (zpf t0 t2 t3 t10 t11 t12 t20 t21 t22 t27 t28 t29) H
def zjl:=t0::ux 1 (t2::t3::ux 6 (t10::t11::t12::ux 1 (t14::ux 5 (t20::t21::t22::ux 4 (t27::t28::t29::ux 13 (t43::t44::t45::ux 24 []))))))
def zYS:=zev 10
noncomputable def zYO:=zar [1,1,0,0,1,1,0,0] zwH
def zYN:=zas tP zev [1,1,0,0,1,1,0] zwH (zbC zGg Kb7 (zGc K Kb3))
def zGd:=ALoop tP zYO (zYN K Kb3 Kb7) (zjl t0 t2 t3 t10 t11 t12 t14 t20 t21 t22 t27 t28 t29 t43 t44 t45) H
def zwC(t0 t2 t3 t10 t11 t12 t14 t20 t21 t22 t27 t28 t29 t43 t44 t45:AV)(H:zaa)(K:Kt)(Kb3:Lt)(Kb7:Lt)(Kb10:Lt):Prop:=zac .lss false t45 t44 λt46=>zag t46 (zak 5 t43 t45 λt47=>zae true 5 t47 H λt48=>zaz [(.int .i64 0),.snil,(.bool false),.snil,.snil] H λt16 H=>zan 5 t16 t48 H λH=>apm H t12 λt49=>apu H (zaf 0 t14) λt50=>apu H (zaj false 1 t50 H) λt51=>zdT .g true H (λK'=>ACalls tP zrd [t51] H K') λt52 H=>apu H (zaf 0 t16) λt53=>apu H (zaj true 2 t53 H) λt54=>apu H (zaw 2 [(.int .i64 0),.snil] 1 [(0,t54)]) λt55=>zdT .g false H (λK'=>zax zaY 2 32 t52 t55 H K') λt56 H=>apu H (zaf 1 t14) λt57=>apu H (zaj true 3 t57 H) λt58=>apu H (zaf 2 t16) λt59=>apu H (zaj true 3 t59 H) λt60=>zdT .g true H (λK'=>ACalls tP zfj [t58,t60] H K') λt61 H=>apu H (zaq [.snil,(.bool false),.snil,.snil] [(0,1),(1,3)] [(0,t56),(1,t61)]) λt62=>apu H (zaw 4 [.snil,(.bool false),.snil,.snil] 1 [(0,t62)]) λt63=>zdT .g false H (λK'=>zax zbE 4 80 t49 t63 H K') λt64 H=>apm H t64 λt12=>zac .add false t45 (.int .i64 1) λt65=>Kb10 (zjl t0 t2 t3 t10 t11 t12 t14 t20 t21 t22 t27 t28 t29 t43 t44 t65) H) (zac .add false t29 (.int .i64 1) λt66=>Kb7 (zpf t0 t2 t3 t10 t11 t12 t20 t21 t22 t27 t28 t66) H)
def zwE:=zac .lss false t29 t28 λt30=>zag t30 (zak 4 t27 t29 λt31=>zae true 4 t31 H λt32=>zaz [.snil,(.bool false),.snil,.snil] H λt14 H=>zan 4 t14 t32 H λH=>apm H t0 λt33=>apu H (zaj true 3 t11 H) λt34=>apm H t2 λt35=>apm H t10 λt36=>apu H (zak 2 t35 t36) λt37=>apu H (zaj true 2 t37 H) λt38=>apm H t3 λt39=>apm H t10 λt40=>apu H (zak 2 t39 t40) λt41=>apu H (zaj true 2 t41 H) λt42=>zaC H (λH K'=>ACalls tP zio [t33,t34,t38,t42] H K') λt43=>apu H (zah 1 t43) λt44=>apm H (.int .i64 0) λt45=>zGd t0 t2 t3 t10 t11 t12 t14 t20 t21 t22 t27 t28 t29 t43 t44 t45 H K Kb3 Kb7) (zac .add false t22 (.int .i64 1) λt68=>Kb3 (zjm t0 t2 t3 t12 t20 t21 t68) H)
def zwD:=zac .lss false t22 t21 λt23=>zag t23 (zak 3 t20 t22 λt25=>zae true 3 t25 H λt26=>zaz [(.int .i64 0),(.int .i64 0),.snil] H λt11 H=>zan 3 t11 t26 H λH=>zah 1 t9 λt28=>zpg t0 t2 t3 t22 t11 .snil t20 t21 t22 t9 t28 (.int .i64 0) H K Kb3) (K t9 H)
def zGa:=ACalls tP zdv [(.int .i64 1)] H λt17 H=>zaq [.snil,(.bool false),.snil,.snil] [(0,1),(1,3)] [(1,t17)] λt18=>zaw 4 [.snil,(.bool false),.snil,.snil] 1 [(0,t18)] λt19=>zah 1 t1 λt21=>zGe t0 t2 t3 t19 t1 t21 (.int .i64 0) H K
variable {t0 t1 t2 t3 t9 t10 t11 t12 t14 t20 t21 t22 t27 t28 t29 t43 t44 t45} {H} {K} {Kb3 Kb7}
theorem zYP:Lo2 (λt12 t45=>zjl t0 t2 t3 t10 t11 t12 t14 t20 t21 t22 t27 t28 t29 t43 t44 t45) (λt12 t45 H Kb10=>zwC t0 t2 t3 t10 t11 t12 t14 t20 t21 t22 t27 t28 t29 t43 t44 t45 H K Kb3 Kb7 Kb10) t12 t45 H (zGd t0 t2 t3 t10 t11 t12 t14 t20 t21 t22 t27 t28 t29 t43 t44 t45 H K Kb3 Kb7):=lq2 zev zYS
theorem zYR:Lo2 (λt12 t29=>zpf t0 t2 t3 t10 t11 t12 t20 t21 t22 t27 t28 t29) (λt12 t29 H Kb7=>zwE t0 t2 t3 t10 t11 t12 t20 t21 t22 t27 t28 t29 H K Kb3 Kb7) t12 t29 H (zpg t0 t2 t3 t10 t11 t12 t20 t21 t22 t27 t28 t29 H K Kb3):=lq2 zev zGg
theorem zYQ:Lo2 (λt9 t22=>zjm t0 t2 t3 t9 t20 t21 t22) (λt9 t22 H Kb3=>zwD t0 t2 t3 t9 t20 t21 t22 H K Kb3) t9 t22 H (zGe t0 t2 t3 t9 t20 t21 t22 H K):=lq2 zev zGf
theorem zYT(h:HSc H→zGa t0 t1 t2 t3 H K):ACalls tP zkK [t0,t1,t2,t3] H K:=
 acb zev Tryz.func78 zwF h
end
theorem ACalls.snilFull{P:Program}{f:FuncId}{us:List AV}{H:zaa}{K:AV→zaa→Prop}(h:ACalls P f us H λr H'=>(r=.snil∧K (.sl [] .full) H')∨K r H'):ACalls P f us H K:=by
 intro B w G vs hH hv;refine(h B w G vs hH hv).mono λe w' ⟨v,r,H',G',h1,h2,h3,h4,h5⟩=>?_;rcases h5 with ⟨rfl,hk⟩|hk
 ·refine⟨v,.sl [] .full,H',G',h1,h2,h3,?_,hk⟩;have:v=.slice none 0 0:=h4;subst this;exact⟨.slE _ _,_,rfl⟩
 ·exact⟨v,r,H',G',h1,h2,h3,h4,hk⟩
theorem zym(r:List IT)(hr:r.length≤1000000)(H:zaa)(K:Kt)(h0:r=[]→K (.sl [] .full) H)(h1:r≠[]→K (.sl (IT.css r) (.own H.length)) (H++[.perm zaY 2 r.length])):
  ACalls tP zrd [.sl (IT.css r) .none] H K:=by
 refine ACalls.snilFull (zOc λhs=>?_);cases r with
 |nil=>simp[zty,IT.css,zhx,zgI,zaw,zaR,plain,AV.pd,zax,zaM,zaK];exact⟨.inl (h0 rfl),h0 rfl⟩
 |cons x r=>have:=h1 (by simp);simp[zty,IT.css,zhx,zgI,zaw,zaR,plain,AV.pd,zax,zaM,zaK];simp only[List.length_cons]at hr;refine⟨λc hc=>?_,⟨by omega,by omega⟩,by simpa[IT.css]using this⟩;rw[IT.css_map]at hc;obtain⟨v,_,rfl⟩:=aA.1 hc;simp
theorem zhv{H:zaa}{g:Bool}{p:(AV→zaa→Prop)→Prop}{k:AV→zaa→Prop}(r:AV)(H':zaa)(h:p λv H2=>v=r∧H2=H')(hg:GrowA H H')(hk:k r H'):zdT .g g H p k:=⟨r,H',h,λ_=>hg,hk⟩
theorem zp1{H:zaa}{g:Bool}{p:(AV→zaa→Prop)→Prop}{k:AV→zaa→Prop}(r:AV)(h:p λv H2=>v=r∧H2=H)(hk:k r H):zdT .g g H p k:=⟨r,H,h,λ_=>.inl rfl,hk⟩
def zpX(d7:List Dat)(f:Nat):Prop:=∀ (t:VT) (i j:IT),i.nodes+j.nodes≤f→t.nodes≤1000→za0 d7 0 t=true→0≤rdV d7 i t→0≤rdV d7 j t→rdV d7 i t+rdV d7 j t≤6→i.nodes+j.nodes≤300 →
 ∀(H:zaa) (K:Kt),K (.sl (zaG (zaT d7 f t i j)) .none) H→ACalls tP zio [.sl (d7.map Dat.cs) .none,.agg t.cs,.agg i.cs,.agg j.cs] H K
def zjz(d7:List Dat)(f:Nat):Prop:=∀ (ts:List VT) (l m:List IT),IT.nodesL l+IT.nodesL m+1≤f→l.length=ts.length→m.length=ts.length→ts.length≤1000→(∀ x∈ts,x.nodes≤1000∧za0 d7 0 x=true)→0≤rdA d7 l ts 0→0≤rdA d7 m ts 0→rdA d7 l ts 0+rdA d7 m ts 0≤6→IT.nodesL l+IT.nodesL m≤300 →
 ∀(H:zaa) (K:Kt),K (.sl (zaL (zcs d7 f ts l m)) .none) H→ACalls tP zkK [.sl (d7.map Dat.cs) .none,.sl (VT.css ts) .none,.sl (IT.css l) .none,.sl (IT.css m) .none] H K
def zjx(d7:List Dat)(f:Nat):Prop:=∀ (t:VT) (l m:List IT),IT.nodesL l+IT.nodesL m+1≤f→t.nodes≤1000→za0 d7 0 t=true→t.kind=5→0≤rdE d7 l t 0→0≤rdE d7 m t 0→rdE d7 l t 0+rdE d7 m t 0≤6→IT.nodesL l+IT.nodesL m≤300 →
 ∀(H:zaa) (K:Kt),K (.sl (zaL (zaW d7 f t l m)) .none) H→ACalls tP zgT [.sl (d7.map Dat.cs) .none,.agg t.cs,.sl (IT.css l) .none,.sl (IT.css m) .none] H K
theorem zKd{d7:List Dat}(h8:∀ D∈d7,D.cons.length≤8){f:Nat}{ts:List VT}{l m:List IT}(hf:IT.nodesL l+IT.nodesL m≤f)(hl:l.length=ts.length)(hm:m.length=ts.length)(hA:0≤rdA d7 l ts 0)(hB:0≤rdA d7 m ts 0)(h6:rdA d7 l ts 0+rdA d7 m ts 0≤6)(k:Nat)(hk:k≤ts.length):
  (∀r∈zct d7 f ts l m k,0<r.2∧r.2≤729∧r.1.length≤IT.nodesL l+IT.nodesL m)∧(zct d7 f ts l m k).length≤729:=by
 have hb:=zAx (f:=f) h8 hf hl hm hA hB h6 k hk;have hp:=zsj (zg0 d7 f).1 ts l m k;have hs:∀g:List IT→Nat,zat g (zct d7 f ts l m k)=zat g (zb5 d7 f ts l m k):=λg=>zsk (zf8 d7 f).1 ts l m k g;have a1:=zck l ts 0 k hl (by omega) hA;have b1:=zck m ts 0 k hm (by omega) hB;have n1:=IT.nodesL_take_le l k;have n2:=IT.nodesL_take_le m k;have hN:zat (λ_=>1) (zct d7 f ts l m k)≤729:=by obtain⟨h1,h2⟩:=(zcC h8 (f+1)).2.1 (ts.take k) (l.take k) (m.take k) (by omega) (by simp;omega) (by simp;omega) a1.1 b1.1 (by omega);have e:=zAz (d7:=d7) (f:=f) (ts:=ts) (l:=l) (m:=m) (k:=k) k (ac _);rw[zh6,aT,bc hk,e]at h2;rw[hs];exact ap h2 (zcS (by omega))
 refine⟨λr hr=>?_,ap (zfN hp) hN⟩;obtain⟨q,hq,he⟩:=zdY hs hr (hp r hr);have h1:=zdX (λ_=>1) hr;rw[bl]at h1;obtain⟨_,_,h2⟩:=hb.1 q hq;rw[he]at h2;have h3:=IT.len_le r.1;exact⟨hp r hr,by omega,by omega⟩
theorem zLt{out:List (List IT×Nat)}{ws:List (IT×Nat)}{j:Nat}(h:j<out.length):zbV (out.take (j+1)) ws=zbV (out.take j) ws++ws.map λw=>(out[j].1++[w.1],out[j].2*w.2):=by rw[ae h];simp only[zbV,bm,aZ,bZ,aG]
theorem zA0(ws:List (IT × Nat)):∀ out:List (List IT × Nat),(zbV out ws).length=out.length*ws.length
 |[]=>by simp[zbV]
 |r::out=>by have:=zA0 ws out;unfold zbV at this ⊢;rw[aZ,aw,this,bR,List.length_cons,bI];omega
theorem zKh{d7:List Dat}(h8:∀D∈d7,D.cons.length≤8){f:Nat}(hM:zpX d7 f):zjz d7 (f+1):=by
 intro ts l m hf hl hm qO gE hA hB h6 hn H K hK;rw[zfX]at hK;refine ACalls.out (zYT λhs=>?_);simp[zGa,aa];refine zeu 1 (by omega) _ _ ?_;simp[zaq,zaJ,zaw,zaR,plain,AV.pd,AV.known,zcR,aa];have iA:([AV.sl [] .none::zai 1]:List (List AV))=zaL (zct d7 f ts l m 0):=by simp[ziH,zaL,IT.css]
 rw[iA];refine zYQ (Inv:=λq t9 t22 H'=>∃(k:Nat) (J:zaa) (tok:Tok),k≤ts.length∧ts.length-k=q∧t22=.int .i64 k∧t9=.sl (zaL (zct d7 f ts l m k)) tok∧H'=H++J) ts.length ?_ ?_
 ·intro _;exact⟨0,[],.full,by omega,rfl,rfl,rfl,by simp⟩
 ·rintro q t9 t22 H' ⟨k,J,tok,hk,rfl,rfl,rfl,rfl⟩ eE ek eK Kb eq;have lJ:=zKd (f:=f) h8 (by omega) hl hm hA hB h6 k hk;obtain⟨out,fb⟩:∃ out,out=zct d7 f ts l m k:=⟨_,rfl⟩;rw[←fb]at lJ eK ⊢;obtain⟨b1,b2⟩:=lJ;by_cases ei:k<ts.length
  ·have h3:k<l.length:=by omega
   have h4:k<m.length:=by omega
   obtain⟨x1,x2,x3,ew,fJ,fc,fx⟩:=zbk ts[k];obtain⟨y1,y2,kv,hy1,jm⟩:=zci l[k];obtain⟨z1,z2,ph,qp,pg⟩:=zci m[k];have n1:=zc3 h3;have n2:=zc3 h4;have d1:=(zd3 (d7:=d7) l ts 0 (by omega) hl hA).1 k h3 ei;have d2:=(zd3 (d7:=d7) m ts 0 (by omega) hm hB).1 k h4 ei;have a1:=zck l ts 0 k hl (by omega) hA;have a2:=zck l ts 0 (k+1) hl (by omega) hA;have c1:=zck m ts 0 k hm (by omega) hB;have c2:=zck m ts 0 (k+1) hm (by omega) hB;have sl:=zej (d7:=d7) l[k] ts[k] (l.take k) (ts.take k) 0 (by simp;omega) (by omega) a1.1;have sm:=zej (d7:=d7) m[k] ts[k] (m.take k) (ts.take k) 0 (by simp;omega) (by omega) c1.1;rw[←ae h3,←ae ei]at sl;rw[←ae h4,←ae ei]at sm;have dd:rdV d7 l[k] ts[k]+rdV d7 m[k] ts[k]≤6:=by
    by_cases cl:rdV d7 l[k] ts[k]<0∨rdA d7 (l.take k) (ts.take k) 0+rdV d7 l[k] ts[k]>6
    ·rw[az cl]at sl;omega
    ·rw[au cl]at sl;by_cases cm:rdV d7 m[k] ts[k]<0∨rdA d7 (m.take k) (ts.take k) 0+rdV d7 m[k] ts[k]>6
     ·rw[az cm]at sm;omega
     ·rw[au cm]at sm;omega
   obtain⟨jU,kU⟩:=gE _ (af ei);obtain⟨ws,ki⟩:∃ws,ws=zaT d7 f ts[k] l[k] m[k]:=⟨_,rfl⟩;obtain⟨p1,p2,p3,p4⟩:=zjG h8 (f:=f) (t:=ts[k]) (i:=l[k]) (j:=m[k]) (by omega) d1 d2 dd;rw[←ki]at p1 p2 p3 p4;have eV:zct d7 f ts l m (k+1)=zbV out ws:=by rw[zg4,←fb];simp[List.getD_eq_getElem?_getD,ei,h3,h4,ki]
   generalize qP:H++J=HB at *;simp[zwD,ei,ew];rw[←ew];refine⟨⟨fJ,fc,fx⟩,?_⟩;unfold zpg;refine ALoop.own 12 zbE 4 rfl ?_;have i9:(HB++[AB.cells ts[k].cs]).length=HB.length+1:=by simp
   rw[i9,aq];show zpg _ _ _ _ _ (.sl (zaL (zbV (out.take 0) ws)) (.own (HB.length+1))) _ _ _ _ _ _ (HB++[.cells ts[k].cs,.perm zbE 4 0]) _ _;have htc:∀n,ts[k].cs.all (AV.scA n)=true:=λn=>by obtain⟨v1,v2,v3⟩:=ts[k];simp[VT.cs,AV.scA,AV.scB]
   have pi:∀n,HSc (HB++[.cells ts[k].cs,.perm zbE 4 n]):=λn=>eE.append (by simp only[AB.sc,List.all_cons,List.all_nil,htc];rfl);have jM:∀J,(AV.sl (zaL out) tok).sc (HB++J).length=true:=λJ=>by
    have h0:(AV.sl (zaL out) tok).sc HB.length=true:=by rw[am]at eK;exact eK _ (by simp[zjm,ux])
    exact zcu (by simp) h0
   refine zYR (Inv:=λq t12 t29 H'=>∃j:Nat,j≤out.length∧out.length-j=q∧t29=.int .i64 j∧t12=.sl (zaL (zbV (out.take j) ws)) (.own (HB.length+1))∧H'=HB++[.cells ts[k].cs,.perm zbE 4 (zbV (out.take j) ws).length]) out.length ?_ ?_
   ·intro _;exact⟨0,by omega,rfl,rfl,rfl,by simp[zbV]⟩
   ·rintro q t12 t29 H' ⟨j,hj,rfl,rfl,rfl,rfl⟩ hsc7 hlen7 hsF7 Kb7 lK;have gN:(zbV (out.take j) ws).length≤729*729:=by rw[zA0];exact bf (by simp;omega) p4
    by_cases eI:j<out.length
    ·obtain⟨r1,r2,r3⟩:=b1 out[j] (af eI);have ep:=zLt (ws:=ws) eI;simp[zwE,eI,h3,h4,ew,kv,ph];rw[←ew,←kv,←ph];refine zaD (.sl (zaG ws) .none) (λJ=>by rw[ki];exact hM ts[k] l[k] m[k] (by omega) jU kU d1 d2 dd (by omega) _ _ ⟨rfl,rfl⟩) ?_;simp;obtain⟨ee,gq⟩:∃ ee,ee=zbV (out.take j) ws:=⟨_,rfl⟩;rw[←gq]at gN ep ⊢;obtain⟨g,hg⟩:∃ g:IT × Nat→List IT × Nat,g=λw=>(out[j].1++[w.1],out[j].2*w.2):=⟨_,rfl⟩;rw[←hg]at ep;have pm:(AV.sl (IT.css out[j].1) .none::zai (out[j].2:Int)).length=4:=by simp
     have mN:∀n,HSc (HB++[.cells ts[k].cs,.perm zbE 4 n,.cells (.sl (IT.css out[j].1) .none::zai (out[j].2:Int))]):=λn=>eE.append (by simp only[AB.sc,List.all_cons,List.all_nil,htc];simp[zai,AV.scA,AV.scB]);refine zYP (Inv:=λq t12 t45 H'=>∃i:Nat,i≤ws.length∧ws.length-i=q∧t45=.int .i64 i∧t12=.sl (zaL (ee++(ws.take i).map g)) (.own (HB.length+1))∧H'=HB++[.cells ts[k].cs,.perm zbE 4 (ee.length+i),.cells (.sl (IT.css out[j].1) .none::zai (out[j].2:Int))]) ws.length ?_ ?_
     ·intro _;exact⟨0,by omega,rfl,rfl,by simp,rfl⟩
     ·rintro q t12 t45 H' ⟨i,hi,rfl,rfl,rfl,rfl⟩ lL fZ hsF10 Kb10 iE;have iq:(ee++(ws.take i).map g).length=ee.length+i:=by simp;omega
      by_cases fg:i<ws.length
      ·obtain⟨w1,w2,_⟩:=p1 ws[i] (af fg);have gH:ee++(ws.take (i+1)).map g=(ee++(ws.take i).map g)++[g ws[i]]:=by rw[ae fg];simp only[aK,aF,bx,aq]
       have kj:Sm (ws[i].2:Int):=zb0 (aD w2 (by decide));have iA:Sm (out[j].2:Int):=zb0 (aD r2 (by decide));simp[zwC,fg,zcU,zcm,zcn];refine⟨zcK _,?_⟩;have fh:=r3;have oZ:∀(a:List IT) (x:IT),IT.css a++[x.cs]=IT.css (a++[x]):=λa x=>by rw[IT.css_map,IT.css_map,aK];rfl
       have ib:∀(a:List IT),∀c∈IT.css a,c.length=2:=λa c hc=>by rw[IT.css_map]at hc;obtain⟨v,_,rfl⟩:=aA.1 hc;simp
       have pN:plain ([.int .i64 0,.snil]:List AV)=some [.int .i64 0,.sl [] .none]:=rfl;by_cases k0:out[j].1=[]
       ·refine zp1 (.sl [] .full) (zym _ (by omega) _ _ (λ_=>⟨rfl,rfl⟩) (λh=>absurd k0 h)) ?_;simp[zcm,zaw,zaR,pN,ziE];refine zhv (.sl (IT.css (out[j].1++[ws[i].1])) (.own (HB.length+4))) (HB++[.cells ts[k].cs,.perm zbE 4 (ee.length+i),.cells (.sl (IT.css out[j].1) .none::zai (out[j].2:Int)),.cells (tmC ws[i])]++[.perm zaY 2 (out[j].1.length+1)]) ?_ (.inr (.inl ⟨_,_,_,rfl⟩)) ?_
        ·simp[zax,zaM,zaK,k0,IT.css]
        ·simp[zcn];refine zp1 (.agg (zai ((out[j].2*ws[i].2:Nat):Int))) (zjk _ _ iA kj _ _ ⟨by rw[Int.natCast_mul],rfl⟩) ?_;have fe:plain (AV.sl (IT.css (out[j].1++[ws[i].1])) (.own (HB.length+4))::zai ((out[j].2*ws[i].2:Nat):Int))=some (.sl (IT.css (out[j].1++[ws[i].1])) .none::zai ((out[j].2*ws[i].2:Nat):Int)):=by simp[plain,AV.pd,zcR]
         have oG:plain ([.snil,.bool false,.snil,.snil]:List AV)=some [.sl [] .none,.bool false,.sl [] .none,.sl [] .none]:=rfl;have lM:zaL (ee++(ws.take i).map g)++[.sl (IT.css (out[j].1++[ws[i].1])) .none::zai ((out[j].2*ws[i].2:Nat):Int)]=zaL (ee++(ws.take (i+1)).map g):=by rw[gH,zlc _ [g ws[i]],hg];rfl
         rw[Int.natCast_mul]at fe lM;simp only[bC]at lM;simp[zaq,zaJ,fe,oG];have gp:min i ws.length=i:=by omega
         refine zhv (.sl (zaL (ee++List.take (i+1) (List.map g ws))) (.own (HB.length+1))) (HB++[.cells ts[k].cs,.perm zbE 4 (ee.length+(i+1)),.cells (.sl (IT.css out[j].1) .none::zai (out[j].2:Int)),.cells (tmC ws[i]),.perm zaY 2 (out[j].1.length+1)]) ?_ (.inr (.inr (.inl ⟨HB.length+1,zbE,4,ee.length+i,ee.length+(i+1),by simp,by simp[ah]⟩))) ?_
         ·simp[zax,zaM,zaK,ah,gp];exact⟨⟨by omega,by omega⟩,lM,by omega⟩
         ·rw[wi i (by omega)];exact iE _ _ ⟨ws.length-(i+1),by omega,Back.at (J:=[.cells (tmC ws[i]),.perm zaY 2 (out[j].1.length+1)]) (H2:=HB++[.cells ts[k].cs,.perm zbE 4 (ee.length+(i+1)),.cells (.sl (IT.css out[j].1) .none::zai (out[j].2:Int))]) (by simp) (by simp) (mN _) (by
           have:=jM [.cells ts[k].cs,.perm zbE 4 (ee.length+(i+1)),.cells (.sl (IT.css out[j].1) .none::zai (out[j].2:Int))];simp only[zjl,ux,List.all_cons,bb,cn,List.all_nil,this];simp[AV.sc,AV.scA,AV.scB,AV.scV]) ⟨_,_,rfl,i+1,by omega,rfl,rfl,by simp only[bC],rfl⟩⟩
       ·refine zhv (.sl (IT.css out[j].1) (.own (HB.length+4))) (HB++[.cells ts[k].cs,.perm zbE 4 (ee.length+i),.cells (.sl (IT.css out[j].1) .none::zai (out[j].2:Int)),.cells (tmC ws[i])]++[.perm zaY 2 out[j].1.length]) (zym _ (by omega) _ _ (λh=>absurd h k0) (λ_=>⟨by simp,by simp⟩)) (.inr (.inl ⟨_,_,_,rfl⟩)) ?_;simp[zcm,zaw,zaR,pN,ziE];refine zhv (.sl (IT.css (out[j].1++[ws[i].1])) (.own (HB.length+4))) (HB++[.cells ts[k].cs,.perm zbE 4 (ee.length+i),.cells (.sl (IT.css out[j].1) .none::zai (out[j].2:Int)),.cells (tmC ws[i])]++[.perm zaY 2 (out[j].1.length+1)]) ?_ (.inr (.inr (.inl ⟨HB.length+4,zaY,2,out[j].1.length,out[j].1.length+1,by simp,by simp[ah]⟩))) ?_
        ·simp[zax,zaM,zaK,ah,oZ];omega
        ·simp[zcn];refine zp1 (.agg (zai ((out[j].2*ws[i].2:Nat):Int))) (zjk _ _ iA kj _ _ ⟨by rw[Int.natCast_mul],rfl⟩) ?_;have fe:plain (AV.sl (IT.css (out[j].1++[ws[i].1])) (.own (HB.length+4))::zai ((out[j].2*ws[i].2:Nat):Int))=some (.sl (IT.css (out[j].1++[ws[i].1])) .none::zai ((out[j].2*ws[i].2:Nat):Int)):=by simp[plain,AV.pd,zcR]
         have oG:plain ([.snil,.bool false,.snil,.snil]:List AV)=some [.sl [] .none,.bool false,.sl [] .none,.sl [] .none]:=rfl;have lM:zaL (ee++(ws.take i).map g)++[.sl (IT.css (out[j].1++[ws[i].1])) .none::zai ((out[j].2*ws[i].2:Nat):Int)]=zaL (ee++(ws.take (i+1)).map g):=by rw[gH,zlc _ [g ws[i]],hg];rfl
         rw[Int.natCast_mul]at fe lM;simp only[bC]at lM;simp[zaq,zaJ,fe,oG];have gp:min i ws.length=i:=by omega
         refine zhv (.sl (zaL (ee++List.take (i+1) (List.map g ws))) (.own (HB.length+1))) (HB++[.cells ts[k].cs,.perm zbE 4 (ee.length+(i+1)),.cells (.sl (IT.css out[j].1) .none::zai (out[j].2:Int)),.cells (tmC ws[i]),.perm zaY 2 (out[j].1.length+1)]) ?_ (.inr (.inr (.inl ⟨HB.length+1,zbE,4,ee.length+i,ee.length+(i+1),by simp,by simp[ah]⟩))) ?_
         ·simp[zax,zaM,zaK,ah,gp];exact⟨⟨by omega,by omega⟩,lM,by omega⟩
         ·rw[wi i (by omega)];exact iE _ _ ⟨ws.length-(i+1),by omega,Back.at (J:=[.cells (tmC ws[i]),.perm zaY 2 (out[j].1.length+1)]) (H2:=HB++[.cells ts[k].cs,.perm zbE 4 (ee.length+(i+1)),.cells (.sl (IT.css out[j].1) .none::zai (out[j].2:Int))]) (by simp) (by simp) (mN _) (by
           have:=jM [.cells ts[k].cs,.perm zbE 4 (ee.length+(i+1)),.cells (.sl (IT.css out[j].1) .none::zai (out[j].2:Int))];simp only[zjl,ux,List.all_cons,bb,cn,List.all_nil,this];simp[AV.sc,AV.scA,AV.scB,AV.scV]) ⟨_,_,rfl,i+1,by omega,rfl,rfl,by simp only[bC],rfl⟩⟩
      ·obtain rfl:i=ws.length:=by omega
       rw[ak,←ep];simp[zwC,wi j (by omega)];have fZ:ee.length+ws.length=(zbV (out.take (j+1)) ws).length:=by rw[ep];simp
       exact lK _ _ ⟨out.length-(j+1),by omega,Back.at (J:=[.cells (.sl (IT.css out[j].1) .none::zai (out[j].2:Int))]) (H2:=HB++[.cells ts[k].cs,.perm zbE 4 (zbV (out.take (j+1)) ws).length]) (by rw[←fZ];simp) (by simp) (pi _) (by
        have:=jM [.cells ts[k].cs,.perm zbE 4 (zbV (out.take (j+1)) ws).length];simp only[zpf,ux,List.all_cons,bb,cn,List.all_nil,this];simp[AV.sc,AV.scA,AV.scB,AV.scV]) ⟨_,_,rfl,j+1,by omega,rfl,rfl,rfl,rfl⟩⟩
    ·obtain rfl:j=out.length:=by omega
     rw[ak]at gN ⊢;simp[zwE,wi k (by omega)];exact eq _ _ ⟨ts.length-(k+1),by omega,Back.here (by simp;omega) (pi _) (by simp[zjm,ux,AV.sc,AV.scA,AV.scB,AV.scV]) ⟨_,_,rfl,k+1,J++[.cells ts[k].cs,.perm zbE 4 (zbV out ws).length],.own (HB.length+1),by omega,rfl,rfl,by rw[eV],by rw[←qP];simp⟩⟩
  ·obtain rfl:k=ts.length:=by omega
   rw[←fb]at hK;simp[zwD];exact Out.at (b:=.sl (zaL out) .none) rfl (ac _) hs (.atom (.sl _ _)) rfl rfl hK
section
variable (t0 t1 t2 t3 t4 t5 t9 t10 t11 t34 t35 t36 t60 t61 t62 t85 t86 t87 t88:AV) (H:zaa) (K:Kt) (Kb2 Kb6 Kb12 Kb13 Kb20:Lt)
def zer:Nat→List Bool|6=>rl false [9,1,24,3,66]|13=>rl false [9,1,50,3,40]|20=>rl false [9,1,76,3,14]|_=>[]
noncomputable def zgl:=Tryz.f43.body.getD .skip
noncomputable def zvV:=Tryz.f43.results.toList
def zop:=ux 9 (t9::ux 24 (t34::t35::t36::ux 66 []))
def zWm:=zer 6
noncomputable def zWg:=zar [1,1,0,1,0,1,0,1,0,0] zgl
def zWd:=zas tP zer [1,1,0,1,0,1,0,1,0] zgl (zaB tP zvV K)
def zou:=ALoop tP zWg (zWd K) (zop t9 t34 t35 t36) H
def zoq:=K t9 H
def zgm:=zoq t9 H K
def zvT:=zac .lss false t36 t35 λt37=>zag t37 (zak 4 t34 t36 λt38=>zae true 4 t38 H λt39=>zaz [.snil,(.bool false),.snil,.snil] H λt11 H=>zan 4 t11 t39 H λH=>zaf 0 t11 λt41=>zae false 1 t41 H λt42=>zaq [(.int .i64 0),.snil] [(0,1),(1,1)] [(1,t42)] λt43=>zaf 1 t11 λt44=>zae true 3 t44 H λt45=>zaq [(.int .i64 0),.snil,(.bool false),.snil,.snil] [(0,2),(2,3)] [(0,t43),(1,t45)] λt46=>zaw 5 [(.int .i64 0),.snil,(.bool false),.snil,.snil] 1 [(0,t46)] λt47=>zax zau 5 88 t9 t47 H λt48 H=>zac .add false t36 (.int .i64 1) λt49=>Kb6 (zop t48 t34 t35 t49) H) (zgm t9 H K)
def zje:=ux 9 (t9::ux 50 (t60::t61::t62::ux 40 []))
def zWk:=zer 13
noncomputable def zWe:=zar [1,1,0,1,0,1,1,1,0,1,1,0,0] zgl
def zWb:=zas tP zer [1,1,0,1,0,1,1,1,0,1,1,0] zgl (zaB tP zvV K)
def zos:=ALoop tP zWe (zWb K) (zje t9 t60 t61 t62) H
def zvU(t9 t60 t61 t62:AV)(H:zaa)(K:Kt)(Kb13:Lt):Prop:=zac .add false t62 (.int .i64 1) λt77=>Kb13 (zje t9 t60 t61 t77) H
def zor:=zvU t9 t60 t61 t62 H K Kb13
def zvR:=zac .lss false t62 t61 λt63=>zag t63 (zak 3 t60 t62 λt65=>zae true 3 t65 H λt66=>zaz [(.bool false),.snil,.snil] H λt15 H=>zan 3 t15 t66 H λH=>zae true 3 t15 H λt67=>ACalls tP zkL [t67] H λt68 H=>zac .neq false t68 (.int .i64 0) λt69=>zag t69 (zaq [(.int .i64 0),.snil] [(0,1),(1,1)] [(0,t62)] λt72=>zae true 3 t15 H λt73=>zaq [(.int .i64 0),.snil,(.bool false),.snil,.snil] [(0,2),(2,3)] [(0,t72),(1,t73)] λt74=>zaw 5 [(.int .i64 0),.snil,(.bool false),.snil,.snil] 1 [(0,t74)] λt75=>zax zau 5 88 t9 t75 H λt76 H=>zor t76 t60 t61 t62 H K Kb13) (zor t9 t60 t61 t62 H K Kb13)) (zgm t9 H K)
def zoo:=ux 9 (t9::ux 76 (t86::t87::t88::ux 14 []))
def zWl:=zer 20
noncomputable def zWf:=zar [1,1,0,1,0,1,1,1,1,1,0,1,0,0] zgl
def zWc:=zas tP zer [1,1,0,1,0,1,1,1,1,1,0,1,0] zgl (zaB tP zvV K)
def zot:=ALoop tP zWf (zWc K) (zoo t9 t86 t87 t88) H
def zvS:=zac .lss false t88 t87 λt89=>zag t89 (zak 4 t86 t88 λt90=>zae true 4 t90 H λt91=>zaz [.snil,(.bool false),.snil,.snil] H λt17 H=>zan 4 t17 t91 H λH=>zaf 0 t17 λt93=>zae false 1 t93 H λt94=>zaq [(.int .i64 0),.snil] [(0,1),(1,1)] [(1,t94)] λt95=>zaf 1 t17 λt96=>zae true 3 t96 H λt97=>zaq [(.int .i64 0),.snil,(.bool false),.snil,.snil] [(0,2),(2,3)] [(0,t95),(1,t97)] λt98=>zaw 5 [(.int .i64 0),.snil,(.bool false),.snil,.snil] 1 [(0,t98)] λt99=>zax zau 5 88 t9 t99 H λt100 H=>zac .add false t88 (.int .i64 1) λt101=>Kb20 (zoo t100 t86 t87 t101) H) (zgm t9 H K)
def zjd:=zav t1 H λt5 H=>zav t2 H λt6 H=>zav t3 H λt7 H=>zaf 0 t5 λt18=>zae false 1 t18 H λt19=>zac .eql false t19 (.int .i64 6) λt26=>zag t26 (zaf 2 t5 λt28=>zae false 1 t28 H λt29=>zaf 1 t6 λt30=>zae false 1 t30 H λt31=>zaf 1 t7 λt32=>zae false 1 t32 H λt33=>ACalls tP zkK [t0,t29,t31,t33] H λt34 H=>zah 1 t34 λt35=>zou .snil t34 t35 (.int .i64 0) H K) (zac .eql false t19 (.int .i64 7) λt51=>zag t51 (zaf 0 t6 λt53=>zae false 1 t53 H λt54=>zaf 0 t7 λt55=>zae false 1 t55 H λt56=>ACalls tP zrZ [t54,t56] H λt57 H=>zaE t57 0 λt58=>zaE t57 1 λt59=>zah 1 t58 λt61=>zos .snil t58 t61 (.int .i64 0) H K) (zac .eql false t19 (.int .i64 5) λt79=>zag t79 (zae true 3 t5 H λt81=>zaf 1 t6 λt82=>zae false 1 t82 H λt83=>zaf 1 t7 λt84=>zae false 1 t84 H λt85=>ACalls tP zgT [t0,t81,t83,t85] H λt86 H=>zah 1 t86 λt87=>zot .snil t86 t87 (.int .i64 0) H K) (ACalls tP zdv [(.int .i64 1)] H λt21 H=>zaq [(.int .i64 0),.snil,(.bool false),.snil,.snil] [(0,2),(2,3)] [(1,t21)] λt22=>zaw 5 [(.int .i64 0),.snil,(.bool false),.snil,.snil] 1 [(0,t22)] λt23=>zax zau 5 88 .snil t23 H λt24 H=>zgm t24 H K)))
def zpi:Nat→List Bool|200007=>rl false [0,5]|200008=>rl false [0,5]|12=>rl false [2,1,6,3,73,3,17]|200014=>rl false [0,5]|_=>[]
noncomputable def zwJ:=Tryz.f81.body.getD .skip
noncomputable def zY7:=Tryz.f81.results.toList
def zpj:=ux 2 (t2::ux 6 (t9::t10::t11::ux 73 (t85::t86::t87::ux 17 [])))
def zY5:=zpi 12
noncomputable def zY3:=zar [1,1,1,1,1,1,1,0,1,0,1,1,0,0] zwJ
def zY2:=zas tP zpi [1,1,1,1,1,1,1,0,1,0,1,1,0] zwJ (zaB tP zY7 K)
def zGk:=ALoop tP zY3 (zY2 K) (zpj t2 t9 t10 t11 t85 t86 t87) H
def zpk:=zae false 1 t9 H λt104=>K t104 H
def zwI:=zac .lss false t87 t86 λt88=>zag t88 (zak 4 t85 t87 λt89=>zae true 4 t89 H λt90=>zaz [.snil,(.bool false),.snil,.snil] H λt13 H=>zan 4 t13 t90 H λH=>apm H t10 λt91=>apm H t2 λt92=>apu H (zak 2 t92 (.int .i64 0)) λt93=>apu H (zaf 0 t93) λt94=>apu H (zaj false 1 t94 H) λt95=>apu H (zaf 0 t13) λt96=>apu H (zaj false 1 t96 H) λt97=>apu H (zaq [(.int .i64 0),.snil] [(0,1),(1,1)] [(0,t95),(1,t97)]) λt98=>apu H (zaf 1 t13) λt99=>apu H (zaj true 3 t99 H) λt100=>apm H t11 λt101=>aCallV tP t91 [t98,t100,t101] H λt102 H=>zac .add false t87 (.int .i64 1) λt103=>Kb12 (zpj t2 t9 t10 t11 t85 t86 t103) H) (zpk t9 H K)
def zph:=zav t1 H λt5 H=>zah 1 t2 λt15=>zac .eql false t15 (.int .i64 0) λt16=>zag t16 (ACalls tP zdv [(.int .i64 1)] H λt18 H=>zaq [.snil,(.bool false),.snil,.snil] [(0,1),(1,3)] [(0,t3),(1,t18)] λt19=>zaw 4 [.snil,(.bool false),.snil,.snil] 1 [(0,t19)] λt20=>K t20 H) (zah 1 t3 λt22=>zac .eql false t22 (.int .i64 0) λt23=>zag t23 (ACalls tP zdv [(.int .i64 1)] H λt25 H=>zaq [.snil,(.bool false),.snil,.snil] [(0,1),(1,3)] [(0,t2),(1,t25)] λt26=>zaw 4 [.snil,(.bool false),.snil,.snil] 1 [(0,t26)] λt27=>K t27 H) (zaz [.snil] H λt9 H=>zcN zj9 [t9] λt28=>apm H t28 λt29=>apm H t2 λt30=>apu H (zak 2 t30 (.int .i64 0)) λt31=>apu H (zaj true 2 t31 H) λt32=>zaC H (λH K'=>ACalls tP zdv [(.int .i64 1)] H K') λt33=>apm H t0 λt34=>apu H (zaj true 3 t5 H) λt35=>apm H t2 λt36=>zab H (λK'=>zaN 1 2 t36 (some (.int .i64 1)) none (K' · H)) λt37=>apm H t3 λt38=>zaC H (λH K'=>ACalls tP zgT [t34,t35,t37,t38] H K') λt39=>aCallV tP t29 [t32,t33,t39] H λt40 H=>apm H t28 λt41=>apm H t3 λt42=>apu H (zak 2 t42 (.int .i64 0)) λt43=>apu H (zaj true 2 t43 H) λt44=>zaC H (λH K'=>ACalls tP zdv [(.int .i64 1)] H K') λt45=>apm H t0 λt46=>apu H (zaj true 3 t5 H) λt47=>apm H t2 λt48=>apm H t3 λt49=>zab H (λK'=>zaN 1 2 t49 (some (.int .i64 1)) none (K' · H)) λt50=>zaC H (λH K'=>ACalls tP zgT [t46,t47,t48,t50] H K') λt51=>aCallV tP t41 [t44,t45,t51] H λt52 H=>apm H t2 λt53=>apu H (zak 2 t53 (.int .i64 0)) λt54=>apu H (zaf 0 t54) λt55=>apu H (zaj false 1 t55 H) λt56=>apm H t3 λt57=>apu H (zak 2 t57 (.int .i64 0)) λt58=>apu H (zaf 0 t58) λt59=>apu H (zaj false 1 t59 H) λt60=>apu H (zac .eql false t56 t60) λt61=>zag t61 (apm H t0 λt62=>apu H (zaj true 3 t5 H) λt63=>apm H t2 λt64=>zab H (λK'=>zaN 1 2 t64 (some (.int .i64 1)) none (K' · H)) λt65=>apm H t3 λt66=>zab H (λK'=>zaN 1 2 t66 (some (.int .i64 1)) none (K' · H)) λt67=>zaC H (λH K'=>ACalls tP zgT [t62,t63,t65,t67] H K') λt68=>apm H t68 λt11=>apm H t0 λt69=>apm H t0 λt70=>apu H (zaj true 3 t5 H) λt71=>apm H t2 λt72=>apu H (zak 2 t72 (.int .i64 0)) λt73=>apu H (zaf 0 t73) λt74=>apu H (zaj false 1 t74 H) λt75=>zaC H (λH K'=>ACalls tP zri [t70,t71,t75] H K') λt76=>apm H t2 λt77=>apu H (zak 2 t77 (.int .i64 0)) λt78=>apu H (zaf 1 t78) λt79=>apu H (zaj false 1 t79 H) λt80=>apm H t3 λt81=>apu H (zak 2 t81 (.int .i64 0)) λt82=>apu H (zaf 1 t82) λt83=>apu H (zaj false 1 t83 H) λt84=>zaC H (λH K'=>ACalls tP zkK [t69,t76,t80,t84] H K') λt85=>apu H (zah 1 t85) λt86=>apm H (.int .i64 0) λt87=>zGk t2 t9 t28 t11 t85 t86 t87 H K) (zpk t9 H K)))
def zmk:Nat→List Bool|2=>rl false [3,3,3,3,18]|_=>[]
noncomputable def ztF:=Tryz.f133.body.getD .skip
noncomputable def zOA:=Tryz.f133.results.toList
def zml:=ux 3 (t3::t4::t5::ux 3 (t9::t10::t11::ux 18 []))
def zOy:=zmk 2
noncomputable def zOw:=zar [1,1,0,0] ztF
def zOv:=zas tP zmk [1,1,0] ztF (zaB tP zOA K)
def zCD:=ALoop tP zOw (zOv K) (zml t3 t4 t5 t9 t10 t11) H
def ztE:=zac .lss false t11 t10 λt12=>zag t12 (zak 4 t9 t11 λt13=>zae true 4 t13 H λt14=>zaz [.snil,(.bool false),.snil,.snil] H λt8 H=>zan 4 t8 t14 H λH=>apu H (zaj false 1 t3 H) λt15=>apu H (zaj true 2 t4 H) λt16=>apu H (zaw 2 [(.int .i64 0),.snil] 1 [(0,t16)]) λt17=>apu H (zaf 0 t8) λt18=>apu H (zaj false 1 t18 H) λt19=>apu H (zaw 1 [.snil] 2 [(0,t17),(1,t19)]) λt20=>zaC H (λH K'=>ACalls tP zrh [t20] H K') λt21=>apu H (zaj true 3 t5 H) λt22=>apu H (zaf 1 t8) λt23=>apu H (zaj true 3 t23 H) λt24=>zaC H (λH K'=>ACalls tP zfj [t22,t24] H K') λt25=>apu H (zaq [.snil,(.bool false),.snil,.snil] [(0,1),(1,3)] [(0,t21),(1,t25)]) λt26=>apu H (zaw 4 [.snil,(.bool false),.snil,.snil] 1 [(0,t26)]) λt27=>zax zbE 4 80 t15 t27 H λt28 H=>zan 1 t3 t28 H λH=>zac .add false t11 (.int .i64 1) λt29=>Kb2 (zml t3 t4 t5 t9 t10 t29) H) (zaF [] (K · H))
def zCC:=zav t0 H λt4 H=>zav t1 H λt5 H=>zah 1 t2 λt10=>zCD t3 t4 t5 t2 t10 (.int .i64 0) H K
variable {t0 t1 t2 t3 t4 t5 t9 t10 t11 t34 t35 t36 t60 t61 t62 t85 t86 t87 t88} {H} {K} {Kb2 Kb6 Kb12 Kb13 Kb20}
theorem zWj:Lo2 (λt9 t36=>zop t9 t34 t35 t36) (λt9 t36 H Kb6=>zvT t9 t34 t35 t36 H K Kb6) t9 t36 H (zou t9 t34 t35 t36 H K):=lq2 zer zWm
theorem zWh:Lo2 (λt9 t62=>zje t9 t60 t61 t62) (λt9 t62 H Kb13=>zvR t9 t60 t61 t62 H K Kb13) t9 t62 H (zos t9 t60 t61 t62 H K):=lq2 zer zWk
theorem zWi:Lo2 (λt9 t88=>zoo t9 t86 t87 t88) (λt9 t88 H Kb20=>zvS t9 t86 t87 t88 H K Kb20) t9 t88 H (zot t9 t86 t87 t88 H K):=lq2 zer zWl
theorem zWn(h:HSc H→zjd t0 t1 t2 t3 H K):ACalls tP zio [t0,t1,t2,t3] H K:=
 acb zer Tryz.func43 zgl h
theorem zY4:Lo1 (λt87=>zpj t2 t9 t10 t11 t85 t86 t87) (λt87 H Kb12=>zwI t2 t9 t10 t11 t85 t86 t87 H K Kb12) t87 H (zGk t2 t9 t10 t11 t85 t86 t87 H K):=lq1 zpi zY5
theorem zY6(h:HSc H→zph t0 t1 t2 t3 H K):ACalls tP zgT [t0,t1,t2,t3] H K:=
 acb zpi Tryz.func81 zwJ h
theorem zOx:Lo1 (λt11=>zml t3 t4 t5 t9 t10 t11) (λt11 H Kb2=>ztE t3 t4 t5 t9 t10 t11 H K Kb2) t11 H (zCD t3 t4 t5 t9 t10 t11 H K):=lq1 zmk zOy
theorem zOz(h:HSc H→zCC t0 t1 t2 t3 H K):ACalls tP zj9 [t0,t1,t2,t3] H K:=
 acb zmk Tryz.func133 ztF h
end
def bw(H:zaa)(io iv:Nat)(l:List (List IT×Nat)):zaa:=(H.set iv (.vec zbE 4 l.length (zaL l).flatten)).set io (.cells [.ov iv l.length])
structure Bw (H:zaa) (io iv:Nat) (l:List (List IT × Nat)):Prop where
 ne:io≠iv
 h1:H[io]?=some (.cells [.ov iv l.length])
 h2:H[iv]?=some (.vec zbE 4 l.length (zaL l).flatten)
section
variable {H J:zaa} {io iv:Nat} {l l':List (List IT×Nat)}
@[simp] theorem zqk:(bw H io iv l).length=H.length:=by simp[bw]
theorem Bw.app(h:Bw H io iv l):Bw (H++J) io iv l:=⟨h.ne,zbK h.h1,zbK h.h2⟩
theorem Bw.bw_app(h:Bw H io iv l):bw (H++J) io iv l'=bw H io iv l'++J:=by unfold bw;rw[aM _ _ (zbm h.h2),aM _ _ (by simpa using zbm h.h1)]
theorem zHU(ey:io≠iv):bw (bw H io iv l) io iv l'=bw H io iv l':=by unfold bw;rw[dC _ _ ey,bD,bD]
theorem Bw.next(h:Bw H io iv l):Bw (bw H io iv l') io iv l':=by
 have l1:=zbm h.h1;have l2:=zbm h.h2;refine⟨h.ne,?_,?_⟩
 ·unfold bw;rw[List.getElem?_set_self (by simpa using l1)]
 ·unfold bw;rw[List.getElem?_set_ne h.ne,List.getElem?_set_self l2]
theorem zAB(l:List (List IT×Nat))(n:Nat):(zaL l).flatten.all (AV.scA n)=true:=by
 rw[am];intro x hx;obtain⟨c,hc,hx⟩:=dL.1 hx;obtain⟨r,_,rfl⟩:=aA.1 hc;rcases aP.1 hx with rfl|hx
 ·rfl
 ·exact am.1 (zfW _ _) x hx
theorem Bw.hsc(h:Bw H io iv l)(hs:HSc H):HSc (bw H io iv l'):=by have l2:=zbm h.h2;unfold bw;refine HSc.set (HSc.set hs (by simp only[AB.sc];exact zAB _ _)) ?_;simp[AB.sc,AV.scA,AV.scB];omega
theorem Bw.self(h:Bw H io iv l):bw H io iv l=H:=by
 unfold bw;have e1:H.set iv (.vec zbE 4 l.length (zaL l).flatten)=H:=by
  refine aL λi=>?_;by_cases hi:iv=i
  ·subst hi;rw[List.getElem?_set_self (zbm h.h2),h.h2]
  ·rw[List.getElem?_set_ne hi]
 rw[e1];refine aL λi=>?_;by_cases hi:io=i
 ·subst hi;rw[List.getElem?_set_self (zbm h.h1),h.h1]
 ·rw[List.getElem?_set_ne hi]
end
theorem zyh:zeD tP zj9=true:=by kernel_rfl
theorem zqi(e:IT)(he:e.nodes≤1000)(c:Nat)(hc:c≤729)(rest:List (List IT×Nat))(hr:∀r∈rest,r.2≤729∧r.1.length≤1000)(hl:rest.length≤729)(H:zaa)(io iv:Nat)(l:List (List IT×Nat))(hP:Bw H io iv l)(fh:l.length≤100000)(K:Kt)(hK:K (.tup []) (bw H io iv (l++rest.map λr=>(e::r.1,c*r.2)))):ACalls tP zj9 [.agg e.cs,.agg (zai (c:Int)),.sl (zaL rest) .none,.ptr io 0] H K:=by
 refine ACalls.out (zOz λhs=>?_);obtain⟨x,y,ew,hx,hy⟩:=zci e;obtain⟨g,hg⟩:∃g:List IT×Nat→List IT×Nat,g=λr=>(e::r.1,c*r.2):=⟨_,rfl⟩;rw[←hg]at hK;simp[zCC,aa];have hsc:∀l',HSc (bw H io iv l'++[.cells e.cs,.cells (zai (c:Int))]):=λl'=>(hP.hsc hs).append (by
  obtain⟨a,b⟩:=e;simp[AB.sc,IT.cs,zai,AV.scA,AV.scB])
 refine zOx (Inv:=λq t11 H'=>∃i:Nat,i≤rest.length∧rest.length-i=q∧t11=.int .i64 i∧H'=bw H io iv (l++(rest.take i).map g)++[.cells e.cs,.cells (zai (c:Int))]) rest.length ?_ ?_
 ·intro _;exact⟨0,by omega,rfl,rfl,by simp[hP.self]⟩
 ·rintro q t11 H' ⟨i,hi,rfl,rfl,rfl⟩ gm ek eK Kb eq;by_cases fg:i<rest.length
  ·obtain⟨r1,r2⟩:=hr _ (af fg);have pO:Bw (bw H io iv (l++(rest.take i).map g)) io iv (l++(rest.take i).map g):=hP.next;obtain⟨ee,gq⟩:∃ ee,ee=l++(rest.take i).map g:=⟨_,rfl⟩;have gH:l++(rest.take (i+1)).map g=ee++[g rest[i]]:=by rw[gq,ae fg];simp only[aK,aF,bx,aq]
   have iq:ee.length=l.length+i:=by rw[gq];simp;omega
   rw[←gq]at pO ⊢;have g1:∀J,(bw H io iv ee++J)[io]?=some (.cells [.ov iv ee.length]):=λJ=>zbK pO.h1;have g2:∀J,(bw H io iv ee++J)[iv]?=some (.vec zbE 4 ee.length (zaL ee).flatten):=λJ=>zbK pO.h2;have g3:∀b J,(bw H io iv ee++AB.cells b::J)[H.length]?=some (.cells b):=λb J=>by rw[←zqk (H:=H) (io:=io) (iv:=iv) (l:=ee)];simp
   have g4:∀b b' J,(bw H io iv ee++AB.cells b::AB.cells b'::J)[H.length+1]?=some (.cells b'):=λb b' J=>by rw[←zqk (H:=H) (io:=io) (iv:=iv) (l:=ee)];simp
   have g5:∀b b' b'' J,(bw H io iv ee++AB.cells b::AB.cells b'::AB.cells b''::J)[H.length+2]?=some (.cells b''):=λb b' b'' J=>by rw[←zqk (H:=H) (io:=io) (iv:=iv) (l:=ee)];simp
   have pN:plain ([.int .i64 0,.snil]:List AV)=some [.int .i64 0,.sl [] .none]:=rfl;simp[ztE,fg,g1,g3,g4,g5,zaw,zaR,pN,ziE,plain,AV.pd];refine zaD (.sl (IT.css (e::rest[i].1)) .none) (λJ=>by
    have:=zKH [e] rest[i].1 (by simp) (by simp;omega) (bw H io iv ee++[.cells e.cs,.cells (zai (c:Int)),.cells (.sl (IT.css rest[i].1) .none::zai (rest[i].2:Int))]++J) (λv H'=>v=.sl (IT.css (e::rest[i].1)) .none∧H'=bw H io iv ee++[.cells e.cs,.cells (zai (c:Int)),.cells (.sl (IT.css rest[i].1) .none::zai (rest[i].2:Int))]++J) ⟨rfl,rfl⟩;exact this) ?_
   refine zaD (.agg (zai ((c*rest[i].2:Nat):Int))) (λJ=>zjk _ _ (zb0 (aD hc (by decide))) (zb0 (aD r1 (by decide))) _ _ ⟨by rw[Int.natCast_mul],rfl⟩) ?_;have eG:([.sl (IT.css (e::rest[i].1)) .none::zai ((c*rest[i].2:Nat):Int)]:List (List AV))=zaL [g rest[i]]:=by rw[hg];rfl
   have fe:plain (AV.sl (IT.css (e::rest[i].1)) .none::zai ((c*rest[i].2:Nat):Int))=some (.sl (IT.css (e::rest[i].1)) .none::zai ((c*rest[i].2:Nat):Int)):=by simp[plain,AV.pd,zcR]
   rw[Int.natCast_mul]at fe eG;have eQ:∀J:zaa,(((bw H io iv ee++J).set iv (.vec zbE 4 (ee.length+1) ((zaL ee).flatten++(.sl (IT.css (e::rest[i].1)) .none::zai ((c:Int)*(rest[i].2:Int)))))).set io (.cells [.ov iv (ee.length+1)]))=bw H io iv (ee++[g rest[i]])++J:=by intro J;have h1:=pO.bw_app (J:=J) (l':=ee++[g rest[i]]);rw[zHU hP.ne]at h1;rw[←h1];unfold bw;rw[zlc,←eG];simp
   have g6:∀X J,((bw H io iv ee++J).set iv X)[io]?=some (.cells [.ov iv ee.length]):=λX J=>by rw[List.getElem?_set_ne (λh=>hP.ne h.symm)];exact g1 J
   simp[zaq,zaJ,fe,zax,zaM,zaK,g2,g6,wi i (by omega)];refine⟨⟨by omega,by omega⟩,?_⟩;rw[eQ,←gH];exact eq _ _ ⟨rest.length-(i+1),by omega,Back.at (J:=[.cells (.sl (IT.css rest[i].1) .none::zai (rest[i].2:Int))]) (H2:=bw H io iv (l++(rest.take (i+1)).map g)++[.cells e.cs,.cells (zai (c:Int))]) (by simp) (by simp) (hsc _) (by
    have l1:=zbm hP.h1;simp[zml,ux,AV.sc,AV.scA,AV.scB,AV.scV];try omega) ⟨_,rfl,i+1,by omega,rfl,rfl,rfl⟩⟩
  ·obtain rfl:i=rest.length:=by omega
   rw[ak]at *;simp[ztE];exact zLR (J:=[_,_]) rfl (by simp) (hP.hsc hs) hK
def hpB(H:zaa)(T:VT)(l:List (List IT×Nat)):zaa:=H++[.cells T.cs,.cells [.ov (H.length+2) l.length],.vec zbE 4 l.length (zaL l).flatten]
theorem hpB_B{H:zaa}{T:VT}{l:List (List IT×Nat)}:Bw (hpB H T l) (H.length+1) (H.length+2) l:=⟨by omega,by simp[hpB],by simp[hpB]⟩
theorem zqG{H:zaa}{T:VT}{l l':List (List IT×Nat)}:bw (hpB H T l) (H.length+1) (H.length+2) l'=hpB H T l':=by simp[bw,hpB,ah]
@[simp] theorem yd1{H:zaa}{T:VT}{l:List (List IT×Nat)}:(hpB H T l).length=H.length+3:=by simp[hpB]
@[simp] theorem ydZ{H:zaa}{T:VT}{l:List (List IT×Nat)}(h:H.length<(hpB H T l).length):(hpB H T l)[H.length]=.cells T.cs:=by simp[hpB]
@[simp] theorem zyW{H:zaa}{T:VT}{l:List (List IT×Nat)}:(hpB H T l)[H.length]?=some (.cells T.cs):=by simp[hpB]
@[simp] theorem yd0{H:zaa}{T:VT}{l:List (List IT×Nat)}(h:H.length+1<(hpB H T l).length):(hpB H T l)[H.length+1]=.cells [.ov (H.length+2) l.length]:=by simp[hpB,List.getElem_append]
theorem zAf:∀ l:List (List IT × Nat),plain (zaL l).flatten=some (zaL l).flatten
 |[]=>rfl
 |r::l=>by show plain ((.sl (IT.css r.1) .none::zai (r.2:Int))++(zaL l).flatten)=_;exact ziD (by simp[plain,AV.pd,zcR]) (zAf l)
theorem zJH{H:zaa}{T:VT}{K:Kt}(l:List (List IT×Nat))(hs:HSc H)(hK:K (.sl (zaL l) .none) H):Out H.length K (.ov (H.length+2) l.length) (hpB H T l):=
 ⟨.sl (zaL l) .none,H,_,rfl,ac _,hs,.one (.vfz (H.length+2) zbE 4 l.length (zaL l).flatten (zaL l) (by omega) (by simp[hpB]) (zAf l) (by simp) (λc hc=>by
  obtain⟨p,_,rfl⟩:=aA.1 hc;simp)),hK⟩
theorem zI6{d7:List Dat}(hk:zbx d7)(h8:∀D∈d7,D.cons.length≤8)(hD:zbz d7=true){f:Nat}(hQ:zjz d7 f)(hM:zjx d7 f):zjx d7 (f+1):=by
 intro t l m hf iY gE nU hl hm h6 hn H K hK;obtain⟨k,tn,tks⟩:=t;simp only[VT.kind]at nU;subst nU;refine ACalls.out (zY6 λhs=>?_);have f5:(VT.mk 5 tn tks).cs=[.int .i64 5,.int .i64 tn,.sl (VT.css tks) .none]:=rfl;have oG:plain ([.snil,.bool false,.snil,.snil]:List AV)=some [.sl [] .none,.bool false,.sl [] .none,.sl [] .none]:=rfl;cases l with
 |nil=>
  have e:zaW d7 (f+1) (.mk 5 tn tks) [] m=[(m,1)]:=by rw[zaW]
  rw[e]at hK;simp[zph,IT.css,f5,aa];refine zeu 1 (by omega) _ _ ?_;simp[zaq,zaJ,zaw,zaR,plain,AV.pd,AV.known,zcR,oG];exact Out.at (b:=.sl (zaL [(m,1)]) .none) rfl (ac _) hs (.atom (.sl _ _)) rfl rfl hK
 |cons a l=>
  cases m with
  |nil=>
   have e:zaW d7 (f+1) (.mk 5 tn tks) (a::l) []=[(a::l,1)]:=by rw[zaW]
   rw[e]at hK;have hb:(((l.length:Int)+1) == 0)=false:=by simp;omega
   simp[zph,f5,hb,aa];refine zeu 1 (by omega) _ _ ?_;simp[zaq,zaJ,zaw,zaR,plain,AV.pd,AV.known,zcR,oG];exact Out.at (b:=.sl (zaL [(a::l,1)]) .none) rfl (ac _) hs (.atom (.sl _ _)) rfl rfl hK
  |cons b m=>
   obtain⟨ca,pa⟩:=a;obtain⟨cb,pb⟩:=b;obtain⟨la,ll,el⟩:=zfl h8 _ _ l hl;obtain⟨mb,mm,em⟩:=zfl h8 _ _ m hm;obtain⟨ca0,ca8,psa,iz,lu,m9,ea⟩:=zeP la;obtain⟨cb0,cb8,psb,lI,gf,nc,eb⟩:=zeP mb;have na:=(IT.mk ca pa).nodes_pos;have nb:=(IT.mk cb pb).nodes_pos;simp only[IT.nodesL]at hf hn;have fz:(((l.length:Int)+1) == 0)=false:=by simp;omega
   have fD:(((m.length:Int)+1) == 0)=false:=by simp;omega
   have tl1:(List.take (l.length+1) (IT.css (.mk ca pa::l))).tail=IT.css l:=by simp[IT.css,ai]
   have tl2:(List.take (m.length+1) (IT.css (.mk cb pb::m))).tail=IT.css m:=by simp[IT.css,ai]
   have mO:∀(x:List IT),∀c∈IT.css x,c.length=2:=λx c hc=>by rw[IT.css_map]at hc;obtain⟨v,_,rfl⟩:=aA.1 hc;simp
   simp[zph,f5,fz,fD,aa];refine⟨rfl,?_⟩;refine zaD (.agg (zai ((1:Nat):Int))) (λJ=>zeu 1 (by omega) _ _ ⟨rfl,rfl⟩) ?_;refine⟨mO _,?_⟩;rw[tl1,←f5];obtain⟨A,hA⟩:∃A,A=zaW d7 f (.mk 5 tn tks) l (.mk cb pb::m):=⟨_,rfl⟩;obtain⟨B,hB⟩:∃B,B=zaW d7 f (.mk 5 tn tks) (.mk ca pa::l) m:=⟨_,rfl⟩;obtain⟨C,hC⟩:∃C,C=zaW d7 f (.mk 5 tn tks) l m:=⟨_,rfl⟩;obtain⟨A1,A2,A3,A4⟩:=zjF h8 (f:=f) (t:=.mk 5 tn tks) (l:=l) (m:=.mk cb pb::m) (by simp only[IT.nodesL];omega) ll hm (by omega);obtain⟨B1,B2,B3,B4⟩:=zjF h8 (f:=f) (t:=.mk 5 tn tks) (l:=.mk ca pa::l) (m:=m) (by simp only[IT.nodesL];omega) hl mm (by omega);obtain⟨C1,C2,C3,C4⟩:=zjF h8 (f:=f) (t:=.mk 5 tn tks) (l:=l) (m:=m) (by omega) ll mm (by omega);rw[←hA]at A1 A2 A3 A4;rw[←hB]at B1 B2 B3 B4;rw[←hC]at C1 C2 C3 C4;simp only[IT.nodesL]at A1 B1;refine zaD (.sl (zaL A) .none) (λJ=>by rw[hA];exact hM _ l (.mk cb pb::m) (by simp only[IT.nodesL];omega) iY gE rfl ll hm (by omega) (by simp only[IT.nodesL];omega) _ _ ⟨rfl,rfl⟩) ?_;simp only[aCallV,zyh];refine ACalls.ovC (id:=H.length+1) (j:=0) (cs:=[.snil]) zbE 4 (by simp) rfl ?_;have eQ:(H++[AB.cells (VT.mk 5 tn tks).cs,.cells [.snil]]).set (H.length+1) (.cells ([AV.snil].set 0 (.ov (H++[AB.cells (VT.mk 5 tn tks).cs,.cells [.snil]]).length 0)))++[.vec zbE 4 0 []]=hpB H (.mk 5 tn tks) []:=by simp[hpB,ah,zaL]
   rw[eQ];have qV:∀r:List IT×Nat,IT.nodesL r.1≤700→r.1.length≤1000:=λr h=>by have:=IT.len_le r.1;omega
   refine zqi (.mk ca pa) (by simp only[IT.nodes]at hn ⊢;omega) 1 (by omega) A (λr hr=>⟨(A1 r hr).2.1,qV r (by have:=(A1 r hr).2.2.2.2;omega)⟩) A4 _ (H.length+1) (H.length+2) [] hpB_B (by simp) _ ?_;rw[zqG];simp only[List.nil_append,cw];obtain⟨s1,e5⟩:∃s1:List (List IT×Nat),s1=A.map λr=>(IT.mk ca pa::r.1,r.2):=⟨_,rfl⟩;rw[←e5];have hs1l:s1.length≤729:=by rw[e5];simpa using A4
   have h0:=zyW (H:=H) (T:=.mk 5 tn tks) (l:=s1);refine zaD (.agg (zai ((1:Nat):Int))) (λJ=>zeu 1 (by omega) _ _ ⟨rfl,rfl⟩) ?_;simp[h0,f5];refine⟨mO _,?_⟩;rw[tl2,←f5];refine zaD (.sl (zaL B) .none) (λJ=>by rw[hB];exact hM _ (.mk ca pa::l) m (by simp only[IT.nodesL];omega) iY gE rfl hl mm (by omega) (by simp only[IT.nodesL];omega) _ _ ⟨rfl,rfl⟩) ?_;refine zqi (.mk cb pb) (by simp only[IT.nodes]at hn ⊢;omega) 1 (by omega) B (λr hr=>⟨(B1 r hr).2.1,qV r (by have:=(B1 r hr).2.2.2.2;omega)⟩) B4 _ (H.length+1) (H.length+2) s1 hpB_B (by omega) _ ?_;rw[zqG];simp only[cw];obtain⟨s2,fy⟩:∃s2:List (List IT×Nat),s2=s1++B.map λr=>(IT.mk cb pb::r.1,r.2):=⟨_,rfl⟩;rw[←fy];have hs2l:s2.length≤1458:=by rw[fy];simp;omega
   have h02:=λl'=>zyW (H:=H) (T:=.mk 5 tn tks) (l:=l');have fb:∀l',l'=zaW d7 (f+1) (.mk 5 tn tks) (.mk ca pa::l) (.mk cb pb::m)→zpk (.ptr (H.length+1) 0) (hpB H (.mk 5 tn tks) l') (Out H.length K):=by rintro l' rfl;have h1:=(hpB_B (H:=H) (T:=.mk 5 tn tks) (l:=zaW d7 (f+1) (.mk 5 tn tks) (.mk ca pa::l) (.mk cb pb::m))).h1;have h2:=(hpB_B (H:=H) (T:=.mk 5 tn tks) (l:=zaW d7 (f+1) (.mk 5 tn tks) (.mk ca pa::l) (.mk cb pb::m))).h2;simp[zpk,h1];exact zJH _ hs hK
   by_cases eY:ca=cb
   ·subst eY;simp[h02,f5,IT.cs];refine⟨mO _,mO _,?_⟩;rw[←f5];rw[iz]at lI;cases lI;obtain⟨R,hR⟩:∃R,R=zcs d7 f psa pa pb:=⟨_,rfl⟩;obtain⟨R1,R2,R3,R4⟩:=zya h8 (f:=f) (ts:=psa) (l:=pa) (m:=pb) (by simp only[IT.nodes]at hf;omega) lu.symm gf.symm m9 nc (by omega);rw[←hR]at R1 R2 R3 R4;obtain⟨lf,lP⟩:∃lf,zbt d7 (.mk 5 tn tks) ca=some lf:=by
     cases lP:zbt d7 (.mk 5 tn tks) ca with
     |none=>simp[zbi,lP]at iz
     |some lf=>exact⟨lf,rfl⟩
    obtain⟨bs,o7,hlb2,oF,gD,gn,_⟩:=zsa hk lP;rw[iz]at gD;have gJ:psa=pick lf bs:=cT gD;have hpsl:psa.length≤8:=by rw[gJ];have:=ziB lf bs;omega
    have nV:∀x∈psa,x.nodes≤1000∧za0 d7 0 x=true:=λx hx=>by rw[gJ]at hx;have hm:=zgY hx;have:=gn x hm;exact⟨by omega,zqA hD (zBD gE) lP _ hm⟩
    refine zaD (.sl (zaL C) .none) (λJ=>by rw[hC];exact hM _ l m (by omega) iY gE rfl ll mm (by omega) (by omega) _ _ ⟨rfl,rfl⟩) ?_;refine zaD (.sl (VT.css psa) .none) (λJ=>zOQ hk tn tks iY ca iz _ _ ⟨rfl,rfl⟩) ?_;refine zaD (.sl (zaL R) .none) (λJ=>by rw[hR];exact hQ psa pa pb (by simp only[IT.nodes]at hf;omega) lu.symm gf.symm (by omega) nV m9 nc (by omega) (by simp only[IT.nodes]at hn;omega) _ _ ⟨rfl,rfl⟩) ?_;simp;obtain⟨F,hF⟩:∃F:List IT×Nat→List (List IT×Nat),F=λr=>C.map λx=>(IT.mk ca r.1::x.1,r.2*x.2):=⟨_,rfl⟩;have g9:s2++R.flatMap F=zaW d7 (f+1) (.mk 5 tn tks) (.mk ca pa::l) (.mk ca pb::m):=by rw[zaW,az (show zaO (.mk ca pa)=zaO (.mk ca pb) from rfl),fy,e5,hA,hB,hF,hR,hC];simp only[zaO,zaI,iz,Option.getD_some]
    have jk:R.length*C.length≤729:=by refine ap (bf (zfN λp hp=>(R1 p hp).1) (zfN λp hp=>(C1 p hp).1)) (ap (bf R2 C2) ?_);rw[←zk3 (by omega) (by omega)];exact zcS (by omega)
    have mz:∀i,((R.take i).flatMap F).length≤729:=λi=>by
     have:∀L:List (List IT×Nat),(L.flatMap F).length=L.length*C.length:=λL=>by
      induction L with
      |nil=>simp
      |cons r L ih=>rw[aZ,aw,ih,hF,bR,List.length_cons,bI];omega
     rw[this];exact ap (ar _ (by simp;omega)) jk
    have hscB:∀l',HSc (hpB H (.mk 5 tn tks) l'):=λl'=>hs.append (by simp only[AB.sc,List.all_cons,List.all_nil,zAB];simp[VT.cs,AV.scA,AV.scB]);refine zY4 (Inv:=λq t87 H'=>∃i:Nat,i≤R.length∧R.length-i=q∧t87=.int .i64 i∧H'=hpB H (.mk 5 tn tks) (s2++(R.take i).flatMap F)) R.length ?_ ?_
    ·intro _;exact⟨0,by omega,rfl,rfl,by simp⟩
    ·rintro q t87 H' ⟨i,hi,rfl,rfl,rfl⟩ lN ek eK Kb eq;by_cases fg:i<R.length
     ·obtain⟨r1,r2,r3,_,_,r6⟩:=R1 _ (af fg);have gH:s2++(R.take (i+1)).flatMap F=(s2++(R.take i).flatMap F)++F R[i]:=by rw[ae fg];simp only[bm,aZ,bZ,aG,aq]
      have fp:=mz i;obtain⟨ee,gq⟩:∃ee,ee=s2++(R.take i).flatMap F:=⟨_,rfl⟩;have iq:ee.length≤3000:=by rw[gq,aw];omega
      rw[←gq]at gH ⊢;simp[zwI,fg,IT.cs,IT.css,zaq,zaJ,AV.known];simp only[aCallV,zyh];have hBa:Bw (hpB H (.mk 5 tn tks) ee++[.cells (.sl (IT.css R[i].1) .none::zai (R[i].2:Int))]) (H.length+1) (H.length+2) ee:=hpB_B.app;refine zqi (.mk ca R[i].1) (by simp only[IT.nodes]at hn ⊢;omega) R[i].2 (by omega) C (λr hr=>⟨(C1 r hr).2.1,qV r (by have:=(C1 r hr).2.2.2.2;omega)⟩) C4 _ (H.length+1) (H.length+2) ee hBa (by omega) _ ?_;rw[hpB_B.bw_app,zqG];have hFi:F R[i]=C.map λr=>(IT.mk ca R[i].1::r.1,R[i].2*r.2):=by rw[hF]
      rw[←hFi,←gH,wi i (by omega)];exact eq _ _ ⟨R.length-(i+1),by omega,Back.at (J:=[.cells (.sl (IT.css R[i].1) .none::zai (R[i].2:Int))]) (H2:=hpB H (.mk 5 tn tks) (s2++(R.take (i+1)).flatMap F)) rfl (by simp) (hscB _) (by simp[zpj,ux,AV.sc,AV.scA,AV.scB,AV.scV]) ⟨_,rfl,i+1,by omega,rfl,rfl,rfl⟩⟩
     ·obtain rfl:i=R.length:=by omega
      rw[ak,g9];simp[zwI];exact fb _ rfl
   ·have o3:(ca == cb)=false:=by simpa using eY
    simp[h02,IT.cs,o3];refine fb s2 ?_;rw[zaW,au (by simpa[zaO]using eY),aG,fy,e5,hA,hB]
end Go.Proofs.YtdmamdnkcefmmaaGreatDoor

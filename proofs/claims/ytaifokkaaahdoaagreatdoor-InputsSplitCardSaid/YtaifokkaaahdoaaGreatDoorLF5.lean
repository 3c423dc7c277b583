import Derived.Test.YtaifokkaaahdoaaGreatDoorLE2
import Derived.Test.YtaifokkaaahdoaaGreatDoorKGL5
import Derived.Test.YtaifokkaaahdoaaGreatDoorKNum
import Derived.Test.YtaifokkaaahdoaaGreatDoorProg
import Derived.KernelRfl
set_option linter.unusedSectionVars false
set_option linter.unusedSimpArgs false
set_option linter.unusedVariables false
set_option maxRecDepth 8000
namespace Go.Proofs.YtaifokkaaahdoaaGreatDoor
open Go Go.Abs
def vO(o:Option Nat):Nat:=o.getD 0
theorem zcv(n:Nat):zav (n:Int)=[.bool false,.sl (zaj (lim n)) .none,.sl (zaj [1]) .none]:=by simp[zav]
theorem zeZ(o:Option Nat):∃x y z,zal o=[x,y,z]∧x.known=true∧y.known=true∧z.known=true:=by
 cases o with
 |none=>exact⟨_,_,_,rfl,rfl,rfl,rfl⟩
 |some n=>exact⟨_,_,_,zcv n,rfl,rfl,rfl⟩
theorem zeS(o:Option Nat)(h:vO o<1000000000 ^ 30)(H:zaa)(K:Kt)(hK:K (.agg (zav (vO o:Int))) H):ACalls tP zdr [.agg (zal o)] H K:=by
 cases o with
 |some n=>have la:=zbY h;exact zDc (n:Int) (by simpa[vO]using by simp only[vO,Option.getD_some]at la;omega) H K hK
 |none=>
  refine ACalls.out (zz6 λhs=>?_);simp[zr2,zal,Nat.add_assoc];have e0:(AV.sl [] .none)=.sl (zaj []) .none:=rfl;have nz:∀(J:zaa) (v:AV),WkV v (.sl [] .none)→ACalls tP zhq [v] J λr H'=>r=.sl (zaj []) .none∧H'=J:=λJ v hv=>
   ACalls.wk (args':=[.sl (zaj []) .none]) (zoU [] (by simp) (by simp) _ _ (by simp[zan,zuG,zaj])) ⟨hv,trivial⟩
  refine zaC (.sl (zaj []) .none) (λJ=>nz _ _ (by first|exact .rfl'|exact .atom .snil)) ?_;refine zaC (.sl (zaj []) .none) (λJ=>nz _ _ (by first|exact .rfl'|exact .atom .snil)) ?_;have e1:zav ((vO none:Nat):Int)=[.bool false,.sl [] .none,.sl [[.int .u32 1]] .none]:=by simp[zav,zaj,vO]
  rw[e1]at hK;simp[zar,za3,plain,AV.pd,zaq,zaN,zc8,Nat.add_assoc,zaj];exact Out.one hs (WkV.agg (ds:=[.bool false,.sl [] .none,.sl [[.int .u32 1]] .none]) ⟨.refl _,.snil,.sl _ _,trivial⟩) rfl (by simp[AV.scV,AV.scA,AV.scB]) hK
theorem zgO(o:Option Nat)(h:vO o<1000000000 ^ 30)(H:zaa)(K:Kt)(hK:K (.int .i64 (if vO o=0 then 0 else 1)) H):ACalls tP zeW [.agg (zal o)] H K:=by refine ACalls.out (zPp λhs=>?_);obtain⟨x,y,z,e,hx,hy,hz⟩:=zeZ o;simp[zAv,e,hx,hy,hz,Nat.add_assoc];simp only[←e];refine zeS o h _ _ ?_;refine zpi (vO o) _ _ ?_;exact Out.int rfl (Nat.le_refl _) hs hK
theorem zsc(a b:Option Nat)(ha:vO a<1000000000 ^ 30)(hb:vO b<1000000000 ^ 30)(H:zaa)(K:Kt)(hK:K (.agg (zal (some (vO a+vO b)))) H):ACalls tP zhH [.agg (zal a),.agg (zal b)] H K:=by
 refine ACalls.out (zOO λhs=>?_);have lc:(lim (vO a+vO b)).length≤31:=zbY (by omega);obtain⟨x,y,z,e,hx,hy,hz⟩:=zeZ a;obtain⟨x',y',z',e',hx',hy',hz'⟩:=zeZ b;simp[zAg,e,e',hx,hy,hz,hx',hy',hz',Nat.add_assoc];simp only[←e,←e'];refine zaC (.agg (zav (vO a:Int))) (λJ=>zeS a ha _ _ ⟨rfl,rfl⟩) ?_;refine zaC (.agg (zav (vO b:Int))) (λJ=>zeS b hb _ _ ⟨rfl,rfl⟩) ?_;refine zaC (.agg (zav ((vO a+vO b:Nat):Int))) (λJ=>zD3 _ _ ha hb _ _ ⟨rfl,rfl⟩) ?_;refine zaC (.agg (zav ((vO a+vO b:Nat):Int))) (λJ=>by
  rw[zcv];exact zj9 false _ (by omega) (z:=((vO a+vO b:Nat):Int)) (by simp) _ _ ⟨by rw[zcv],rfl⟩) ?_
 rw[zcv];simp[Nat.add_assoc];have:=zcu (H:=H) (K:=K) (z:=((vO a+vO b:Nat):Int)) (J:=[.cells (zal a),.cells (zal b),.cells (zav ((vO a+vO b:Nat):Int))]) hs hK;rw[zcv]at this;simpa using this
theorem zAx(a b:Option Nat)(ha:vO a<1000000000 ^ 30)(hb:vO b<1000000000 ^ 30)(H:zaa)(K:Kt)(hK:K (.agg (zal (some (vO a*vO b)))) H):ACalls tP zjM [.agg (zal a),.agg (zal b)] H K:=by
 refine ACalls.out (zPs λhs=>?_);have sa:Sm (vO a:Int):=by simpa[Sm]using ha
 have sb:Sm (vO b:Int):=by simpa[Sm]using hb
 have hm:=zbY (zu0 sa sb);simp only[Int.natAbs_natCast]at hm;obtain⟨x,y,z,e,hx,hy,hz⟩:=zeZ a;obtain⟨x',y',z',e',hx',hy',hz'⟩:=zeZ b;simp[zAw,e,e',hx,hy,hz,hx',hy',hz',Nat.add_assoc];simp only[←e,←e'];refine zaC (.agg (zav (vO a:Int))) (λJ=>zeS a ha _ _ ⟨rfl,rfl⟩) ?_;refine zaC (.agg (zav (vO b:Int))) (λJ=>zeS b hb _ _ ⟨rfl,rfl⟩) ?_;simp[zcv,AV.known,Nat.add_assoc];refine zaC (.sl (zaj (lim (vO a*vO b))) .none) (λJ=>zn8 _ _ ha hb _ _ ⟨rfl,rfl⟩) ?_;refine zaC (.sl (zaj [1]) .none) (λJ=>zuY _ _ ⟨rfl,rfl⟩) ?_;simp[zaq,zaN,zc8,AV.known,Nat.add_assoc];refine zaC (.agg (zav ((vO a*vO b:Nat):Int))) (λJ=>zj9 _ _ (by omega) (by simp) _ _ ⟨rfl,rfl⟩) ?_;have e3:∀z:Int,(zav z).take 3=zav z:=λz=>rfl;simp[AV.known,Nat.add_assoc,e3];refine zcu hs ?_;rw[←Int.natCast_mul];exact hK
theorem zMn(a b:Option Nat)(ha:vO a<1000000000 ^ 30)(hb:vO b<1000000000 ^ 30)(H:zaa)(K:Kt)(hK:K (.int .i64 (zbh (vO a) (vO b))) H):ACalls tP zoJ [.agg (zal a),.agg (zal b)] H K:=by
 refine ACalls.out (zMp λhs=>?_);have la:=zbY ha;have lb:=zbY hb;obtain⟨x,y,z,e,hx,hy,hz⟩:=zeZ a;obtain⟨x',y',z',e',hx',hy',hz'⟩:=zeZ b;simp[zzi,e,e',hx,hy,hz,hx',hy',hz',Nat.add_assoc];simp only[←e,←e'];refine zaC (.agg (zav (vO a:Int))) (λJ=>zeS a ha _ _ ⟨rfl,rfl⟩) ?_;refine zaC (.agg (zav (vO b:Int))) (λJ=>zeS b hb _ _ ⟨rfl,rfl⟩) ?_;simp[zcv,AV.known,Nat.add_assoc];simp only[←zcv];have hO:∀r J,r=zbh (vO a) (vO b)→Out H.length K (.int .i64 r) (H++J):=λr J hr=>Out.int rfl (Nat.le_refl _) hs (by rw[hr];exact hK);generalize hA:vO a=A at *;generalize hB:vO b=B at *;refine zaC (.int .i64 (if A=0 then 0 else 1)) (λJ=>zpi A _ _ ⟨rfl,rfl⟩) ?_;refine zaC (.int .i64 (if B=0 then 0 else 1)) (λJ=>zpi B _ _ ⟨rfl,rfl⟩) ?_;have fin:∀(s1:Int),s1=0∨s1=1→(s1=0→A=0∧B=0)→∀J,zaA (H++J) (λH K'=>ACalls tP zcC [.sl (zaj (lim A)) .none,.sl (zaj [1]) .none] H K') λt30=>zaA (H++J) (λH K'=>ACalls tP zcC [.sl (zaj (lim B)) .none,.sl (zaj [1]) .none] H K') λt35=>zaA (H++J) (λH K'=>ACalls tP zhJ [t30,t35] H K') λt36=>zac .mul false (.int .i64 s1) t36 λt4=>Out H.length K t4 (H++J):=by
  intro s1 h1 h2 J;refine zaC (.sl (zaj (lim A)) .none) (λJ=>zjc A ha _ _ ⟨rfl,rfl⟩) ?_;refine zaC (.sl (zaj (lim B)) .none) (λJ=>zjc B hb _ _ ⟨rfl,rfl⟩) ?_;refine zaC (.int .i64 (zbh A B)) (λJ=>zCd A B (by omega) (by omega) _ _ ⟨rfl,rfl⟩) ?_;rcases h1 with rfl|rfl
  ·obtain⟨rfl,rfl⟩:=h2 rfl;simp[zbh];exact hO 0 _ (by simp[zbh])
  ·have hc:zbh A B=-1∨zbh A B=0∨zbh A B=1:=by
    unfold zbh;split
    ·exact .inl rfl
    ·split
     ·exact .inr (.inr rfl)
     ·exact .inr (.inl rfl)
   simp;refine hO _ _ ?_;rcases hc with h|h|h <;> rw[h] <;> rfl
 simp only[zcv];by_cases h1:A=0
 ·by_cases h2:B=0
  ·simp[h1,h2];have:=fin 0 (.inl rfl) (λ_=>⟨h1,h2⟩);simp[h1,h2]at this;exact this _
  ·simp[h1,h2];refine hO _ _ ?_;unfold zbh;rw[if_pos (by omega)]
 ·by_cases h2:B=0
  ·simp[h1,h2];refine hO _ _ ?_;unfold zbh;rw[if_neg (by omega),if_pos (by omega)]
  ·simp[h1,h2];exact fin 1 (.inr rfl) (λh=>by cases h) _
theorem zLQ(a:Option Nat)(ha:vO a<1000000000 ^ 30)(H:zaa)(K:Kt)(hK:K (.agg (zav (vO a:Int))) H):ACalls tP zoE [.agg (zal a)] H K:=by refine ACalls.out (zLS λhs=>?_);have la:=zbY ha;obtain⟨x,y,z,e,hx,hy,hz⟩:=zeZ a;simp[zy9,e,hx,hy,hz,Nat.add_assoc];simp only[←e];refine zeS a ha _ _ ?_;rw[zcv];refine zj9 false (vO a) (by omega) (z:=(vO a:Int)) (by simp) _ _ ?_;simp[zcv,AV.known];rw[←zcv];exact zcu hs hK
end Go.Proofs.YtaifokkaaahdoaaGreatDoor
namespace Go.Proofs.YtaifokkaaahdoaaGreatDoor
open Go Go.Abs
set_option maxRecDepth 100000
def zd2:Nat→List Bool
 |4=>rl false [0,1,1,1,3,2,11,3,52]
 |8=>rl false [0,1,1,1,3,2,1,2,8,3,7,2,43]
 |12=>rl false [0,1,1,1,3,2,1,4,6,3,7,2,43]
 |500014=>rl false [0,1]
 |_=>[]
noncomputable def zrs:Code:=Tryz.f45.body.getD .skip
noncomputable def zMx:List ResultVar:=Tryz.f45.results.toList
def zlR(t0 t2 t6 t7 t19 t20 t21:AV):List AV:=t0::ux 1 (t2::ux 3 (t6::t7::ux 11 (t19::t20::t21::ux 52 [])))
def zzq:List Bool:=zd2 4
noncomputable def zrt:Code:=zat [1,1,1,0,1,0,0] zrs
def zzk(K:Kt):AExit→List AV→zaa→Prop:=zau tP zd2 [1,1,1,0,1,0] zrs (zaz tP zMx K)
def zzo(t0 t2 t6 t7 t19 t20 t21:AV)(H:zaa)(K:Kt):Prop:=ALoop tP zrt (zzk K) (zlR t0 t2 t6 t7 t19 t20 t21) H
def zlS(t0 t2 t6 t7 t9 t10 t19 t20 t21 t29 t30:AV):List AV:=t0::ux 1 (t2::ux 3 (t6::t7::ux 1 (t9::t10::ux 8 (t19::t20::t21::ux 7 (t29::t30::ux 43 [])))))
def zzr:List Bool:=zd2 8
noncomputable def zru:Code:=zat [1,1,0,0,1,1,0,1,0,0] zrt
def zzl(K:Kt)(Kb4:Lt):AExit→List AV→zaa→Prop:=zau tP zd2 [1,1,0,0,1,1,0,1,0] zrt (zb1 zzq Kb4 (zzk K))
def zzp(t0 t2 t6 t7 t9 t10 t19 t20 t21 t29 t30:AV)(H:zaa)(K:Kt)(Kb4:Lt):Prop:=ALoop tP zru (zzl K Kb4) (zlS t0 t2 t6 t7 t9 t10 t19 t20 t21 t29 t30) H
def zzm(t0 t2 t6 t7 t9 t10 t19 t20 t21 t29 t30:AV)(H:zaa)(K:Kt)(Kb4:Lt)(Kb8:Lt):Prop:=
 zac .add false t30 (.int .i64 1) λt67=>
 Kb8 (zlS t0 t2 t6 t7 t9 t10 t19 t20 t21 t29 t67) H
def zlT(t0 t2 t6 t7 t9 t10 t19 t20 t21 t29 t30:AV)(H:zaa)(K:Kt)(Kb4:Lt)(Kb8:Lt):Prop:=
 zzm t0 t2 t6 t7 t9 t10 t19 t20 t21 t29 t30 H K Kb4 Kb8
def zlQ(t0 t2 t6 t7 t9 t10 t11 t12 t19 t20 t21 t29 t30:AV):List AV:=t0::ux 1 (t2::ux 3 (t6::t7::ux 1 (t9::t10::t11::t12::ux 6 (t19::t20::t21::ux 7 (t29::t30::ux 43 [])))))
def zMv:List Bool:=zd2 12
noncomputable def zMr:Code:=zat [1,1,0,0,1,1,1,0,0] zru
def zMq(K:Kt)(Kb4:Lt)(Kb8:Lt):AExit→List AV→zaa→Prop:=zau tP zd2 [1,1,0,0,1,1,1,0] zru (zb1 zzr Kb8 (zzl K Kb4))
def zzn(t0 t2 t6 t7 t9 t10 t11 t12 t19 t20 t21 t29 t30:AV)(H:zaa)(K:Kt)(Kb4:Lt)(Kb8:Lt):Prop:=ALoop tP zMr (zMq K Kb4 Kb8) (zlQ t0 t2 t6 t7 t9 t10 t11 t12 t19 t20 t21 t29 t30) H
def zrp(t0 t2 t6 t7 t9 t10 t11 t12 t19 t20 t21 t29 t30:AV)(H:zaa)(K:Kt)(Kb4:Lt)(Kb8:Lt)(Kb12:Lt):Prop:=
 zac .add false t11 t12 λt41=>
 zac .leq false t41 t2 λt43=>
 zag t43
 (zab H (λK'=>K' t10 H) λt46=>
 zab H (λK'=>K' t11 H) λt47=>
 zab H (λK'=>K' t12 H) λt48=>
 zab H (λK'=>zac .add false t47 t48 (K' · H)) λt49=>
 zab H (λK'=>K' t10 H) λt50=>
 zab H (λK'=>K' t11 H) λt51=>
 zab H (λK'=>K' t12 H) λt52=>
 zab H (λK'=>zac .add false t51 t52 (K' · H)) λt53=>
 zab H (λK'=>zai 3 t50 t53 (K' · H)) λt54=>
 zab H (λK'=>zam true 3 t54 H (K' · H)) λt55=>
 zab H (λK'=>K' t7 H) λt56=>
 zab H (λK'=>K' t11 H) λt57=>
 zab H (λK'=>zai 3 t56 t57 (K' · H)) λt58=>
 zab H (λK'=>zam true 3 t58 H (K' · H)) λt59=>
 zab H (λK'=>K' t0 H) λt60=>
 zab H (λK'=>K' t9 H) λt61=>
 zab H (λK'=>K' t12 H) λt62=>
 zbg .l false H (λK'=>ACalls tP zfy [t60,t61,t62] H K') λt63 H'=>
 zdN true [t54,t58] H H' ((λH=>
 zbg .l false H (λK'=>ACalls tP zjM [t59,t63] H K') λt64 H'=>
 zdN true [t54,t58] H H' ((λH=>
 zbg .l false H (λK'=>ACalls tP zhH [t55,t64] H K') λt65 H'=>
 zdN true [t54,t58] H H' ((λH=>
 zab H (λK'=>zai 3 t46 t49 (K' · H)) λt66=>
 zbg .l false H (λK'=>zak 3 t66 t65 H (K' (.tup []))) λ_ H=>
 zac .add false t12 (.int .i64 1) λt45=>
 Kb12 (zlQ t0 t2 t6 t7 t9 t10 t11 t45 t19 t20 t21 t29 t30) H) H')) H')) H'))
 (zlT t0 t2 t6 t7 t9 t10 t19 t20 t21 t29 t30 H K Kb4 Kb8)
def zrr(t0 t2 t6 t7 t9 t10 t19 t20 t21 t29 t30:AV)(H:zaa)(K:Kt)(Kb4:Lt)(Kb8:Lt):Prop:=
 zac .lss false t30 t29 λt31=>
 zag t31
 (zai 3 t7 t30 λt35=>
 zae true 3 t35 H λt36=>
 ACalls tP zeW [t36] H λt37 H=>
 zac .eql false t37 (.int .i64 0) λt38=>
 zag t38
 (zlT t0 t2 t6 t7 t9 t10 t19 t20 t21 t29 t30 H K Kb4 Kb8)
 (zzn t0 t2 t6 t7 t9 t10 t30 (.int .i64 1) t19 t20 t21 t29 t30 H K Kb4 Kb8))
 (zac .add false t21 (.int .i64 1) λt69=>
 Kb4 (zlR t0 t2 t6 t10 t19 t20 t69) H)
def zrq(t0 t2 t6 t7 t19 t20 t21:AV)(H:zaa)(K:Kt)(Kb4:Lt):Prop:=
 zac .lss false t21 t20 λt22=>
 zag t22
 (zai 1 t19 t21 λt23=>
 zae false 1 t23 H λt24=>
 zac .add false t2 (.int .i64 1) λt26=>
 zba 56 [(.bool false),.snil,.snil] t26 t26 H λt27 H=>
 zah 1 t7 λt29=>
 zzp t0 t2 t6 t7 t24 t27 t19 t20 t21 t29 (.int .i64 0) H K Kb4)
 (zai 3 t7 t2 λt72=>
 zae true 3 t72 H λt73=>
 zak 3 t6 t73 H λH=>
 zae true 3 t6 H λr0=>
 K r0 H)
def zzj(t0 t1 t2:AV)(H:zaa)(K:Kt):Prop:=
 zaw [(.bool false),.snil,.snil] H λt6 H=>
 zac .add false t2 (.int .i64 1) λt14=>
 zba 56 [(.bool false),.snil,.snil] t14 t14 H λt15 H=>
 ACalls tP zeV [(.int .i64 1)] H λt17 H=>
 zai 3 t15 (.int .i64 0) λt18=>
 zak 3 t18 t17 H λH=>
 zah 1 t1 λt20=>
 zzo t0 t2 t6 t15 t1 t20 (.int .i64 0) H K
theorem zMs{t0 t2 t6 t7 t9 t10 t11 t12 t19 t20 t21 t29 t30:AV}{H:zaa}{K:Kt}{Kb4:Lt}{Kb8:Lt}(Inv:Nat→AV→zaa→Prop)(n:Nat)(h0:HSc H→Inv n t12 H)(round:Rd1 (λt12=>zlQ t0 t2 t6 t7 t9 t10 t11 t12 t19 t20 t21 t29 t30) (λt12=>λH Kb12=>zrp t0 t2 t6 t7 t9 t10 t11 t12 t19 t20 t21 t29 t30 H K Kb4 Kb8 Kb12) H Inv):zzn t0 t2 t6 t7 t9 t10 t11 t12 t19 t20 t21 t29 t30 H K Kb4 Kb8:=
 lp1 (M:=zd2) zMv t12 (by kernel_rfl) Inv n h0 round
theorem zMu{t0 t2 t6 t7 t9 t10 t19 t20 t21 t29 t30:AV}{H:zaa}{K:Kt}{Kb4:Lt}(Inv:Nat→AV→zaa→Prop)(n:Nat)(h0:HSc H→Inv n t30 H)(round:Rd1 (λt30=>zlS t0 t2 t6 t7 t9 t10 t19 t20 t21 t29 t30) (λt30=>λH Kb8=>zrr t0 t2 t6 t7 t9 t10 t19 t20 t21 t29 t30 H K Kb4 Kb8) H Inv):zzp t0 t2 t6 t7 t9 t10 t19 t20 t21 t29 t30 H K Kb4:=
 lp1 (M:=zd2) zzr t30 (by kernel_rfl) Inv n h0 round
theorem zMt{t0 t2 t6 t7 t19 t20 t21:AV}{H:zaa}{K:Kt}(Inv:Nat→AV→AV→zaa→Prop)(n:Nat)(h0:HSc H→Inv n t7 t21 H)(round:Rd2 (λt7=>λt21=>zlR t0 t2 t6 t7 t19 t20 t21) (λt7=>λt21=>λH Kb4=>zrq t0 t2 t6 t7 t19 t20 t21 H K Kb4) H Inv):zzo t0 t2 t6 t7 t19 t20 t21 H K:=
 lp2 (M:=zd2) zzq t7 t21 (by kernel_rfl) Inv n h0 round
theorem zMw{t0 t1 t2:AV}{H:zaa}{K:Kt}(h:HSc H→zzj t0 t1 t2 H K):ACalls tP zgk [t0,t1,t2] H K:=
 zap (M:=zd2) Tryz.func45 (c:=zrs) (by kernel_rfl) (λhs=>Eq.mpr (by kernel_rfl) (h hs))
def zfS:Nat→List Bool
 |4=>rl false [0,3,3,2,9,2,41]
 |8=>rl false [0,3,3,4,7,2,41]
 |500010=>rl false [0,1]
 |_=>[]
noncomputable def zr5:Code:=Tryz.f75.body.getD .skip
noncomputable def zOF:List ResultVar:=Tryz.f75.results.toList
def zmw(t0 t1 t2 t6 t7 t17 t18:AV):List AV:=t0::t1::t2::ux 3 (t6::t7::ux 9 (t17::t18::ux 41 []))
def zAe:List Bool:=zfS 4
noncomputable def zr6:Code:=zat [1,1,1,0,1,0,0] zr5
def zAa(K:Kt):AExit→List AV→zaa→Prop:=zau tP zfS [1,1,1,0,1,0] zr5 (zaz tP zOF K)
def zAc(t0 t1 t2 t6 t7 t17 t18:AV)(H:zaa)(K:Kt):Prop:=ALoop tP zr6 (zAa K) (zmw t0 t1 t2 t6 t7 t17 t18) H
def zAb(t0 t1 t2 t6 t7 t17 t18:AV)(H:zaa)(K:Kt)(Kb4:Lt):Prop:=
 zac .add false t18 (.int .i64 1) λt55=>
 Kb4 (zmw t0 t1 t2 t6 t7 t17 t55) H
def zmy(t0 t1 t2 t6 t7 t17 t18:AV)(H:zaa)(K:Kt)(Kb4:Lt):Prop:=
 zAb t0 t1 t2 t6 t7 t17 t18 H K Kb4
def zmx(t0 t1 t2 t6 t7 t8 t9 t17 t18:AV):List AV:=t0::t1::t2::ux 3 (t6::t7::t8::t9::ux 7 (t17::t18::ux 41 []))
def zOD:List Bool:=zfS 8
noncomputable def zOA:Code:=zat [1,1,0,0,1,1,1,0,0] zr6
def zOz(K:Kt)(Kb4:Lt):AExit→List AV→zaa→Prop:=zau tP zfS [1,1,0,0,1,1,1,0] zr6 (zb1 zAe Kb4 (zAa K))
def zAd(t0 t1 t2 t6 t7 t8 t9 t17 t18:AV)(H:zaa)(K:Kt)(Kb4:Lt):Prop:=ALoop tP zOA (zOz K Kb4) (zmx t0 t1 t2 t6 t7 t8 t9 t17 t18) H
def zr4(t0 t1 t2 t6 t7 t8 t9 t17 t18:AV)(H:zaa)(K:Kt)(Kb4:Lt)(Kb8:Lt):Prop:=
 zac .add false t8 t9 λt29=>
 zac .leq false t29 t2 λt31=>
 zag t31
 (zab H (λK'=>K' t7 H) λt34=>
 zab H (λK'=>K' t8 H) λt35=>
 zab H (λK'=>K' t9 H) λt36=>
 zab H (λK'=>zac .add false t35 t36 (K' · H)) λt37=>
 zab H (λK'=>K' t7 H) λt38=>
 zab H (λK'=>K' t8 H) λt39=>
 zab H (λK'=>K' t9 H) λt40=>
 zab H (λK'=>zac .add false t39 t40 (K' · H)) λt41=>
 zab H (λK'=>zai 3 t38 t41 (K' · H)) λt42=>
 zab H (λK'=>zam true 3 t42 H (K' · H)) λt43=>
 zab H (λK'=>K' t7 H) λt44=>
 zab H (λK'=>K' t8 H) λt45=>
 zab H (λK'=>zai 3 t44 t45 (K' · H)) λt46=>
 zab H (λK'=>zam true 3 t46 H (K' · H)) λt47=>
 zab H (λK'=>K' t0 H) λt48=>
 zab H (λK'=>K' t1 H) λt49=>
 zab H (λK'=>K' t9 H) λt50=>
 zbg .l false H (λK'=>ACalls tP zfy [t48,t49,t50] H K') λt51 H'=>
 zdN true [t42,t46] H H' ((λH=>
 zbg .l false H (λK'=>ACalls tP zjM [t47,t51] H K') λt52 H'=>
 zdN true [t42,t46] H H' ((λH=>
 zbg .l false H (λK'=>ACalls tP zhH [t43,t52] H K') λt53 H'=>
 zdN true [t42,t46] H H' ((λH=>
 zab H (λK'=>zai 3 t34 t37 (K' · H)) λt54=>
 zbg .l false H (λK'=>zak 3 t54 t53 H (K' (.tup []))) λ_ H=>
 zac .add false t9 (.int .i64 1) λt33=>
 Kb8 (zmx t0 t1 t2 t6 t7 t8 t33 t17 t18) H) H')) H')) H'))
 (zmy t0 t1 t2 t6 t7 t17 t18 H K Kb4)
def zr3(t0 t1 t2 t6 t7 t17 t18:AV)(H:zaa)(K:Kt)(Kb4:Lt):Prop:=
 zac .lss false t18 t17 λt19=>
 zag t19
 (zai 3 t7 t18 λt23=>
 zae true 3 t23 H λt24=>
 ACalls tP zeW [t24] H λt25 H=>
 zac .eql false t25 (.int .i64 0) λt26=>
 zag t26
 (zmy t0 t1 t2 t6 t7 t17 t18 H K Kb4)
 (zAd t0 t1 t2 t6 t7 t18 (.int .i64 1) t17 t18 H K Kb4))
 (zai 3 t7 t2 λt58=>
 zae true 3 t58 H λt59=>
 zak 3 t6 t59 H λH=>
 zae true 3 t6 H λr0=>
 K r0 H)
def zz9(t0 t1 t2:AV)(H:zaa)(K:Kt):Prop:=
 zaw [(.bool false),.snil,.snil] H λt6 H=>
 zac .add false t2 (.int .i64 1) λt11=>
 zba 56 [(.bool false),.snil,.snil] t11 t11 H λt12 H=>
 ACalls tP zeV [(.int .i64 1)] H λt14 H=>
 zai 3 t12 (.int .i64 0) λt15=>
 zak 3 t15 t14 H λH=>
 zah 1 t12 λt17=>
 zAc t0 t1 t2 t6 t12 t17 (.int .i64 0) H K
theorem zOC{t0 t1 t2 t6 t7 t8 t9 t17 t18:AV}{H:zaa}{K:Kt}{Kb4:Lt}(Inv:Nat→AV→zaa→Prop)(n:Nat)(h0:HSc H→Inv n t9 H)(round:Rd1 (λt9=>zmx t0 t1 t2 t6 t7 t8 t9 t17 t18) (λt9=>λH Kb8=>zr4 t0 t1 t2 t6 t7 t8 t9 t17 t18 H K Kb4 Kb8) H Inv):zAd t0 t1 t2 t6 t7 t8 t9 t17 t18 H K Kb4:=
 lp1 (M:=zfS) zOD t9 (by kernel_rfl) Inv n h0 round
theorem zOB{t0 t1 t2 t6 t7 t17 t18:AV}{H:zaa}{K:Kt}(Inv:Nat→AV→zaa→Prop)(n:Nat)(h0:HSc H→Inv n t18 H)(round:Rd1 (λt18=>zmw t0 t1 t2 t6 t7 t17 t18) (λt18=>λH Kb4=>zr3 t0 t1 t2 t6 t7 t17 t18 H K Kb4) H Inv):zAc t0 t1 t2 t6 t7 t17 t18 H K:=
 lp1 (M:=zfS) zAe t18 (by kernel_rfl) Inv n h0 round
theorem zOE{t0 t1 t2:AV}{H:zaa}{K:Kt}(h:HSc H→zz9 t0 t1 t2 H K):ACalls tP zhF [t0,t1,t2] H K:=
 zap (M:=zfS) Tryz.func75 (c:=zr5) (by kernel_rfl) (λhs=>Eq.mpr (by kernel_rfl) (h hs))
def zlL:Nat→List Bool
 |9=>rl false [0,3,3,1,2,1,29,3,55]
 |500011=>rl false [0,1]
 |_=>[]
noncomputable def zrk:Code:=Tryz.f37.body.getD .skip
noncomputable def zLX:List ResultVar:=Tryz.f37.results.toList
def zza(t0 t1 t2 t6 t9:AV)(H:zaa)(K:Kt):Prop:=
 zab H (λK'=>K' t0 H) λt88=>
 zab H (λK'=>zaI t88 (K' · H)) λt89=>
 zab H (λK'=>zaf 6 t89 (K' · H)) λt90=>
 zab H (λK'=>zam false 1 t90 H (K' · H)) λt91=>
 zab H (λK'=>K' t1 H) λt92=>
 zab H (λK'=>K' t2 H) λt93=>
 zab H (λK'=>zaq [(.int .i64 0),(.int .i64 0)] [(0,1),(1,1)] [(0,t92),(1,t93)] (K' · H)) λt94=>
 zab H (λK'=>zam true 3 t9 H (K' · H)) λt95=>
 zc1 t91 t94 t95 H λH=>
 zae true 3 t9 H λt96=>
 zak 3 t6 t96 H λH=>
 zae true 3 t6 H λr0=>
 K r0 H
def zew(t0 t1 t2 t6 t9:AV)(H:zaa)(K:Kt):Prop:=
 zza t0 t1 t2 t6 t9 H K
def zlM(t0 t1 t2 t6 t9 t39 t40 t41:AV):List AV:=t0::t1::t2::ux 3 (t6::ux 2 (t9::ux 29 (t39::t40::t41::ux 55 [])))
def zLW:List Bool:=zlL 9
noncomputable def zLU:Code:=zat [1,1,1,1,0,1,0,1,1,1,1,1,1,1,1,1,0,0] zrk
def zLT(K:Kt):AExit→List AV→zaa→Prop:=zau tP zlL [1,1,1,1,0,1,0,1,1,1,1,1,1,1,1,1,0] zrk (zaz tP zLX K)
def zzb(t0 t1 t2 t6 t9 t39 t40 t41:AV)(H:zaa)(K:Kt):Prop:=ALoop tP zLU (zLT K) (zlM t0 t1 t2 t6 t9 t39 t40 t41) H
def zrj(t0 t1 t2 t6 t9 t39 t40 t41:AV)(H:zaa)(K:Kt)(Kb9:Lt):Prop:=
 zac .lss false t41 t40 λt42=>
 zag t42
 (zai 2 t39 t41 λt43=>
 zae true 2 t43 H λt44=>
 zaw [(.int .i64 0),.snil] H λt11 H=>
 zak 2 t11 t44 H λH=>
 zab H (λK'=>zam true 3 t9 H (K' · H)) λt45=>
 zab H (λK'=>K' t0 H) λt46=>
 zab H (λK'=>zaf 1 t11 (K' · H)) λt47=>
 zab H (λK'=>zam false 1 t47 H (K' · H)) λt48=>
 zab H (λK'=>K' t2 H) λt49=>
 zab H (λK'=>zac .sub false t49 (.int .i64 1) (K' · H)) λt50=>
 zbg .l false H (λK'=>ACalls tP zgk [t46,t48,t50] H K') λt51 H'=>
 zdN true [t9,t47] H H' ((λH=>
 zbg .l false H (λK'=>ACalls tP zhH [t45,t51] H K') λt52 H'=>
 zdN true [t9,t47] H H' ((λH=>
 zbg .l false H (λK'=>zak 3 t9 t52 H (K' (.tup []))) λ_ H=>
 zac .add false t41 (.int .i64 1) λt53=>
 Kb9 (zlM t0 t1 t2 t6 t9 t39 t40 t53) H) H')) H'))
 (zew t0 t1 t2 t6 t9 H K)
def zgK(t0 t1 t2:AV)(H:zaa)(K:Kt):Prop:=
 zaw [(.bool false),.snil,.snil] H λt6 H=>
 zac .lss false t2 (.int .i64 1) λt13=>
 zag t13
 (ACalls tP zeV [(.int .i64 0)] H λt14 H=>
 zak 3 t6 t14 H λH=>
 zae true 3 t6 H λr0=>
 K r0 H)
 (zaI t0 λt17=>
 zaf 6 t17 λt18=>
 zae false 1 t18 H λt19=>
 zaq [(.int .i64 0),(.int .i64 0)] [(0,1),(1,1)] [(0,t1),(1,t2)] λt22=>
 zd8 (.agg [(.bool false),.snil,.snil]) true t19 t22 H λt23=>
 zaG t23 0 λt24=>
 zaG t23 1 λt25=>
 zaw [(.bool false),.snil,.snil] H λt7 H=>
 zak 3 t7 t24 H λH=>
 zag t25
 (zae true 3 t7 H λt27=>
 zak 3 t6 t27 H λH=>
 zae true 3 t6 H λr0=>
 K r0 H)
 (ACalls tP zeV [(.int .i64 0)] H λt28 H=>
 zaw [(.bool false),.snil,.snil] H λt9 H=>
 zak 3 t9 t28 H λH=>
 zaI t0 λt30=>
 zaf 3 t30 λt31=>
 zae false 1 t31 H λt32=>
 zai 3 t32 t1 λt34=>
 zaf 0 t34 λt35=>
 zae false 1 t35 H λt36=>
 zac .eql false t36 (.int .i64 3) λt55=>
 zag t55
 (ACalls tP zgn [(.int .i64 1),t2] H λt57 H=>
 zak 3 t9 t57 H λH=>
 zew t0 t1 t2 t6 t9 H K)
 (zac .eql false t36 (.int .i64 2) λt59=>
 zag t59
 (ACalls tP zgn [(.int .i64 2),t2] H λt61 H=>
 zak 3 t9 t61 H λH=>
 zew t0 t1 t2 t6 t9 H K)
 (zac .eql false t36 (.int .i64 1) λt63=>
 zag t63
 (zaI t0 λt65=>
 zaf 1 t65 λt66=>
 zae false 1 t66 H λt67=>
 ACalls tP zgn [t67,t2] H λt69 H=>
 zak 3 t9 t69 H λH=>
 zew t0 t1 t2 t6 t9 H K)
 (zac .eql false t36 (.int .i64 7) λt71=>
 zag t71
 (zaI t0 λt75=>
 zaf 3 t75 λt76=>
 zae false 1 t76 H λt77=>
 zai 3 t77 t1 λt79=>
 zaf 2 t79 λt80=>
 zae false 1 t80 H λt81=>
 zai 3 t81 (.int .i64 0) λt82=>
 zae true 3 t82 H λt83=>
 ACalls tP zfz [t0,t83] H λt84 H=>
 zac .sub false t2 (.int .i64 1) λt86=>
 ACalls tP zhF [t0,t84,t86] H λt87 H=>
 zak 3 t9 t87 H λH=>
 zew t0 t1 t2 t6 t9 H K)
 (ACalls tP zhG [t0,t1] H λt39 H=>
 zah 1 t39 λt40=>
 zzb t0 t1 t2 t6 t9 t39 t40 (.int .i64 0) H K))))))
theorem zLV{t0 t1 t2 t6 t9 t39 t40 t41:AV}{H:zaa}{K:Kt}(Inv:Nat→AV→zaa→Prop)(n:Nat)(h0:HSc H→Inv n t41 H)(round:Rd1 (λt41=>zlM t0 t1 t2 t6 t9 t39 t40 t41) (λt41=>λH Kb9=>zrj t0 t1 t2 t6 t9 t39 t40 t41 H K Kb9) H Inv):zzb t0 t1 t2 t6 t9 t39 t40 t41 H K:=
 lp1 (M:=zlL) zLW t41 (by kernel_rfl) Inv n h0 round
theorem zik{t0 t1 t2:AV}{H:zaa}{K:Kt}(h:HSc H→zgK t0 t1 t2 H K):ACalls tP zfy [t0,t1,t2] H K:=
 zap (M:=zlL) Tryz.func37 (c:=zrk) (by kernel_rfl) (λhs=>Eq.mpr (by kernel_rfl) (h hs))
def zHu(_:Nat):List Bool:=[]
noncomputable def zHv:Code:=Tryz.f14.body.getD .skip
def zxk(t0 t1 t2 t3:AV)(H:zaa)(K:Kt):Prop:=
 zas t1 H λt5 H=>
 zaw [(.bool false),.snil,.snil] H λt8 H=>
 zae true 3 t5 H λt12=>
 ACalls tP zjA [t0,t12] H λt13 H=>
 aUn .not t13 λt14=>
 zag t14
 (zaq [(.bool false),.snil,.snil] [(0,1),(1,1),(2,1)] [] λt15=>
 zak 3 t8 t15 H λH=>
 zae true 3 t8 H λr0=>
 zbf [r0,(.int .i64 6)] (K · H))
 (zac .lss false t2 (.int .i64 0) λt17=>
 zad t17 false H (λK'=>K' t2 H) λt19 H=>
 zad t17 false H (λK'=>zac .gtr false t19 (.int .i64 24) (K' · H)) λt20 H=>
 zao t17 (.bool true) t20 λt21=>
 zad t21 false H (λK'=>K' t3 H) λt23 H=>
 zad t21 false H (λK'=>zac .lss false t23 (.int .i64 0) (K' · H)) λt24 H=>
 zao t21 (.bool true) t24 λt25=>
 zad t25 false H (λK'=>K' t3 H) λt27 H=>
 zad t25 false H (λK'=>zac .gtr false t27 (.int .i64 8) (K' · H)) λt28 H=>
 zao t25 (.bool true) t28 λt29=>
 zag t29
 (zaq [(.bool false),.snil,.snil] [(0,1),(1,1),(2,1)] [] λt30=>
 zak 3 t8 t30 H λH=>
 zae true 3 t8 H λr0=>
 zbf [r0,(.int .i64 8)] (K · H))
 (ACalls tP zjB [t0,t3] H λt33 H=>
 zae true 3 t5 H λt36=>
 ACalls tP zfz [t33,t36] H λt37 H=>
 ACalls tP zfy [t33,t37,t2] H λt39 H=>
 ACalls tP zoE [t39] H λt40 H=>
 zak 3 t8 t40 H λH=>
 zae true 3 t8 H λr0=>
 zbf [r0,(.int .i64 0)] (K · H)))
theorem zHw{t0 t1 t2 t3:AV}{H:zaa}{K:Kt}(h:HSc H→zxk t0 t1 t2 t3 H K):ACalls tP zhr [t0,t1,t2,t3] H K:=
 zap (M:=zHu) Tryz.func14 (c:=zHv) (by kernel_rfl) (λhs=>Eq.mpr (by kernel_rfl) (h hs))
end Go.Proofs.YtaifokkaaahdoaaGreatDoor
namespace Go.Proofs.YtaifokkaaahdoaaGreatDoor
open Go Go.Abs
theorem zdK{α:Type}(P:Nat→α→Prop)(R:Nat→α→α→Prop):∀ (n:Nat),(∀ k<n,∀ a,P k a→∃ a',R k a a'∧P (k+1) a')→∀ a0,P 0 a0→∃ σ:Nat→α,σ 0=a0∧(∀ k≤n,P k (σ k))∧∀ k<n,R k (σ k) (σ (k+1))
 |0,_,a0,h0=>by
  refine⟨λ_=>a0,rfl,λk hk=>?_,λk hk=>by omega⟩;have hk0:k=0:=by omega
  rw[hk0];exact h0
 |n+1,h,a0,h0=>by
  obtain⟨σ,h1,h2,h3⟩:=zdK P R n (λk hk=>h k (by omega)) a0 h0;obtain⟨a',h4,h5⟩:=h n (by omega) (σ n) (h2 n (Nat.le_refl _));refine⟨λk=>if k≤n then σ k else a',by simp[h1],λk hk=>?_,λk hk=>?_⟩
  ·by_cases e:k≤n
   ·simp only[if_pos e];exact h2 k e
   ·simp only[if_neg e];obtain rfl:k=n+1:=by omega
    exact h5
  ·by_cases e:k+1≤n
   ·simp only[if_pos e,if_pos (show k≤n by omega)];exact h3 k (by omega)
   ·obtain rfl:k=n:=by omega
    simp only[if_neg e,if_pos (Nat.le_refl _)];exact h4
def zaW(r:List (Option Nat)):List AV:=(r.map zal).flatten
def zaP(r:List (Option Nat))(h:Nat):Nat:=vO (r.getD h none)
theorem zby(o:Option Nat):(zal o).length=3:=by cases o <;> rfl
theorem zhO(o:Option Nat):(zal o).all AV.known=true:=by cases o <;> rfl
theorem zvK(r:List (Option Nat)):(zaW r).length=3*r.length:=by
 induction r with
 |nil=>rfl
 |cons o r ih=>unfold zaW at ih ⊢;simp only[List.map_cons,List.flatten_cons,List.length_append,zby,ih,List.length_cons];omega
theorem zvJ:∀ (r:List (Option Nat)) (h:Nat),h<r.length→((zaW r).drop (h*3)).take 3=zal (r.getD h none)
 |[],h,hl=>by simp at hl
 |o::r,0,_=>by simp only[zaW,List.map_cons,List.flatten_cons,Nat.zero_mul,List.drop_zero];rw[List.take_left' (zby o)];rfl
 |o::r,h+1,hl=>by have:=zvJ r h (by simpa using hl);simp only[zaW,List.map_cons,List.flatten_cons]at this ⊢;rw[show (h+1)*3=(zal o).length+h*3 from by rw[zby];omega,List.drop_append,List.drop_eq_nil_of_le (by omega),List.nil_append,show (zal o).length+h*3-(zal o).length=h*3 from by omega,this];rfl
theorem zvL:∀ (r:List (Option Nat)) (h:Nat) (o:Option Nat),h<r.length→(zaW r).take (h*3)++zal o++(zaW r).drop (h*3+3)=zaW (r.set h o)
 |[],h,_,hl=>by simp at hl
 |x::r,0,o,_=>by simp only[zaW,List.map_cons,List.flatten_cons,Nat.zero_mul,List.take_zero,List.nil_append,Nat.zero_add,List.set_cons_zero];rw[List.drop_left' (zby x)]
 |x::r,h+1,o,hl=>by have:=zvL r h o (by simpa using hl);simp only[zaW,List.map_cons,List.flatten_cons,List.set_cons_succ]at this ⊢;rw[←this];rw[show (h+1)*3=(zal x).length+h*3 from by rw[zby];omega,show (zal x).length+h*3+3=(zal x).length+(h*3+3) from by omega];rw[List.take_append,List.take_of_length_le (by omega),List.drop_append,List.drop_eq_nil_of_le (by omega),List.nil_append];rw[show (zal x).length+h*3-(zal x).length=h*3 from by omega,show (zal x).length+(h*3+3)-(zal x).length=h*3+3 from by omega];simp only[List.append_assoc]
theorem zpa(n:Nat):(List.replicate n [AV.bool false,.snil,.snil]).flatten=zaW (List.replicate n none):=by unfold zaW;rw[List.map_replicate];rfl
theorem zj2(m:Nat)(r:List (Option Nat)):(zaW r).all (AV.scA m)=true:=by
 unfold zaW;induction r with
 |nil=>rfl
 |cons o r ih=>simp only[List.map_cons,List.flatten_cons,List.all_append,zcT,ih];rfl
theorem zvM(r:List (Option Nat))(h m:Nat)(o:Option Nat)(hl:h<r.length):zaP (r.set h o) m=if m=h then vO o else zaP r m:=by
 unfold zaP;rw[List.getD_eq_getElem?_getD,List.getD_eq_getElem?_getD];by_cases e:h=m
 ·subst e;rw[List.getElem?_set_self hl];simp
 ·rw[List.getElem?_set_ne e,if_neg (λk=>e k.symm)]
theorem zpb(n m:Nat):zaP (List.replicate n none) m=0:=by unfold zaP;rw[List.getD_eq_getElem?_getD,List.getElem?_replicate];split <;> rfl
section
variable {P:AV→Prop}
theorem zeR{id h:Nat}{r:List (Option Nat)}{H:zaa}{K:AV→Prop}(hid:H[id]?=some (.cells (zaW r)))(hl:h<r.length)(hk:K (.agg (zal (r.getD h none)))):zae true 3 (.ptr id (h*3)) H K:=by simp only[zcJ,hid,zfk,zfg];exact⟨by rw[zvK];omega,by rw[zvJ r h hl];exact hk⟩
theorem zj8{id h:Nat}{r:List (Option Nat)}{o:Option Nat}{H:zaa}{K:zaa→Prop}(hid:H[id]?=some (.cells (zaW r)))(hl:h<r.length)(hk:K (H.set id (.cells (zaW (r.set h o))))):zak 3 (.ptr id (h*3)) (.agg (zal o)) H K:=by simp only[zgU,hid,AV.cs?,zdH];exact⟨⟨zby o,by rw[zvK];omega,zhO o⟩,by rw[zvL r h o hl];exact hk⟩
theorem zun{id h n c:Nat}{K:AV→Prop}(hl:h<n)(hk:K (.ptr id (h*3))):zai 3 (.ms id 0 n c) (.int .i64 h) K:=by rw[zfi];exact⟨⟨by omega,by omega⟩,by simpa using hk⟩
end
section
variable (data:List Dat) (kk:Nat) (X:List VT) (I:SI)
abbrev zaV(S:SS):Prop:=Inv data kk X (λ_=>False) S
def zd5(S S':SS)(i m:Nat)(o:Option Nat):Prop:=∀H,ShS data kk I S H→H[0]?=some .nodr→∀K:Kt,K (.agg (zal o)) (shS data kk I S' H)→ACalls tP zfy [.ptr I.p 0,.int .i64 i,.int .i64 m] H K
def zcp(m:Nat):Prop:=∀(S:SS) (i:Nat) (t:VT),zaV data kk X S→S.types[i]?=some t→Rch data X m t→∃S' o,zaV data kk X S'∧S.types <+: S'.types∧vO o=cV data kk t m∧zd5 data kk I S S' i m o
end
theorem zcS{T T':List VT}(h:T <+: T'){i:Nat}{t:VT}(ht:T[i]?=some t):T'[i]?=some t:=by obtain⟨E,rfl⟩:=h;rw[List.getElem?_append_left (List.getElem?_eq_some_iff.1 ht).1];exact ht
theorem zv6:∀ (n:Nat) (f:Nat→Nat),sm n f=sm n λi=>f (n-1-i)
 |0,_=>rfl
 |n+1,f=>by
  rw[ze4,zv6 n]
  conv=>rhs;rw[sm]
  rw[show n+1-1-n=0 from by omega,Nat.add_comm];congr 1;exact zb2 λi hi=>by rw[show n-1-i+1=n+1-1-i from by omega]
theorem zj7{a b:Nat}(h:a≤b)(f:Nat→Nat):sm a f≤sm b f:=by
 induction b with
 |zero=>
  obtain rfl:a=0:=by omega
  exact Nat.le_refl _
 |succ b ih=>
  by_cases e:a=b+1
  ·subst e;exact Nat.le_refl _
  ·have:=ih (by omega);rw[sm];omega
def zdd(g:Nat→Nat)(k m:Nat):Nat:=(if m=0 then 1 else 0)+sm (min k m) λh=>cA g h*g (m-h)
theorem zDW(g:Nat→Nat)(m:Nat):zdd g 0 m=if m=0 then 1 else 0:=by simp[zdd,sm]
theorem zgr{g:Nat→Nat}(h0:g 0=0){k m:Nat}(h:m≤k):zdd g k m=cA g m:=by
 unfold zdd;rw[Nat.min_eq_right h];cases m with
 |zero=>rfl
 |succ m=>
  rw[if_neg (by omega),Nat.zero_add,ziJ h0]
  conv=>rhs;rw[ze4,h0,Nat.zero_mul,Nat.zero_add]
  rw[zv6 (m+1)];refine zb2 λi hi=>?_;rw[show m+1-1-i=m-i from by omega,show m+1-(m-i)=i+1 from by omega,show m+1-(i+1)=m-i from by omega,Nat.mul_comm]
theorem zo1(g:Nat→Nat)(k m:Nat):zdd g (k+1) m=zdd g k m+if k<m then cA g k*g (m-k) else 0:=by
 unfold zdd;by_cases h:k<m
 ·rw[if_pos h,Nat.min_eq_left (by omega),Nat.min_eq_left (by omega),sm];omega
 ·rw[if_neg h,Nat.min_eq_right (by omega),Nat.min_eq_right (by omega)];rfl
theorem zDV{g:Nat→Nat}(h0:g 0=0)(k m:Nat):zdd g k m≤cA g m:=by rw[←zgr h0 (Nat.le_refl m)];unfold zdd;have:=zj7 (show min k m≤min m m by omega) λh=>cA g h*g (m-h);omega
section
variable {data:List Dat} (hD:zaE data=true) (hk:Kpt data) {kk:Nat} (hkk:kk≤8) {X:List VT} (hX:X.length≤1000000000000) {I:SI}
def QA(data:List Dat)(kk:Nat)(X:List VT)(S:SS)(t:VT)(n k s:Nat)(b:SS×List (Option Nat)):Prop:=
 zaV data kk X b.1∧S.types <+: b.1.types∧b.2.length=n+1∧∀m,m≤n→zaP b.2 m=zdd (cV data kk t) k m+if k<m∧m≤k+s then cA (cV data kk t) k*cV data kk t (m-k) else 0
def RA(data:List Dat)(kk:Nat)(I:SI)(t:VT)(i k s:Nat)(b b':SS×List (Option Nat)):Prop:=
 ∃o,vO o=cV data kk t (s+1)∧zd5 data kk I b.1 b'.1 i (s+1) o∧b'.2=b.2.set (k+(s+1)) (some (zaP b.2 (k+(s+1))+zaP b.2 k*cV data kk t (s+1)))
include hD hk hkk hX
theorem zBJ{S:SS}{i n:Nat}{t:VT}(hC:∀ m,m≤n→zcp data kk X I m)(hti:S.types[i]?=some t)(hR:Rch data X n t){k:Nat}(hkn:k≤n){a:SS × List (Option Nat)}(ha:QA data kk X S t n k 0 a):
  ∃ τ:Nat→SS×List (Option Nat),τ 0=a∧(∀s≤n-k,QA data kk X S t n k s (τ s))∧∀s<n-k,RA data kk I t i k s (τ s) (τ (s+1)):=by
 refine zdK _ _ (n-k) (λs hs b hb=>?_) a ha;obtain⟨h1,h2,h3,h4⟩:=hb;obtain⟨S',o,h5,h6,h7,h8⟩:=hC (s+1) (by omega) b.1 i t h1 (zcS h2 hti) (hR.le _ (by omega));refine⟨(S',b.2.set (k+(s+1)) (some (zaP b.2 (k+(s+1))+zaP b.2 k*cV data kk t (s+1)))),⟨o,h7,h8,rfl⟩,h5,h2.trans h6,by simp[h3],λm hm=>?_⟩;simp only;rw[zvM _ _ _ _ (by omega)];by_cases e:m=k+(s+1)
 ·subst e;rw[if_pos rfl,if_pos ⟨by omega,by omega⟩,h4 _ hm,if_neg (by omega),h4 k (by omega),if_neg (by omega),zgr (zbF data kk t) (Nat.le_refl k),show k+(s+1)-k=s+1 from by omega];rfl
 ·rw[if_neg e,h4 m hm];congr 1;by_cases e2:k<m∧m≤k+s
  ·rw[if_pos e2,if_pos ⟨e2.1,by omega⟩]
  ·rw[if_neg e2,if_neg (by omega)]
theorem zBK{S:SS}{i n:Nat}{t:VT}(hC:∀ m,m≤n→zcp data kk X I m)(hI:zaV data kk X S)(hti:S.types[i]?=some t)(hR:Rch data X n t):
  ∃ σ:Nat→SS×List (Option Nat),σ 0=(S,some 1::List.replicate n none)∧(∀k≤n+1,QA data kk X S t n k 0 (σ k))∧∀k<n+1,(zaP (σ k).2 k=0∧σ (k+1)=σ k)∨(zaP (σ k).2 k≠0∧∃ τ:Nat→SS×List (Option Nat),τ 0=σ k∧τ (n-k)=σ (k+1)∧(∀s≤n-k,QA data kk X S t n k s (τ s))∧∀s<n-k,RA data kk I t i k s (τ s) (τ (s+1))):=by
 refine zdK _ (λk a a'=>(zaP a.2 k=0∧a'=a)∨(zaP a.2 k≠0∧∃ τ:Nat→SS×List (Option Nat),τ 0=a∧τ (n-k)=a'∧(∀s≤n-k,QA data kk X S t n k s (τ s))∧∀s<n-k,RA data kk I t i k s (τ s) (τ (s+1)))) (n+1) (λk hkn a ha=>?_) _ ⟨hI,List.prefix_rfl,by simp,λm hm=>?_⟩
 ·have hk0:zaP a.2 k=cA (cV data kk t) k:=by rw[ha.2.2.2 k (by omega),if_neg (by omega),zgr (zbF data kk t) (Nat.le_refl k)];rfl
  by_cases e:zaP a.2 k=0
  ·refine⟨a,.inl ⟨e,rfl⟩,ha.1,ha.2.1,ha.2.2.1,λm hm=>?_⟩;rw[ha.2.2.2 m hm,if_neg (by omega),if_neg (by omega),zo1,←hk0,e];split <;> simp
  ·obtain⟨τ,h1,h2,h3⟩:=zBJ hD hk hkk hX hC hti hR (show k≤n by omega) ha;refine⟨τ (n-k),.inr ⟨e,τ,h1,rfl,h2,h3⟩,?_⟩;obtain⟨h4,h5,h6,h7⟩:=h2 (n-k) (Nat.le_refl _);refine⟨h4,h5,h6,λm hm=>?_⟩;rw[h7 m hm,if_neg (show ¬(k+1<m∧m≤k+1+0) by omega),zo1];by_cases e2:k<m
   ·rw[if_pos ⟨e2,by omega⟩,if_pos e2];rfl
   ·rw[if_neg (by omega),if_neg e2]
 ·simp only;rw[if_neg (by omega),zDW];unfold zaP;cases m with
  |zero=>rfl
  |succ m=>have:=zpb n m;unfold zaP at this;simpa using this
end
theorem znX{A J:zaa}{A':zaa}{l:Nat}(hl:A.length=l)(hl':A'.length=l){la:List AV}(has:∀a∈la,∀id off,a=.ptr id off→l≤id):zdC la (A++J) (A'++J):=by intro a ha id off e cs hcs;have:=has a ha id off e;rw[List.getElem?_append_right (by omega)]at hcs ⊢;rw[hl]at hcs;rw[hl'];exact hcs
theorem zhh(la:List AV)(H:zaa):zdC la H H:=λ_ _ _ _ _ _ h=>h
theorem zdi{H:zaa}{p:(AV→zaa→Prop)→Prop}{k:AV→zaa→Prop}(r:AV)(H':zaa)(h:p λv H2=>v=r∧H2=H')(hk:k r H'):zbg .l false H p k:=⟨r,H',h,(λh=>by cases h),hk⟩
@[congr] theorem zRh{m:WM}{g:Bool}{H:zaa}{p:(AV→zaa→Prop)→Prop}{k:AV→zaa→Prop}:zbg m g H p k=zbg m g H p k:=rfl
section
variable {data:List Dat} (hD:zaE data=true) (hk:Kpt data) {kk:Nat} (hkk:kk≤8) {X:List VT} (hX:X.length≤1000000000000) {I:SI}
include hD hk hkk hX
theorem zv2{n:Nat}(hn:n≤14)(hC:∀ m,m≤n→zcp data kk X I m){S:SS}{i:Nat}{t:VT}(hI:zaV data kk X S)(hti:S.types[i]?=some t)(hR:Rch data X n t):
  ∃S' o,zaV data kk X S'∧S.types <+: S'.types∧vO o=cA (cV data kk t) n∧∀H,ShS data kk I S H→H[0]?=some .nodr→∀K:Kt,K (.agg (zal o)) (shS data kk I S' H)→ACalls tP zhF [.ptr I.p 0,.int .i64 i,.int .i64 n] H K:=by
 obtain⟨σ,hσ0,hσQ,hσR⟩:=zBK (I:=I) hD hk hkk hX hC hI hti hR;have hlast:=hσQ (n+1) (Nat.le_refl _);have hgz:=zbF data kk t;refine⟨(σ (n+1)).1,(σ (n+1)).2.getD n none,hlast.1,hlast.2.1,?_,λH hS h0 K hK=>?_⟩
 ·have:=hlast.2.2.2 n (Nat.le_refl _);rw[if_neg (by omega),zgr hgz (by omega)]at this;exact this
 refine ACalls.out (zOE λhs=>?_);have hlt0:0<H.length:=(List.getElem?_eq_some_iff.1 h0).1;have lp:=(List.getElem?_eq_some_iff.1 hS.hp).1;obtain⟨Hp,hHp⟩:∃Hp:SS×List (Option Nat)→zaa,Hp=λa=>shS data kk I a.1 H++[.cells (zal none),.cells (zaW a.2)]:=⟨_,rfl⟩;have hpl:∀a,(Hp a).length=H.length+2:=λa=>by rw[hHp];simp
 have hps:∀a,HSc (Hp a):=λa=>by rw[hHp];refine(hS.scs hs).append ?_;simp only[List.all_cons,List.all_nil,AB.sc,zj2,zcT,Bool.and_true]
 have hp0:∀a,(Hp a)[0]?=some .nodr:=λa=>by rw[hHp];simp only;rw[List.getElem?_append_left (by simpa using hlt0)];exact hS.nodr h0
 have hp1:∀a,(Hp a)[H.length+1]?=some (.cells (zaW a.2)):=λa=>by rw[hHp];simp[List.getElem?_append]
 have hpr:∀a,(Hp a)[H.length]?=some (.cells (zal none)):=λa=>by rw[hHp];simp[List.getElem?_append]
 have hpS:∀a,zaV data kk X a.1→ShS data kk I a.1 (Hp a):=λa ha=>by rw[hHp];exact(hS.next ha.ml ha.cl).app
 have hset:∀a r,(Hp a).set (H.length+1) (.cells (zaW r))=Hp (a.1,r):=λa r=>by rw[hHp];simp only;rw[List.set_append_right _ _ (by simp)];simp
 have hmv:∀a S',zaV data kk X a.1→shS data kk I S' (Hp a)=Hp (S',a.2):=λa S' ha=>by rw[hHp];simp only;rw[(hS.next ha.ml ha.cl).shS_app,zcU]
 have glim:∀m,m≤n→cV data kk t m<1000000000 ^ 30:=λm hm=>zeG hk hkk t (by omega);have alim:∀m,m≤n→cA (cV data kk t) m<1000000000 ^ 30:=λm hm=>ztp hk hkk t (by omega);simp[zz9];obtain⟨N,hN⟩:∃N:Nat,N=n+1:=⟨_,rfl⟩;have hwn:IntKind.i64.wrap ((n:Int)+1)=(N:Int):=by rw[hN];exact wr (by omega)
 rw[hwn];simp only[zba];refine⟨by omega,?_⟩;refine zfd 1 (by omega) _ _ ?_;simp only[Int.toNat_natCast,List.length_append,List.length_cons,List.length_nil,List.append_assoc,List.cons_append,List.nil_append];refine zun (h:=0) (by omega) ?_;have e11:H.length+(0+1)=H.length+1:=by omega
 rw[zpa,e11];have hH1:(H++[AB.cells [AV.bool false,AV.snil,AV.snil],AB.cells (zaW (List.replicate N none))])[H.length+1]?=some (.cells (zaW (List.replicate N none))):=by simp[List.getElem?_append]
 refine zj8 (o:=some 1) hH1 (by simp;omega) ?_;have hst0:(H++[AB.cells [AV.bool false,AV.snil,AV.snil],AB.cells (zaW (List.replicate N none))]).set (H.length+1) (.cells (zaW ((List.replicate N none).set 0 (some 1))))=Hp (σ 0):=by rw[hσ0,hHp];simp only;rw[hS.self,List.set_append_right _ _ (by simp)];simp[hN,List.replicate_succ];rfl
 rw[hst0,zBf];have hrow:∀k,k≤N→(σ k).2.length=N:=λk hk=>by rw[hN]at hk ⊢;exact(hσQ k hk).2.2.1
 refine zOB (Inv:=λq t18 H'=>∃k:Nat,k≤N∧N-k=q∧t18=.int .i64 k∧H'=Hp (σ k)) N ?_ ?_
 ·intro _;exact⟨0,by omega,rfl,rfl,rfl⟩
 ·rintro q t18 H' ⟨k,hkn,rfl,rfl,rfl⟩ hsc' hlen hsF Kb4 hKb4;have hQ:=hσQ k (by omega);by_cases hlt:k<N
  ·-- a round
   have hkn':k<n+1:=by omega
   have hcur:zaP (σ k).2 k=cA (cV data kk t) k:=by rw[hQ.2.2.2 k (by omega),if_neg (by omega),zgr hgz (Nat.le_refl k)];rfl
   have hj:zmy (.ptr I.p 0) (.int .i64 i) (.int .i64 n) (.ptr H.length 0) (.ms (H.length+1) 0 N N) (.int .i64 N) (.int .i64 k) (Hp (σ (k+1))) (Out H.length K) Kb4:=by unfold zmy zAb;simp;rw[wr (by omega)];refine hKb4 _ _ ⟨N-(k+1),by omega,Back.here (by rw[hpl,hpl];omega) (hps _) ?_ ⟨_,rfl,k+1,by omega,rfl,rfl,rfl⟩⟩;rw[hpl];simp[zmw,ux,AV.sc,AV.scA,AV.scB,AV.scV];omega
   simp[zr3,hlt];rw[←zcJ];refine zeR (hp1 _) (by rw[hrow k hkn];exact hlt) ?_;have hcl:=alim k (by omega);rw[←hcur]at hcl;refine zgO _ hcl _ _ ?_;change zac .eql false (.int .i64 (if zaP (σ k).2 k=0 then 0 else 1)) _ _;rcases hσR k hkn' with ⟨e,hst⟩|⟨e,τ,hτ0,hτ1,hτQ,hτR⟩
   ·simp[e];rw[←hst];exact hj
   ·simp[e];rw[←hτ0];refine zOC (Inv:=λq t9 H'=>∃s s1:Nat,s1=s+1∧s≤n-k∧n-k-s=q∧t9=.int .i64 s1∧H'=Hp (τ s)) (n-k) ?_ ?_
    ·intro _;exact⟨0,1,rfl,by omega,rfl,rfl,rfl⟩
    ·rintro q t9 H' ⟨s,s1,hs1,hsn,rfl,rfl,rfl⟩ hsc8 hlen8 hsF8 Kb8 hKb8;have hS2:=hτQ s hsn;obtain⟨p,hp⟩:∃ p:Nat,p=k+s1:=⟨_,rfl⟩;have hw1:IntKind.i64.wrap ((k:Int)+(s1:Int))=(p:Int):=by rw[zaB (by omega) (by omega)];omega
     by_cases hs8:s<n-k
     ·have hle:p≤n:=by omega
      have hpN:p<N:=by omega
      obtain⟨o,hov,hcc,hrw⟩:=hτR s hs8;rw[←hs1]at hov hcc hrw;rw[←hp]at hrw;have hl2:(τ s).2.length=N:=by rw[hS2.2.2.1,hN]
      have v1:zaP (τ s).2 k=cA (cV data kk t) k:=by rw[hS2.2.2.2 k (by omega),if_neg (by omega),zgr hgz (Nat.le_refl k)];rfl
      have vp:zaP (τ s).2 p=zdd (cV data kk t) k p:=by rw[hS2.2.2.2 p hle,if_neg (by omega)];rfl
      have hsum:zdd (cV data kk t) k p+cA (cV data kk t) k*cV data kk t s1≤cA (cV data kk t) p:=by have h1:=zDV hgz (k+1) p;rw[zo1,if_pos (by omega),show p-k=s1 from by omega]at h1;exact h1
      have hpl':=alim p hle;have b1:zaP (τ s).2 k<1000000000 ^ 30:=by rw[v1];exact alim k (by omega)
      have b2:vO o<1000000000 ^ 30:=by rw[hov];exact glim s1 (by omega)
      have b3:zaP (τ s).2 p<1000000000 ^ 30:=by rw[vp];omega
      have b4:zaP (τ s).2 k*vO o<1000000000 ^ 30:=by rw[v1,hov];omega
      unfold zr4;simp[hw1,hle,hpN];rw[←zcJ];refine zeR (hp1 _) (by omega) ?_;refine⟨by omega,?_⟩;rw[←zcJ];refine zeR (hp1 _) (by omega) ?_;refine zdi (.agg (zal o)) (Hp ((τ s1).1,(τ s).2)) (hcc _ (hpS _ hS2.1) (hp0 _) _ ⟨rfl,hmv _ _ hS2.1⟩) ?_;have kp:∀(a b:SS×List (Option Nat)),a.2=b.2→zdC [AV.ptr (H.length+1) (p*3),AV.ptr (H.length+1) (k*3)] (Hp a) (Hp b):=λa b e=>by rw[hHp];simp only[e];exact znX (l:=H.length) (by simp) (by simp) (by simp)
      refine⟨kp _ _ rfl,?_⟩;refine zdi (.agg (zal (some (zaP (τ s).2 k*vO o)))) _ (zAx _ _ b1 b2 _ _ ⟨rfl,rfl⟩) ?_;refine⟨zhh _ _,?_⟩;refine zdi (.agg (zal (some (zaP (τ s).2 p+zaP (τ s).2 k*vO o)))) _ (zsc ((τ s).2.getD p none) (some (zaP (τ s).2 k*vO o)) b3 b4 _ _ ⟨rfl,rfl⟩) ?_;refine⟨zhh _ _,?_⟩;simp[hpN];rw[hov];have hst8:Hp ((τ s1).1,(τ s).2.set p (some (zaP (τ s).2 p+zaP (τ s).2 k*cV data kk t s1)))=Hp (τ s1):=by rw[←hrw]
      refine zdi (.tup []) (Hp (τ s1)) ?_ ?_
      ·refine(zgU (H:=Hp ((τ s1).1,(τ s).2)) 3 (H.length+1) (p*3) (.agg (zal (some (zaP (τ s).2 p+zaP (τ s).2 k*cV data kk t s1))))) ▸ ?_;refine zj8 (hp1 _) (by simp only;omega) ?_;rw[hset];exact⟨rfl,hst8⟩
      ·rw[wr (by omega)];refine hKb8 _ _ ⟨n-k-(s+1),by omega,Back.here (by rw[hpl,hpl];omega) (hps _) ?_ ⟨_,rfl,s+1,s1+1,by omega,by omega,rfl,rfl,by rw[hs1]⟩⟩;rw[hpl];simp[zmx,ux,AV.sc,AV.scA,AV.scB,AV.scV];omega
     ·obtain rfl:s=n-k:=by omega
      have hgt:¬p≤n:=by omega
      unfold zr4;simp[hw1,hgt];rw[hτ1];exact hj
  ·obtain rfl:k=N:=by omega
   have hnk:n<k:=by omega
   simp[zr3,hnk];rw[←zcJ];refine zeR (hp1 _) (by rw[hrow _ (by omega)];omega) ?_;have htk:∀o:Option Nat,(zal o).take 3=zal o:=λo=>List.take_of_length_le (by rw[zby];omega);have hd3:(zal none).drop (0+3)=[]:=rfl;simp only[hpr,AV.cs?,zdH,hd3,List.take_zero,List.nil_append,List.append_nil];refine⟨⟨zby _,by rw[zby];omega,zhO _⟩,?_⟩;rw[List.getElem?_set_self (by rw[hpl];omega)];simp only[zfk,zfg,List.drop_zero,htk];refine⟨by rw[zby];omega,?_⟩;have hfin:(Hp (σ k)).set H.length (.cells (zal ((σ k).2.getD n none)))=shS data kk I (σ k).1 H++[.cells (zal ((σ k).2.getD n none)),.cells (zaW (σ k).2)]:=by rw[hHp];simp only;rw[List.set_append_right _ _ (by simp)];simp
   rw[hN]at hfin ⊢;exact Out.at hfin (by simp) (hS.scs hs) .rfl' rfl (by simpa[AV.scV]using zcT _ _) hK
end
def zde(g R:Nat→Nat)(h m:Nat):Nat:=sm (min h (m+1)) λa=>R a*g (m-a)
theorem zDZ(g R:Nat→Nat)(m:Nat):zde g R 0 m=0:=by simp[zde,sm]
theorem zDX(g R:Nat→Nat){h m:Nat}(hm:m<h):zde g R h m=cvR g R m:=by unfold zde cvR;rw[Nat.min_eq_right (by omega)]
theorem zo2{g R:Nat→Nat}(h0:g 0=0)(h m:Nat):zde g R (h+1) m=zde g R h m+if h<m then R h*g (m-h) else 0:=by
 unfold zde;by_cases e:h<m
 ·rw[if_pos e,Nat.min_eq_left (by omega),Nat.min_eq_left (by omega),sm]
 ·rw[if_neg e];by_cases e2:h=m
  ·subst e2;rw[Nat.min_eq_left (by omega),Nat.min_eq_left (by omega),sm,Nat.sub_self,h0,Nat.mul_zero]
  ·rw[Nat.min_eq_right (by omega),Nat.min_eq_right (by omega)];rfl
theorem zDY(g R:Nat→Nat)(h m:Nat):zde g R h m≤cvR g R m:=by unfold zde cvR;exact zj7 (by omega) _
def zcE(g:VT→Nat→Nat)(ts:List VT)(j:Nat):Nat→Nat:=(ts.take j).foldl (λr t=>cvR (g t) r) zhP
theorem zpc(g:VT→Nat→Nat){ts:List VT}{j:Nat}(h:j<ts.length):zcE g ts (j+1)=cvR (g ts[j]) (zcE g ts j):=by unfold zcE;rw[List.take_succ_eq_append_getElem h,List.foldl_append];rfl
theorem zvN(g:VT→Nat→Nat)(ts:List VT)(j m:Nat):zcE g ts j m=cL g (ts.take j) m:=by rw[zBY];rfl
theorem zvO{g:VT→Nat→Nat}(h0:∀ t,g t 0=0){ts:List VT}:∀ (j:Nat),j≤ts.length→∀ m,zcE g ts j m≠0→j≤m
 |0,_,m,_=>by omega
 |j+1,hj,m,h=>by rw[zpc g (show j<ts.length by omega)]at h;obtain⟨a,ha,hne⟩:=zED h;have h1:zcE g ts j a≠0:=λe=>hne (by rw[e,Nat.zero_mul]);have h2:m-a≠0:=λe=>hne (by rw[e,h0,Nat.mul_zero]);have:=zvO h0 j (by omega) a h1;omega
section
variable (data:List Dat) (kk:Nat) (X:List VT) (I:SI) (S:SS) (n:Nat)
def QI(t:VT)(R:Nat→Nat)(h s:Nat)(b:SS×List (Option Nat)):Prop:=
 zaV data kk X b.1∧S.types <+: b.1.types∧b.2.length=n+1∧∀m,m≤n→zaP b.2 m=zde (cV data kk t) R h m+if h<m∧m≤h+s then R h*cV data kk t (m-h) else 0
def RI(t:VT)(i:Nat)(R:Nat→Nat)(h s:Nat)(b b':SS×List (Option Nat)):Prop:=
 ∃o,vO o=cV data kk t (s+1)∧zd5 data kk I b.1 b'.1 i (s+1) o∧b'.2=b.2.set (h+(s+1)) (some (zaP b.2 (h+(s+1))+R h*cV data kk t (s+1)))
def RM(t:VT)(i:Nat)(R:Nat→Nat)(h:Nat)(b b':SS×List (Option Nat)):Prop:=
 (R h=0∧b'=b)∨(R h≠0∧∃ τ:Nat→SS×List (Option Nat),τ 0=b∧τ (n-h)=b'∧(∀s≤n-h,QI data kk X S n t R h s (τ s))∧∀s<n-h,RI data kk I t i R h s (τ s) (τ (s+1)))
abbrev AO:=SS×List (Option Nat)×zaa
def QO(ts:List VT)(j:Nat)(a:AO):Prop:=
 zaV data kk X a.1∧S.types <+: a.1.types∧a.2.1.length=n+1∧(∀m,m≤n→zaP a.2.1 m=zcE (cV data kk) ts j m)∧a.2.2.length=j∧∀b∈a.2.2,∃r,b=.cells (zaW r)
def RO(ts:List VT)(is:List Nat)(j:Nat)(a a':AO):Prop:=
 ∃ μ:Nat→SS×List (Option Nat),μ 0=(a.1,List.replicate (n+1) none)∧μ (n+1)=(a'.1,a'.2.1)∧a'.2.2=a.2.2++[.cells (zaW a.2.1)]∧(∀h≤n+1,QI data kk X S n (ts.getD j (.mk 0 0 [])) (zcE (cV data kk) ts j) h 0 (μ h))∧∀h<n+1,RM data kk X I S n (ts.getD j (.mk 0 0 [])) (is.getD j 0) (zcE (cV data kk) ts j) h (μ h) (μ (h+1))
end
section
variable {data:List Dat} {kk:Nat} {X:List VT} {I:SI} {S:SS} {n:Nat}
theorem zDi{i:Nat}{t:VT}{R:Nat→Nat}{h:Nat}(hh:h≤n)(hC:∀ m,m≤n→zcp data kk X I m)(hti:S.types[i]?=some t)(hR:Rch data X (n-h) t){a:SS × List (Option Nat)}(ha:QI data kk X S n t R h 0 a):
  ∃ τ:Nat→SS×List (Option Nat),τ 0=a∧(∀s≤n-h,QI data kk X S n t R h s (τ s))∧∀s<n-h,RI data kk I t i R h s (τ s) (τ (s+1)):=by
 refine zdK _ _ (n-h) (λs hs b hb=>?_) a ha;obtain⟨h1,h2,h3,h4⟩:=hb;obtain⟨S',o,h5,h6,h7,h8⟩:=hC (s+1) (by omega) b.1 i t h1 (zcS h2 hti) (hR.le _ (by omega));refine⟨(S',b.2.set (h+(s+1)) (some (zaP b.2 (h+(s+1))+R h*cV data kk t (s+1)))),⟨o,h7,h8,rfl⟩,h5,h2.trans h6,by simp[h3],λm hm=>?_⟩;simp only;rw[zvM _ _ _ _ (by omega)];by_cases e:m=h+(s+1)
 ·subst e;rw[if_pos rfl,if_pos ⟨by omega,by omega⟩,h4 _ hm,if_neg (by omega),show h+(s+1)-h=s+1 from by omega];rfl
 ·rw[if_neg e,h4 m hm];congr 1;by_cases e2:h<m∧m≤h+s
  ·rw[if_pos e2,if_pos ⟨e2.1,by omega⟩]
  ·rw[if_neg e2,if_neg (by omega)]
theorem zDl{i j:Nat}{t:VT}{R:Nat→Nat}(hC:∀ m,m≤n→zcp data kk X I m)(hti:S.types[i]?=some t)(hR:Rch data X (n-j) t)(hge:∀ m,R m≠0→j≤m){S1:SS}(hI:zaV data kk X S1)(hp:S.types <+: S1.types):
  ∃ μ:Nat→SS×List (Option Nat),μ 0=(S1,List.replicate (n+1) none)∧(∀h≤n+1,QI data kk X S n t R h 0 (μ h))∧∀h<n+1,RM data kk X I S n t i R h (μ h) (μ (h+1)):=by
 have hg0:=zbF data kk t;refine zdK _ _ (n+1) (λh hh b hb=>?_) _ ⟨hI,hp,by simp,λm hm=>?_⟩
 ·by_cases e:R h=0
  ·refine⟨b,.inl ⟨e,rfl⟩,hb.1,hb.2.1,hb.2.2.1,λm hm=>?_⟩;rw[hb.2.2.2 m hm,if_neg (by omega),if_neg (by omega),zo2 hg0,e];split <;> simp
  ·obtain⟨τ,h1,h2,h3⟩:=zDi (show h≤n by omega) hC hti (hR.le _ (by have:=hge h e;omega)) hb;refine⟨τ (n-h),.inr ⟨e,τ,h1,rfl,h2,h3⟩,?_⟩;obtain⟨h4,h5,h6,h7⟩:=h2 (n-h) (Nat.le_refl _);refine⟨h4,h5,h6,λm hm=>?_⟩;rw[h7 m hm,if_neg (show ¬(h+1<m∧m≤h+1+0) by omega),zo2 hg0];by_cases e2:h<m
   ·rw[if_pos ⟨e2,by omega⟩,if_pos e2];rfl
   ·rw[if_neg (by omega),if_neg e2]
 ·simp only;rw[if_neg (by omega),zDZ,zpb]
theorem zDm{ts:List VT}{is:List Nat}(hC:∀ m,m≤n→zcp data kk X I m)(hI:zaV data kk X S)(hix:IdxOk S.types ts is)(hR:∀ (p:Nat) (h:p<ts.length),Rch data X (n-p) ts[p]):
  ∃ σ:Nat→AO,σ 0=(S,some 1::List.replicate n none,[])∧(∀j≤ts.length,QO data kk X S n ts j (σ j))∧∀j<ts.length,RO data kk X I S n ts is j (σ j) (σ (j+1)):=by
 refine zdK _ _ ts.length (λj hj a ha=>?_) _ ⟨hI,List.prefix_rfl,by simp,λm hm=>?_,rfl,by simp⟩
 ·obtain⟨h1,h2,h3,h4,h5,h6⟩:=ha;have hl:=hix.len;have hti:S.types[is.getD j 0]?=some ts[j]:=by have:=congrArg (λl=>l[j]?) hix;simp only[List.getElem?_map,List.getElem?_eq_getElem hj,List.getElem?_eq_getElem (show j<is.length by omega),Option.map_some,Option.some.injEq]at this;rw[List.getD_eq_getElem?_getD,List.getElem?_eq_getElem (show j<is.length by omega)];exact this
  have htg:ts.getD j (.mk 0 0 [])=ts[j]:=by rw[List.getD_eq_getElem?_getD,List.getElem?_eq_getElem hj];rfl
  obtain⟨μ,hm0,hm1,hm2⟩:=zDl (j:=j) hC hti (hR j hj) (zvO (ts:=ts) (zbF data kk) j (by omega)) h1 h2;refine⟨((μ (n+1)).1,(μ (n+1)).2,a.2.2++[.cells (zaW a.2.1)]),⟨μ,hm0,rfl,rfl,by rw[htg];exact hm1,by rw[htg];exact hm2⟩,?_⟩;obtain⟨k1,k2,k3,k4⟩:=hm1 (n+1) (Nat.le_refl _);refine⟨k1,k2,k3,λm hm=>?_,by simp[h5],λb hb=>?_⟩
  ·rw[k4 m hm,if_neg (by omega),zDX _ _ (by omega),zpc _ hj];rfl
  ·simp only[List.mem_append,List.mem_singleton]at hb;rcases hb with hb | rfl
   ·exact h6 b hb
   ·exact⟨_,rfl⟩
 ·unfold zaP;cases m with
  |zero=>rfl
  |succ m=>have:=zpb n m;unfold zaP at this;have e0:zcE (cV data kk) ts 0 (m+1)=0:=rfl;rw[e0];simpa using this
end
section
variable {data:List Dat} (hD:zaE data=true) (hk:Kpt data) {kk:Nat} (hkk:kk≤8) {X:List VT} (hX:X.length≤1000000000000) {I:SI}
include hD hk hkk hX
theorem zph{n:Nat}(hn:n≤14)(hC:∀ m,m≤n→zcp data kk X I m){S:SS}{ts:List VT}{is:List Nat}(htl:ts.length≤1000)(hI:zaV data kk X S)(hix:IdxOk S.types ts is)(hR:∀ (p:Nat) (h:p<ts.length),Rch data X (n-p) ts[p]):
  ∃S' o,zaV data kk X S'∧S.types <+: S'.types∧vO o=cL (cV data kk) ts n∧∀H,ShS data kk I S H→H[0]?=some .nodr→∀K:Kt,K (.agg (zal o)) (shS data kk I S' H)→ACalls tP zgk [.ptr I.p 0,.sl (zaZ is) .none,.int .i64 n] H K:=by
 obtain⟨σ,hσ0,hσQ,hσR⟩:=zDm (I:=I) hC hI hix hR;have hlast:=hσQ ts.length (Nat.le_refl _);have hgz:=zbF data kk;have hil:=hix.len;refine⟨(σ ts.length).1,(σ ts.length).2.1.getD n none,hlast.1,hlast.2.1,?_,λH hS h0 K hK=>?_⟩
 ·have:=hlast.2.2.2.1 n (Nat.le_refl _);rw[zvN,List.take_length]at this;exact this
 refine ACalls.out (zMw λhs=>?_);have hlt0:0<H.length:=(List.getElem?_eq_some_iff.1 h0).1;have lp:=(List.getElem?_eq_some_iff.1 hS.hp).1;obtain⟨L,hL⟩:∃L,L=H.length:=⟨_,rfl⟩;obtain⟨N,hN⟩:∃N:Nat,N=n+1:=⟨_,rfl⟩;obtain⟨Ho,hHo⟩:∃Ho:AO→zaa,Ho=λa=>shS data kk I a.1 H++(.cells (zal none)::a.2.2++[.cells (zaW a.2.1)]):=⟨_,rfl⟩;obtain⟨Hm,hHm⟩:∃Hm:AO→SS×List (Option Nat)→zaa,Hm=λa b=>shS data kk I b.1 H++(.cells (zal none)::a.2.2++[.cells (zaW a.2.1)]++[.cells (zaW b.2)]):=⟨_,rfl⟩;have hol:∀a,(Ho a).length=L+a.2.2.length+2:=λa=>by rw[hHo,hL];simp;omega
 have hml:∀a b,(Hm a b).length=L+a.2.2.length+3:=λa b=>by rw[hHm,hL];simp;omega
 have gsc:∀j,j≤ts.length→∀M,(σ j).2.2.all (AB.sc M)=true:=λj hj M=>List.all_eq_true.2 λb hb=>by obtain⟨r,rfl⟩:=(hσQ j hj).2.2.2.2.2 b hb;exact zj2 M r
 have hos:∀j,j≤ts.length→HSc (Ho (σ j)):=λj hj=>by rw[hHo];refine(hS.scs hs).append ?_;simp only[List.all_cons,List.all_append,List.all_nil,AB.sc,zj2,zcT,gsc j hj,List.cons_append,Bool.and_true]
 have hms:∀j,j≤ts.length→∀b,HSc (Hm (σ j) b):=λj hj b=>by rw[hHm];refine(hS.scs hs).append ?_;simp only[List.all_cons,List.all_append,List.all_nil,AB.sc,zj2,zcT,gsc j hj,List.cons_append,Bool.and_true]
 have hm0:∀a b,(Hm a b)[0]?=some .nodr:=λa b=>by rw[hHm];simp only;rw[List.getElem?_append_left (by simpa using hlt0)];exact hS.nodr h0
 have ho1:∀a,(Ho a)[L+1+a.2.2.length]?=some (.cells (zaW a.2.1)):=λa=>by rw[hHo,hL];simp only;rw[List.getElem?_append_right (by simp;omega)];simp[show H.length+1+a.2.2.length-H.length=a.2.2.length+1 by omega]
 have hor:∀a,(Ho a)[L]?=some (.cells (zal none)):=λa=>by rw[hHo,hL];simp[List.getElem?_append]
 have hm1:∀a b,(Hm a b)[L+1+a.2.2.length]?=some (.cells (zaW a.2.1)):=λa b=>by rw[hHm,hL];simp only;rw[List.getElem?_append_right (by simp;omega)];simp[show H.length+1+a.2.2.length-H.length=a.2.2.length+1 by omega]
 have hm2:∀a b,(Hm a b)[L+2+a.2.2.length]?=some (.cells (zaW b.2)):=λa b=>by rw[hHm,hL];simp only;rw[List.getElem?_append_right (by simp;omega)];simp[show H.length+2+a.2.2.length-H.length=a.2.2.length+1+1 by omega]
 have hmS:∀a b,zaV data kk X b.1→ShS data kk I b.1 (Hm a b):=λa b hb=>by rw[hHm];exact(hS.next hb.ml hb.cl).app
 have hset:∀a b r,(Hm a b).set (L+2+a.2.2.length) (.cells (zaW r))=Hm a (b.1,r):=λa b r=>by rw[hHm,hL];simp only;rw[List.set_append_right _ _ (by simp;omega)];simp only[zj5,show H.length+2+a.2.2.length-H.length=(a.2.2.length+1)+1 by omega,List.cons_append,List.set_cons_succ,List.append_assoc];rw[List.set_append_right _ _ (by simp)];simp
 have hmv:∀a b S',zaV data kk X b.1→shS data kk I S' (Hm a b)=Hm a (S',b.2):=λa b S' hb=>by rw[hHm];simp only;rw[(hS.next hb.ml hb.cl).shS_app,zcU]
 have hnew:∀a,Ho a++[.cells (zaW (List.replicate N none))]=Hm a (a.1,List.replicate N none):=λa=>by rw[hHo,hHm];simp
 have hend:∀a S' r,Hm a (S',r)=Ho (S',r,a.2.2++[.cells (zaW a.2.1)]):=λa S' r=>by rw[hHo,hHm];simp
 have glim:∀t m,m≤n→cV data kk t m<1000000000 ^ 30:=λt m hm=>zeG hk hkk t (by omega);have rlim:∀j m,m≤n→zcE (cV data kk) ts j m<1000000000 ^ 30:=λj m hm=>by rw[zvN];exact znt hk hkk _ (by omega)
 simp[zzj];have hwn:IntKind.i64.wrap ((n:Int)+1)=(N:Int):=by rw[hN];exact wr (by omega)
 rw[hwn];simp only[zba];refine⟨by omega,?_⟩;refine zfd 1 (by omega) _ _ ?_;simp only[Int.toNat_natCast,List.length_append,List.length_cons,List.length_nil,List.append_assoc,List.cons_append,List.nil_append];refine zun (h:=0) (by omega) ?_;have e11:H.length+(0+1)=L+1:=by omega
 rw[zpa,e11];have hH1:(H++[AB.cells [AV.bool false,AV.snil,AV.snil],AB.cells (zaW (List.replicate N none))])[L+1]?=some (.cells (zaW (List.replicate N none))):=by rw[hL];simp[List.getElem?_append]
 refine zj8 (o:=some 1) hH1 (by simp;omega) ?_;have hst0:(H++[AB.cells [AV.bool false,AV.snil,AV.snil],AB.cells (zaW (List.replicate N none))]).set (L+1) (.cells (zaW ((List.replicate N none).set 0 (some 1))))=Ho (σ 0):=by rw[hσ0,hHo,hL];simp only;rw[hS.self,List.set_append_right _ _ (by simp)];simp[hN,List.replicate_succ];rfl
 rw[hst0,←hL];have hgl:∀j,j≤ts.length→(σ j).2.2.length=j:=λj hj=>(hσQ j hj).2.2.2.2.1;have hrl:∀j,j≤ts.length→(σ j).2.1.length=N:=λj hj=>by rw[hN];exact(hσQ j hj).2.2.1
 refine zMt (Inv:=λq t7 t21 H'=>∃j:Nat,j≤ts.length∧ts.length-j=q∧t21=.int .i64 j∧t7=.ms (L+1+j) 0 N N∧H'=Ho (σ j)) ts.length ?_ ?_
 ·intro _;exact⟨0,by omega,rfl,rfl,rfl,rfl⟩
 ·rintro q t7 t21 H' ⟨j,hj,rfl,rfl,rfl,rfl⟩ hsc' hlen hsF Kb4 hKb4;have hQ:=hσQ j hj;by_cases hlt:j<ts.length
  ·have hlt':j<is.length:=by omega
   obtain⟨μ,hμ0,hμ1,hμg,hμQ,hμR⟩:=hσR j hlt;have hget:∀h:j<(zaZ is).length,(zaZ is)[j]'h=[AV.int .i64 (is[j]:Nat)]:=λh=>by simp[zaZ]
   simp[zrq,hlt',hget];rw[hwn];simp only[zba];refine⟨by omega,?_⟩;rw[hol,hgl j hj];simp only[Int.toNat_natCast];rw[zpa,hnew];obtain⟨R,hRd⟩:∃R,R=zcE (cV data kk) ts j:=⟨_,rfl⟩;obtain⟨t,htd⟩:∃t,t=ts.getD j (.mk 0 0 []):=⟨_,rfl⟩;have hid:is.getD j 0=is[j]:=by rw[List.getD_eq_getElem?_getD,List.getElem?_eq_getElem hlt'];rfl
   rw[←hRd,←htd]at hμQ hμR;rw[hid]at hμR;have hRs:cvR (cV data kk t) R=zcE (cV data kk) ts (j+1):=by rw[zpc _ hlt,hRd,htd,List.getD_eq_getElem?_getD,List.getElem?_eq_getElem hlt];rfl
   have hRv:∀h,h≤n→zaP (σ j).2.1 h=R h:=λh hh=>by rw[hQ.2.2.2.1 h hh,hRd]
   have hμ0':μ 0=((σ j).1,List.replicate N none):=by rw[hμ0,hN]
   rw[←hμ0',show L+j+2=L+2+j from by omega];have hmul:∀h,h≤N→(μ h).2.length=N:=λh hh=>by rw[hN]at hh ⊢;exact(hμQ h hh).2.2.1
   refine zMu (Inv:=λq t30 H'=>∃h:Nat,h≤N∧N-h=q∧t30=.int .i64 h∧H'=Hm (σ j) (μ h)) N ?_ ?_
   ·intro _;exact⟨0,by omega,rfl,rfl,rfl⟩
   ·rintro q t30 H' ⟨h,hhN,rfl,rfl,rfl⟩ hsc8 hlen8 hsF8 Kb8 hKb8;by_cases hh:h<N
    ·have hhn:h≤n:=by omega
     have hj1:zlT (.ptr I.p 0) (.int .i64 n) (.ptr L 0) (.ms (L+1+j) 0 N N) (.int .i64 is[j]) (.ms (L+2+j) 0 N N) (.sl (zaZ is) .none) (.int .i64 is.length) (.int .i64 j) (.int .i64 N) (.int .i64 h) (Hm (σ j) (μ (h+1))) (Out L K) Kb4 Kb8:=by unfold zlT zzm;simp;rw[wr (by omega)];refine hKb8 _ _ ⟨N-(h+1),by omega,Back.here (by rw[hml,hml];omega) (hms j hj _) ?_ ⟨_,rfl,h+1,by omega,rfl,rfl,rfl⟩⟩;rw[hml,hgl j hj];simp[zlS,ux,AV.sc,AV.scA,AV.scB,AV.scV];omega
     have g1:(Hm (σ j) (μ h))[L+1+j]?=some (.cells (zaW (σ j).2.1)):=by have:=hm1 (σ j) (μ h);rwa [hgl j hj]at this
     simp[zrr,hh];rw[←zcJ];refine zeR g1 (by rw[hrl j hj];exact hh) ?_;have hb0:zaP (σ j).2.1 h<1000000000 ^ 30:=by rw[hRv h hhn,hRd];exact rlim j h hhn
     refine zgO _ hb0 _ _ ?_;change zac .eql false (.int .i64 (if zaP (σ j).2.1 h=0 then 0 else 1)) _ _;rw[hRv h hhn];rcases hμR h (by omega) with ⟨e,hst⟩|⟨e,τ,hτ0,hτ1,hτQ,hτR⟩
     ·simp[e];rw[←hst];exact hj1
     ·simp[e];rw[←hτ0];refine zMs (Inv:=λq t12 H'=>∃s s1:Nat,s1=s+1∧s≤n-h∧n-h-s=q∧t12=.int .i64 s1∧H'=Hm (σ j) (τ s)) (n-h) ?_ ?_
      ·intro _;exact⟨0,1,rfl,by omega,rfl,rfl,rfl⟩
      ·rintro q t12 H' ⟨s,s1,hs1,hsn,rfl,rfl,rfl⟩ hsc12 hlen12 hsF12 Kb12 hKb12;have hS2:=hτQ s hsn;obtain⟨p,hp⟩:∃ p:Nat,p=h+s1:=⟨_,rfl⟩;have hw1:IntKind.i64.wrap ((h:Int)+(s1:Int))=(p:Int):=by rw[zaB (by omega) (by omega)];omega
       by_cases hs8:s<n-h
       ·have hle:p≤n:=by omega
        have hpN:p<N:=by omega
        obtain⟨o,hov,hcc,hrw⟩:=hτR s hs8;rw[←hs1]at hov hcc hrw;rw[←hp]at hrw;have hl2:(τ s).2.length=N:=by rw[hS2.2.2.1,hN]
        have vp:zaP (τ s).2 p=zde (cV data kk t) R h p:=by rw[hS2.2.2.2 p hle,if_neg (by omega)];rfl
        have hsum:zde (cV data kk t) R h p+R h*cV data kk t s1≤zcE (cV data kk) ts (j+1) p:=by have h1:=zDY (cV data kk t) R (h+1) p;rw[zo2 (hgz t),if_pos (by omega),show p-h=s1 from by omega,hRs]at h1;exact h1
        have hpl':=rlim (j+1) p hle;have b1:zaP (σ j).2.1 h<1000000000 ^ 30:=hb0;have b2:vO o<1000000000 ^ 30:=by rw[hov];exact glim t s1 (by omega)
        have b3:zaP (τ s).2 p<1000000000 ^ 30:=by rw[vp];omega
        have b4:zaP (σ j).2.1 h*vO o<1000000000 ^ 30:=by rw[hRv h hhn,hov];omega
        have g3:∀b,(Hm (σ j) b)[L+1+j]?=some (.cells (zaW (σ j).2.1)):=λb=>by have:=hm1 (σ j) b;rwa [hgl j hj]at this
        have g4:∀b,(Hm (σ j) b)[L+2+j]?=some (.cells (zaW b.2)):=λb=>by have:=hm2 (σ j) b;rwa [hgl j hj]at this
        have hset':∀b r,(Hm (σ j) b).set (L+2+j) (.cells (zaW r))=Hm (σ j) (b.1,r):=λb r=>by have:=hset (σ j) b r;rwa [hgl j hj]at this
        unfold zrp;simp[hw1,hle,hpN];rw[←zcJ];refine zeR (g4 _) (by omega) ?_;refine⟨by omega,?_⟩;rw[←zcJ];refine zeR (g3 _) (by rw[hrl j hj];omega) ?_;refine zdi (.agg (zal o)) (Hm (σ j) ((τ s1).1,(τ s).2)) (hcc _ (hmS _ _ hS2.1) (hm0 _ _) _ ⟨rfl,hmv _ _ _ hS2.1⟩) ?_;have kp:∀(b c:SS×List (Option Nat)),b.2=c.2→zdC [AV.ptr (L+2+j) (p*3),AV.ptr (L+1+j) (h*3)] (Hm (σ j) b) (Hm (σ j) c):=λb c e=>by rw[hHm];simp only[e];exact znX (l:=H.length) (by simp) (by simp) (by simp;omega)
        refine⟨kp _ _ rfl,?_⟩;refine zdi (.agg (zal (some (zaP (σ j).2.1 h*vO o)))) _ (zAx ((σ j).2.1.getD h none) o b1 b2 _ _ ⟨rfl,rfl⟩) ?_;refine⟨zhh _ _,?_⟩;refine zdi (.agg (zal (some (zaP (τ s).2 p+zaP (σ j).2.1 h*vO o)))) _ (zsc ((τ s).2.getD p none) (some (zaP (σ j).2.1 h*vO o)) b3 b4 _ _ ⟨rfl,rfl⟩) ?_;refine⟨zhh _ _,?_⟩;simp[hpN];rw[hov,hRv h hhn];have hst8:Hm (σ j) ((τ s1).1,(τ s).2.set p (some (zaP (τ s).2 p+R h*cV data kk t s1)))=Hm (σ j) (τ s1):=by rw[←hrw]
        refine zdi (.tup []) (Hm (σ j) (τ s1)) ?_ ?_
        ·refine(zgU (H:=Hm (σ j) ((τ s1).1,(τ s).2)) 3 (L+2+j) (p*3) (.agg (zal (some (zaP (τ s).2 p+R h*cV data kk t s1))))) ▸ ?_;refine zj8 (g4 _) (by simp only;omega) ?_;rw[hset'];exact⟨rfl,hst8⟩
        ·rw[wr (by omega)];refine hKb12 _ _ ⟨n-h-(s+1),by omega,Back.here (by rw[hml,hml];omega) (hms j hj _) ?_ ⟨_,rfl,s+1,s1+1,by omega,by omega,rfl,rfl,by rw[hs1]⟩⟩;rw[hml,hgl j hj];simp[zlQ,ux,AV.sc,AV.scA,AV.scB,AV.scV];omega
       ·obtain rfl:s=n-h:=by omega
        have hgt:¬p≤n:=by omega
        unfold zrp;simp[hw1,hgt];rw[hτ1];exact hj1
    ·obtain rfl:h=N:=by omega
     simp[zrr];rw[wr (by omega)];have hσ1:Hm (σ j) (μ h)=Ho (σ (j+1)):=by rw[hN,hμ1,hend,←hμg]
     rw[hσ1];refine hKb4 _ _ ⟨ts.length-(j+1),by omega,Back.here (by rw[hol,hol,hgl (j+1) (by omega),hgl 0 (by omega)];omega) (hos _ (by omega)) ?_ ⟨_,_,rfl,j+1,by omega,rfl,rfl,by rw[show L+2+j=L+1+(j+1) from by omega],rfl⟩⟩;rw[hol,hgl (j+1) (by omega)];simp[zlR,ux,AV.sc,AV.scA,AV.scB,AV.scV];omega
  ·obtain rfl:j=ts.length:=by omega
   have hnN:n<N:=by omega
   simp[zrq,hil,hnN];have g1:(Ho (σ ts.length))[L+1+ts.length]?=some (.cells (zaW (σ ts.length).2.1)):=by have:=ho1 (σ ts.length);rwa [hgl _ hj]at this
   rw[←zcJ];refine zeR g1 (by rw[hrl _ hj];omega) ?_;have htk:∀o:Option Nat,(zal o).take 3=zal o:=λo=>List.take_of_length_le (by rw[zby];omega);have hd3:(zal none).drop (0+3)=[]:=rfl;simp only[hor,AV.cs?,zdH,hd3,List.take_zero,List.nil_append,List.append_nil];refine⟨⟨zby _,by rw[zby];omega,zhO _⟩,?_⟩;rw[List.getElem?_set_self (by rw[hol];omega)];simp only[zfk,zfg,List.drop_zero,htk];refine⟨by rw[zby];omega,?_⟩;have hfin:(Ho (σ ts.length)).set L (.cells (zal ((σ ts.length).2.1.getD n none)))=shS data kk I (σ ts.length).1 H++(.cells (zal ((σ ts.length).2.1.getD n none))::(σ ts.length).2.2++[.cells (zaW (σ ts.length).2.1)]):=by rw[hHo,hL];simp only;rw[List.set_append_right _ _ (by simp)];simp
   exact Out.at hfin (by simp[hL]) (hS.scs hs) .rfl' rfl (by simpa[AV.scV]using zcT _ _) hK
end
end Go.Proofs.YtaifokkaaahdoaaGreatDoor

import Derived.Test.YtdmamdnkcefmmaaGreatDoorKNum
import Derived.Test.YtdmamdnkcefmmaaGreatDoorProg
import Derived.KernelRfl
import Derived.Test.YtdmamdnkcefmmaaGreatDoorAbsQ1
import Derived.Test.YtdmamdnkcefmmaaGreatDoorKI7
import Derived.Test.YtdmamdnkcefmmaaGreatDoorKME
set_option linter.unusedSimpArgs false
set_option linter.unusedVariables false
set_option maxRecDepth 8000
namespace Go.Proofs.YtdmamdnkcefmmaaGreatDoor
open Go Go.Abs
set_option maxRecDepth 100000
def zOP (_:Nat):List Bool:=[]
noncomputable def zOQ:Code:=Tryz.f36.body.getD .skip
def zAh (t0:AV) (H:zaa) (K:Kt):Prop:=
 zay [(.bool false),.snil,.snil] H fun t2 H=>
 zab .lss false t0 (.int .i64 0) fun t4=>
 zag t4
 (zab .add false t0 (.int .i64 1) fun t6=>
 aUn .neg t6 fun t7=>
 za0 .u64 t7 fun t8=>
 zab .add false t8 (.int .u64 1) fun t9=>
 ACalls tP zg8 [t9] H fun t10 H=>
 zau 1 [(.int .u32 0)] 1 [(0,(.int .u32 1))] fun t11=>
 ACalls tP zfa [(.bool true),t10,t11] H fun t12 H=>
 zan 3 t2 t12 H fun H=>
 zae true 3 t2 H fun r0=>
 K r0 H)
 (za0 .u64 t0 fun t14=>
 ACalls tP zg8 [t14] H fun t15 H=>
 zau 1 [(.int .u32 0)] 1 [(0,(.int .u32 1))] fun t16=>
 ACalls tP zfa [(.bool false),t15,t16] H fun t17 H=>
 zan 3 t2 t17 H fun H=>
 zae true 3 t2 H fun r0=>
 K r0 H)
theorem zOR {t0:AV} {H:zaa} {K:Kt} (h:HSc H→zAh t0 H K):ACalls tP zoC [t0] H K:=
 zao (M:=zOP) Tryz.func36 (c:=zOQ) (by kernel_rfl) (fun hs=>Eq.mpr (by kernel_rfl) (h hs))
def zmr:Nat→List Bool
 | 2=>rl false [0,1,2,1,11]
 | _=>[]
noncomputable def zsD:Code:=Tryz.f71.body.getD .skip
noncomputable def zQI:List ResultVar:=Tryz.f71.results.toList
def zms (t0 t3:AV):List AV:=t0::ux 2 (t3::ux 11 [])
def zQG:List Bool:=zmr 2
noncomputable def zQE:Code:=zaq [1,1,0,0,0] zsD
def zQD (K:Kt):AExit→List AV→zaa→Prop:=zar tP zmr [1,1,0,0] zsD (zax tP zQI K)
def zmt (t0 t3:AV) (H:zaa) (K:Kt):Prop:=ALoop tP zQE (zQD K) (zms t0 t3) H
def zsC (t0 t3:AV) (H:zaa) (K:Kt) (Kb2:Lt):Prop:=
 zab .gtr false t0 (.int .u64 0) fun t5=>
 zag t5
 (zab .rem false t0 (.int .u64 1000000000) fun t8=>
 za0 .u32 t8 fun t9=>
 zau 1 [(.int .u32 0)] 1 [(0,t9)] fun t10=>
 zaw zbd 1 4 t3 t10 H fun t11 H=>
 zab .quo false t0 (.int .u64 1000000000) fun t13=>
 Kb2 (zms t13 t11) H)
 (K t3 H)
def zAU (t0:AV) (H:zaa) (K:Kt):Prop:=
 zmt t0 .snil H K
theorem zQF {t0 t3:AV} {H:zaa} {K:Kt} (Inv:Nat→AV→AV→zaa→Prop) (n:Nat) (h0:HSc H→Inv n t0 t3 H)
  (round:Rd2 (fun t0=>fun t3=>zms t0 t3) (fun t0=>fun t3=>fun H Kb2=>zsC t0 t3 H K Kb2) H Inv):zmt t0 t3 H K:=
 lp2 (M:=zmr) zQG t0 t3 (by kernel_rfl) Inv n h0 round
theorem zQH {t0:AV} {H:zaa} {K:Kt} (h:HSc H→zAU t0 H K):ACalls tP zg8 [t0] H K:=
 zao (M:=zmr) Tryz.func71 (c:=zsD) (by kernel_rfl) (fun hs=>Eq.mpr (by kernel_rfl) (h hs))
def zQk (_:Nat):List Bool:=[]
noncomputable def zQl:Code:=Tryz.f56.body.getD .skip
def zAO (t0:AV) (H:zaa) (K:Kt):Prop:=
 zav t0 H fun t1 H=>
 zay [(.bool false),.snil,.snil] H fun t2 H=>
 zaf 0 t1 fun t3=>
 zae false 1 t3 H fun t4=>
 zaf 1 t1 fun t5=>
 zae false 1 t5 H fun t6=>
 zaf 2 t1 fun t7=>
 zae false 1 t7 H fun t8=>
 ACalls tP zfa [t4,t6,t8] H fun t9 H=>
 zan 3 t2 t9 H fun H=>
 zae true 3 t2 H fun r0=>
 K r0 H
theorem zQm {t0:AV} {H:zaa} {K:Kt} (h:HSc H→zAO t0 H K):ACalls tP ziU [t0] H K:=
 zao (M:=zQk) Tryz.func56 (c:=zQl) (by kernel_rfl) (fun hs=>Eq.mpr (by kernel_rfl) (h hs))
def zjQ:Nat→List Bool
 | 6=>rl false [0,2,3,1,35]
 | _=>[]
noncomputable def zpR:Code:=Tryz.f105.body.getD .skip
noncomputable def zG1:List ResultVar:=Tryz.f105.results.toList
def zjR (t0 t1 t5:AV):List AV:=t0::t1::ux 3 (t5::ux 35 [])
def zGZ:List Bool:=zjQ 6
noncomputable def zGX:Code:=zaq [1,1,0,1,0,0] zpR
def zGW (K:Kt):AExit→List AV→zaa→Prop:=zar tP zjQ [1,1,0,1,0] zpR (zax tP zG1 K)
def zxD (t0 t1 t5:AV) (H:zaa) (K:Kt):Prop:=ALoop tP zGX (zGW K) (zjR t0 t1 t5) H
def zhA (t0 t1 t5:AV) (H:zaa) (K:Kt) (Kb6:Lt):Prop:=
 zab .geq false t5 (.int .i64 0) fun t20=>
 zag t20
 (zad H (fun K'=>K' t0 H) fun t23=>
 zad H (fun K'=>K' t5 H) fun t24=>
 zad H (fun K'=>zai 1 t23 t24 (K' · H)) fun t25=>
 zad H (fun K'=>zal false 1 t25 H (K' · H)) fun t26=>
 zad H (fun K'=>K' t1 H) fun t27=>
 zad H (fun K'=>K' t5 H) fun t28=>
 zad H (fun K'=>zai 1 t27 t28 (K' · H)) fun t29=>
 zad H (fun K'=>zal false 1 t29 H (K' · H)) fun t30=>
 zad H (fun K'=>zab .lss false t26 t30 (K' · H)) fun t31=>
 zag t31
 (K (.int .i64 (-1)) H)
 (zad H (fun K'=>K' t0 H) fun t32=>
 zad H (fun K'=>K' t5 H) fun t33=>
 zad H (fun K'=>zai 1 t32 t33 (K' · H)) fun t34=>
 zad H (fun K'=>zal false 1 t34 H (K' · H)) fun t35=>
 zad H (fun K'=>K' t1 H) fun t36=>
 zad H (fun K'=>K' t5 H) fun t37=>
 zad H (fun K'=>zai 1 t36 t37 (K' · H)) fun t38=>
 zad H (fun K'=>zal false 1 t38 H (K' · H)) fun t39=>
 zad H (fun K'=>zab .gtr false t35 t39 (K' · H)) fun t40=>
 zag t40
 (K (.int .i64 1) H)
 (zab .sub false t5 (.int .i64 1) fun t22=>
 Kb6 (zjR t0 t1 t22) H)))
 (K (.int .i64 0) H)
def zjP (t0 t1:AV) (H:zaa) (K:Kt):Prop:=
 zah 1 t0 fun t7=>
 zah 1 t1 fun t9=>
 zab .neq false t7 t9 fun t10=>
 zag t10
 (zah 1 t0 fun t12=>
 zah 1 t1 fun t14=>
 zab .lss false t12 t14 fun t15=>
 zag t15
 (K (.int .i64 (-1)) H)
 (K (.int .i64 1) H))
 (zah 1 t0 fun t17=>
 zab .sub false t17 (.int .i64 1) fun t18=>
 zxD t0 t1 t18 H K)
theorem zGY {t0 t1 t5:AV} {H:zaa} {K:Kt} (Inv:Nat→AV→zaa→Prop) (n:Nat) (h0:HSc H→Inv n t5 H)
  (round:Rd1 (fun t5=>zjR t0 t1 t5) (fun t5=>fun H Kb6=>zhA t0 t1 t5 H K Kb6) H Inv):zxD t0 t1 t5 H K:=
 lp1 (M:=zjQ) zGZ t5 (by kernel_rfl) Inv n h0 round
theorem zG0 {t0 t1:AV} {H:zaa} {K:Kt} (h:HSc H→zjP t0 t1 H K):ACalls tP znW [t0,t1] H K:=
 zao (M:=zjQ) Tryz.func105 (c:=zpR) (by kernel_rfl) (fun hs=>Eq.mpr (by kernel_rfl) (h hs))
def zN0 (_:Nat):List Bool:=[]
noncomputable def zN1:Code:=Tryz.f24.body.getD .skip
def zzS (t0:AV) (H:zaa) (K:Kt):Prop:=
 zav t0 H fun t1 H=>
 zae true 3 t1 H fun t3=>
 ACalls tP ziU [t3] H fun t4 H=>
 zan 3 t1 t4 H fun H=>
 zaf 1 t1 fun t6=>
 zae false 1 t6 H fun t7=>
 zah 1 t7 fun t8=>
 zab .eql false t8 (.int .i64 0) fun t9=>
 zag t9
 (K (.int .i64 0) H)
 (zaf 0 t1 fun t11=>
 zae false 1 t11 H fun t12=>
 zag t12
 (K (.int .i64 (-1)) H)
 (K (.int .i64 1) H))
theorem zN2 {t0:AV} {H:zaa} {K:Kt} (h:HSc H→zzS t0 H K):ACalls tP zor [t0] H K:=
 zao (M:=zN0) Tryz.func24 (c:=zN1) (by kernel_rfl) (fun hs=>Eq.mpr (by kernel_rfl) (h hs))
def zjS:Nat→List Bool
 | 4=>rl false [0,1,2,3,30]
 | _=>[]
noncomputable def zpS:Code:=Tryz.f107.body.getD .skip
noncomputable def zG8:List ResultVar:=Tryz.f107.results.toList
def zjU (t0 t3 t4 t5:AV):List AV:=t0::ux 2 (t3::t4::t5::ux 30 [])
def zG6:List Bool:=zjS 4
noncomputable def zG4:Code:=zaq [1,1,1,0,1,0,0] zpS
def zG3 (K:Kt):AExit→List AV→zaa→Prop:=zar tP zjS [1,1,1,0,1,0] zpS (zax tP zG8 K)
def zjW (t0 t3 t4 t5:AV) (H:zaa) (K:Kt):Prop:=ALoop tP zG4 (zG3 K) (zjU t0 t3 t4 t5) H
def zjV (t3:AV) (H:zaa) (K:Kt):Prop:=
 ACalls tP zfQ [t3] H fun t35 H=>
 K t35 H
def zjT (t0 t3 t4 t5:AV) (H:zaa) (K:Kt) (Kb4:Lt):Prop:=
 zah 1 t0 fun t8=>
 zab .lss false t5 t8 fun t9=>
 zag t9
 (zai 1 t0 t5 fun t15=>
 zae false 1 t15 H fun t16=>
 za0 .u64 t16 fun t17=>
 zab .add false t4 t17 fun t18=>
 zab .rem false t18 (.int .u64 1000000000) fun t21=>
 za0 .u32 t21 fun t22=>
 zau 1 [(.int .u32 0)] 1 [(0,t22)] fun t23=>
 zaw zbd 1 4 t3 t23 H fun t24 H=>
 zab .quo false t18 (.int .u64 1000000000) fun t26=>
 zab .add false t5 (.int .i64 1) fun t11=>
 Kb4 (zjU t0 t24 t26 t11) H)
 (zab .gtr false t4 (.int .u64 0) fun t28=>
 zag t28
 (za0 .u32 t4 fun t31=>
 zau 1 [(.int .u32 0)] 1 [(0,t31)] fun t32=>
 zaw zbd 1 4 t3 t32 H fun t33 H=>
 zjV t33 H K)
 (zjV t3 H K))
def zxE (t0:AV) (H:zaa) (K:Kt):Prop:=
 zjW t0 .snil (.int .u64 0) (.int .i64 0) H K
theorem zG5 {t0 t3 t4 t5:AV} {H:zaa} {K:Kt} (Inv:Nat→AV→AV→AV→zaa→Prop) (n:Nat) (h0:HSc H→Inv n t3 t4 t5 H)
  (round:Rd3 (fun t3=>fun t4=>fun t5=>zjU t0 t3 t4 t5) (fun t3=>fun t4=>fun t5=>fun H Kb4=>zjT t0 t3 t4 t5 H K Kb4) H Inv):zjW t0 t3 t4 t5 H K:=
 lp3 (M:=zjS) zG6 t3 t4 t5 (by kernel_rfl) Inv n h0 round
theorem zG7 {t0:AV} {H:zaa} {K:Kt} (h:HSc H→zxE t0 H K):ACalls tP zin [t0] H K:=
 zao (M:=zjS) Tryz.func107 (c:=zpS) (by kernel_rfl) (fun hs=>Eq.mpr (by kernel_rfl) (h hs))
def zjX:Nat→List Bool
 | 1=>rl false [0,2,17]
 | _=>[]
noncomputable def zpU:Code:=Tryz.f108.body.getD .skip
noncomputable def zHe:List ResultVar:=Tryz.f108.results.toList
def zjY (t0 t1:AV):List AV:=t0::t1::ux 17 []
def zHc:List Bool:=zjX 1
noncomputable def zHa:Code:=zaq [1,0,0,0] zpU
def zG9 (K:Kt):AExit→List AV→zaa→Prop:=zar tP zjX [1,0,0] zpU (zax tP zHe K)
def zxH (t0 t1:AV) (H:zaa) (K:Kt):Prop:=ALoop tP zHa (zG9 K) (zjY t0 t1) H
def zpT (t0 t1:AV) (H:zaa) (K:Kt) (Kb1:Lt):Prop:=
 zah 1 t1 fun t8=>
 zab .gtr false t8 (.int .i64 0) fun t9=>
 zag t9
 (ACalls tP zgW [t0,t1] H fun t13 H=>
 zaz t13 0 fun t14=>
 zaz t13 1 fun t15=>
 Kb1 (zjY t1 t15) H)
 (K t0 H)
def zxG (t0 t1:AV) (H:zaa) (K:Kt):Prop:=
 zxH t0 t1 H K
theorem zHb {t0 t1:AV} {H:zaa} {K:Kt} (Inv:Nat→AV→AV→zaa→Prop) (n:Nat) (h0:HSc H→Inv n t0 t1 H)
  (round:Rd2 (fun t0=>fun t1=>zjY t0 t1) (fun t0=>fun t1=>fun H Kb1=>zpT t0 t1 H K Kb1) H Inv):zxH t0 t1 H K:=
 lp2 (M:=zjX) zHc t0 t1 (by kernel_rfl) Inv n h0 round
theorem zHd {t0 t1:AV} {H:zaa} {K:Kt} (h:HSc H→zxG t0 t1 H K):ACalls tP znX [t0,t1] H K:=
 zao (M:=zjX) Tryz.func108 (c:=zpU) (by kernel_rfl) (fun hs=>Eq.mpr (by kernel_rfl) (h hs))
def zjZ:Nat→List Bool
 | 2=>rl false [0,1,2,1,18]
 | _=>[]
noncomputable def zpX:Code:=Tryz.f110.body.getD .skip
noncomputable def zHr:List ResultVar:=Tryz.f110.results.toList
def zj1 (t0 t3:AV):List AV:=t0::ux 2 (t3::ux 18 [])
def zHp:List Bool:=zjZ 2
noncomputable def zHn:Code:=zaq [1,1,0,0,0] zpX
def zHm (K:Kt):AExit→List AV→zaa→Prop:=zar tP zjZ [1,1,0,0] zpX (zax tP zHr K)
def zxL (t0 t3:AV) (H:zaa) (K:Kt):Prop:=ALoop tP zHn (zHm K) (zj1 t0 t3) H
def zj0 (t0 t3:AV) (H:zaa) (K:Kt) (Kb2:Lt):Prop:=
 zab .gtr false t3 (.int .i64 0) fun t7=>
 zac t7 true H (fun K'=>K' t0 H) fun t9 H=>
 zac t7 true H (fun K'=>K' t3 H) fun t10 H=>
 zac t7 true H (fun K'=>zab .sub false t10 (.int .i64 1) (K' · H)) fun t11 H=>
 zac t7 true H (fun K'=>zai 1 t9 t11 (K' · H)) fun t12 H=>
 zac t7 true H (fun K'=>zae false 1 t12 H (K' · H)) fun t13 H=>
 zac t7 true H (fun K'=>zab .eql false t13 (.int .u32 0) (K' · H)) fun t14 H=>
 zaj t7 t14 (.bool false) fun t15=>
 zag t15
 (zab .sub false t3 (.int .i64 1) fun t17=>
 Kb2 (zj1 t0 t17) H)
 (zaN 1 1 t0 none (some t3) fun t20=>
 zaw zbd 1 4 .snil t20 H fun t21 H=>
 K t21 H)
def zxK (t0:AV) (H:zaa) (K:Kt):Prop:=
 zah 1 t0 fun t5=>
 zxL t0 t5 H K
theorem zHo {t0 t3:AV} {H:zaa} {K:Kt} (Inv:Nat→AV→zaa→Prop) (n:Nat) (h0:HSc H→Inv n t3 H)
  (round:Rd1 (fun t3=>zj1 t0 t3) (fun t3=>fun H Kb2=>zj0 t0 t3 H K Kb2) H Inv):zxL t0 t3 H K:=
 lp1 (M:=zjZ) zHp t3 (by kernel_rfl) Inv n h0 round
theorem zHq {t0:AV} {H:zaa} {K:Kt} (h:HSc H→zxK t0 H K):ACalls tP zfQ [t0] H K:=
 zao (M:=zjZ) Tryz.func110 (c:=zpX) (by kernel_rfl) (fun hs=>Eq.mpr (by kernel_rfl) (h hs))
def zkG:Nat→List Bool
 | 4=>rl false [0,2,4,3,31]
 | _=>[]
noncomputable def zqC:Code:=Tryz.f150.body.getD .skip
noncomputable def zJF:List ResultVar:=Tryz.f150.results.toList
def zkH (t0 t1 t6 t7 t8:AV):List AV:=t0::t1::ux 4 (t6::t7::t8::ux 31 [])
def zJD:List Bool:=zkG 4
noncomputable def zJB:Code:=zaq [1,1,1,0,1,0,0] zqC
def zJA (K:Kt):AExit→List AV→zaa→Prop:=zar tP zkG [1,1,1,0,1,0] zqC (zax tP zJF K)
def zyq (t0 t1 t6 t7 t8:AV) (H:zaa) (K:Kt):Prop:=ALoop tP zJB (zJA K) (zkH t0 t1 t6 t7 t8) H
def zqB (t0 t1 t6 t7 t8:AV) (H:zaa) (K:Kt) (Kb4:Lt):Prop:=
 zab .geq false t8 (.int .i64 0) fun t16=>
 zag t16
 (zab .mul false t7 (.int .u64 1000000000) fun t20=>
 zai 1 t0 t8 fun t23=>
 zae false 1 t23 H fun t24=>
 za0 .u64 t24 fun t25=>
 zab .add false t20 t25 fun t26=>
 zab .quo false t26 t1 fun t31=>
 za0 .u32 t31 fun t32=>
 zai 1 t6 t8 fun t33=>
 zan 1 t33 t32 H fun H=>
 zab .rem false t26 t1 fun t36=>
 zab .sub false t8 (.int .i64 1) fun t18=>
 Kb4 (zkH t0 t1 t6 t36 t18) H)
 (ACalls tP zfQ [t6] H fun t38 H=>
 zaC [t38,t7] (K · H))
def zyp (t0 t1:AV) (H:zaa) (K:Kt):Prop:=
 zah 1 t0 fun t10=>
 zbh 4 [(.int .u32 0)] t10 t10 H fun t11 H=>
 zah 1 t0 fun t13=>
 zab .sub false t13 (.int .i64 1) fun t14=>
 zyq t0 t1 t11 (.int .u64 0) t14 H K
theorem zJC {t0 t1 t6 t7 t8:AV} {H:zaa} {K:Kt} (Inv:Nat→AV→AV→zaa→Prop) (n:Nat) (h0:HSc H→Inv n t7 t8 H)
  (round:Rd2 (fun t7=>fun t8=>zkH t0 t1 t6 t7 t8) (fun t7=>fun t8=>fun H Kb4=>zqB t0 t1 t6 t7 t8 H K Kb4) H Inv):zyq t0 t1 t6 t7 t8 H K:=
 lp2 (M:=zkG) zJD t7 t8 (by kernel_rfl) Inv n h0 round
theorem zJE {t0 t1:AV} {H:zaa} {K:Kt} (h:HSc H→zyp t0 t1 H K):ACalls tP zob [t0,t1] H K:=
 zao (M:=zkG) Tryz.func150 (c:=zqC) (by kernel_rfl) (fun hs=>Eq.mpr (by kernel_rfl) (h hs))
def zQn (_:Nat):List Bool:=[]
noncomputable def zQo:Code:=Tryz.f57.body.getD .skip
def zmn (t0 t1 t2 t6:AV) (H:zaa) (K:Kt):Prop:=
 zas [(.bool false),.snil,.snil] [(0,1),(1,1),(2,1)] [(0,t0),(1,t1),(2,t2)] fun t49=>
 zan 3 t6 t49 H fun H=>
 zae true 3 t6 H fun r0=>
 K r0 H
def zAQ (t0 t1 t2:AV) (H:zaa) (K:Kt):Prop:=
 zay [(.bool false),.snil,.snil] H fun t6 H=>
 ACalls tP zin [t1] H fun t9 H=>
 ACalls tP zin [t2] H fun t11 H=>
 zah 1 t9 fun t13=>
 zab .eql false t13 (.int .i64 0) fun t14=>
 zac t14 false H (fun K'=>K' t11 H) fun t16 H=>
 zac t14 false H (fun K'=>zah 1 t16 (K' · H)) fun t17 H=>
 zac t14 false H (fun K'=>zab .eql false t17 (.int .i64 0) (K' · H)) fun t18 H=>
 zaj t14 (.bool true) t18 fun t19=>
 zag t19
 (zau 1 [(.int .u32 0)] 1 [(0,(.int .u32 1))] fun t20=>
 zas [(.bool false),.snil,.snil] [(0,1),(1,1),(2,1)] [(2,t20)] fun t21=>
 zan 3 t6 t21 H fun H=>
 zae true 3 t6 H fun r0=>
 K r0 H)
 (ACalls tP znX [t9,t11] H fun t24 H=>
 zah 1 t24 fun t26=>
 zab .neq false t26 (.int .i64 1) fun t27=>
 zac t27 false H (fun K'=>K' t24 H) fun t29 H=>
 zac t27 false H (fun K'=>zai 1 t29 (.int .i64 0) (K' · H)) fun t30 H=>
 zac t27 false H (fun K'=>zae false 1 t30 H (K' · H)) fun t31 H=>
 zac t27 false H (fun K'=>zab .neq false t31 (.int .u32 1) (K' · H)) fun t32 H=>
 zaj t27 (.bool true) t32 fun t33=>
 zag t33
 (ACalls tP zgW [t9,t24] H fun t37 H=>
 zaz t37 0 fun t38=>
 zaz t37 1 fun t39=>
 ACalls tP zgW [t11,t24] H fun t43 H=>
 zaz t43 0 fun t44=>
 zaz t43 1 fun t45=>
 zmn t0 t38 t44 t6 H K)
 (zmn t0 t9 t11 t6 H K))
theorem zQp {t0 t1 t2:AV} {H:zaa} {K:Kt} (h:HSc H→zAQ t0 t1 t2 H K):ACalls tP zfa [t0,t1,t2] H K:=
 zao (M:=zQn) Tryz.func57 (c:=zQo) (by kernel_rfl) (fun hs=>Eq.mpr (by kernel_rfl) (h hs))
def zxJ:Nat→List Bool
 | 9=>rl false [0,2,6,3,79]
 | 13=>rl false [0,2,6,4,78]
 | 16=>rl false [0,2,6,4,78]
 | _=>[]
noncomputable def zpV:Code:=Tryz.f109.body.getD .skip
noncomputable def zHl:List ResultVar:=Tryz.f109.results.toList
def zHi (t0 t1 t8 t9 t10:AV):List AV:=t0::t1::ux 6 (t8::t9::t10::ux 79 [])
noncomputable def zHh:Code:=zaq [1,1,1,1,1,0,1,0,0] zpV
def zHg (K:Kt):AExit→List AV→zaa→Prop:=zar tP zxJ [1,1,1,1,1,0,1,0] zpV (zax tP zHl K)
def zHj (t0 t1 t8 t9 t10:AV) (H:zaa) (K:Kt):Prop:=ALoop tP zHh (zHg K) (zHi t0 t1 t8 t9 t10) H
def zxI (t0 t1:AV) (H:zaa) (K:Kt):Prop:=
 ACalls tP znW [t0,t1] H fun t14 H=>
 zab .lss false t14 (.int .i64 0) fun t15=>
 zag t15
 (ACalls tP zfQ [t0] H fun t17 H=>
 zaC [.snil,t17] (K · H))
 (zah 1 t1 fun t19=>
 zab .eql false t19 (.int .i64 1) fun t20=>
 zag t20
 (zai 1 t1 (.int .i64 0) fun t24=>
 zae false 1 t24 H fun t25=>
 za0 .u64 t25 fun t26=>
 ACalls tP zob [t0,t26] H fun t27 H=>
 zaz t27 0 fun t28=>
 zaz t27 1 fun t29=>
 ACalls tP zg8 [t29] H fun t32 H=>
 zaC [t28,t32] (K · H))
 (zah 1 t0 fun t34=>
 zbh 4 [(.int .u32 0)] t34 t34 H fun t35 H=>
 zah 1 t0 fun t37=>
 zab .sub false t37 (.int .i64 1) fun t38=>
 zHj t0 t1 t35 .snil t38 H K))
theorem zHk {t0 t1:AV} {H:zaa} {K:Kt} (h:HSc H→zxI t0 t1 H K):ACalls tP zgW [t0,t1] H K:=
 zao (M:=zxJ) Tryz.func109 (c:=zpV) (by kernel_rfl) (fun hs=>Eq.mpr (by kernel_rfl) (h hs))
end Go.Proofs.YtdmamdnkcefmmaaGreatDoor
namespace Go.Abs
open Go Go.RowKit
def zam (l:List Nat):List (List AV):=l.map fun (n:Nat)=>[AV.int .u32 (n:Int)]
@[simp] theorem zWB (l:List Nat):(zam l).length=l.length:=by simp[zam]
theorem zxg (l:List Nat) (n:Nat):(zam l).take n=zam (l.take n):=by simp[zam,List.map_take]
theorem zWA {l:List Nat} {i:Nat} (h:i<l.length):(zam l)[i]?.getD []=[.int .u32 ((l[i]:Nat):Int)]:=by simp[zam,h]
@[simp] theorem zWz {l:List Nat} {i:Nat} (h:i<(zam l).length):(zam l)[i]=[.int .u32 (((l[i]'(by simpa using h)):Nat):Int)]:=by simp[zam]
theorem zdQ (l:List Nat):∀ c∈zam l,c.length=1:=by
 intro c hc
 simp only[zam,List.mem_map]at hc
 obtain⟨n,_,rfl⟩:=hc
 rfl
theorem zwF {L:List Nat} {n:Nat} (hn:0<n) (h:n≤L.length) (h0:L[n-1]=0):zbr (L.take n)=zbr (L.take (n-1)):=by
 obtain⟨m,rfl⟩:∃ m,n=m+1:=⟨n-1,by omega⟩
 simp only[Nat.add_sub_cancel]at h0 ⊢
 rw[List.take_succ_eq_append_getElem (by omega),h0]
 generalize L.take m=A
 induction A with
 | nil=>simp[zbr]
 | cons a A ih=>rw[List.cons_append,zbr,zbr,ih]
theorem zwD {L:List Nat} {n:Nat} (hn:0<n) (h:n≤L.length) (h0:L[n-1]≠0):zbr (L.take n)=L.take n:=by
 obtain⟨m,rfl⟩:∃ m,n=m+1:=⟨n-1,by omega⟩
 simp only[Nat.add_sub_cancel]at h0
 rw[List.take_succ_eq_append_getElem (by omega)]
 generalize hx:L[m]=x at h0
 generalize L.take m=A
 induction A with
 | nil=>simp[zbr,h0]
 | cons a A ih=>
  rw[List.cons_append,zbr,ih,if_neg]
  rintro⟨_,h⟩
  simp at h
theorem zdR {n:Nat} (h:n<4294967296):IntKind.u32.wrap (n:Int)=n:=IntWalk.u32_in _ ⟨by omega,by omega⟩
theorem zbz {n:Nat} (h:n<18446744073709551616):IntKind.u64.wrap (n:Int)=n:=IntWalk.u64_in _ ⟨by omega,by omega⟩
theorem ztz {k:AV→Prop} (b:Bool) (j:IntKind) (m n:Nat) (hn:n≠0):zab .rem b (.int j m) (.int j n) k=k (.int j ((m % n:Nat):Int)):=by
 simp only[zb8,ne_eq,Int.natCast_eq_zero,hn,not_false_eq_true,true_and]
 rfl
theorem zty {k:AV→Prop} (b:Bool) (j:IntKind) (m n:Nat) (hn:n≠0):zab .quo b (.int j m) (.int j n) k=k (.int j (j.wrap ((m / n:Nat):Int))):=by
 simp only[zb8,ne_eq,Int.natCast_eq_zero,hn,not_false_eq_true,true_and]
 rfl
theorem zm8 {k:AV→Prop} (b:Bool) (j:IntKind) (m:Nat):zab .rem b (.int j m) (.int j 1000000000) k=k (.int j ((m % 1000000000:Nat):Int)):=ztz b j m 1000000000 (by decide)
theorem ztw {k:AV→Prop} (b:Bool) (j:IntKind) (m:Nat):zab .quo b (.int j m) (.int j 1000000000) k=k (.int j (j.wrap ((m / 1000000000:Nat):Int))):=zty b j m 1000000000 (by decide)
theorem ztx {k:AV→Prop} (b:Bool) {m:Nat} (h:m<18446744073709551616):zab .quo b (.int .u64 m) (.int .u64 1000000000) k=k (.int .u64 ((m / 1000000000:Nat):Int)):=by
 rw[ztw,zbz (by have:=Nat.div_le_self m 1000000000;omega)]
theorem zB3 {k:AV→Prop} (b:Bool) {m:Nat} (h:m<4294967296):zab .quo b (.int .u32 m) (.int .u32 1000000000) k=k (.int .u32 ((m / 1000000000:Nat):Int)):=by
 rw[ztw,zdR (by have:=Nat.div_le_self m 1000000000;omega)]
theorem zBZ {k:AV→Prop} (j:IntKind) {m:Nat} (h:m<4294967296):za0 .u32 (.int j m) k=k (.int .u32 m):=by rw[zB0,zdR h]
theorem znT (m:Nat):m % 1000000000<1000000000:=Nat.mod_lt _ (by decide)
theorem zC0 {m:Nat} (h:m≠0):m / 1000000000<m:=Nat.div_lt_self (by omega) (by decide)
theorem sN (l:List Nat) (x:Nat):zam l++[[AV.int .u32 (x:Int)]]=zam (l++[x]):=by simp[zam]
theorem zgE (s:Nat) (h:s<18446744073709551616):∃ x c:Nat,x<1000000000∧s=x+1000000000*c∧IntKind.u32.wrap (x:Int)=x ∧
  (∀ (b:Bool) (k:AV→Prop),zab .rem b (.int .u64 s) (.int .u64 1000000000) k=k (.int .u64 x))∧∀ (b:Bool) (k:AV→Prop),zab .quo b (.int .u64 s) (.int .u64 1000000000) k=k (.int .u64 c):=
 ⟨s % 1000000000,s / 1000000000,znT s,by omega,zdR (by omega),fun b k=>zm8 b .u64 s,fun b k=>ztx b h⟩
theorem zC2 (s:Nat) (h:s<4294967296):∃ x c:Nat,x<1000000000∧s=x+1000000000*c ∧
  (∀ (b:Bool) (k:AV→Prop),zab .rem b (.int .u32 s) (.int .u32 1000000000) k=k (.int .u32 x))∧∀ (b:Bool) (k:AV→Prop),zab .quo b (.int .u32 s) (.int .u32 1000000000) k=k (.int .u32 c):=
 ⟨s % 1000000000,s / 1000000000,znT s,by omega,fun b k=>zm8 b .u32 s,fun b k=>zB3 b h⟩
theorem znw (s d:Nat) (hd:0<d) (h:s<18446744073709551616):∃ x c:Nat,x<d∧s=x+d*c ∧
  (∀ (b:Bool) (k:AV→Prop),zab .rem b (.int .u64 s) (.int .u64 d) k=k (.int .u64 x))∧∀ (b:Bool) (k:AV→Prop),zab .quo b (.int .u64 s) (.int .u64 d) k=k (.int .u64 c):=
 ⟨s % d,s / d,Nat.mod_lt _ hd,(Nat.mod_add_div s d).symm,fun b k=>ztz b .u64 s d (by omega),fun b k=>by rw[zty b .u64 s d (by omega),zbz (by have:=Nat.div_le_self s d;omega)]⟩
theorem wi (i:Nat) (h:i<1000000000):IntKind.i64.wrap ((i:Int)+1)=((i+1:Nat):Int):=by rw[zat (by omega) (by omega)];omega
theorem zwE:∀ l:List Nat,(zbr l).length≤l.length∧((zbr l).length=l.length→zbr l=l)
 | []=>by simp[zbr]
 | x::l=>by
  obtain⟨h1,h2⟩:=zwE l
  rw[zbr]
  split
  ·simp
  ·simp only[List.length_cons]
   exact⟨by omega,fun h=>by rw[h2 (by omega)]⟩
theorem zu1 {n k:Nat} (h:1000000000 ^ k≤n):k<(lim n).length:=by
 have h1:=zey (lim n) (zcb n)
 rw[zbC]at h1
 refine Nat.lt_of_not_le fun h2=>?_
 have:=Nat.pow_le_pow_right (show 0<1000000000 by omega) h2
 omega
theorem zt8 {R:List Nat} (hR:∀ x∈R,x<1000000000) (h:R.length≤(lim (zap R)).length):R=lim (zap R):=by
 have h1:=zfh R hR
 obtain⟨h2,h3⟩:=zwE R
 rw[←h1,h3 (by rw[h1]at h2 ⊢;omega)]
end Go.Abs
namespace Go.Proofs.YtdmamdnkcefmmaaGreatDoor
open Go Go.Abs
theorem zpY (L:List Nat) (hL:L.length≤1000000) (H:zaa) (K:Kt) (hK:K (.sl (zam (zbr L)) .none) H) :
  ACalls tP zfQ [.sl (zam L) .none] H K:=by
 refine ACalls.out (zHq fun hs=>?_)
 simp[zxK]
 refine zHo (Inv:=fun q t3 H'=>∃ n:Nat,n≤L.length∧n=q∧t3=.int .i64 n∧H'=H∧zbr L=zbr (L.take n)) L.length ?_ ?_
 ·intro _;exact⟨L.length,by omega,rfl,by simp,rfl,by simp⟩
 ·rintro q t3 H' ⟨n,hn,rfl,rfl,rfl,hst⟩ hsc' hlen hsF Kb hKb
  have hone:∀ (l:List Nat) (J:zaa),l=zbr L→Out (List.length H') K (AV.sl (zam l) (Tok.own (List.length H'))) (H'++J):=fun l J hl=>Out.one hs (.atom (.sl _ _)) rfl rfl (by rw[hl];exact hK)
  by_cases h0:n=0
  ·subst h0
   simp[zj0,zaw,zaK,zaG]
   exact⟨zdQ L,hone [] _ (by simpa[zbr]using hst.symm)⟩
  ·have hw:IntKind.i64.wrap ((n:Int)-1)=((n-1:Nat):Int):=by rw[zat (by omega) (by omega)];omega
   have hlt:n-1<L.length:=by omega
   by_cases hz:L[n-1]=0
   ·simp[zj0,show 0<n by omega,hw,hlt,hz]
    exact hKb _ _ ⟨n-1,by omega,Back.here (by simp) hs (by simp[zj1,AV.sc,AV.scA,AV.scB,AV.scV]) ⟨_,rfl,n-1,by omega,rfl,rfl,rfl,by rw[hst,zwF (by omega) hn hz]⟩⟩
   ·have hzb:(((L[n-1]:Nat):Int) == 0)=false:=by simp;omega
    simp[zj0,show 0<n by omega,hw,hlt,hzb,zaw,zaK,zaG]
    refine⟨⟨hn,zdQ L⟩,fun c hc=>zdQ L c (List.mem_of_mem_take hc),⟨by omega,by omega⟩,?_⟩
    rw[zxg]
    exact hone _ _ (by rw[hst,zwD (by omega) hn hz])
theorem zAV (n:Nat) (hn:n<18446744073709551616) (H:zaa) (K:Kt) (hK:K (.sl (zam (lim n)) .none) H) :
  ACalls tP zg8 [.int .u64 n] H K:=by
 refine ACalls.out (zQH fun hs=>?_)
 unfold zAU zmt
 refine ALoop.own 3 zbd 1 rfl ?_
 show zmt (.int .u64 n) (.sl [] (.own H.length)) (H++[.perm zbd 1 0]) (Out H.length K)
 refine zQF (Inv:=fun q t0 t3 H'=>∃ (m:Nat) (A:List Nat),m=q∧t0=.int .u64 m∧t3=.sl (zam A) (.own H.length)∧lim n=A++lim m∧m<18446744073709551616 ∧
  H'=H++[.perm zbd 1 A.length]) n ?_ ?_
 ·intro _;exact⟨n,[],rfl,rfl,rfl,by simp,hn,rfl⟩
 ·rintro q t0 t3 H' ⟨m,A,rfl,rfl,rfl,hA,hm,rfl⟩ hsc' hlen hsF Kb hKb
  by_cases h0:m=0
  ·subst h0
   simp[zsC]
   exact Out.one hs (.atom (.sl _ _)) rfl rfl (by simpa[hA]using hK)
  ·have hq:=znT m
   have hd:=zC0 h0
   have hlA:A.length+1≤1000:=by
    have h1:=congrArg List.length hA
    have h2:=zbK (n:=n) (k:=3) (by omega)
    rw[zb3 h0]at h1
    simp at h1
    omega
   simp only[zsC,zm8,ztx false hm,zBZ .u64 (show m % 1000000000<4294967296 by omega)]
   simp[show 0<m by omega,zau,zaR,plain,AV.pd,zaw,zaK,zaG]
   refine⟨⟨by omega,by omega⟩,?_⟩
   have e1:((m:Int) / 1000000000)=((m / 1000000000:Nat):Int):=rfl
   have e2:((m:Int) % 1000000000)=((m % 1000000000:Nat):Int):=rfl
   rw[e1,e2,sN]
   refine hKb _ _ ⟨m / 1000000000,hd,Back.here (by simp) (hs.append (by simp[AB.sc])) (by simp[zms,ux,AV.sc,AV.scA,AV.scB,AV.scV]) ⟨_,_,rfl,m / 1000000000,A++[m % 1000000000],rfl,rfl,rfl,?_,by omega,by simp⟩⟩
   rw[hA,zb3 h0];simp
theorem ze3 (A:List Nat) (x:Nat):zap (A++[x])=zap A+1000000000 ^ A.length*x:=by rw[zgR];simp[zap]
theorem zxF (L:List Nat) (h32:∀ x∈L,x<4294967296) (hL:L.length≤100000) (H:zaa) (K:Kt) (hK:K (.sl (zam (lim (zap L))) .none) H) :
  ACalls tP zin [.sl (zam L) .none] H K:=by
 refine ACalls.out (zG7 fun hs=>?_)
 unfold zxE zjW
 refine ALoop.own 3 zbd 1 rfl ?_
 show zjW (.sl (zam L) .none) (.sl [] (.own H.length)) (.int .u64 0) (.int .i64 0) (H++[.perm zbd 1 0]) (Out H.length K)
 have hend:∀ A:List Nat,(∀ x∈A,x<1000000000)→zap A=zap L→A.length≤200000→zjV (.sl (zam A) (.own H.length)) (H++[.perm zbd 1 A.length]) (Out H.length K):=by
  intro A hA he hl
  unfold zjV
  refine ACalls.wk (args':=[.sl (zam A) .none]) (zpY A (by omega) _ _ ?_) ⟨.atom (.sl _ _),trivial⟩
  rw[zfh A hA,he]
  exact Out.one hs (.atom (.sl _ _)) rfl rfl hK
 refine zG5 (Inv:=fun q t3 t4 t5 H'=>∃ (i c:Nat) (A:List Nat),i≤L.length∧L.length-i=q∧t5=.int .i64 i∧t4=.int .u64 c∧t3=.sl (zam A) (.own H.length)∧A.length=i∧(∀ x∈A,x<1000000000)∧c≤5 ∧
  zap A+1000000000 ^ i*c=zap (L.take i)∧H'=H++[.perm zbd 1 A.length]) L.length ?_ ?_
 ·intro _;exact⟨0,0,[],by omega,rfl,rfl,rfl,rfl,rfl,by simp,by omega,by simp[zap],rfl⟩
 ·rintro q t3 t4 t5 H' ⟨i,c,A,hi,rfl,rfl,rfl,rfl,hAl,hA,hc,hv,rfl⟩ hsc' hlen hsF Kb hKb
  by_cases hlt:i<L.length
  ·have hx:=h32 L[i] (List.getElem_mem hlt)
   have w1:IntKind.u64.wrap ((L[i]:Nat):Int)=L[i]:=zbz (by omega)
   obtain⟨s,hs1⟩:∃ s,s=c+L[i]:=⟨_,rfl⟩
   have w2:IntKind.u64.wrap ((c:Int)+(L[i]:Nat))=(s:Int):=by rw[hs1,←Int.natCast_add];exact zbz (by omega)
   obtain⟨x,c',hx1,hx2,hx3,e1,e2⟩:=zgE s (by omega)
   simp only[zjT]
   simp[hlt,w1,w2,e1,e2,hx3,zau,zaR,plain,AV.pd,zaw,zaK,zaG,wi i (by omega)]
   refine⟨⟨by omega,by omega⟩,?_⟩
   rw[sN]
   refine hKb _ _ ⟨L.length-(i+1),by omega,Back.here (by simp) (hs.append (by simp[AB.sc])) (by simp[zjU,ux,AV.sc,AV.scA,AV.scB,AV.scV]) ⟨_,_,_,rfl,i+1,c',A++[x],by omega,rfl,rfl,rfl,rfl,by simp[hAl],?_,by omega,?_,by simp⟩⟩
   ·intro y hy
    rcases List.mem_append.1 hy with hy | hy
    ·exact hA y hy
    ·simp at hy;omega
   ·rw[ze3,zfP L i hlt,←hv,hAl,Nat.pow_succ]
    grind
  ·obtain rfl:i=L.length:=by omega
   rw[List.take_length]at hv
   by_cases h0:c=0
   ·subst h0
    simp[zjT]
    exact hend A hA (by simpa using hv) (by omega)
   ·simp only[zjT]
    simp[show 0<c by omega,zdR (show c<4294967296 by omega),zau,zaR,plain,AV.pd,zaw,zaK,zaG]
    refine⟨⟨by omega,by omega⟩,?_⟩
    rw[sN]
    have:=hend (A++[c]) (fun y hy=>by
     rcases List.mem_append.1 hy with hy | hy
     ·exact hA y hy
     ·simp at hy;omega) (by rw[ze3,hAl];exact hv) (by simp;omega)
    simpa using this
theorem zik {A B:List Nat} (hl:A.length=B.length) (hA:∀ x∈A,x<1000000000) (i:Nat) (hi:i<A.length) (hd:A.drop (i+1)=B.drop (i+1)) (hlt:A[i]<B[i]'(by omega)):zap A<zap B:=by
 have e1:∀ (l:List Nat) (h:i<l.length),zap l=zap (l.take i)+1000000000 ^ i*(l[i]+1000000000*zap (l.drop (i+1))):=by
  intro l h
  conv=>lhs;rw[←List.take_append_drop i l,zgR,List.drop_eq_getElem_cons h,zap]
  rw[List.length_take,Nat.min_eq_left (by omega)]
 rw[e1 A hi,e1 B (by omega),hd]
 have h1:=zey (A.take i) (fun x hx=>hA x (List.mem_of_mem_take hx))
 rw[List.length_take,Nat.min_eq_left (by omega)]at h1
 generalize hZ:zap (B.drop (i+1))=Z
 generalize A[i]=a at hlt ⊢
 generalize B[i]=b at hlt ⊢
 have h2:1000000000 ^ i*(a+1000000000*Z+1)≤1000000000 ^ i*(b+1000000000*Z):=Nat.mul_le_mul_left _ (by omega)
 rw[Nat.mul_succ]at h2
 omega
def zca (a b:Nat):Int:=if a<b then -1 else if b<a then 1 else 0
theorem zG2 (a b:Nat) (ha:(lim a).length≤1000) (hb:(lim b).length≤1000) (H:zaa) (K:Kt) (hK:K (.int .i64 (zca a b)) H) :
  ACalls tP znW [.sl (zam (lim a)) .none,.sl (zam (lim b)) .none] H K:=by
 refine ACalls.out (zG0 fun hs=>?_)
 have hO:∀ r,r=zca a b→Out H.length K (.int .i64 r) H:=fun r hr=>Out.int (J:=[]) (by simp) (Nat.le_refl _) hs (by rw[hr];exact hK)
 have lA:=zcb a
 have lB:=zcb b
 have vA:=zbC a
 have vB:=zbC b
 by_cases hne:(lim a).length=(lim b).length
 ·simp[zjP,hne]
  generalize hLA:lim a=A at *
  generalize hLB:lim b=B at *
  have hstart:IntKind.i64.wrap ((B.length:Int)-1)=(B.length:Int)-1:=zat (by omega) (by omega)
  rw[hstart]
  refine zGY (Inv:=fun q t5 H'=>∃ i:Nat,i≤B.length∧i=q∧t5=.int .i64 ((i:Int)-1)∧H'=H∧A.drop i=B.drop i) B.length ?_ ?_
  ·intro _;exact⟨B.length,by omega,rfl,rfl,rfl,by rw[List.drop_of_length_le (by omega),List.drop_of_length_le (by omega)]⟩
  ·rintro q t5 H' ⟨i,hi,rfl,rfl,rfl,hd⟩ hsc' hlen hsF Kb hKb
   by_cases h0:i=0
   ·subst h0
    simp[zhA]
    refine hO _ ?_
    simp at hd
    rw[←vA,←vB,hd]
    simp[zca]
   ·obtain⟨j,rfl⟩:∃ j,i=j+1:=⟨i-1,by omega⟩
    have hja:j<A.length:=by omega
    have hjb:j<B.length:=by omega
    have ej:((j+1:Nat):Int)-1=(j:Int):=by omega
    have hstep:IntKind.i64.wrap ((j:Int)-1)=(j:Int)-1:=zat (by omega) (by omega)
    rw[ej]
    rcases Nat.lt_trichotomy A[j] B[j] with h | h | h
    ·have:=zik hne lA j hja hd h
     simp[zhA,hja,hjb,h]
     exact hO _ (by rw[←vA,←vB];simp[zca,this])
    ·simp[zhA,hja,hjb,h,hstep]
     refine hKb _ _ ⟨j,by omega,Back.here (by simp) hs (by simp[zjR,ux,AV.sc,AV.scA,AV.scB,AV.scV]) ⟨_,rfl,j,by omega,rfl,rfl,rfl,?_⟩⟩
     rw[List.drop_eq_getElem_cons hja,List.drop_eq_getElem_cons hjb,hd,h]
    ·have:=zik hne.symm lB j hjb hd.symm h
     simp[zhA,hja,hjb,h,Nat.le_of_lt h,Nat.not_lt.2 (Nat.le_of_lt h)]
     exact hO _ (by rw[←vA,←vB];simp[zca,this,Nat.not_lt.2 (Nat.le_of_lt this)])
 ·have hnb:(((lim a).length:Int) != ((lim b).length:Int))=true:=by simp;omega
  by_cases hlt:(lim a).length<(lim b).length
  ·have:=zij hlt
   simp[zjP,hnb,hlt]
   exact hO (-1) (by simp[zca,this])
  ·have:=zij (show (lim b).length<(lim a).length by omega)
   simp[zjP,hnb,hlt]
   exact hO 1 (by simp[zca,this,Nat.not_lt.2 (Nat.le_of_lt this)])
def us (l:List Nat):List AV:=l.map fun (n:Nat)=>AV.int .u32 (n:Int)
@[simp] theorem zWC (l:List Nat):(us l).length=l.length:=by simp[us]
theorem zjI (l:List Nat):(zam l).flatten=us l:=by induction l with
 | nil=>rfl
 | cons x l ih=>simp only[zam,us,List.map_cons,List.flatten_cons]at ih ⊢;rw[ih];rfl
theorem zhy:∀ (l:List Nat),plain (us l)=some (us l)
 | []=>rfl
 | x::l=>by simp only[us,List.map_cons,plain,AV.pd];rw[show plain (List.map (fun n:Nat=>AV.int .u32 (n:Int)) l)=some (us l) from zhy l];rfl
theorem zGt (l:List Nat) (i:Nat) (h:i<l.length):(us l)[i]?=some (.int .u32 ((l[i]:Nat):Int)):=by simp[us,h]
theorem zxk (l:List Nat) (i x:Nat) (h:i<l.length):(us l).take i++[AV.int .u32 (x:Int)]++(us l).drop (i+1)=us (l.set i x):=by
 simp only[us,←List.map_take,←List.map_drop]
 rw[List.set_eq_take_append_cons_drop,if_pos h]
 simp
theorem zpG (n:Nat):List.replicate n (AV.int .u32 0)=us (List.replicate n 0):=by simp[us]
theorem zBY {k:AV→Prop} (l:List Nat) (i:Nat) (h:i<l.length):zbg false 1 i (us l) k=k (.int .u32 ((l[i]:Nat):Int)):=by
 simp[zbg,zGt l i h]
theorem zCQ (L:List Nat) (hL:∀ x∈L,x<1000000000) (hl:L.length≤100000) {id:Nat} {H:zaa} {K:Kt} (hid:H[id]?=some (.cells (us L))) (hK:K (.sl (zam (lim (zap L))) .none) (H.set id .dead)) :
  ACalls tP zfQ [.ms id 0 L.length L.length] H K:=by
 refine ACalls.frz id 0 L.length L.length 1 (us L) (zam L) hid (by simp) ?_ (by simp) (zdQ L) (Nat.le_refl _) (args':=[.sl (zam L) .none]) ⟨.one .ms,trivial⟩ ?_
 ·rw[List.drop_zero,List.take_of_length_le (by simp),zjI,zhy]
 ·refine zpY L (by omega) _ _ ?_
  rw[zfh L hL];exact hK
theorem zxl (O:List Nat) (i x:Nat) (h:i<O.length):List.take i (us O)++AV.int .u32 (x:Int)::List.drop (i+1) (us O)=us (O.set i x):=by rw[←zxk O i x h];simp
theorem zwr {O:List Nat} (hO:∀ x∈O,x<1000000000) {i x:Nat} (hx:x<1000000000):∀ y∈O.set i x,y<1000000000:=by
 intro y hy
 rcases List.mem_or_eq_of_mem_set hy with hy | rfl
 ·exact hO y hy
 ·exact hx
theorem zJG (A:List Nat) (lA:∀ x∈A,x<1000000000) (ha:A.length≤1000) (d:Nat) (hd0:0<d) (hd:d<4294967296) (hdB:d≤1000000000) (H:zaa) (K:Kt)
  (hK:K (.tup [.sl (zam (lim (zap A / d))) .none,.int .u64 ((zap A % d:Nat):Int)]) H) :
  ACalls tP zob [.sl (zam A) .none,.int .u64 d] H K:=by
 refine ACalls.out (zJE fun hs=>?_)
 have hst:IntKind.i64.wrap ((A.length:Int)-1)=(A.length:Int)-1:=zat (by omega) (by omega)
 simp[zyp,zbh,hst]
 rw[zpG]
 refine⟨⟨by omega,by omega⟩,?_⟩
 have hsc:∀ O:List Nat,HSc (H++[.cells (us O)]):=fun O=>hs.append (by simp[AB.sc,us,AV.scA,AV.scB])
 refine zJC (Inv:=fun q t7 t8 H'=>∃ (i r:Nat) (O:List Nat),i≤A.length∧i=q∧t8=.int .i64 ((i:Int)-1)∧t7=.int .u64 r∧r<d∧O.length=A.length∧(∀ x∈O,x<1000000000) ∧
  zap (A.drop i)=d*zap (O.drop i)+r∧H'=H++[.cells (us O)]) A.length ?_ ?_
 ·intro _;exact⟨A.length,0,_,by omega,rfl,rfl,rfl,by omega,by simp,by simp,by simp[zap],rfl⟩
 ·rintro q t7 t8 H' ⟨i,r,O,hi,rfl,rfl,rfl,hr,hOl,hO,hv,rfl⟩ hsc' hlen hsF Kb hKb
  by_cases h0:i=0
  ·subst h0
   simp[zqB]
   rw[List.drop_zero,List.drop_zero]at hv
   rw[←hOl]
   refine zCQ O hO (by omega) (by simp) ?_
   have e1:zap A / d=zap O:=by rw[hv,Nat.mul_add_div hd0,Nat.div_eq_of_lt hr];simp
   have e2:zap A % d=r:=by rw[hv,Nat.mul_add_mod,Nat.mod_eq_of_lt hr]
   rw[e1,e2]at hK
   simp
   exact⟨⟨rfl,rfl⟩,Out.tup (bs:=[.sl (zam (lim (zap O))) .none,.int .u64 (r:Int)]) hs hK ⟨slV,za3 rfl rfl,trivial⟩⟩
  ·obtain⟨j,rfl⟩:∃ j,i=j+1:=⟨i-1,by omega⟩
   have hja:j<A.length:=by omega
   have hjO:j<O.length:=by omega
   have hxa:=lA A[j] (List.getElem_mem hja)
   have ej:((j+1:Nat):Int)-1=(j:Int):=by omega
   have hstep:IntKind.i64.wrap ((j:Int)-1)=(j:Int)-1:=zat (by omega) (by omega)
   have hrB:r*1000000000≤1000000000*1000000000:=Nat.mul_le_mul_right _ (by omega)
   obtain⟨m,hm⟩:∃ m,m=r*1000000000:=⟨_,rfl⟩
   have w1:IntKind.u64.wrap ((r:Int)*1000000000)=(m:Int):=by rw[show (r:Int)*1000000000=(m:Int) by omega];exact zbz (by omega)
   have w2:IntKind.u64.wrap ((A[j]:Nat):Int)=A[j]:=zbz (by omega)
   obtain⟨s,hs1⟩:∃ s,s=m+A[j]:=⟨_,rfl⟩
   have w3:IntKind.u64.wrap ((m:Int)+(A[j]:Nat))=(s:Int):=by rw[hs1,←Int.natCast_add];exact zbz (by omega)
   obtain⟨x,c,hx1,hx2,e1,e2⟩:=znw s d hd0 (by omega)
   have hcB:c<1000000000:=by
    refine Nat.lt_of_not_le fun h=>?_
    have h1:d*1000000000≤d*c:=Nat.mul_le_mul_left _ h
    have h2:r*1000000000+1000000000≤d*1000000000:=by
     rw[←Nat.succ_mul];exact Nat.mul_le_mul_right _ hr
    omega
   have w4:IntKind.u32.wrap (c:Int)=c:=zdR (by omega)
   rw[ej]
   simp only[zqB]
   simp[hja,w1,w2,w3,e1,e2,w4,hstep,zxl O j c hjO,hOl]
   refine⟨by omega,hKb _ _ ⟨j,by omega,Back.here (by simp) (hsc _) (by simp[zkH,ux,AV.sc,AV.scA,AV.scB,AV.scV]) ⟨_,_,rfl,j,x,O.set j c,by omega,rfl,rfl,rfl,hx1,by simp[hOl],zwr hO hcB,?_,rfl⟩⟩⟩
   rw[zgS A j hja,zgS (O.set j c) j (by simpa using hjO),List.getElem_set_self,List.drop_set_of_lt (by omega),hv]
   rw[hs1,hm]at hx2
   generalize zap (O.drop (j+1))=Z at *
   grind
theorem zpW (a b:Nat) (ha:(lim a).length≤1000) (hb0:0<b) (hb:b<1000000000) (H:zaa) (K:Kt)
  (hK:K (.tup [.sl (zam (lim (a / b))) .none,.sl (zam (lim (a % b))) .none]) H) :
  ACalls tP zgW [.sl (zam (lim a)) .none,.sl (zam (lim b)) .none] H K:=by
 refine ACalls.out (zHk fun hs=>?_)
 have hlb:lim b=[b]:=ze2 (by omega) hb
 simp only[zxI]
 refine zG2 a b ha (by rw[hlb];simp) _ _ ?_
 have hcz:(zca a b<0)↔a<b:=by
  unfold zca
  split
  ·simp;assumption
  ·split <;> simp <;> omega
 by_cases hlt:a<b
 ·simp[hcz,hlt]
  refine zpY (lim a) (by omega) _ _ ?_
  rw[zfh _ (zcb a),zbC]
  rw[Nat.div_eq_of_lt hlt,Nat.mod_eq_of_lt hlt,zu3]at hK
  refine⟨⟨rfl,rfl⟩,?_⟩
  exact Out.tup0 (bs:=[.sl (zam []) .none,.sl (zam (lim a)) .none]) hs hK ⟨zdy,slV,trivial⟩
 ·have w1:IntKind.u64.wrap (b:Int)=b:=zbz (by omega)
  have hm:a % b<b:=Nat.mod_lt _ hb0
  simp[hcz,hlt,hlb,w1]
  refine zJG (lim a) (zcb a) ha b hb0 (by omega) (by omega) _ _ ?_
  rw[zbC]
  simp
  refine zAV (a % b) (by omega) _ _ ?_
  refine⟨⟨rfl,rfl⟩,?_⟩
  exact Out.tup0 (bs:=[.sl (zam (lim (a / b))) .none,.sl (zam (lim (a % b))) .none]) hs hK ⟨slV,slV,trivial⟩
theorem zHf (a b:Nat) (ha:(lim a).length≤1000) (hb:b<1000000000) (H:zaa) (K:Kt) (hK:K (.sl (zam (lim (Nat.gcd a b))) .none) H) :
  ACalls tP znX [.sl (zam (lim a)) .none,.sl (zam (lim b)) .none] H K:=by
 refine ACalls.out (zHd fun hs=>?_)
 unfold zxG
 refine zHb (Inv:=fun q t0 t1 H'=>∃ x y:Nat,y=q∧t0=.sl (zam (lim x)) .none∧t1=.sl (zam (lim y)) .none∧(lim x).length≤1000∧y<1000000000∧Nat.gcd x y=Nat.gcd a b∧H'=H) b ?_ ?_
 ·intro _;exact⟨a,b,rfl,rfl,rfl,ha,hb,rfl,rfl⟩
 ·rintro q t0 t1 H' ⟨x,y,rfl,rfl,rfl,hx,hy,hg,rfl⟩ hsc' hlen hsF Kb hKb
  by_cases h0:y=0
  ·subst h0
   rw[Nat.gcd_zero_right]at hg
   subst hg
   simp[zpT]
   exact Out.one0 hs (.atom (.sl _ _)) rfl rfl hK
  ·have hly:lim y=[y]:=ze2 h0 hy
   have hm:x % y<y:=Nat.mod_lt _ (by omega)
   simp[zpT,show 0<(lim y).length by rw[hly];simp]
   refine zpW x y hx (by omega) hy _ _ ?_
   simp
   refine hKb _ _ ⟨x % y,hm,Back.here (by simp) hs (by simp[zjY,ux,AV.sc,AV.scA,AV.scB,AV.scV]) ⟨_,_,rfl,y,x % y,rfl,rfl,rfl,by rw[hly];simp,by omega,?_,rfl⟩⟩
   rw[←hg,Nat.gcd_comm x y,Nat.gcd_rec y x,Nat.gcd_comm]
def zak (z:Int):List AV:=[.bool (decide (z<0)),.sl (zam (lim z.natAbs)) .none,.sl (zam [1]) .none]
theorem zQq (neg:Bool) (N D:List Nat) (hN:∀ x∈N,x<4294967296) (hD:∀ x∈D,x<4294967296) (hNl:N.length≤10000) (hDl:D.length≤10000) (n:Nat) (hnl:(lim n).length≤900) (d:Nat) (hd0:0<d) (hd:d<1000000000)
  (hn:zap N=n*d) (hdv:zap D=d) (H:zaa) (K:Kt) (hK:K (.agg (zak (if neg then -(n:Int) else n))) H) :
  ACalls tP zfa [.bool neg,.sl (zam N) .none,.sl (zam D) .none] H K:=by
 refine ACalls.out (zQp fun hs=>?_)
 have hld:lim d=[d]:=ze2 (by omega) hd
 simp[zAQ]
 refine zxF N hN (by omega) _ _ ?_
 refine zxF D hD (by omega) _ _ ?_
 rw[hn,hdv]
 have hnd:(lim (n*d)).length≤1000:=by
  have h1:=zey (lim n) (zcb n)
  rw[zbC]at h1
  have h2:n*d<1000000000 ^ ((lim n).length+1):=by
   rw[Nat.pow_succ]
   exact Nat.mul_lt_mul'' h1 hd
  have:=zbK h2
  omega
 by_cases h0:n=0
 ·subst h0
  have e0:(if neg=true then -((0:Nat):Int) else ((0:Nat):Int))=0:=by cases neg <;> rfl
  rw[e0]at hK
  simp[zau,zaR,plain,AV.pd,zas,zaH,zcK]
  have e1:zak 0=[.bool false,.sl [] .none,.sl [[.int .u32 1]] .none]:=by simp[zak,zam]
  rw[e1]at hK
  exact Out.one hs (WkV.agg (ds:=[.bool false,.sl [] .none,.sl [[.int .u32 1]] .none]) ⟨.refl _,.snil,.sl _ _,trivial⟩) rfl (by simp[AV.scV,AV.scA,AV.scB]) hK
 ·have hpos:0<(lim (n*d)).length:=by
   rw[zb3 (Nat.mul_ne_zero h0 (by omega))];simp
  have hg:Nat.gcd (n*d) d=d:=Nat.gcd_eq_right (Nat.dvd_mul_left d n)
  have hb0:(((lim (n*d)).length:Int) == 0)=false:=by
   generalize (lim (n*d)).length=q at hpos
   simp;omega
  have hfin:zmn (.bool neg) (.sl (zam (lim n)) .none) (.sl (zam [1]) .none) (.ptr H.length 0) (H++[.cells [.bool false,.snil,.snil]]) (Out H.length K):=by
   simp[zmn,zas,zaH,zcK]
   have e1:zak (if neg=true then -(n:Int) else n)=[.bool neg,.sl (zam (lim n)) .none,.sl (zam [1]) .none]:=by
    cases neg
    ·simp[zak]
    ·simp[zak];omega
   rw[e1]at hK
   exact Out.one hs (WkV.agg (ds:=[.bool neg,.sl (zam (lim n)) .none,.sl (zam [1]) .none]) ⟨.refl _,.sl _ _,.sl _ _,trivial⟩) rfl (by simp[AV.scV,AV.scA,AV.scB]) hK
  simp[hb0,hld]
  rw[show ([d]:List Nat)=lim d from hld.symm]
  refine zHf (n*d) d hnd hd _ _ ?_
  rw[hg,hld]
  by_cases hd1:d=1
  ·subst hd1
   simp
   simpa using hfin
  ·have hne:((d:Int) != 1)=true:=by simp;omega
   simp[hne]
   rw[show ([d]:List Nat)=lim d from hld.symm]
   refine zpW (n*d) d hnd hd0 hd _ _ ?_
   simp
   refine zpW d d (by rw[hld];simp) hd0 hd _ _ ?_
   rw[Nat.div_self hd0,Nat.mul_div_cancel _ hd0,show lim 1=[1] from ze2 (by omega) (by omega)]
   simp
   exact hfin
def Sm (z:Int):Prop:=z.natAbs<1000000000 ^ 30
theorem Sm.len {z:Int} (h:Sm z):(lim z.natAbs).length≤30:=zbK h
theorem zdK:lim 1=[1]:=ze2 (by omega) (by omega)
theorem zgQ (n:Nat):∀ x∈lim n,x<4294967296:=fun x hx=>by have:=zcb n x hx;omega
@[simp] theorem zEC (z:Int):(zak z).length=3:=rfl
@[simp] theorem zhl (z:Int):(zak z).all AV.known=true:=rfl
theorem zjh (z:Int) (n:Nat):(zak z).all (AV.scA n)=true:=rfl
theorem zdf {H J:zaa} {K:Kt} {z:Int} (hs:HSc H) (hK:K (.agg (zak z)) H):Out H.length K (.agg (zak z)) (H++J):=Out.one hs .rfl' rfl rfl hK
theorem zCu (neg:Bool) (n d:Nat) (hn:n*d<1000000000 ^ 100) (hd0:0<d) (hd:d<1000000000) {z:Int} (hz:(if neg=true then -(n:Int) else n)=z) (H:zaa) (K:Kt) (hK:K (.agg (zak z)) H) :
  ACalls tP zfa [.bool neg,.sl (zam (lim (n*d))) .none,.sl (zam (lim d)) .none] H K:=by
 subst hz
 have h1:=zbK hn
 have h2:n<1000000000 ^ 100:=Nat.lt_of_le_of_lt (Nat.le_mul_of_pos_right n hd0) hn
 have h3:=zbK h2
 exact zQq neg _ _ (zgQ _) (zgQ _) (by omega) (by rw[ze2 (by omega) hd];simp) n (by omega) d hd0 hd (zbC _) (zbC _) H K hK
theorem zt4 (neg:Bool) (n:Nat) (hn:n<1000000000 ^ 100) {z:Int} (hz:(if neg=true then -(n:Int) else n)=z) (H:zaa) (K:Kt) (hK:K (.agg (zak z)) H) :
  ACalls tP zfa [.bool neg,.sl (zam (lim n)) .none,.sl (zam [1]) .none] H K:=by
 have:=zCu neg n 1 (by simpa using hn) (by omega) (by omega) hz H K hK
 rwa [zdK,Nat.mul_one]at this
theorem zCm:(1000000000:Nat) ^ 30≤1000000000 ^ 100:=Nat.pow_le_pow_right (by omega) (by omega)
theorem zDS {a b:Nat} (ha:a<1000000000 ^ 30) (hb:b<1000000000 ^ 30):a*b<1000000000 ^ 100:=by
 have:=Nat.mul_lt_mul'' ha hb
 rw[←Nat.pow_add]at this
 exact Nat.lt_of_lt_of_le this (Nat.pow_le_pow_right (by omega) (by omega))
theorem zOS (n:Nat) (hn:n<9223372036854775808) (H:zaa) (K:Kt) (hK:K (.agg (zak n)) H):ACalls tP zoC [.int .i64 n] H K:=by
 refine ACalls.out (zOR fun hs=>?_)
 have w1:IntKind.u64.wrap (n:Int)=n:=zbz (by omega)
 have h0:¬ ((n:Int)<0):=by omega
 simp[zAh,h0,w1]
 refine zAV n (by omega) _ _ ?_
 simp[zau,zaR,plain,AV.pd]
 refine ACalls.wk (args':=[.bool false,.sl (zam (lim n)) .none,.sl (zam [1]) .none]) (zt4 false n (by omega) (z:=n) (by simp) _ _ ?_) ⟨.rfl',.rfl',.atom (.sl _ _),trivial⟩
 simp[zhl]
 exact zdf hs hK
theorem zAP (z:Int) (hz:Sm z) (H:zaa) (K:Kt) (hK:K (.agg (zak z)) H):ACalls tP ziU [.agg (zak z)] H K:=by
 refine ACalls.out (zQm fun hs=>?_)
 simp[zAO,zak]
 refine zt4 _ _ (Nat.lt_of_lt_of_le hz zCm) (z:=z) (by split <;> simp_all <;> omega) _ _ ?_
 simp
 exact zdf hs hK
theorem zN3 (z:Int) (hz:Sm z) (H:zaa) (K:Kt) (hK:K (.int .i64 z.sign) H):ACalls tP zor [.agg (zak z)] H K:=by
 refine ACalls.out (zN2 fun hs=>?_)
 simp[zzS,zak]
 refine zAP z hz _ _ ?_
 simp[zak]
 by_cases h0:z=0
 ·subst h0
  simp
  exact Out.int (J:=_) rfl (Nat.le_refl _) hs hK
 ·have hp:0<(lim z.natAbs).length:=by rw[zb3 (by omega)];simp
  have hb:(((lim z.natAbs).length:Int) == 0)=false:=by
   generalize (lim z.natAbs).length=q at hp
   simp;omega
  simp[hb]
  by_cases hn:z<0
  ·simp[hn]
   rw[Int.sign_eq_neg_one_of_neg hn]at hK
   exact Out.int (J:=_) rfl (Nat.le_refl _) hs hK
  ·simp[hn]
   rw[Int.sign_eq_one_of_pos (by omega)]at hK
   exact Out.int (J:=_) rfl (Nat.le_refl _) hs hK
theorem zi8:(1:Nat)<1000000000 ^ 30:=by decide
theorem zE5 (a b:Int):(if (decide (a<0) != decide (b<0))=true then -((a.natAbs*b.natAbs:Nat):Int) else ((a.natAbs*b.natAbs:Nat):Int))=a*b:=by
 rw[←Int.natAbs_mul]
 by_cases ha:a<0 <;> by_cases hb:b<0 <;> simp[ha,hb]
 ·have:=Int.mul_pos_of_neg_of_neg ha hb;omega
 ·have:=Int.mul_nonpos_of_nonpos_of_nonneg (Int.le_of_lt ha) (by omega:0≤b);omega
 ·have:=Int.mul_nonpos_of_nonneg_of_nonpos (by omega:0≤a) (Int.le_of_lt hb);omega
 ·have:=Int.mul_nonneg (by omega:0≤a) (by omega:0≤b);omega
theorem Sm.neg {z:Int} (h:Sm z):Sm (-z):=by unfold Sm at h ⊢;rwa [Int.natAbs_neg]
theorem zAN (L:List Nat) (hL:L.length≤1000) (H:zaa) (K:Kt) (hK:K (.bool true) H):ACalls tP ziT [.sl (zam L) .none,.sl (zam L) .none] H K:=by
 refine ACalls.out (zQi fun hs=>?_)
 simp[zAL]
 refine zQg (Inv:=fun q t13 H'=>∃ i:Nat,i≤L.length∧L.length-i=q∧t13=.int .i64 i∧H'=H) L.length ?_ ?_
 ·intro _;exact⟨0,by omega,rfl,rfl,rfl⟩
 ·rintro q t13 H' ⟨i,hi,rfl,rfl,rfl⟩ hsc' hlen hsF Kb hKb
  by_cases hlt:i<L.length
  ·simp[zsy,hlt,wi i (by omega)]
   exact hKb _ _ ⟨L.length-(i+1),by omega,Back.here (by simp) hs (by simp[zmm,ux,AV.sc,AV.scA,AV.scB,AV.scV]) ⟨_,rfl,i+1,by omega,rfl,rfl,rfl⟩⟩
  ·simp[zsy,hlt]
   exact Out.bool (J:=[]) (by simp) (Nat.le_refl _) hs hK
theorem zMY (z:Int) (hz:Sm z) (H:zaa) (K:Kt) (hK:K (.bool true) H):ACalls tP zol [.agg (zak z),.agg (zak z)] H K:=by
 refine ACalls.out (zMX fun hs=>?_)
 have:=hz.len
 simp[zzu,zak,Nat.add_assoc]
 refine zAN _ (by omega) _ _ ?_
 simp[Nat.add_assoc]
 refine zAN _ (by simp) _ _ ?_
 exact Out.bool rfl (Nat.le_refl _) hs hK
theorem zdO {n:Nat} (h:n<1000000000 ^ 30):Sm (n:Int):=by unfold Sm;rw[Int.natAbs_natCast];exact h
@[simp] theorem zWc (z:Int):List.take 3 (zak z)=zak z:=rfl
@[simp] theorem zWb (z:Int):List.drop 3 (zak z)=[]:=rfl
@[simp] theorem zeC (z:Int):(∀ x∈zak z,x.known=true)=True:=by simp[zak,AV.known]
structure AtOk (data:List Dat) (i:IT) (t v:VT):Prop where
 tn:t.nodes≤1000
 tv:zaZ data 0 t=true
 rd:0≤rdV data i t
 hv:zaP data v t=true
 vn:v.nodes≤1000
 inn:i.nodes≤900
theorem AtOk.le {data:List Dat} {i:IT} {t v:VT} (h8:∀ D∈data,D.cons.length≤8) (h:AtOk data i t v):atV data i t v≤1000 ^ 6:=by
 have h1:=ztU (N:=1000) (by omega) i t v h.vn h.rd
 have h2:=zo6 (h8:=h8) i t
 exact Nat.le_trans h1 (Nat.pow_le_pow_right (by omega) (by omega))
def zrC:List AV:=[.bool false,.snil,.snil]
def rz (l:List Nat):List AV:=(l.map fun (z:Nat)=>zak (z:Int)).flatten
def zz (m:Nat):List AV:=(List.replicate m zrC).flatten
@[simp] theorem zWg (l:List Nat):(rz l).length=l.length*3:=by
 induction l with
 | nil=>rfl
 | cons x l ih=>simp only[rz,List.map_cons,List.flatten_cons,List.length_append,zEC,List.length_cons]at ih ⊢;omega
@[simp] theorem zWH (m:Nat):(zz m).length=m*3:=by
 induction m with
 | zero=>rfl
 | succ m ih=>simp only[zz,List.replicate_succ,List.flatten_cons,List.length_append]at ih ⊢;rw[ih];simp[zrC];omega
theorem zvP {data:List Dat} {k n:Int} {ks:List VT} {c:Int} {l:List VT} (hk:zbG data) (hf:zbe data (.mk k n ks) c=some l) :
  ∃ bs,(zdw data n.toNat).getD c.toNat []=bs∧l.length=bs.length∧l.length≤8∧za6 data (.mk k n ks) c=some (pick l bs)∧(∀ x∈l,x.nodes≤200)∧k=5 ∧
   (∀ H K,K (.sl (zbI bs) .none) H→ACalls tP ze7 [.sl (data.map Dat.cs) .none,.int .i64 n,.int .i64 c] H K) ∧
   (∀ H K,K (.sl (zbI bs) .none) H→ACalls tP zfV [.sl (data.map Dat.cs) .none,.int .i64 n,.int .i64 c] H K) ∧
   (∀ j,bs.getD j false=true→l.getD j tz=.mk 5 n ks)∧0≤c∧∃ (hn:n.toNat<data.length) (hc:c.toNat<(data[n.toNat]).cons.length),l.length=((data[n.toNat]).cons[c.toNat]).args.length:=by
 obtain⟨k5,n0,c0,hn,hc,hv,rfl,h200⟩:=zgF hf
 obtain⟨f1,f2,f3⟩:=zeZ hk
 have hd:=List.getElem_mem hn
 have hcm:=List.getElem_mem hc
 obtain⟨g1,g2⟩:=f2 _ hd _ hcm
 have g3:=f3 _ hd
 have h8:=((hk.2 _ hd).2.2 _ hcm).2.1
 refine⟨zcm n.toNat data[n.toNat] (data[n.toNat]).cons[c.toNat],by simp[zdw,hn,hc,List.getD_eq_getElem?_getD],by simp[zcm],by simpa using h8,?_,h200,k5,fun H K hK=>?_,fun H K hK=>?_,fun j hj=>?_,c0,hn,hc,by simp⟩
 ·simp[za6,hf,zdw,hn,hc,List.getD_eq_getElem?_getD,VT.num]
 ·have:=zrb data n.toNat c.toNat hn hc f1 g3 (by omega) (fun x hx=>by have:=g2 x hx;omega) H K (by simpa[zbI,zcm,Function.comp_def]using hK)
  rwa [Int.toNat_of_nonneg n0,Int.toNat_of_nonneg c0]at this
 ·have:=zzA data n.toNat c.toNat hn hc f1 g3 (by omega) (fun x hx=>by have:=g2 x hx;omega) H K hK
  rwa [Int.toNat_of_nonneg n0,Int.toNat_of_nonneg c0]at this
 ·have hjl:j<((data[n.toNat]).cons[c.toNat]).args.length:=by
   refine Nat.lt_of_not_le fun hle=>?_
   rw[List.getD_eq_getElem?_getD,List.getElem?_eq_none (by simpa[zcm]using hle)]at hj
   simp at hj
  simp only[List.getD_eq_getElem?_getD,zcm,List.getElem?_map,List.getElem?_eq_getElem hjl,Option.map_some,Option.getD_some]at hj ⊢
  rw[zE2 hj hv,Int.toNat_of_nonneg n0]
theorem zGr {data:List Dat} {t:VT} (ht:zaZ data 0 t=true):zaY data 0 t=true:=by
 rw[zaZ,Bool.and_eq_true]at ht;exact ht.2
theorem zpk:∀ l:List IT,l=(l.map fun x=>[x]).flatten
 | []=>rfl
 | x::l=>by rw[List.map_cons,List.flatten_cons,←zpk l];rfl
theorem zED {data:List Dat} (h8:∀ D∈data,D.cons.length≤8) {t:VT} {ks:List IT} (h:0≤rdE data ks t 0) {j:Nat} (hj:j<ks.length) {c:Int} {eks:List IT} (he:ks[j]=.mk c eks) :
  ∃ ps,za6 data t c=some ps∧ps.length=eks.length∧0≤rdA data eks ps 0∧rdA data eks ps 0≤6:=by
 rw[zpk ks]at h
 have h1:=(zjk h8 t (ks.map fun x=>[x]) 0 (by omega) (by omega) h).1 [ks[j]] (List.mem_map.2 ⟨ks[j],List.getElem_mem hj,rfl⟩)
 rw[he,zec]at h1
 split at h1
 ·omega
 ·split at h1
  ·omega
  ·rename_i ps hp
   split at h1
   ·rename_i hl
    split at h1
    ·omega
    ·rename_i hc
     exact⟨ps,hp,hl,by omega,by omega⟩
   ·omega
theorem zd8 {l:List IT} {i:Nat} (h:i<l.length):l[i].nodes≤IT.nodesL l:=by
 have:=IT.kid_lt (n:=0) h
 simp only[IT.nodes]at this
 omega
theorem zwN (f:IT→Nat) (h:IT→IT) (c:Nat):∀ l:List (IT × Nat),zaJ f (l.map fun w=>(h w.1,c*w.2))=c*zaJ f (l.map fun w=>(h w.1,w.2))
 | []=>by simp
 | w::l=>by
  rw[List.map_cons,List.map_cons,zcQ,zcQ,zwN f h c l,Nat.mul_add,Nat.mul_assoc]
end Go.Proofs.YtdmamdnkcefmmaaGreatDoor

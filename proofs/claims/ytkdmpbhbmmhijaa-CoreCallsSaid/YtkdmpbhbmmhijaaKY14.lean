import Derived.Test.YtkdmpbhbmmhijaaKNum
import Derived.Test.YtkdmpbhbmmhijaaProg
import Derived.KernelRfl
import Derived.Test.YtkdmpbhbmmhijaaKGT
import Derived.Test.YtkdmpbhbmmhijaaKTW6
set_option linter.unusedSimpArgs false
set_option linter.unusedVariables false
namespace Go.Proofs.Ytkdmpbhbmmhijaa
open Go Go.Abs
set_option maxRecDepth 100000
def za1 : Nat → List Bool
 | 4=>rl false [1,1,50,3,294]
 | 14=>rl false [1,1,3,4,68,3,269]
 | 200020=>rl false [0,1]
 | 26=>rl false [1,1,3,3,167,3,171]
 | 29=>rl false [1,1,3,3,3,2,162,3,5,3,163]
 | 37=>rl false [1,1,3,3,4,1,162,3,30,3,138]
 | 43=>rl false [1,1,3,3,4,1,162,3,42,3,126]
 | 54=>rl false [1,1,4,2,250,3,88]
 | 60=>rl false [1,1,5,1,259,3,79]
 | 66=>rl false [1,1,274,3,70]
 | 72=>rl false [1,1,308,2,37]
 | 200074=>rl false [0,1]
 | 78=>rl false [1,1,322,3,22]
 | 100020=>rl false [1,1,3,4,1,1,66,3,269]
 | 100023=>rl false [1,1,3,4,340]
 | 100011=>rl false [1,1,3,2,342]
 | 100003=>rl false [1,1,347]
 | _=>[]
noncomputable def zbY : Code:=Try.f14.body.getD .skip
noncomputable def zdE : List ResultVar:=Try.f14.results.toList
def zj2 (t1 t52 t53 t54 : AV) : List AV:=ux 1 (t1 :: ux 50 (t52 :: t53 :: t54 :: ux 294 []))
def zGV : List Bool:=za1 4
noncomputable def zGp : Code:=zan [1,1,0,1,0,0] zbY
def zGg (K : Kt) : AExit → List AV → zaa → Prop:=zao tP za1 [1,1,0,1,0] zbY (zau tP zdE K)
def zvS (t1 t52 t53 t54 : AV) (H : zaa) (K : Kt) : Prop:=ALoop tP zGp (zGg K) (zj2 t1 t52 t53 t54) H
def zjY (t1 t5 t6 t7 t8 t77 t78 t79 : AV) : List AV:=ux 1 (t1 :: ux 3 (t5 :: t6 :: t7 :: t8 :: ux 68 (t77 :: t78 :: t79 :: ux 269 [])))
def zvU : List Bool:=za1 14
noncomputable def zpf : Code:=zan [1,1,1,1,1,1,1,0,1,0,0] zbY
def zvG (K : Kt) : AExit → List AV → zaa → Prop:=zao tP za1 [1,1,1,1,1,1,1,0,1,0] zbY (zau tP zdE K)
def zka (t1 t5 t6 t7 t8 t77 t78 t79 : AV) (H : zaa) (K : Kt) : Prop:=ALoop tP zpf (zvG K) (zjY t1 t5 t6 t7 t8 t77 t78 t79) H
noncomputable def zGD : Code:=zan [1,1,0,0,1,1,1] zpf
def zGC (K : Kt) (Kb14 : Lt) : AExit → List AV → zaa → Prop:=zao tP za1 [1,1,0,0,1,1,1] zpf (zbj zvU Kb14 (zvG K))
def zj8 (t1 t5 t6 t7 t8 t10 t77 t78 t79 : AV) (H : zaa) (K : Kt) (Kb14 : Lt) : Prop:=AWp tP zGD (zGC K Kb14) (ux 1 (t1 :: ux 3 (t5 :: t6 :: t7 :: t8 :: ux 1 (t10 :: ux 66 (t77 :: t78 :: t79 :: ux 269 []))))) H
def zvM (t1 t5 t6 t7 t8 t10 t77 t78 t79 : AV) (H : zaa) (K : Kt) (Kb14 : Lt) : Prop:=
 zac H (fun K'=>K' t5 H) fun t138=>
 zac H (fun K'=>zaf 1 t10 (K' · H)) fun t139=>
 zac H (fun K'=>zak false 1 t139 H (K' · H)) fun t140=>
 zbB .w false H (fun K'=>ACalls tP zfb [t138,t140] H K') fun t141 H=>
 zac H (fun K'=>aUn .not t141 (K' · H)) fun t142=>
 zac H (fun K'=>K' t142 H) fun t143=>
 zab t143 false H (fun K'=>zac H (fun K''=>K'' t5 H) (K' · H)) fun t144 H=>
 zab t143 false H (fun K'=>zac H (fun K''=>zaf 2 t10 (K'' · H)) (K' · H)) fun t145 H=>
 zab t143 false H (fun K'=>zac H (fun K''=>zak false 1 t145 H (K'' · H)) (K' · H)) fun t146 H=>
 zab t143 false H (fun K'=>zbB .w false H (fun K''=>ACalls tP zfb [t144,t146] H K'') K') fun t147 H=>
 zab t143 false H (fun K'=>zac H (fun K''=>aUn .not t147 (K'' · H)) (K' · H)) fun t148 H=>
 zac H (fun K'=>zah t143 (.bool true) t148 (K' · H)) fun t149=>
 zac H (fun K'=>K' t149 H) fun t150=>
 zab t150 false H (fun K'=>zac H (fun K''=>K'' t6 H) (K' · H)) fun t151 H=>
 zab t150 false H (fun K'=>zac H (fun K''=>zaf 6 t10 (K'' · H)) (K' · H)) fun t152 H=>
 zab t150 false H (fun K'=>zac H (fun K''=>zak false 1 t152 H (K'' · H)) (K' · H)) fun t153 H=>
 zab t150 false H (fun K'=>zac H (fun K''=>zav 1 [(.int .i64 0)] 1 [(0,t153)] (K'' · H)) (K' · H)) fun t154 H=>
 zab t150 false H (fun K'=>zbB .w false H (fun K''=>ACalls tP zfb [t151,t154] H K'') K') fun t155 H=>
 zab t150 false H (fun K'=>zac H (fun K''=>aUn .not t155 (K'' · H)) (K' · H)) fun t156 H=>
 zac H (fun K'=>zah t150 (.bool true) t156 (K' · H)) fun t157=>
 zac H (fun K'=>K' t157 H) fun t158=>
 zab t158 false H (fun K'=>zac H (fun K''=>zaf 3 t1 (K'' · H)) (K' · H)) fun t159 H=>
 zab t158 false H (fun K'=>zac H (fun K''=>zak false 1 t159 H (K'' · H)) (K' · H)) fun t160 H=>
 zab t158 false H (fun K'=>zac H (fun K''=>zaf 6 t10 (K'' · H)) (K' · H)) fun t161 H=>
 zab t158 false H (fun K'=>zac H (fun K''=>zak false 1 t161 H (K'' · H)) (K' · H)) fun t162 H=>
 zab t158 false H (fun K'=>zac H (fun K''=>zai 8 t160 t162 (K'' · H)) (K' · H)) fun t163 H=>
 zab t158 false H (fun K'=>zac H (fun K''=>zaf 5 t163 (K'' · H)) (K' · H)) fun t164 H=>
 zab t158 false H (fun K'=>zac H (fun K''=>zak true 3 t164 H (K'' · H)) (K' · H)) fun t165 H=>
 zab t158 false H (fun K'=>zac H (fun K''=>zaf 3 t10 (K'' · H)) (K' · H)) fun t166 H=>
 zab t158 false H (fun K'=>zac H (fun K''=>zak true 3 t166 H (K'' · H)) (K' · H)) fun t167 H=>
 zab t158 false H (fun K'=>zbB .w false H (fun K''=>ACalls tP zcE [t165,t167] H K'') K') fun t168 H=>
 zab t158 false H (fun K'=>zac H (fun K''=>aUn .not t168 (K'' · H)) (K' · H)) fun t169 H=>
 zac H (fun K'=>zah t158 (.bool true) t169 (K' · H)) fun t170=>
 zag t170
 (K (.bool false) H)
 (zad .add false t79 (.int .i64 1) fun t171=>
 Kb14 (zjY t1 t5 t6 t7 t8 t77 t78 t171) H)
def zjZ (t1 t5 t6 t7 t175 t176 t177 : AV) : List AV:=ux 1 (t1 :: ux 3 (t5 :: t6 :: t7 :: ux 167 (t175 :: t176 :: t177 :: ux 171 [])))
def zkb : List Bool:=za1 26
noncomputable def zfo : Code:=zan [1,1,1,1,1,1,1,1,1,0,1,0,0] zbY
def zjU (K : Kt) : AExit → List AV → zaa → Prop:=zao tP za1 [1,1,1,1,1,1,1,1,1,0,1,0] zbY (zau tP zdE K)
def zpg (t1 t5 t6 t7 t175 t176 t177 : AV) (H : zaa) (K : Kt) : Prop:=ALoop tP zfo (zjU K) (zjZ t1 t5 t6 t7 t175 t176 t177) H
def zj0 (t1 t5 t6 t7 t11 t12 t175 t176 t177 t183 t184 t185 : AV) : List AV:=ux 1 (t1 :: ux 3 (t5 :: t6 :: t7 :: ux 3 (t11 :: t12 :: ux 162 (t175 :: t176 :: t177 :: ux 5 (t183 :: t184 :: t185 :: ux 163 [])))))
def zGT : List Bool:=za1 29
noncomputable def zGn : Code:=zan [1,1,0,0,1,0,1,0,0] zfo
def zGe (K : Kt) (Kb26 : Lt) : AExit → List AV → zaa → Prop:=zao tP za1 [1,1,0,0,1,0,1,0] zfo (zbj zkb Kb26 (zjU K))
def zvQ (t1 t5 t6 t7 t11 t12 t175 t176 t177 t183 t184 t185 : AV) (H : zaa) (K : Kt) (Kb26 : Lt) : Prop:=ALoop tP zGn (zGe K Kb26) (zj0 t1 t5 t6 t7 t11 t12 t175 t176 t177 t183 t184 t185) H
def zj1 (t1 t5 t6 t7 t12 t175 t176 t177 t208 t209 t210 : AV) : List AV:=ux 1 (t1 :: ux 3 (t5 :: t6 :: t7 :: ux 4 (t12 :: ux 162 (t175 :: t176 :: t177 :: ux 30 (t208 :: t209 :: t210 :: ux 138 [])))))
def zGU : List Bool:=za1 37
noncomputable def zGo : Code:=zan [1,1,0,0,1,1,1,0,1,0,0] zfo
def zGf (K : Kt) (Kb26 : Lt) : AExit → List AV → zaa → Prop:=zao tP za1 [1,1,0,0,1,1,1,0,1,0] zfo (zbj zkb Kb26 (zjU K))
def zvR (t1 t5 t6 t7 t12 t175 t176 t177 t208 t209 t210 : AV) (H : zaa) (K : Kt) (Kb26 : Lt) : Prop:=ALoop tP zGo (zGf K Kb26) (zj1 t1 t5 t6 t7 t12 t175 t176 t177 t208 t209 t210) H
def zj3 (t1 t5 t6 t7 t12 t175 t176 t177 t220 t221 t222 : AV) : List AV:=ux 1 (t1 :: ux 3 (t5 :: t6 :: t7 :: ux 4 (t12 :: ux 162 (t175 :: t176 :: t177 :: ux 42 (t220 :: t221 :: t222 :: ux 126 [])))))
def zGW : List Bool:=za1 43
noncomputable def zGq : Code:=zan [1,1,0,0,1,1,1,1,0,1,0,0] zfo
def zGh (K : Kt) (Kb26 : Lt) : AExit → List AV → zaa → Prop:=zao tP za1 [1,1,0,0,1,1,1,1,0,1,0] zfo (zbj zkb Kb26 (zjU K))
def zvT (t1 t5 t6 t7 t12 t175 t176 t177 t220 t221 t222 : AV) (H : zaa) (K : Kt) (Kb26 : Lt) : Prop:=ALoop tP zGq (zGh K Kb26) (zj3 t1 t5 t6 t7 t12 t175 t176 t177 t220 t221 t222) H
def zvP (t1 t5 t6 t7 t175 t176 t177 : AV) (H : zaa) (K : Kt) (Kb26 : Lt) : Prop:=
 zad .add false t177 (.int .i64 1) fun t257=>
 Kb26 (zjZ t1 t5 t6 t7 t175 t176 t257) H
def zj9 (t1 t5 t6 t7 t175 t176 t177 : AV) (H : zaa) (K : Kt) (Kb26 : Lt) : Prop:=
 zvP t1 t5 t6 t7 t175 t176 t177 H K Kb26
def zeP (t1 t5 t6 t7 t12 t175 t176 t177 t220 t221 t222 : AV) (H : zaa) (K : Kt) (Kb26 : Lt) (Kb43 : Lt) : Prop:=
 zad .lss false t222 t221 fun t223=>
 zag t223
 (zai 1 t220 t222 fun t224=>
 zae false 1 t224 H fun t225=>
 zad .lss false t225 (.int .i64 0) fun t227=>
 zab t227 false H (fun K'=>K' t225 H) fun t229 H=>
 zab t227 false H (fun K'=>zaf 2 t1 (K' · H)) fun t230 H=>
 zab t227 false H (fun K'=>zae false 1 t230 H (K' · H)) fun t231 H=>
 zab t227 false H (fun K'=>zaj 1 t231 (K' · H)) fun t232 H=>
 zab t227 false H (fun K'=>zad .geq false t229 t232 (K' · H)) fun t233 H=>
 zah t227 (.bool true) t233 fun t234=>
 zag t234
 (K (.bool false) H)
 (zad .add false t222 (.int .i64 1) fun t235=>
 Kb43 (zj3 t1 t5 t6 t7 t12 t175 t176 t177 t220 t221 t235) H))
 (zaf 0 t12 fun t236=>
 zae false 1 t236 H fun t237=>
 zad .eql false t237 (.int .i64 11) fun t238=>
 zag t238
 (zaf 1 t12 fun t239=>
 zae false 1 t239 H fun t240=>
 zad .lss false t240 (.int .i64 0) fun t241=>
 zab t241 false H (fun K'=>zaf 1 t12 (K' · H)) fun t243 H=>
 zab t241 false H (fun K'=>zae false 1 t243 H (K' · H)) fun t244 H=>
 zab t241 false H (fun K'=>zaf 1 t1 (K' · H)) fun t245 H=>
 zab t241 false H (fun K'=>zae false 1 t245 H (K' · H)) fun t246 H=>
 zab t241 false H (fun K'=>zaj 1 t246 (K' · H)) fun t247 H=>
 zab t241 false H (fun K'=>zad .geq false t244 t247 (K' · H)) fun t248 H=>
 zah t241 (.bool true) t248 fun t249=>
 zag t249
 (K (.bool false) H)
 (zaf 1 t12 fun t251=>
 zae false 1 t251 H fun t252=>
 zai 1 t7 t252 fun t253=>
 zae false 1 t253 H fun t254=>
 zad .add false t254 (.int .i64 1) fun t255=>
 zai 1 t7 t252 fun t256=>
 zar 1 t256 t255 H fun H=>
 zj9 t1 t5 t6 t7 t175 t176 t177 H K Kb26))
 (zj9 t1 t5 t6 t7 t175 t176 t177 H K Kb26))
def zpb (t1 t5 t6 t7 t12 t175 t176 t177 t208 t209 t210 : AV) (H : zaa) (K : Kt) (Kb26 : Lt) (Kb37 : Lt) : Prop:=
 zad .lss false t210 t209 fun t211=>
 zag t211
 (zai 1 t208 t210 fun t212=>
 zae false 1 t212 H fun t213=>
 ACalls tP zfb [t5,t213] H fun t216 H=>
 aUn .not t216 fun t217=>
 zag t217
 (K (.bool false) H)
 (zad .add false t210 (.int .i64 1) fun t218=>
 Kb37 (zj1 t1 t5 t6 t7 t12 t175 t176 t177 t208 t209 t218) H))
 (zaf 2 t12 fun t219=>
 zae false 1 t219 H fun t220=>
 zaj 1 t220 fun t221=>
 zvT t1 t5 t6 t7 t12 t175 t176 t177 t220 t221 (.int .i64 0) H K Kb26)
def zjV (t1 t5 t6 t7 t11 t12 t175 t176 t177 t183 t184 t185 : AV) (H : zaa) (K : Kt) (Kb26 : Lt) (Kb29 : Lt) : Prop:=
 zad .lss false t185 t184 fun t186=>
 zag t186
 (zai 1 t183 t185 fun t187=>
 zae false 1 t187 H fun t188=>
 zad .leq false t188 t11 fun t191=>
 zag t191
 (K (.bool false) H)
 (zad .add false t185 (.int .i64 1) fun t192=>
 Kb29 (zj0 t1 t5 t6 t7 t11 t12 t175 t176 t177 t183 t184 t192) H))
 (zaf 4 t12 fun t194=>
 zae false 1 t194 H fun t195=>
 ACalls tP zfb [t6,t195] H fun t196 H=>
 aUn .not t196 fun t197=>
 zab t197 false H (fun K'=>zaf 3 t12 (K' · H)) fun t199 H=>
 zab t197 false H (fun K'=>zae false 1 t199 H (K' · H)) fun t200 H=>
 zab t197 false H (fun K'=>zaj 1 t200 (K' · H)) fun t201 H=>
 zab t197 false H (fun K'=>zaf 4 t12 (K' · H)) fun t202 H=>
 zab t197 false H (fun K'=>zae false 1 t202 H (K' · H)) fun t203 H=>
 zab t197 false H (fun K'=>zaj 1 t203 (K' · H)) fun t204 H=>
 zab t197 false H (fun K'=>zad .neq false t201 t204 (K' · H)) fun t205 H=>
 zah t197 (.bool true) t205 fun t206=>
 zag t206
 (K (.bool false) H)
 (zaf 3 t12 fun t207=>
 zae false 1 t207 H fun t208=>
 zaj 1 t208 fun t209=>
 zvR t1 t5 t6 t7 t12 t175 t176 t177 t208 t209 (.int .i64 0) H K Kb26))
def zj4 (t1 t6 t7 t258 t259 t260 : AV) : List AV:=ux 1 (t1 :: ux 4 (t6 :: t7 :: ux 250 (t258 :: t259 :: t260 :: ux 88 [])))
def zGX : List Bool:=za1 54
noncomputable def zGr : Code:=zan [1,1,1,1,1,1,1,1,1,1,0,1,0,0] zbY
def zGi (K : Kt) : AExit → List AV → zaa → Prop:=zao tP za1 [1,1,1,1,1,1,1,1,1,1,0,1,0] zbY (zau tP zdE K)
def zph (t1 t6 t7 t258 t259 t260 : AV) (H : zaa) (K : Kt) : Prop:=ALoop tP zGr (zGi K) (zj4 t1 t6 t7 t258 t259 t260) H
def zj5 (t1 t7 t267 t268 t269 : AV) : List AV:=ux 1 (t1 :: ux 5 (t7 :: ux 259 (t267 :: t268 :: t269 :: ux 79 [])))
def zGY : List Bool:=za1 60
noncomputable def zGs : Code:=zan [1,1,1,1,1,1,1,1,1,1,1,0,1,0,0] zbY
def zGj (K : Kt) : AExit → List AV → zaa → Prop:=zao tP za1 [1,1,1,1,1,1,1,1,1,1,1,0,1,0] zbY (zau tP zdE K)
def zpi (t1 t7 t267 t268 t269 : AV) (H : zaa) (K : Kt) : Prop:=ALoop tP zGs (zGj K) (zj5 t1 t7 t267 t268 t269) H
def zho (t1 t276 t277 t278 : AV) : List AV:=ux 1 (t1 :: ux 274 (t276 :: t277 :: t278 :: ux 70 []))
def zGZ : List Bool:=za1 66
noncomputable def zGt : Code:=zan [1,1,1,1,1,1,1,1,1,1,1,1,0,1,0,0] zbY
def zGk (K : Kt) : AExit → List AV → zaa → Prop:=zao tP za1 [1,1,1,1,1,1,1,1,1,1,1,1,0,1,0] zbY (zau tP zdE K)
def zpj (t1 t276 t277 t278 : AV) (H : zaa) (K : Kt) : Prop:=ALoop tP zGt (zGk K) (zho t1 t276 t277 t278) H
def zj6 (t1 t310 t311 : AV) : List AV:=ux 1 (t1 :: ux 308 (t310 :: t311 :: ux 37 []))
def zG0 : List Bool:=za1 72
noncomputable def zGu : Code:=zan [1,1,1,1,1,1,1,1,1,1,1,1,1,0,1,0,0] zbY
def zGl (K : Kt) : AExit → List AV → zaa → Prop:=zao tP za1 [1,1,1,1,1,1,1,1,1,1,1,1,1,0,1,0] zbY (zau tP zdE K)
def zpk (t1 t310 t311 : AV) (H : zaa) (K : Kt) : Prop:=ALoop tP zGu (zGl K) (zj6 t1 t310 t311) H
def zj7 (t1 t324 t325 t326 : AV) : List AV:=ux 1 (t1 :: ux 322 (t324 :: t325 :: t326 :: ux 22 []))
def zG1 : List Bool:=za1 78
noncomputable def zGv : Code:=zan [1,1,1,1,1,1,1,1,1,1,1,1,1,1,0,1,0,0] zbY
def zGm (K : Kt) : AExit → List AV → zaa → Prop:=zao tP za1 [1,1,1,1,1,1,1,1,1,1,1,1,1,1,0,1,0] zbY (zau tP zdE K)
def zpl (t1 t324 t325 t326 : AV) (H : zaa) (K : Kt) : Prop:=ALoop tP zGv (zGm K) (zj7 t1 t324 t325 t326) H
def zpe (t1 t324 t325 t326 : AV) (H : zaa) (K : Kt) (Kb78 : Lt) : Prop:=
 zad .lss false t326 t325 fun t327=>
 zag t327
 (zai 7 t324 t326 fun t328=>
 zae true 7 t328 H fun t329=>
 zaA [(.str []),.snil,.snil,(.int .i64 0),(.int .i64 0),.snil,(.int .i64 0)] H fun t27 H=>
 zar 7 t27 t329 H fun H=>
 zaf 2 t1 fun t330=>
 zae false 1 t330 H fun t331=>
 zaj 1 t331 fun t332=>
 zaN 1 [(.bool false)] t332 t332 H fun t333 H=>
 zaf 1 t27 fun t335=>
 zae false 1 t335 H fun t336=>
 ACalls tP zfY [t333,t336,(.bool true)] H fun t337 H=>
 zaf 2 t27 fun t339=>
 zae false 1 t339 H fun t340=>
 ACalls tP zfY [t333,t340,(.bool true)] H fun t341 H=>
 zae true 4 t1 H fun t342=>
 zaf 6 t27 fun t343=>
 zae false 1 t343 H fun t344=>
 ACalls tP ziK [t342,t344,t333] H fun t346 H=>
 aUn .not t346 fun t347=>
 zag t347
 (K (.bool false) H)
 (zad .add false t326 (.int .i64 1) fun t348=>
 Kb78 (zj7 t1 t324 t325 t348) H))
 (K (.bool true) H)
def zpd (t1 t310 t311 : AV) (H : zaa) (K : Kt) (Kb72 : Lt) : Prop:=
 zad .lss false t311 t310 fun t312=>
 zag t312
 (zac H (fun K'=>zak true 4 t1 H (K' · H)) fun t314=>
 zac H (fun K'=>zaf 3 t1 (K' · H)) fun t315=>
 zac H (fun K'=>zak false 1 t315 H (K' · H)) fun t316=>
 zac H (fun K'=>K' t311 H) fun t317=>
 zac H (fun K'=>zai 8 t316 t317 (K' · H)) fun t318=>
 zac H (fun K'=>zak true 8 t318 H (K' · H)) fun t319=>
 zbB .w false H (fun K'=>ACalls tP znA [t314,t319] H K') fun t320 H=>
 zac H (fun K'=>aUn .not t320 (K' · H)) fun t321=>
 zag t321
 (K (.bool false) H)
 (zad .add false t311 (.int .i64 1) fun t322=>
 Kb72 (zj6 t1 t310 t322) H))
 (zaf 1 t1 fun t323=>
 zae false 1 t323 H fun t324=>
 zaj 1 t324 fun t325=>
 zpl t1 t324 t325 (.int .i64 0) H K)
def zgg (t1 t276 t277 t278 : AV) (H : zaa) (K : Kt) (Kb66 : Lt) : Prop:=
 zad .lss false t278 t277 fun t279=>
 zag t279
 (zai 1 t276 t278 fun t281=>
 zae false 1 t281 H fun t282=>
 zaf 1 t1 fun t283=>
 zae false 1 t283 H fun t284=>
 zai 7 t284 t278 fun t286=>
 zaf 0 t286 fun t287=>
 zae false 1 t287 H fun t288=>
 zad .eql false t288 (.str []) fun t289=>
 zab t289 true H (fun K'=>K' t282 H) fun t291 H=>
 zab t289 true H (fun K'=>zad .neq false t291 (.int .i64 1) (K' · H)) fun t292 H=>
 zah t289 t292 (.bool false) fun t293=>
 zab t293 false H (fun K'=>zaf 1 t1 (K' · H)) fun t295 H=>
 zab t293 false H (fun K'=>zae false 1 t295 H (K' · H)) fun t296 H=>
 zab t293 false H (fun K'=>K' t278 H) fun t297 H=>
 zab t293 false H (fun K'=>zai 7 t296 t297 (K' · H)) fun t298 H=>
 zab t293 false H (fun K'=>zaf 0 t298 (K' · H)) fun t299 H=>
 zab t293 false H (fun K'=>zae false 1 t299 H (K' · H)) fun t300 H=>
 zab t293 false H (fun K'=>zad .neq false t300 (.str []) (K' · H)) fun t301 H=>
 zab t293 false H (fun K'=>K' t301 H) fun t302 H=>
 zab t302 true H (fun K'=>K' t282 H) fun t303 H=>
 zab t302 true H (fun K'=>zad .neq false t303 (.int .i64 0) (K' · H)) fun t304 H=>
 zab t293 false H (fun K'=>zah t302 t304 (.bool false) (K' · H)) fun t305 H=>
 zah t293 (.bool true) t305 fun t306=>
 zag t306
 (K (.bool false) H)
 (zad .add false t278 (.int .i64 1) fun t307=>
 Kb66 (zho t1 t276 t277 t307) H))
 (zaf 3 t1 fun t308=>
 zae false 1 t308 H fun t309=>
 zaj 1 t309 fun t310=>
 zpk t1 t310 (.int .i64 0) H K)
def zjX (t1 t7 t267 t268 t269 : AV) (H : zaa) (K : Kt) (Kb60 : Lt) : Prop:=
 zad .lss false t269 t268 fun t270=>
 zag t270
 (zai 1 t267 t269 fun t271=>
 zae false 1 t271 H fun t272=>
 zad .neq false t272 (.int .i64 1) fun t274=>
 zag t274
 (K (.bool false) H)
 (zad .add false t269 (.int .i64 1) fun t275=>
 Kb60 (zj5 t1 t7 t267 t268 t275) H))
 (zaj 1 t7 fun t277=>
 zpj t1 t7 t277 (.int .i64 0) H K)
def zjW (t1 t6 t7 t258 t259 t260 : AV) (H : zaa) (K : Kt) (Kb54 : Lt) : Prop:=
 zad .lss false t260 t259 fun t261=>
 zag t261
 (zai 1 t258 t260 fun t262=>
 zae false 1 t262 H fun t263=>
 zad .neq false t263 (.int .i64 1) fun t265=>
 zag t265
 (K (.bool false) H)
 (zad .add false t260 (.int .i64 1) fun t266=>
 Kb54 (zj4 t1 t6 t7 t258 t259 t266) H))
 (zaj 1 t6 fun t268=>
 zpi t1 t7 t6 t268 (.int .i64 0) H K)
def zpa (t1 t5 t6 t7 t175 t176 t177 : AV) (H : zaa) (K : Kt) (Kb26 : Lt) : Prop:=
 zad .lss false t177 t176 fun t178=>
 zag t178
 (zai 8 t175 t177 fun t180=>
 zae true 8 t180 H fun t181=>
 zaA [(.int .i64 0),(.int .i64 0),.snil,.snil,.snil,(.int .i64 0),(.int .i64 0),.snil] H fun t12 H=>
 zar 8 t12 t181 H fun H=>
 zaf 4 t12 fun t182=>
 zae false 1 t182 H fun t183=>
 zaj 1 t183 fun t184=>
 zvQ t1 t5 t6 t7 t177 t12 t175 t176 t177 t183 t184 (.int .i64 0) H K Kb26)
 (zaj 1 t5 fun t259=>
 zph t1 t6 t7 t5 t259 (.int .i64 0) H K)
noncomputable def zGG : Code:=zan [1,1,1,1,1,1,1,1] zbY
def zGF (K : Kt) : AExit → List AV → zaa → Prop:=zao tP za1 [1,1,1,1,1,1,1,1] zbY (zau tP zdE K)
def zvN (t1 t5 t6 t7 t8 : AV) (H : zaa) (K : Kt) : Prop:=AWp tP zGG (zGF K) (ux 1 (t1 :: ux 3 (t5 :: t6 :: t7 :: t8 :: ux 340 []))) H
def zvO (t1 t5 t6 t7 t8 : AV) (H : zaa) (K : Kt) : Prop:=
 ACalls tP zfX [t8] H fun t173 H=>
 zag t173
 (K (.bool false) H)
 (zaf 3 t1 fun t174=>
 zae false 1 t174 H fun t175=>
 zaj 1 t175 fun t176=>
 zpg t1 t5 t6 t7 t175 t176 (.int .i64 0) H K)
def zdW (t1 t5 t6 t7 t8 t77 t78 t79 : AV) (H : zaa) (K : Kt) (Kb14 : Lt) : Prop:=
 zad .lss false t79 t78 fun t80=>
 zag t80
 (zai 7 t77 t79 fun t82=>
 zae true 7 t82 H fun t83=>
 zaA [(.str []),.snil,.snil,(.int .i64 0),(.int .i64 0),.snil,(.int .i64 0)] H fun t10 H=>
 zar 7 t10 t83 H fun H=>
 zaf 0 t10 fun t84=>
 zae false 1 t84 H fun t85=>
 zad .eql false t85 (.str []) fun t86=>
 zab t86 true H (fun K'=>K' t79 H) fun t88 H=>
 zab t86 true H (fun K'=>zad .add false t88 (.int .i64 1) (K' · H)) fun t89 H=>
 zab t86 true H (fun K'=>zaf 1 t1 (K' · H)) fun t90 H=>
 zab t86 true H (fun K'=>zae false 1 t90 H (K' · H)) fun t91 H=>
 zab t86 true H (fun K'=>zaj 1 t91 (K' · H)) fun t92 H=>
 zab t86 true H (fun K'=>zad .lss false t89 t92 (K' · H)) fun t93 H=>
 zah t86 t93 (.bool false) fun t94=>
 zab t94 true H (fun K'=>zaf 1 t1 (K' · H)) fun t96 H=>
 zab t94 true H (fun K'=>zae false 1 t96 H (K' · H)) fun t97 H=>
 zab t94 true H (fun K'=>K' t79 H) fun t98 H=>
 zab t94 true H (fun K'=>zad .add false t98 (.int .i64 1) (K' · H)) fun t99 H=>
 zab t94 true H (fun K'=>zai 7 t97 t99 (K' · H)) fun t100 H=>
 zab t94 true H (fun K'=>zaf 0 t100 (K' · H)) fun t101 H=>
 zab t94 true H (fun K'=>zae false 1 t101 H (K' · H)) fun t102 H=>
 zab t94 true H (fun K'=>zad .neq false t102 (.str []) (K' · H)) fun t103 H=>
 zah t94 t103 (.bool false) fun t104=>
 zab t104 false H (fun K'=>zaf 0 t10 (K' · H)) fun t106 H=>
 zab t104 false H (fun K'=>zae false 1 t106 H (K' · H)) fun t107 H=>
 zab t104 false H (fun K'=>zad .neq false t107 (.str []) (K' · H)) fun t108 H=>
 zab t104 false H (fun K'=>K' t108 H) fun t109 H=>
 zab t109 true H (fun K'=>zaf 2 t10 (K' · H)) fun t110 H=>
 zab t109 true H (fun K'=>zae false 1 t110 H (K' · H)) fun t111 H=>
 zab t109 true H (fun K'=>zaj 1 t111 (K' · H)) fun t112 H=>
 zab t109 true H (fun K'=>zad .gtr false t112 (.int .i64 0) (K' · H)) fun t113 H=>
 zab t104 false H (fun K'=>zah t109 t113 (.bool false) (K' · H)) fun t114 H=>
 zah t104 (.bool true) t114 fun t115=>
 zab t115 false H (fun K'=>zaf 1 t10 (K' · H)) fun t117 H=>
 zab t115 false H (fun K'=>zae false 1 t117 H (K' · H)) fun t118 H=>
 zab t115 false H (fun K'=>zaj 1 t118 (K' · H)) fun t119 H=>
 zab t115 false H (fun K'=>zad .gtr false t119 (.int .i64 6) (K' · H)) fun t120 H=>
 zah t115 (.bool true) t120 fun t121=>
 zab t121 false H (fun K'=>zaf 0 t1 (K' · H)) fun t123 H=>
 zab t121 false H (fun K'=>zae false 1 t123 H (K' · H)) fun t124 H=>
 zab t121 false H (fun K'=>zaf 3 t10 (K' · H)) fun t125 H=>
 zab t121 false H (fun K'=>zae true 3 t125 H (K' · H)) fun t126 H=>
 zab t121 false H (fun K'=>ACalls tP zfW [t124,t126,(.int .i64 0)] H K') fun t127 H=>
 zab t121 false H (fun K'=>aUn .not t127 (K' · H)) fun t128 H=>
 zah t121 (.bool true) t128 fun t129=>
 zag t129
 (K (.bool false) H)
 (zaf 0 t10 fun t130=>
 zae false 1 t130 H fun t131=>
 zad .neq false t131 (.str []) fun t132=>
 zag t132
 (zaf 0 t10 fun t134=>
 zae false 1 t134 H fun t135=>
 zav 1 [(.str [])] 1 [(0,t135)] fun t136=>
 zaC zbJ 1 16 t8 t136 H fun t137 H=>
 zj8 t1 t5 t6 t7 t137 t10 t77 t78 t79 H K Kb14)
 (zj8 t1 t5 t6 t7 t8 t10 t77 t78 t79 H K Kb14)))
 (zvN t1 t5 t6 t7 t8 H K)
noncomputable def zGA : Code:=zan [1,1,1,1,1] zbY
def zGz (K : Kt) : AExit → List AV → zaa → Prop:=zao tP za1 [1,1,1,1,1] zbY (zau tP zdE K)
def zvK (t1 t5 t6 : AV) (H : zaa) (K : Kt) : Prop:=AWp tP zGA (zGz K) (ux 1 (t1 :: ux 3 (t5 :: t6 :: ux 342 []))) H
def zvL (t1 t5 t6 : AV) (H : zaa) (K : Kt) : Prop:=
 zaf 1 t1 fun t72=>
 zae false 1 t72 H fun t73=>
 zaj 1 t73 fun t74=>
 zaN 8 [(.int .i64 0)] t74 t74 H fun t75 H=>
 zaf 1 t1 fun t76=>
 zae false 1 t76 H fun t77=>
 zaj 1 t77 fun t78=>
 zka t1 t5 t6 t75 .snil t77 t78 (.int .i64 0) H K
def zpc (t1 t52 t53 t54 : AV) (H : zaa) (K : Kt) (Kb4 : Lt) : Prop:=
 zad .lss false t54 t53 fun t55=>
 zag t55
 (zai 3 t52 t54 fun t56=>
 zae true 3 t56 H fun t57=>
 zaA [(.int .i64 0),(.int .i64 0),.snil] H fun t4 H=>
 zar 3 t4 t57 H fun H=>
 zaf 0 t1 fun t58=>
 zae false 1 t58 H fun t59=>
 zae true 3 t4 H fun t60=>
 ACalls tP zfW [t59,t60,(.int .i64 0)] H fun t61 H=>
 aUn .not t61 fun t62=>
 zag t62
 (K (.bool false) H)
 (zad .add false t54 (.int .i64 1) fun t63=>
 Kb4 (zj2 t1 t52 t53 t63) H))
 (zaf 2 t1 fun t64=>
 zae false 1 t64 H fun t65=>
 zaj 1 t65 fun t66=>
 zaN 8 [(.int .i64 0)] t66 t66 H fun t67 H=>
 zaf 3 t1 fun t68=>
 zae false 1 t68 H fun t69=>
 zaj 1 t69 fun t70=>
 zaN 8 [(.int .i64 0)] t70 t70 H fun t71 H=>
 zvK t1 t67 t71 H K)
noncomputable def zGx : Code:=zan [1,1] zbY
def zGw (K : Kt) : AExit → List AV → zaa → Prop:=zao tP za1 [1,1] zbY (zau tP zdE K)
def zvI (t1 : AV) (H : zaa) (K : Kt) : Prop:=AWp tP zGx (zGw K) (ux 1 (t1 :: ux 347 [])) H
def zvJ (t1 : AV) (H : zaa) (K : Kt) : Prop:=
 zaf 2 t1 fun t51=>
 zae false 1 t51 H fun t52=>
 zaj 1 t52 fun t53=>
 zvS t1 t52 t53 (.int .i64 0) H K
def zvz (t0 : AV) (H : zaa) (K : Kt) : Prop:=
 zaF t0 H fun t1 H=>
 zaf 0 t1 fun t29=>
 zae false 1 t29 H fun t30=>
 ACalls tP znz [t30] H fun t31 H=>
 aUn .not t31 fun t32=>
 zab t32 false H (fun K'=>zaf 1 t1 (K' · H)) fun t34 H=>
 zab t32 false H (fun K'=>zae false 1 t34 H (K' · H)) fun t35 H=>
 zab t32 false H (fun K'=>zaj 1 t35 (K' · H)) fun t36 H=>
 zab t32 false H (fun K'=>zad .gtr false t36 (.int .i64 64) (K' · H)) fun t37 H=>
 zah t32 (.bool true) t37 fun t38=>
 zab t38 false H (fun K'=>zaf 3 t1 (K' · H)) fun t40 H=>
 zab t38 false H (fun K'=>zae false 1 t40 H (K' · H)) fun t41 H=>
 zab t38 false H (fun K'=>zaj 1 t41 (K' · H)) fun t42 H=>
 zab t38 false H (fun K'=>zad .gtr false t42 (.int .i64 3000) (K' · H)) fun t43 H=>
 zah t38 (.bool true) t43 fun t44=>
 zab t44 false H (fun K'=>zaf 2 t1 (K' · H)) fun t46 H=>
 zab t44 false H (fun K'=>zae false 1 t46 H (K' · H)) fun t47 H=>
 zab t44 false H (fun K'=>zaj 1 t47 (K' · H)) fun t48 H=>
 zab t44 false H (fun K'=>zad .gtr false t48 (.int .i64 3000) (K' · H)) fun t49 H=>
 zah t44 (.bool true) t49 fun t50=>
 zag t50
 (K (.bool false) H)
 (zvI t1 H K)
theorem zGE {t1 t5 t6 t7 t8 t10 t77 t78 t79 : AV} {H : zaa} {K : Kt} {Kb14 : Lt} (h : HSc H → zvM t1 t5 t6 t7 t8 t10 t77 t78 t79 H K Kb14) : zj8 t1 t5 t6 t7 t8 t10 t77 t78 t79 H K Kb14:=
 fun B w G a hH hF hd=>zbH (M:=za1) _ _ _ _ (Eq.mpr (by kernel_rfl) (h hH.sc)) B w G a hH hF hd
theorem zGN {t1 t5 t6 t7 t12 t175 t176 t177 t220 t221 t222 : AV} {H : zaa} {K : Kt} {Kb26 : Lt} (Inv : Nat → AV → zaa → Prop) (n : Nat) (h0 : HSc H → Inv n t222 H)
  (round : Rd1 (fun t222=>zj3 t1 t5 t6 t7 t12 t175 t176 t177 t220 t221 t222) (fun t222=>fun H Kb43=>zeP t1 t5 t6 t7 t12 t175 t176 t177 t220 t221 t222 H K Kb26 Kb43) H Inv) : zvT t1 t5 t6 t7 t12 t175 t176 t177 t220 t221 t222 H K Kb26:=
 lp1 (M:=za1) zGW t222 (by kernel_rfl) Inv n h0 round
theorem zGL {t1 t5 t6 t7 t12 t175 t176 t177 t208 t209 t210 : AV} {H : zaa} {K : Kt} {Kb26 : Lt} (Inv : Nat → AV → zaa → Prop) (n : Nat) (h0 : HSc H → Inv n t210 H)
  (round : Rd1 (fun t210=>zj1 t1 t5 t6 t7 t12 t175 t176 t177 t208 t209 t210) (fun t210=>fun H Kb37=>zpb t1 t5 t6 t7 t12 t175 t176 t177 t208 t209 t210 H K Kb26 Kb37) H Inv) : zvR t1 t5 t6 t7 t12 t175 t176 t177 t208 t209 t210 H K Kb26:=
 lp1 (M:=za1) zGU t210 (by kernel_rfl) Inv n h0 round
theorem zGK {t1 t5 t6 t7 t11 t12 t175 t176 t177 t183 t184 t185 : AV} {H : zaa} {K : Kt} {Kb26 : Lt} (Inv : Nat → AV → zaa → Prop) (n : Nat) (h0 : HSc H → Inv n t185 H)
  (round : Rd1 (fun t185=>zj0 t1 t5 t6 t7 t11 t12 t175 t176 t177 t183 t184 t185) (fun t185=>fun H Kb29=>zjV t1 t5 t6 t7 t11 t12 t175 t176 t177 t183 t184 t185 H K Kb26 Kb29) H Inv) : zvQ t1 t5 t6 t7 t11 t12 t175 t176 t177 t183 t184 t185 H K Kb26:=
 lp1 (M:=za1) zGT t185 (by kernel_rfl) Inv n h0 round
theorem zGS {t1 t324 t325 t326 : AV} {H : zaa} {K : Kt} (Inv : Nat → AV → zaa → Prop) (n : Nat) (h0 : HSc H → Inv n t326 H)
  (round : Rd1 (fun t326=>zj7 t1 t324 t325 t326) (fun t326=>fun H Kb78=>zpe t1 t324 t325 t326 H K Kb78) H Inv) : zpl t1 t324 t325 t326 H K:=
 lp1 (M:=za1) zG1 t326 (by kernel_rfl) Inv n h0 round
theorem zGR {t1 t310 t311 : AV} {H : zaa} {K : Kt} (Inv : Nat → AV → zaa → Prop) (n : Nat) (h0 : HSc H → Inv n t311 H)
  (round : Rd1 (fun t311=>zj6 t1 t310 t311) (fun t311=>fun H Kb72=>zpd t1 t310 t311 H K Kb72) H Inv) : zpk t1 t310 t311 H K:=
 lp1 (M:=za1) zG0 t311 (by kernel_rfl) Inv n h0 round
theorem zGQ {t1 t276 t277 t278 : AV} {H : zaa} {K : Kt} (Inv : Nat → AV → zaa → Prop) (n : Nat) (h0 : HSc H → Inv n t278 H)
  (round : Rd1 (fun t278=>zho t1 t276 t277 t278) (fun t278=>fun H Kb66=>zgg t1 t276 t277 t278 H K Kb66) H Inv) : zpj t1 t276 t277 t278 H K:=
 lp1 (M:=za1) zGZ t278 (by kernel_rfl) Inv n h0 round
theorem zGP {t1 t7 t267 t268 t269 : AV} {H : zaa} {K : Kt} (Inv : Nat → AV → zaa → Prop) (n : Nat) (h0 : HSc H → Inv n t269 H)
  (round : Rd1 (fun t269=>zj5 t1 t7 t267 t268 t269) (fun t269=>fun H Kb60=>zjX t1 t7 t267 t268 t269 H K Kb60) H Inv) : zpi t1 t7 t267 t268 t269 H K:=
 lp1 (M:=za1) zGY t269 (by kernel_rfl) Inv n h0 round
theorem zGO {t1 t6 t7 t258 t259 t260 : AV} {H : zaa} {K : Kt} (Inv : Nat → AV → zaa → Prop) (n : Nat) (h0 : HSc H → Inv n t260 H)
  (round : Rd1 (fun t260=>zj4 t1 t6 t7 t258 t259 t260) (fun t260=>fun H Kb54=>zjW t1 t6 t7 t258 t259 t260 H K Kb54) H Inv) : zph t1 t6 t7 t258 t259 t260 H K:=
 lp1 (M:=za1) zGX t260 (by kernel_rfl) Inv n h0 round
theorem zGJ {t1 t5 t6 t7 t175 t176 t177 : AV} {H : zaa} {K : Kt} (Inv : Nat → AV → zaa → Prop) (n : Nat) (h0 : HSc H → Inv n t177 H)
  (round : Rd1 (fun t177=>zjZ t1 t5 t6 t7 t175 t176 t177) (fun t177=>fun H Kb26=>zpa t1 t5 t6 t7 t175 t176 t177 H K Kb26) H Inv) : zpg t1 t5 t6 t7 t175 t176 t177 H K:=
 lp1 (M:=za1) zkb t177 (by kernel_rfl) Inv n h0 round
theorem zGH {t1 t5 t6 t7 t8 : AV} {H : zaa} {K : Kt} (h : HSc H → zvO t1 t5 t6 t7 t8 H K) : zvN t1 t5 t6 t7 t8 H K:=
 fun B w G a hH hF hd=>zbH (M:=za1) _ _ _ _ (Eq.mpr (by kernel_rfl) (h hH.sc)) B w G a hH hF hd
theorem zGI {t1 t5 t6 t7 t8 t77 t78 t79 : AV} {H : zaa} {K : Kt} (Inv : Nat → AV → AV → zaa → Prop) (n : Nat) (h0 : HSc H → Inv n t8 t79 H)
  (round : Rd2 (fun t8=>fun t79=>zjY t1 t5 t6 t7 t8 t77 t78 t79) (fun t8=>fun t79=>fun H Kb14=>zdW t1 t5 t6 t7 t8 t77 t78 t79 H K Kb14) H Inv) : zka t1 t5 t6 t7 t8 t77 t78 t79 H K:=
 lp2 (M:=za1) zvU t8 t79 (by kernel_rfl) Inv n h0 round
theorem zGB {t1 t5 t6 : AV} {H : zaa} {K : Kt} (h : HSc H → zvL t1 t5 t6 H K) : zvK t1 t5 t6 H K:=
 fun B w G a hH hF hd=>zbH (M:=za1) _ _ _ _ (Eq.mpr (by kernel_rfl) (h hH.sc)) B w G a hH hF hd
theorem zGM {t1 t52 t53 t54 : AV} {H : zaa} {K : Kt} (Inv : Nat → AV → zaa → Prop) (n : Nat) (h0 : HSc H → Inv n t54 H)
  (round : Rd1 (fun t54=>zj2 t1 t52 t53 t54) (fun t54=>fun H Kb4=>zpc t1 t52 t53 t54 H K Kb4) H Inv) : zvS t1 t52 t53 t54 H K:=
 lp1 (M:=za1) zGV t54 (by kernel_rfl) Inv n h0 round
theorem zGy {t1 : AV} {H : zaa} {K : Kt} (h : HSc H → zvJ t1 H K) : zvI t1 H K:=
 fun B w G a hH hF hd=>zbH (M:=za1) _ _ _ _ (Eq.mpr (by kernel_rfl) (h hH.sc)) B w G a hH hF hd
theorem zG2 {t0 : AV} {H : zaa} {K : Kt} (h : HSc H → zvz t0 H K) : ACalls tP zg2 [t0] H K:=
 zax (M:=za1) Try.func14 (c:=zbY) (by kernel_rfl) (fun hs=>Eq.mpr (by kernel_rfl) (h hs))
def zd3 : Nat → List Bool
 | 5=>rl false [0,1,2,3,115]
 | 12=>rl false [0,1,2,5,113]
 | 18=>rl false [0,1,2,5,85,3,25]
 | _=>[]
noncomputable def zqa : Code:=Try.f48.body.getD .skip
noncomputable def zJq : List ResultVar:=Try.f48.results.toList
def zkM (t0 t3 t4 t5 : AV) : List AV:=t0 :: ux 2 (t3 :: t4 :: t5 :: ux 115 [])
def zw0 : List Bool:=zd3 5
noncomputable def zqc : Code:=zan [1,1,1,0,1,0,0] zqa
def zwV (K : Kt) : AExit → List AV → zaa → Prop:=zao tP zd3 [1,1,1,0,1,0] zqa (zau tP zJq K)
def zkO (t0 t3 t4 t5 : AV) (H : zaa) (K : Kt) : Prop:=ALoop tP zqc (zwV K) (zkM t0 t3 t4 t5) H
def zkK (t0 t3 t4 t5 t6 t7 : AV) : List AV:=t0 :: ux 2 (t3 :: t4 :: t5 :: t6 :: t7 :: ux 113 [])
def zwZ : List Bool:=zd3 12
noncomputable def zqb : Code:=zan [1,0,0,1,1,1,1,0,0] zqc
def zwU (K : Kt) (Kb5 : Lt) : AExit → List AV → zaa → Prop:=zao tP zd3 [1,0,0,1,1,1,1,0] zqc (zbj zw0 Kb5 (zwV K))
def zwX (t0 t3 t4 t5 t6 t7 : AV) (H : zaa) (K : Kt) (Kb5 : Lt) : Prop:=ALoop tP zqb (zwU K Kb5) (zkK t0 t3 t4 t5 t6 t7) H
def zkL (t0 t3 t4 t5 t6 t7 t93 t94 t95 : AV) : List AV:=t0 :: ux 2 (t3 :: t4 :: t5 :: t6 :: t7 :: ux 85 (t93 :: t94 :: t95 :: ux 25 []))
def zJo : List Bool:=zd3 18
noncomputable def zJk : Code:=zan [1,0,0,1,1,1,0,0] zqb
def zJj (K : Kt) (Kb5 : Lt) (Kb12 : Lt) : AExit → List AV → zaa → Prop:=zao tP zd3 [1,0,0,1,1,1,0] zqb (zbj zwZ Kb12 (zwU K Kb5))
def zwY (t0 t3 t4 t5 t6 t7 t93 t94 t95 : AV) (H : zaa) (K : Kt) (Kb5 : Lt) (Kb12 : Lt) : Prop:=ALoop tP zJk (zJj K Kb5 Kb12) (zkL t0 t3 t4 t5 t6 t7 t93 t94 t95) H
def zwW (t0 t3 t4 t5 t6 t7 t93 t94 t95 : AV) (H : zaa) (K : Kt) (Kb5 : Lt) (Kb12 : Lt) (Kb18 : Lt) : Prop:=
 zad .add false t95 (.int .i64 1) fun t112=>
 Kb18 (zkL t0 t3 t4 t5 t6 t7 t93 t94 t112) H
def zkN (t0 t3 t4 t5 t6 t7 t93 t94 t95 : AV) (H : zaa) (K : Kt) (Kb5 : Lt) (Kb12 : Lt) (Kb18 : Lt) : Prop:=
 zwW t0 t3 t4 t5 t6 t7 t93 t94 t95 H K Kb5 Kb12 Kb18
def zp9 (t0 t3 t4 t5 t6 t7 t93 t94 t95 : AV) (H : zaa) (K : Kt) (Kb5 : Lt) (Kb12 : Lt) (Kb18 : Lt) : Prop:=
 zad .lss false t95 t94 fun t96=>
 zag t96
 (zai 3 t93 t95 fun t97=>
 zae true 3 t97 H fun t98=>
 zaA [(.int .i64 0),(.int .i64 0),.snil] H fun t9 H=>
 zar 3 t9 t98 H fun H=>
 zae true 3 t9 H fun t99=>
 zaf 1 t6 fun t101=>
 zae false 1 t101 H fun t102=>
 ACalls tP znJ [t99,t5,t102] H fun t103 H=>
 zag t103
 (zkN t0 t3 t4 t5 t6 t7 t93 t94 t95 H K Kb5 Kb12 Kb18)
 (zac H (fun K'=>K' t0 H) fun t104=>
 zac H (fun K'=>K' t5 H) fun t105=>
 zac H (fun K'=>za2 1 3 t104 none (some t105) (K' · H)) fun t106=>
 zac H (fun K'=>zak true 3 t9 H (K' · H)) fun t107=>
 zac H (fun K'=>zaf 1 t6 (K' · H)) fun t108=>
 zac H (fun K'=>zak false 1 t108 H (K' · H)) fun t109=>
 zaw H (fun H K'=>ACalls tP zfW [t106,t107,t109] H K') fun t110=>
 zac H (fun K'=>aUn .not t110 (K' · H)) fun t111=>
 zag t111
 (K (.bool false) H)
 (zkN t0 t3 t4 t5 t6 t7 t93 t94 t95 H K Kb5 Kb12 Kb18)))
 (zad .add false t7 (.int .i64 1) fun t60=>
 Kb12 (zkK t0 t3 t4 t5 t6 t60) H)
def zp8 (t0 t3 t4 t5 t6 t7 : AV) (H : zaa) (K : Kt) (Kb5 : Lt) (Kb12 : Lt) : Prop:=
 zaf 2 t6 fun t55=>
 zae false 1 t55 H fun t56=>
 zaj 1 t56 fun t57=>
 zad .lss false t7 t57 fun t58=>
 zag t58
 (zaf 2 t6 fun t61=>
 zae false 1 t61 H fun t62=>
 zai 2 t62 t7 fun t64=>
 zaf 0 t64 fun t65=>
 zae false 1 t65 H fun t66=>
 ACalls tP ziP [t66] H fun t67 H=>
 aUn .not t67 fun t68=>
 zab t68 false H (fun K'=>zaf 2 t6 (K' · H)) fun t70 H=>
 zab t68 false H (fun K'=>zae false 1 t70 H (K' · H)) fun t71 H=>
 zab t68 false H (fun K'=>K' t7 H) fun t72 H=>
 zab t68 false H (fun K'=>zai 2 t71 t72 (K' · H)) fun t73 H=>
 zab t68 false H (fun K'=>zaf 1 t73 (K' · H)) fun t74 H=>
 zab t68 false H (fun K'=>zae false 1 t74 H (K' · H)) fun t75 H=>
 zab t68 false H (fun K'=>zaj 1 t75 (K' · H)) fun t76 H=>
 zab t68 false H (fun K'=>zad .gtr false t76 (.int .i64 6) (K' · H)) fun t77 H=>
 zah t68 (.bool true) t77 fun t78=>
 zag t78
 (K (.bool false) H)
 (zaf 2 t6 fun t80=>
 zae false 1 t80 H fun t81=>
 zai 2 t81 t7 fun t83=>
 zaf 0 t83 fun t84=>
 zae false 1 t84 H fun t85=>
 zav 1 [(.str [])] 1 [(0,t85)] fun t86=>
 zaC zbJ 1 16 t4 t86 H fun t87 H=>
 zaf 2 t6 fun t88=>
 zae false 1 t88 H fun t89=>
 zai 2 t89 t7 fun t91=>
 zaf 1 t91 fun t92=>
 zae false 1 t92 H fun t93=>
 zaj 1 t93 fun t94=>
 zwY t0 t3 t87 t5 t6 t7 t93 t94 (.int .i64 0) H K Kb5 Kb12))
 (zad .add false t5 (.int .i64 1) fun t18=>
 Kb5 (zkM t0 t3 t4 t18) H)
def zfv (t0 t3 t4 t5 : AV) (H : zaa) (K : Kt) (Kb5 : Lt) : Prop:=
 zaj 1 t0 fun t15=>
 zad .lss false t5 t15 fun t16=>
 zag t16
 (zai 3 t0 t5 fun t21=>
 zae true 3 t21 H fun t22=>
 zaA [(.str []),(.int .i64 0),.snil] H fun t6 H=>
 zar 3 t6 t22 H fun H=>
 zaf 1 t6 fun t23=>
 zae false 1 t23 H fun t24=>
 zad .lss false t24 (.int .i64 0) fun t25=>
 zab t25 false H (fun K'=>zaf 1 t6 (K' · H)) fun t27 H=>
 zab t25 false H (fun K'=>zae false 1 t27 H (K' · H)) fun t28 H=>
 zab t25 false H (fun K'=>zad .gtr false t28 (.int .i64 6) (K' · H)) fun t29 H=>
 zah t25 (.bool true) t29 fun t30=>
 zab t30 false H (fun K'=>zaf 2 t6 (K' · H)) fun t32 H=>
 zab t30 false H (fun K'=>zae false 1 t32 H (K' · H)) fun t33 H=>
 zab t30 false H (fun K'=>zaj 1 t33 (K' · H)) fun t34 H=>
 zab t30 false H (fun K'=>zad .lss false t34 (.int .i64 1) (K' · H)) fun t35 H=>
 zah t30 (.bool true) t35 fun t36=>
 zab t36 false H (fun K'=>zaf 2 t6 (K' · H)) fun t38 H=>
 zab t36 false H (fun K'=>zae false 1 t38 H (K' · H)) fun t39 H=>
 zab t36 false H (fun K'=>zaj 1 t39 (K' · H)) fun t40 H=>
 zab t36 false H (fun K'=>zad .gtr false t40 (.int .i64 8) (K' · H)) fun t41 H=>
 zah t36 (.bool true) t41 fun t42=>
 zab t42 false H (fun K'=>zaf 0 t6 (K' · H)) fun t44 H=>
 zab t42 false H (fun K'=>zae false 1 t44 H (K' · H)) fun t45 H=>
 zab t42 false H (fun K'=>ACalls tP ziP [t45] H K') fun t46 H=>
 zab t42 false H (fun K'=>aUn .not t46 (K' · H)) fun t47 H=>
 zah t42 (.bool true) t47 fun t48=>
 zag t48
 (K (.bool false) H)
 (zaf 0 t6 fun t50=>
 zae false 1 t50 H fun t51=>
 zav 1 [(.str [])] 1 [(0,t51)] fun t52=>
 zaC zbJ 1 16 t3 t52 H fun t53 H=>
 zwX t0 t53 t4 t5 t6 (.int .i64 0) H K Kb5))
 (ACalls tP zfX [t3] H fun t114 H=>
 aUn .not t114 fun t115=>
 zab t115 true H (fun K'=>K' t4 H) fun t117 H=>
 zab t115 true H (fun K'=>ACalls tP zfX [t117] H K') fun t118 H=>
 zab t115 true H (fun K'=>aUn .not t118 (K' · H)) fun t119 H=>
 zah t115 t119 (.bool false) fun t120=>
 K t120 H)
def zp7 (t0 : AV) (H : zaa) (K : Kt) : Prop:=
 zaj 1 t0 fun t11=>
 zad .gtr false t11 (.int .i64 12) fun t12=>
 zag t12
 (K (.bool false) H)
 (zkO t0 .snil .snil (.int .i64 0) H K)
theorem zJm {t0 t3 t4 t5 t6 t7 t93 t94 t95 : AV} {H : zaa} {K : Kt} {Kb5 : Lt} {Kb12 : Lt} (Inv : Nat → AV → zaa → Prop) (n : Nat) (h0 : HSc H → Inv n t95 H)
  (round : Rd1 (fun t95=>zkL t0 t3 t4 t5 t6 t7 t93 t94 t95) (fun t95=>fun H Kb18=>zp9 t0 t3 t4 t5 t6 t7 t93 t94 t95 H K Kb5 Kb12 Kb18) H Inv) : zwY t0 t3 t4 t5 t6 t7 t93 t94 t95 H K Kb5 Kb12:=
 lp1 (M:=zd3) zJo t95 (by kernel_rfl) Inv n h0 round
theorem zJl {t0 t3 t4 t5 t6 t7 : AV} {H : zaa} {K : Kt} {Kb5 : Lt} (Inv : Nat → AV → AV → zaa → Prop) (n : Nat) (h0 : HSc H → Inv n t4 t7 H)
  (round : Rd2 (fun t4=>fun t7=>zkK t0 t3 t4 t5 t6 t7) (fun t4=>fun t7=>fun H Kb12=>zp8 t0 t3 t4 t5 t6 t7 H K Kb5 Kb12) H Inv) : zwX t0 t3 t4 t5 t6 t7 H K Kb5:=
 lp2 (M:=zd3) zwZ t4 t7 (by kernel_rfl) Inv n h0 round
theorem zJn {t0 t3 t4 t5 : AV} {H : zaa} {K : Kt} (Inv : Nat → AV → AV → AV → zaa → Prop) (n : Nat) (h0 : HSc H → Inv n t3 t4 t5 H)
  (round : Rd3 (fun t3=>fun t4=>fun t5=>zkM t0 t3 t4 t5) (fun t3=>fun t4=>fun t5=>fun H Kb5=>zfv t0 t3 t4 t5 H K Kb5) H Inv) : zkO t0 t3 t4 t5 H K:=
 lp3 (M:=zd3) zw0 t3 t4 t5 (by kernel_rfl) Inv n h0 round
theorem zJp {t0 : AV} {H : zaa} {K : Kt} (h : HSc H → zp7 t0 H K) : ACalls tP znz [t0] H K:=
 zax (M:=zd3) Try.func48 (c:=zqa) (by kernel_rfl) (fun hs=>Eq.mpr (by kernel_rfl) (h hs))
def zkP : Nat → List Bool
 | 2=>rl false [0,1,6,3,18]
 | _=>[]
noncomputable def zqd : Code:=Try.f50.body.getD .skip
noncomputable def zJA : List ResultVar:=Try.f50.results.toList
def zkQ (t0 t7 t8 t9 : AV) : List AV:=t0 :: ux 6 (t7 :: t8 :: t9 :: ux 18 [])
def zJy : List Bool:=zkP 2
noncomputable def zJw : Code:=zan [1,0,1,0,0] zqd
def zJv (K : Kt) : AExit → List AV → zaa → Prop:=zao tP zkP [1,0,1,0] zqd (zau tP zJA K)
def zw3 (t0 t7 t8 t9 : AV) (H : zaa) (K : Kt) : Prop:=ALoop tP zJw (zJv K) (zkQ t0 t7 t8 t9) H
def zhG (t0 t7 t8 t9 : AV) (H : zaa) (K : Kt) (Kb2 : Lt) : Prop:=
 zad .lss false t9 t8 fun t10=>
 zag t10
 (zai 1 t7 t9 fun t11=>
 zae false 1 t11 H fun t12=>
 zad .lss false t12 (.int .i64 0) fun t14=>
 zab t14 false H (fun K'=>K' t12 H) fun t16 H=>
 zab t14 false H (fun K'=>K' t0 H) fun t17 H=>
 zab t14 false H (fun K'=>zaj 1 t17 (K' · H)) fun t18 H=>
 zab t14 false H (fun K'=>zad .geq false t16 t18 (K' · H)) fun t19 H=>
 zah t14 (.bool true) t19 fun t20=>
 zag t20
 (K (.bool false) H)
 (zai 1 t0 t12 fun t23=>
 zae false 1 t23 H fun t24=>
 zad .add false t24 (.int .i64 1) fun t25=>
 zai 1 t0 t12 fun t26=>
 zar 1 t26 t25 H fun H=>
 zad .add false t9 (.int .i64 1) fun t27=>
 Kb2 (zkQ t0 t7 t8 t27) H))
 (K (.bool true) H)
def zw2 (t0 t1 : AV) (H : zaa) (K : Kt) : Prop:=
 zaj 1 t1 fun t8=>
 zw3 t0 t1 t8 (.int .i64 0) H K
theorem zJx {t0 t7 t8 t9 : AV} {H : zaa} {K : Kt} (Inv : Nat → AV → zaa → Prop) (n : Nat) (h0 : HSc H → Inv n t9 H)
  (round : Rd1 (fun t9=>zkQ t0 t7 t8 t9) (fun t9=>fun H Kb2=>zhG t0 t7 t8 t9 H K Kb2) H Inv) : zw3 t0 t7 t8 t9 H K:=
 lp1 (M:=zkP) zJy t9 (by kernel_rfl) Inv n h0 round
theorem zJz {t0 t1 : AV} {H : zaa} {K : Kt} (h : HSc H → zw2 t0 t1 H K) : ACalls tP zfb [t0,t1] H K:=
 zax (M:=zkP) Try.func50 (c:=zqd) (by kernel_rfl) (fun hs=>Eq.mpr (by kernel_rfl) (h hs))
def zfw : Nat → List Bool
 | 2=>rl false [0,1,2,1,21]
 | 5=>rl false [0,1,2,2,20]
 | _=>[]
noncomputable def zqi : Code:=Try.f52.body.getD .skip
noncomputable def zJN : List ResultVar:=Try.f52.results.toList
def zkT (t0 t3 : AV) : List AV:=t0 :: ux 2 (t3 :: ux 21 [])
def zxa : List Bool:=zfw 2
noncomputable def zqj : Code:=zan [1,0,1,0,0] zqi
def zw7 (K : Kt) : AExit → List AV → zaa → Prop:=zao tP zfw [1,0,1,0] zqi (zau tP zJN K)
def zw8 (t0 t3 : AV) (H : zaa) (K : Kt) : Prop:=ALoop tP zqj (zw7 K) (zkT t0 t3) H
def zkU (t0 t3 t4 : AV) : List AV:=t0 :: ux 2 (t3 :: t4 :: ux 20 [])
def zJL : List Bool:=zfw 5
noncomputable def zJI : Code:=zan [1,0,0,1,0,0] zqj
def zJH (K : Kt) (Kb2 : Lt) : AExit → List AV → zaa → Prop:=zao tP zfw [1,0,0,1,0] zqj (zbj zxa Kb2 (zw7 K))
def zw9 (t0 t3 t4 : AV) (H : zaa) (K : Kt) (Kb2 : Lt) : Prop:=ALoop tP zJI (zJH K Kb2) (zkU t0 t3 t4) H
def zqh (t0 t3 t4 : AV) (H : zaa) (K : Kt) (Kb2 : Lt) (Kb5 : Lt) : Prop:=
 zad .lss false t4 t3 fun t13=>
 zag t13
 (zac H (fun K'=>K' t0 H) fun t16=>
 zac H (fun K'=>K' t3 H) fun t17=>
 zac H (fun K'=>zai 1 t16 t17 (K' · H)) fun t18=>
 zac H (fun K'=>zak false 1 t18 H (K' · H)) fun t19=>
 zac H (fun K'=>K' t0 H) fun t20=>
 zac H (fun K'=>K' t4 H) fun t21=>
 zac H (fun K'=>zai 1 t20 t21 (K' · H)) fun t22=>
 zac H (fun K'=>zak false 1 t22 H (K' · H)) fun t23=>
 zac H (fun K'=>zad .eql false t19 t23 (K' · H)) fun t24=>
 zag t24
 (K (.bool true) H)
 (zad .add false t4 (.int .i64 1) fun t15=>
 Kb5 (zkU t0 t3 t15) H))
 (zad .add false t3 (.int .i64 1) fun t10=>
 Kb2 (zkT t0 t10) H)
def zqg (t0 t3 : AV) (H : zaa) (K : Kt) (Kb2 : Lt) : Prop:=
 zaj 1 t0 fun t7=>
 zad .lss false t3 t7 fun t8=>
 zag t8
 (zw9 t0 t3 (.int .i64 0) H K Kb2)
 (K (.bool false) H)
def zw6 (t0 : AV) (H : zaa) (K : Kt) : Prop:=
 zw8 t0 (.int .i64 0) H K
theorem zJK {t0 t3 t4 : AV} {H : zaa} {K : Kt} {Kb2 : Lt} (Inv : Nat → AV → zaa → Prop) (n : Nat) (h0 : HSc H → Inv n t4 H)
  (round : Rd1 (fun t4=>zkU t0 t3 t4) (fun t4=>fun H Kb5=>zqh t0 t3 t4 H K Kb2 Kb5) H Inv) : zw9 t0 t3 t4 H K Kb2:=
 lp1 (M:=zfw) zJL t4 (by kernel_rfl) Inv n h0 round
theorem zJJ {t0 t3 : AV} {H : zaa} {K : Kt} (Inv : Nat → AV → zaa → Prop) (n : Nat) (h0 : HSc H → Inv n t3 H)
  (round : Rd1 (fun t3=>zkT t0 t3) (fun t3=>fun H Kb2=>zqg t0 t3 H K Kb2) H Inv) : zw8 t0 t3 H K:=
 lp1 (M:=zfw) zxa t3 (by kernel_rfl) Inv n h0 round
theorem zJM {t0 : AV} {H : zaa} {K : Kt} (h : HSc H → zw6 t0 H K) : ACalls tP zfX [t0] H K:=
 zax (M:=zfw) Try.func52 (c:=zqi) (by kernel_rfl) (fun hs=>Eq.mpr (by kernel_rfl) (h hs))
def zla : Nat → List Bool
 | 1=>rl false [0,1,1,1,5,3,8]
 | _=>[]
noncomputable def zqx : Code:=Try.f54.body.getD .skip
noncomputable def zKP : List ResultVar:=Try.f54.results.toList
def zlb (t0 t2 t8 t9 t10 : AV) : List AV:=t0 :: ux 1 (t2 :: ux 5 (t8 :: t9 :: t10 :: ux 8 []))
def zKN : List Bool:=zla 1
noncomputable def zKL : Code:=zan [1,0,0] zqx
def zKK (K : Kt) : AExit → List AV → zaa → Prop:=zao tP zla [1,0] zqx (zau tP zKP K)
def zxr (t0 t2 t8 t9 t10 : AV) (H : zaa) (K : Kt) : Prop:=ALoop tP zKL (zKK K) (zlb t0 t2 t8 t9 t10) H
def zqw (t0 t2 t8 t9 t10 : AV) (H : zaa) (K : Kt) (Kb1 : Lt) : Prop:=
 zad .lss false t10 t9 fun t11=>
 zag t11
 (zai 1 t8 t10 fun t12=>
 zae false 1 t12 H fun t13=>
 zai 1 t0 t13 fun t17=>
 zar 1 t17 t2 H fun H=>
 zad .add false t10 (.int .i64 1) fun t18=>
 Kb1 (zlb t0 t2 t8 t9 t18) H)
 (za6 [] (K · H))
def zxq (t0 t1 t2 : AV) (H : zaa) (K : Kt) : Prop:=
 zaj 1 t1 fun t9=>
 zxr t0 t2 t1 t9 (.int .i64 0) H K
theorem zKM {t0 t2 t8 t9 t10 : AV} {H : zaa} {K : Kt} (Inv : Nat → AV → zaa → Prop) (n : Nat) (h0 : HSc H → Inv n t10 H)
  (round : Rd1 (fun t10=>zlb t0 t2 t8 t9 t10) (fun t10=>fun H Kb1=>zqw t0 t2 t8 t9 t10 H K Kb1) H Inv) : zxr t0 t2 t8 t9 t10 H K:=
 lp1 (M:=zla) zKN t10 (by kernel_rfl) Inv n h0 round
theorem zKO {t0 t1 t2 : AV} {H : zaa} {K : Kt} (h : HSc H → zxq t0 t1 t2 H K) : ACalls tP zfY [t0,t1,t2] H K:=
 zax (M:=zla) Try.func54 (c:=zqx) (by kernel_rfl) (fun hs=>Eq.mpr (by kernel_rfl) (h hs))
def zfx : Nat → List Bool
 | 3=>rl false [2,2,3,1,10,3,40]
 | 9=>rl false [2,2,3,1,24,2,27]
 | 200012=>rl false [0,1]
 | _=>[]
noncomputable def zhM : Code:=Try.f55.body.getD .skip
noncomputable def zxv : List ResultVar:=Try.f55.results.toList
def zld (t2 t3 t7 t18 t19 t20 : AV) : List AV:=ux 2 (t2 :: t3 :: ux 3 (t7 :: ux 10 (t18 :: t19 :: t20 :: ux 40 [])))
def zKW : List Bool:=zfx 3
noncomputable def zKS : Code:=zan [1,1,0,1,0,0] zhM
def zKQ (K : Kt) : AExit → List AV → zaa → Prop:=zao tP zfx [1,1,0,1,0] zhM (zau tP zxv K)
def zxt (t2 t3 t7 t18 t19 t20 : AV) (H : zaa) (K : Kt) : Prop:=ALoop tP zKS (zKQ K) (zld t2 t3 t7 t18 t19 t20) H
def zle (t2 t3 t7 t32 t33 : AV) : List AV:=ux 2 (t2 :: t3 :: ux 3 (t7 :: ux 24 (t32 :: t33 :: ux 27 [])))
def zKX : List Bool:=zfx 9
noncomputable def zKT : Code:=zan [1,1,1,0,1,0,0] zhM
def zKR (K : Kt) : AExit → List AV → zaa → Prop:=zao tP zfx [1,1,1,0,1,0] zhM (zau tP zxv K)
def zxu (t2 t3 t7 t32 t33 : AV) (H : zaa) (K : Kt) : Prop:=ALoop tP zKT (zKR K) (zle t2 t3 t7 t32 t33) H
def zqy (t2 t3 t7 t32 t33 : AV) (H : zaa) (K : Kt) (Kb9 : Lt) : Prop:=
 zad .lss false t33 t32 fun t34=>
 zag t34
 (zaf 3 t7 fun t37=>
 zae false 1 t37 H fun t38=>
 zai 1 t38 t33 fun t40=>
 zae false 1 t40 H fun t41=>
 ACalls tP zfY [t2,t41,(.bool true)] H fun t42 H=>
 zac H (fun K'=>zak true 4 t3 H (K' · H)) fun t43=>
 zac H (fun K'=>zaf 4 t7 (K' · H)) fun t44=>
 zac H (fun K'=>zak false 1 t44 H (K' · H)) fun t45=>
 zac H (fun K'=>K' t33 H) fun t46=>
 zac H (fun K'=>zai 1 t45 t46 (K' · H)) fun t47=>
 zac H (fun K'=>zak false 1 t47 H (K' · H)) fun t48=>
 zac H (fun K'=>K' t2 H) fun t49=>
 zbB .w false H (fun K'=>ACalls tP ziK [t43,t48,t49] H K') fun t50 H=>
 zac H (fun K'=>K' t50 H) fun t11=>
 zaf 3 t7 fun t52=>
 zae false 1 t52 H fun t53=>
 zai 1 t53 t33 fun t55=>
 zae false 1 t55 H fun t56=>
 ACalls tP zfY [t2,t56,(.bool false)] H fun t57 H=>
 aUn .not t11 fun t59=>
 zag t59
 (K (.bool false) H)
 (zad .add false t33 (.int .i64 1) fun t60=>
 Kb9 (zle t2 t3 t7 t32 t60) H))
 (K (.bool true) H)
def zlc (t2 t3 t7 t18 t19 t20 : AV) (H : zaa) (K : Kt) (Kb3 : Lt) : Prop:=
 zad .lss false t20 t19 fun t21=>
 zag t21
 (zai 1 t18 t20 fun t22=>
 zae false 1 t22 H fun t23=>
 zai 1 t2 t23 fun t26=>
 zae false 1 t26 H fun t27=>
 aUn .not t27 fun t28=>
 zag t28
 (K (.bool false) H)
 (zad .add false t20 (.int .i64 1) fun t29=>
 Kb3 (zld t2 t3 t7 t18 t19 t29) H))
 (zaf 4 t7 fun t30=>
 zae false 1 t30 H fun t31=>
 zaj 1 t31 fun t32=>
 zxu t2 t3 t7 t32 (.int .i64 0) H K)
def zxs (t0 t1 t2 : AV) (H : zaa) (K : Kt) : Prop:=
 zaF t0 H fun t3 H=>
 zaf 3 t3 fun t12=>
 zae false 1 t12 H fun t13=>
 zai 8 t13 t1 fun t15=>
 zae true 8 t15 H fun t16=>
 zaA [(.int .i64 0),(.int .i64 0),.snil,.snil,.snil,(.int .i64 0),(.int .i64 0),.snil] H fun t7 H=>
 zar 8 t7 t16 H fun H=>
 zaf 2 t7 fun t17=>
 zae false 1 t17 H fun t18=>
 zaj 1 t18 fun t19=>
 zxt t2 t3 t7 t18 t19 (.int .i64 0) H K
theorem zKV {t2 t3 t7 t32 t33 : AV} {H : zaa} {K : Kt} (Inv : Nat → AV → zaa → Prop) (n : Nat) (h0 : HSc H → Inv n t33 H)
  (round : Rd1 (fun t33=>zle t2 t3 t7 t32 t33) (fun t33=>fun H Kb9=>zqy t2 t3 t7 t32 t33 H K Kb9) H Inv) : zxu t2 t3 t7 t32 t33 H K:=
 lp1 (M:=zfx) zKX t33 (by kernel_rfl) Inv n h0 round
theorem zKU {t2 t3 t7 t18 t19 t20 : AV} {H : zaa} {K : Kt} (Inv : Nat → AV → zaa → Prop) (n : Nat) (h0 : HSc H → Inv n t20 H)
  (round : Rd1 (fun t20=>zld t2 t3 t7 t18 t19 t20) (fun t20=>fun H Kb3=>zlc t2 t3 t7 t18 t19 t20 H K Kb3) H Inv) : zxt t2 t3 t7 t18 t19 t20 H K:=
 lp1 (M:=zfx) zKW t20 (by kernel_rfl) Inv n h0 round
theorem zKY {t0 t1 t2 : AV} {H : zaa} {K : Kt} (h : HSc H → zxs t0 t1 t2 H K) : ACalls tP ziK [t0,t1,t2] H K:=
 zax (M:=zfx) Try.func55 (c:=zhM) (by kernel_rfl) (fun hs=>Eq.mpr (by kernel_rfl) (h hs))
def zNh (_ : Nat) : List Bool:=[]
noncomputable def zNi : Code:=Try.f81.body.getD .skip
def zyt (t0 t1 : AV) (H : zaa) (K : Kt) : Prop:=
 ACalls tP zdl [t0,t1] H fun t7 H=>
 K t7 H
theorem zNj {t0 t1 : AV} {H : zaa} {K : Kt} (h : HSc H → zyt t0 t1 H K) : ACalls tP zc4 [t0,t1] H K:=
 zax (M:=zNh) Try.func81 (c:=zNi) (by kernel_rfl) (fun hs=>Eq.mpr (by kernel_rfl) (h hs))
def zdV : Nat → List Bool
 | 4=>rl false [1,1,30,3,67]
 | 10=>rl false [62,3,37]
 | 15=>rl false [62,3,26,3,8]
 | _=>[]
noncomputable def zhm : Code:=Try.f12.body.getD .skip
noncomputable def zvl : List ResultVar:=Try.f12.results.toList
def zjv (t1 t32 t33 t34 : AV) : List AV:=ux 1 (t1 :: ux 30 (t32 :: t33 :: t34 :: ux 67 []))
def zEK : List Bool:=zdV 4
noncomputable def zEF : Code:=zan [1,1,0,1,0,0] zhm
def zED (K : Kt) : AExit → List AV → zaa → Prop:=zao tP zdV [1,1,0,1,0] zhm (zau tP zvl K)
def zvj (t1 t32 t33 t34 : AV) (H : zaa) (K : Kt) : Prop:=ALoop tP zEF (zED K) (zjv t1 t32 t33 t34) H
def zjt (t62 t63 t64 : AV) : List AV:=ux 62 (t62 :: t63 :: t64 :: ux 37 [])
def zvk : List Bool:=zdV 10
noncomputable def zoK : Code:=zan [1,1,1,0,1,0,0] zhm
def zvg (K : Kt) : AExit → List AV → zaa → Prop:=zao tP zdV [1,1,1,0,1,0] zhm (zau tP zvl K)
def zvh (t62 t63 t64 : AV) (H : zaa) (K : Kt) : Prop:=ALoop tP zoK (zvg K) (zjt t62 t63 t64) H
def zju (t62 t63 t64 t91 t92 t93 : AV) : List AV:=ux 62 (t62 :: t63 :: t64 :: ux 26 (t91 :: t92 :: t93 :: ux 8 []))
def zEJ : List Bool:=zdV 15
noncomputable def zEE : Code:=zan [1,1,0,0,1,1,1,0,0] zoK
def zEC (K : Kt) (Kb10 : Lt) : AExit → List AV → zaa → Prop:=zao tP zdV [1,1,0,0,1,1,1,0] zoK (zbj zvk Kb10 (zvg K))
def zvi (t62 t63 t64 t91 t92 t93 : AV) (H : zaa) (K : Kt) (Kb10 : Lt) : Prop:=ALoop tP zEE (zEC K Kb10) (zju t62 t63 t64 t91 t92 t93) H
def zoI (t62 t63 t64 t91 t92 t93 : AV) (H : zaa) (K : Kt) (Kb10 : Lt) (Kb15 : Lt) : Prop:=
 zad .lss false t93 t92 fun t94=>
 zag t94
 (zai 1 t91 t93 fun t95=>
 zae false 1 t95 H fun t96=>
 zaj 1 t96 fun t98=>
 zad .gtr false t98 (.int .i64 10) fun t99=>
 zag t99
 (K (.bool false) H)
 (zad .add false t93 (.int .i64 1) fun t100=>
 Kb15 (zju t62 t63 t64 t91 t92 t100) H))
 (zad .add false t64 (.int .i64 1) fun t101=>
 Kb10 (zjt t62 t63 t101) H)
def zoH (t62 t63 t64 : AV) (H : zaa) (K : Kt) (Kb10 : Lt) : Prop:=
 zad .lss false t64 t63 fun t65=>
 zag t65
 (zai 8 t62 t64 fun t66=>
 zae true 8 t66 H fun t67=>
 zaA [(.int .i64 0),(.int .i64 0),.snil,.snil,.snil,(.int .i64 0),(.int .i64 0),.snil] H fun t6 H=>
 zar 8 t6 t67 H fun H=>
 zaf 2 t6 fun t68=>
 zae false 1 t68 H fun t69=>
 zaj 1 t69 fun t70=>
 zad .gtr false t70 (.int .i64 40) fun t71=>
 zab t71 false H (fun K'=>zaf 3 t6 (K' · H)) fun t73 H=>
 zab t71 false H (fun K'=>zae false 1 t73 H (K' · H)) fun t74 H=>
 zab t71 false H (fun K'=>zaj 1 t74 (K' · H)) fun t75 H=>
 zab t71 false H (fun K'=>zad .gtr false t75 (.int .i64 10) (K' · H)) fun t76 H=>
 zah t71 (.bool true) t76 fun t77=>
 zab t77 false H (fun K'=>zaf 4 t6 (K' · H)) fun t79 H=>
 zab t77 false H (fun K'=>zae false 1 t79 H (K' · H)) fun t80 H=>
 zab t77 false H (fun K'=>zaj 1 t80 (K' · H)) fun t81 H=>
 zab t77 false H (fun K'=>zad .gtr false t81 (.int .i64 10) (K' · H)) fun t82 H=>
 zah t77 (.bool true) t82 fun t83=>
 zab t83 false H (fun K'=>zaf 5 t6 (K' · H)) fun t85 H=>
 zab t83 false H (fun K'=>zae true 3 t85 H (K' · H)) fun t86 H=>
 zab t83 false H (fun K'=>ACalls tP zg5 [t86] H K') fun t87 H=>
 zab t83 false H (fun K'=>aUn .not t87 (K' · H)) fun t88 H=>
 zah t83 (.bool true) t88 fun t89=>
 zag t89
 (K (.bool false) H)
 (zaf 3 t6 fun t90=>
 zae false 1 t90 H fun t91=>
 zaj 1 t91 fun t92=>
 zvi t62 t63 t64 t91 t92 (.int .i64 0) H K Kb10))
 (K (.bool true) H)
def zoJ (t1 t32 t33 t34 : AV) (H : zaa) (K : Kt) (Kb4 : Lt) : Prop:=
 zad .lss false t34 t33 fun t35=>
 zag t35
 (zai 7 t32 t34 fun t36=>
 zae true 7 t36 H fun t37=>
 zaA [(.str []),.snil,.snil,(.int .i64 0),(.int .i64 0),.snil,(.int .i64 0)] H fun t4 H=>
 zar 7 t4 t37 H fun H=>
 zaf 0 t4 fun t38=>
 zae false 1 t38 H fun t39=>
 zaj 0 t39 fun t40=>
 zad .gtr false t40 (.int .i64 400) fun t41=>
 zab t41 false H (fun K'=>zaf 1 t4 (K' · H)) fun t43 H=>
 zab t41 false H (fun K'=>zae false 1 t43 H (K' · H)) fun t44 H=>
 zab t41 false H (fun K'=>zaj 1 t44 (K' · H)) fun t45 H=>
 zab t41 false H (fun K'=>zad .gtr false t45 (.int .i64 10) (K' · H)) fun t46 H=>
 zah t41 (.bool true) t46 fun t47=>
 zab t47 false H (fun K'=>zaf 2 t4 (K' · H)) fun t49 H=>
 zab t47 false H (fun K'=>zae false 1 t49 H (K' · H)) fun t50 H=>
 zab t47 false H (fun K'=>zaj 1 t50 (K' · H)) fun t51 H=>
 zab t47 false H (fun K'=>zad .gtr false t51 (.int .i64 40) (K' · H)) fun t52 H=>
 zah t47 (.bool true) t52 fun t53=>
 zab t53 false H (fun K'=>zaf 3 t4 (K' · H)) fun t55 H=>
 zab t53 false H (fun K'=>zae true 3 t55 H (K' · H)) fun t56 H=>
 zab t53 false H (fun K'=>ACalls tP zg5 [t56] H K') fun t57 H=>
 zab t53 false H (fun K'=>aUn .not t57 (K' · H)) fun t58 H=>
 zah t53 (.bool true) t58 fun t59=>
 zag t59
 (K (.bool false) H)
 (zad .add false t34 (.int .i64 1) fun t60=>
 Kb4 (zjv t1 t32 t33 t60) H))
 (zaf 3 t1 fun t61=>
 zae false 1 t61 H fun t62=>
 zaj 1 t62 fun t63=>
 zvh t62 t63 (.int .i64 0) H K)
def zu2 (t0 : AV) (H : zaa) (K : Kt) : Prop:=
 zaF t0 H fun t1 H=>
 zaf 0 t1 fun t9=>
 zae false 1 t9 H fun t10=>
 ACalls tP znq [t10] H fun t11 H=>
 aUn .not t11 fun t12=>
 zab t12 false H (fun K'=>zaf 1 t1 (K' · H)) fun t14 H=>
 zab t12 false H (fun K'=>zae false 1 t14 H (K' · H)) fun t15 H=>
 zab t12 false H (fun K'=>zaj 1 t15 (K' · H)) fun t16 H=>
 zab t12 false H (fun K'=>zad .gtr false t16 (.int .i64 24) (K' · H)) fun t17 H=>
 zah t12 (.bool true) t17 fun t18=>
 zab t18 false H (fun K'=>zaf 3 t1 (K' · H)) fun t20 H=>
 zab t18 false H (fun K'=>zae false 1 t20 H (K' · H)) fun t21 H=>
 zab t18 false H (fun K'=>zaj 1 t21 (K' · H)) fun t22 H=>
 zab t18 false H (fun K'=>zad .gtr false t22 (.int .i64 160) (K' · H)) fun t23 H=>
 zah t18 (.bool true) t23 fun t24=>
 zab t24 false H (fun K'=>zaf 2 t1 (K' · H)) fun t26 H=>
 zab t24 false H (fun K'=>zae false 1 t26 H (K' · H)) fun t27 H=>
 zab t24 false H (fun K'=>ACalls tP znr [t27,(.int .i64 160)] H K') fun t28 H=>
 zab t24 false H (fun K'=>aUn .not t28 (K' · H)) fun t29 H=>
 zah t24 (.bool true) t29 fun t30=>
 zag t30
 (K (.bool false) H)
 (zaf 1 t1 fun t31=>
 zae false 1 t31 H fun t32=>
 zaj 1 t32 fun t33=>
 zvj t1 t32 t33 (.int .i64 0) H K)
theorem zEH {t62 t63 t64 t91 t92 t93 : AV} {H : zaa} {K : Kt} {Kb10 : Lt} (Inv : Nat → AV → zaa → Prop) (n : Nat) (h0 : HSc H → Inv n t93 H)
  (round : Rd1 (fun t93=>zju t62 t63 t64 t91 t92 t93) (fun t93=>fun H Kb15=>zoI t62 t63 t64 t91 t92 t93 H K Kb10 Kb15) H Inv) : zvi t62 t63 t64 t91 t92 t93 H K Kb10:=
 lp1 (M:=zdV) zEJ t93 (by kernel_rfl) Inv n h0 round
theorem zEG {t62 t63 t64 : AV} {H : zaa} {K : Kt} (Inv : Nat → AV → zaa → Prop) (n : Nat) (h0 : HSc H → Inv n t64 H)
  (round : Rd1 (fun t64=>zjt t62 t63 t64) (fun t64=>fun H Kb10=>zoH t62 t63 t64 H K Kb10) H Inv) : zvh t62 t63 t64 H K:=
 lp1 (M:=zdV) zvk t64 (by kernel_rfl) Inv n h0 round
theorem zEI {t1 t32 t33 t34 : AV} {H : zaa} {K : Kt} (Inv : Nat → AV → zaa → Prop) (n : Nat) (h0 : HSc H → Inv n t34 H)
  (round : Rd1 (fun t34=>zjv t1 t32 t33 t34) (fun t34=>fun H Kb4=>zoJ t1 t32 t33 t34 H K Kb4) H Inv) : zvj t1 t32 t33 t34 H K:=
 lp1 (M:=zdV) zEK t34 (by kernel_rfl) Inv n h0 round
theorem zEL {t0 : AV} {H : zaa} {K : Kt} (h : HSc H → zu2 t0 H K) : ACalls tP zng [t0] H K:=
 zax (M:=zdV) Try.func12 (c:=zhm) (by kernel_rfl) (fun hs=>Eq.mpr (by kernel_rfl) (h hs))
end Go.Proofs.Ytkdmpbhbmmhijaa
namespace Go.Proofs.Ytkdmpbhbmmhijaa
open Go Go.Abs
set_option maxRecDepth 8000
theorem zdc {k : AV → Prop} (a b : AV) (vs : List AV) : zbb (.tup (a :: b :: vs)) 1 k = k b:=propext Iff.rfl
theorem zdd {k : AV → Prop} (a b c : AV) (vs : List AV) : zbb (.tup (a :: b :: c :: vs)) 2 k = k c:=propext Iff.rfl
def zfe (s : List UInt8) : List Tk × Int × Int:=
 if s.length > 16384 then ([],0,9) else
 match zbE (kwF kwds) s 0 with
 | .error (p,e)=>([],p,e)
 | .ok l=>(l,0,0)
theorem zuv (s : List UInt8) : zeL s = .tup [.sl ((zfe s).1.map Tk.cs) .none,.int .i64 (zfe s).2.1,.int .i64 (zfe s).2.2]:=by
 unfold zeL zfe
 split
 ·rfl
 ·split <;> (rename_i h; simp [h])
def zb6 (s : List UInt8) (x : List Tk × Int × Int) : Bool:=x.2.2 == 0 && match x.1 with
 | [a,_]=>a.kind == 2 && a.text == s
 | _=>false
def zcX (s : List UInt8) : Bool:=zb6 s (zfe s)
theorem zx2 (s : List UInt8) (H : zaa) (K : AV → zaa → Prop) (hK : K (.bool (zcX s)) H) : ACalls tP ziM [.str s] H K:=by
 refine ACalls.out (zL3 fun hs=>?_)
 have hO : Out H.length K (.bool (zcX s)) H:=Out.bool (J:=[]) (by simp) (Nat.le_refl _) hs hK
 simp only [zx1]
 refine zDg s _ _ ?_
 rw [zuv]
 rw [zcX] at hO
 generalize zfe s = x at hO ⊢
 obtain ⟨l,p,e⟩:=x
 clear hK
 cases h0 : e == 0 with
 | false=>
  rw [show zb6 s (l,p,e) = false by simp [zb6,h0]] at hO
  simp [zdc,zdd,h0]; exact hO
 | true=>
 match l with
 | []=>
  rw [show zb6 s ([],p,e) = false by simp [zb6]] at hO
  simp [zdc,zdd,h0]; exact hO
 | [x]=>
  rw [show zb6 s ([x],p,e) = false by simp [zb6]] at hO
  simp [zdc,zdd,h0]; exact hO
 | [a,x]=>
  rw [show zb6 s ([a,x],p,e) = (a.kind == 2 && a.text == s) by simp [zb6,h0]] at hO
  cases hk : a.kind == 2 with
  | false=>rw [hk] at hO; simp [zdc,zdd,h0,Tk.cs,hk]; exact hO
  | true=>rw [hk] at hO; simp [zdc,zdd,h0,Tk.cs,hk]; exact hO
 | a :: b :: c :: r=>
  rw [show zb6 s (a :: b :: c :: r,p,e) = false by simp [zb6]] at hO
  have : ¬ ((r.length : Int) + 1 + 1 + 1 = 2):=by omega
  have h2 : ((r.length : Int) + 1 + 1 + 1 == 2) = false:=by simpa using this
  simp [zdc,zdd,h0,h2]; exact hO
theorem zyn (s : List UInt8) (H : zaa) (K : AV → zaa → Prop) (hK : K (.bool (zcX s)) H) : ACalls tP ziP [.str s] H K:=by
 refine ACalls.out (zMX fun hs=>?_)
 have hO : Out H.length K (.bool (zcX s)) H:=Out.bool (J:=[]) (by simp) (Nat.le_refl _) hs hK
 simp only [zym]
 refine zDh s _ _ ?_
 rw [zuv]
 rw [zcX] at hO
 generalize zfe s = x at hO ⊢
 obtain ⟨l,p,e⟩:=x
 clear hK
 cases h0 : e == 0 with
 | false=>
  rw [show zb6 s (l,p,e) = false by simp [zb6,h0]] at hO
  simp [zdc,zdd,h0]; exact hO
 | true=>
 match l with
 | []=>
  rw [show zb6 s ([],p,e) = false by simp [zb6]] at hO
  simp [zdc,zdd,h0]; exact hO
 | [x]=>
  rw [show zb6 s ([x],p,e) = false by simp [zb6]] at hO
  simp [zdc,zdd,h0]; exact hO
 | [a,x]=>
  rw [show zb6 s ([a,x],p,e) = (a.kind == 2 && a.text == s) by simp [zb6,h0]] at hO
  cases hk : a.kind == 2 with
  | false=>rw [hk] at hO; simp [zdc,zdd,h0,Tk.cs,hk]; exact hO
  | true=>rw [hk] at hO; simp [zdc,zdd,h0,Tk.cs,hk]; exact hO
 | a :: b :: c :: r=>
  rw [show zb6 s (a :: b :: c :: r,p,e) = false by simp [zb6]] at hO
  have : ¬ ((r.length : Int) + 1 + 1 + 1 = 2):=by omega
  have h2 : ((r.length : Int) + 1 + 1 + 1 == 2) = false:=by simpa using this
  simp [zdc,zdd,h0,h2]; exact hO
def zcb (l : List (List UInt8)) : Bool:=!decide l.Nodup
def strs (l : List (List UInt8)) : List (List AV):=l.map fun s=>[.str s]
@[simp] theorem zSV (l : List (List UInt8)) : (strs l).length = l.length:=by simp [strs]
theorem zDm {l : List (List UInt8)} {i : Nat} (h : i < (strs l).length) : (strs l)[i] = [.str (l[i]'(by simpa using h))]:=by simp [strs]
theorem zBW {l : List (List UInt8)} {i j : Nat} (hi : i < l.length) (hj : j < i) (h : l[i] = l[j]) : zcb l = true:=by
 simp only [zcb,Bool.not_eq_true',decide_eq_false_iff_not]
 intro hn
 exact (List.pairwise_iff_getElem.mp hn) j i (by omega) hi hj h.symm
theorem zJO (l : List (List UInt8)) (hl : l.length ≤ 1000000) (H : zaa) (K : AV → zaa → Prop) (hK : K (.bool (zcb l)) H) : ACalls tP zfX [.sl (strs l) .none] H K:=by
 refine ACalls.out (zJM fun hs=>?_)
 have hO : Out H.length K (.bool (zcb l)) H:=Out.bool (J:=[]) (by simp) (Nat.le_refl _) hs hK
 simp [zw6]
 refine zJJ (Inv:=fun q t3 H'=>∃ i : Nat,i ≤ l.length ∧ q = l.length - i ∧ t3 = .int .i64 i ∧ (∀ a b (ha : a < i) (hb : b < a) (h' : a < l.length),l[a] ≠ l[b]) ∧ H = H') l.length ?_ ?_
 ·intro _; exact ⟨0,by omega,by omega,rfl,by omega,rfl⟩
 ·rintro q t3 H' ⟨i,hi,rfl,rfl,hne,rfl⟩ hsc hlen hsF Kb hKb
  by_cases hlt : i < l.length
  ·simp [zqg,hlt]
   refine zJK (Inv:=fun q t4 H'=>∃ j : Nat,j ≤ i ∧ q = i - j ∧ t4 = .int .i64 j ∧ (∀ b (hb : b < j) (hb' : b < l.length),l[i] ≠ l[b]) ∧ H = H') i ?_ ?_
   ·intro _; exact ⟨0,by omega,by omega,rfl,by omega,rfl⟩
   ·rintro q t4 H' ⟨j,hj,rfl,rfl,hnj,rfl⟩ hsc1 hlen1 hsF1 Kb1 hKb1
    by_cases hjl : j < i
    ·simp [zqh,hjl,hlt,show j < l.length by omega,zDm]
     cases he : l[i] == l[j] with
     | true=>
      rw [zBW hlt hjl (by simpa using he)] at hO
      simpa using hO
     | false=>
      simp
      rw [zaq (by omega) (by omega)]
      refine hKb1 _ _ ⟨i - (j + 1),by omega,Back.at (J:=[]) (H2:=H) (by simp) (Nat.le_refl _) hs ?_ ⟨_,rfl,j + 1,by omega,rfl,by simp,?_,rfl⟩⟩
      ·simp [zkU,AV.sc,AV.scV,AV.scA,AV.scB]
      ·intro b hb hb'
       by_cases hbj : b = j
       ·subst hbj; simpa using he
       ·exact hnj b (by omega) hb'
    ·obtain rfl : j = i:=by omega
     simp [zqh]
     rw [zaq (by omega) (by omega)]
     refine hKb _ _ ⟨l.length - (j + 1),by omega,Back.at (J:=[]) (H2:=H) (by simp) (Nat.le_refl _) hs ?_ ⟨_,rfl,j + 1,by omega,rfl,by simp,?_,rfl⟩⟩
     ·simp [zkT,AV.sc,AV.scV,AV.scA,AV.scB]
     ·intro a b ha hb h'
      by_cases haj : a = j
      ·subst haj; exact hnj b hb (by omega)
      ·exact hne a b (by omega) hb h'
  ·obtain rfl : i = l.length:=by omega
   have : zcb l = false:=by
    simp only [zcb,Bool.not_eq_false',decide_eq_true_eq]
    refine List.pairwise_iff_getElem.mpr fun a b ha hb hab he=>?_
    exact hne b a hb hab hb he.symm
   rw [this] at hO
   simp [zqg]
   exact hO
end Go.Proofs.Ytkdmpbhbmmhijaa

import Derived.Test.YtkdmpbhbmmhijaaKNum
import Derived.Test.YtkdmpbhbmmhijaaProg
import Derived.KernelRfl
import Derived.Test.YtkdmpbhbmmhijaaKGT
import Derived.Test.YtkdmpbhbmmhijaaKTW6
set_option linter.unusedSimpArgs false
set_option linter.unusedVariables false
namespace Go.Proofs.Ytkdmpbhbmmhijaa
open Go Go.Abs
set_option maxRecDepth 100000
def zaU : Nat → List Bool
 | 4 => rl false [1,1,50,3,294]
 | 14 => rl false [1,1,3,4,68,3,269]
 | 200020 => rl false [0,1]
 | 26 => rl false [1,1,3,3,167,3,171]
 | 29 => rl false [1,1,3,3,3,2,162,3,5,3,163]
 | 37 => rl false [1,1,3,3,4,1,162,3,30,3,138]
 | 43 => rl false [1,1,3,3,4,1,162,3,42,3,126]
 | 54 => rl false [1,1,4,2,250,3,88]
 | 60 => rl false [1,1,5,1,259,3,79]
 | 66 => rl false [1,1,274,3,70]
 | 72 => rl false [1,1,308,2,37]
 | 200074 => rl false [0,1]
 | 78 => rl false [1,1,322,3,22]
 | 100020 => rl false [1,1,3,4,1,1,66,3,269]
 | 100023 => rl false [1,1,3,4,340]
 | 100011 => rl false [1,1,3,2,342]
 | 100003 => rl false [1,1,347]
 | _ => []
noncomputable def zbQ : Code := Try.f14.body.getD .skip
noncomputable def zdi : List ResultVar := Try.f14.results.toList
def zi9 (t1 t52 t53 t54 : AV) : List AV := ux 1 (t1 :: ux 50 (t52 :: t53 :: t54 :: ux 294 []))
def zDt : List Bool := zaU 4
noncomputable def zCX : Code := zao [1, 1, 0, 1, 0, 0] zbQ
def zCN (K : Kt) : AExit → List AV → zaa → Prop := zap tP zaU [1, 1, 0, 1, 0] zbQ (zat tP zdi K)
def zty (t1 t52 t53 t54 : AV) (H : zaa) (K : Kt) : Prop := ALoop tP zCX (zCN K) (zi9 t1 t52 t53 t54) H
def zi5 (t1 t5 t6 t7 t8 t77 t78 t79 : AV) : List AV := ux 1 (t1 :: ux 3 (t5 :: t6 :: t7 :: t8 :: ux 68 (t77 :: t78 :: t79 :: ux 269 [])))
def ztA : List Bool := zaU 14
noncomputable def znY : Code := zao [1, 1, 1, 1, 1, 1, 1, 0, 1, 0, 0] zbQ
def ztn (K : Kt) : AExit → List AV → zaa → Prop := zap tP zaU [1, 1, 1, 1, 1, 1, 1, 0, 1, 0] zbQ (zat tP zdi K)
def zjh (t1 t5 t6 t7 t8 t77 t78 t79 : AV) (H : zaa) (K : Kt) : Prop := ALoop tP znY (ztn K) (zi5 t1 t5 t6 t7 t8 t77 t78 t79) H
noncomputable def zDb : Code := zao [1, 1, 0, 0, 1, 1, 1] znY
def zDa (K : Kt) (Kb14 : Lt) : AExit → List AV → zaa → Prop := zap tP zaU [1, 1, 0, 0, 1, 1, 1] znY (zbK ztA Kb14 (ztn K))
def zjf (t1 t5 t6 t7 t8 t10 t77 t78 t79 : AV) (H : zaa) (K : Kt) (Kb14 : Lt) : Prop := AWp tP zDb (zDa K Kb14) (ux 1 (t1 :: ux 3 (t5 :: t6 :: t7 :: t8 :: ux 1 (t10 :: ux 66 (t77 :: t78 :: t79 :: ux 269 []))))) H
def zts (t1 t5 t6 t7 t8 t10 t77 t78 t79 : AV) (H : zaa) (K : Kt) (Kb14 : Lt) : Prop :=
 zac H (fun K' => K' t5 H) fun t138 =>
 zac H (fun K' => zaf 1 t10 (K' · H)) fun t139 =>
 zac H (fun K' => zai false 1 t139 H (K' · H)) fun t140 =>
 zbt .w false H (fun K' => ACalls tP zeQ [t138, t140] H K') fun t141 H =>
 zac H (fun K' => aUn .not t141 (K' · H)) fun t142 =>
 zac H (fun K' => K' t142 H) fun t143 =>
 zab t143 false H (fun K' => zac H (fun K'' => K'' t5 H) (K' · H)) fun t144 H =>
 zab t143 false H (fun K' => zac H (fun K'' => zaf 2 t10 (K'' · H)) (K' · H)) fun t145 H =>
 zab t143 false H (fun K' => zac H (fun K'' => zai false 1 t145 H (K'' · H)) (K' · H)) fun t146 H =>
 zab t143 false H (fun K' => zbt .w false H (fun K'' => ACalls tP zeQ [t144, t146] H K'') K') fun t147 H =>
 zab t143 false H (fun K' => zac H (fun K'' => aUn .not t147 (K'' · H)) (K' · H)) fun t148 H =>
 zac H (fun K' => zah t143 (.bool true) t148 (K' · H)) fun t149 =>
 zac H (fun K' => K' t149 H) fun t150 =>
 zab t150 false H (fun K' => zac H (fun K'' => K'' t6 H) (K' · H)) fun t151 H =>
 zab t150 false H (fun K' => zac H (fun K'' => zaf 6 t10 (K'' · H)) (K' · H)) fun t152 H =>
 zab t150 false H (fun K' => zac H (fun K'' => zai false 1 t152 H (K'' · H)) (K' · H)) fun t153 H =>
 zab t150 false H (fun K' => zac H (fun K'' => zay 1 [(.int .i64 0)] 1 [(0, t153)] (K'' · H)) (K' · H)) fun t154 H =>
 zab t150 false H (fun K' => zbt .w false H (fun K'' => ACalls tP zeQ [t151, t154] H K'') K') fun t155 H =>
 zab t150 false H (fun K' => zac H (fun K'' => aUn .not t155 (K'' · H)) (K' · H)) fun t156 H =>
 zac H (fun K' => zah t150 (.bool true) t156 (K' · H)) fun t157 =>
 zac H (fun K' => K' t157 H) fun t158 =>
 zab t158 false H (fun K' => zac H (fun K'' => zaf 3 t1 (K'' · H)) (K' · H)) fun t159 H =>
 zab t158 false H (fun K' => zac H (fun K'' => zai false 1 t159 H (K'' · H)) (K' · H)) fun t160 H =>
 zab t158 false H (fun K' => zac H (fun K'' => zaf 6 t10 (K'' · H)) (K' · H)) fun t161 H =>
 zab t158 false H (fun K' => zac H (fun K'' => zai false 1 t161 H (K'' · H)) (K' · H)) fun t162 H =>
 zab t158 false H (fun K' => zac H (fun K'' => zak 8 t160 t162 (K'' · H)) (K' · H)) fun t163 H =>
 zab t158 false H (fun K' => zac H (fun K'' => zaf 5 t163 (K'' · H)) (K' · H)) fun t164 H =>
 zab t158 false H (fun K' => zac H (fun K'' => zai true 3 t164 H (K'' · H)) (K' · H)) fun t165 H =>
 zab t158 false H (fun K' => zac H (fun K'' => zaf 3 t10 (K'' · H)) (K' · H)) fun t166 H =>
 zab t158 false H (fun K' => zac H (fun K'' => zai true 3 t166 H (K'' · H)) (K' · H)) fun t167 H =>
 zab t158 false H (fun K' => zbt .w false H (fun K'' => ACalls tP zcm [t165, t167] H K'') K') fun t168 H =>
 zab t158 false H (fun K' => zac H (fun K'' => aUn .not t168 (K'' · H)) (K' · H)) fun t169 H =>
 zac H (fun K' => zah t158 (.bool true) t169 (K' · H)) fun t170 =>
 zag t170
 (K (.bool false) H)
 (zad .add false t79 (.int .i64 1) fun t171 =>
 Kb14 (zi5 t1 t5 t6 t7 t8 t77 t78 t171) H)
def zi6 (t1 t5 t6 t7 t175 t176 t177 : AV) : List AV := ux 1 (t1 :: ux 3 (t5 :: t6 :: t7 :: ux 167 (t175 :: t176 :: t177 :: ux 171 [])))
def zji : List Bool := zaU 26
noncomputable def ze3 : Code := zao [1, 1, 1, 1, 1, 1, 1, 1, 1, 0, 1, 0, 0] zbQ
def zi1 (K : Kt) : AExit → List AV → zaa → Prop := zap tP zaU [1, 1, 1, 1, 1, 1, 1, 1, 1, 0, 1, 0] zbQ (zat tP zdi K)
def znZ (t1 t5 t6 t7 t175 t176 t177 : AV) (H : zaa) (K : Kt) : Prop := ALoop tP ze3 (zi1 K) (zi6 t1 t5 t6 t7 t175 t176 t177) H
def zi7 (t1 t5 t6 t7 t11 t12 t175 t176 t177 t183 t184 t185 : AV) : List AV := ux 1 (t1 :: ux 3 (t5 :: t6 :: t7 :: ux 3 (t11 :: t12 :: ux 162 (t175 :: t176 :: t177 :: ux 5 (t183 :: t184 :: t185 :: ux 163 [])))))
def zDr : List Bool := zaU 29
noncomputable def zCV : Code := zao [1, 1, 0, 0, 1, 0, 1, 0, 0] ze3
def zCL (K : Kt) (Kb26 : Lt) : AExit → List AV → zaa → Prop := zap tP zaU [1, 1, 0, 0, 1, 0, 1, 0] ze3 (zbK zji Kb26 (zi1 K))
def ztw (t1 t5 t6 t7 t11 t12 t175 t176 t177 t183 t184 t185 : AV) (H : zaa) (K : Kt) (Kb26 : Lt) : Prop := ALoop tP zCV (zCL K Kb26) (zi7 t1 t5 t6 t7 t11 t12 t175 t176 t177 t183 t184 t185) H
def zi8 (t1 t5 t6 t7 t12 t175 t176 t177 t208 t209 t210 : AV) : List AV := ux 1 (t1 :: ux 3 (t5 :: t6 :: t7 :: ux 4 (t12 :: ux 162 (t175 :: t176 :: t177 :: ux 30 (t208 :: t209 :: t210 :: ux 138 [])))))
def zDs : List Bool := zaU 37
noncomputable def zCW : Code := zao [1, 1, 0, 0, 1, 1, 1, 0, 1, 0, 0] ze3
def zCM (K : Kt) (Kb26 : Lt) : AExit → List AV → zaa → Prop := zap tP zaU [1, 1, 0, 0, 1, 1, 1, 0, 1, 0] ze3 (zbK zji Kb26 (zi1 K))
def ztx (t1 t5 t6 t7 t12 t175 t176 t177 t208 t209 t210 : AV) (H : zaa) (K : Kt) (Kb26 : Lt) : Prop := ALoop tP zCW (zCM K Kb26) (zi8 t1 t5 t6 t7 t12 t175 t176 t177 t208 t209 t210) H
def zja (t1 t5 t6 t7 t12 t175 t176 t177 t220 t221 t222 : AV) : List AV := ux 1 (t1 :: ux 3 (t5 :: t6 :: t7 :: ux 4 (t12 :: ux 162 (t175 :: t176 :: t177 :: ux 42 (t220 :: t221 :: t222 :: ux 126 [])))))
def zDu : List Bool := zaU 43
noncomputable def zCY : Code := zao [1, 1, 0, 0, 1, 1, 1, 1, 0, 1, 0, 0] ze3
def zCO (K : Kt) (Kb26 : Lt) : AExit → List AV → zaa → Prop := zap tP zaU [1, 1, 0, 0, 1, 1, 1, 1, 0, 1, 0] ze3 (zbK zji Kb26 (zi1 K))
def ztz (t1 t5 t6 t7 t12 t175 t176 t177 t220 t221 t222 : AV) (H : zaa) (K : Kt) (Kb26 : Lt) : Prop := ALoop tP zCY (zCO K Kb26) (zja t1 t5 t6 t7 t12 t175 t176 t177 t220 t221 t222) H
def ztv (t1 t5 t6 t7 t175 t176 t177 : AV) (H : zaa) (K : Kt) (Kb26 : Lt) : Prop :=
 zad .add false t177 (.int .i64 1) fun t257 =>
 Kb26 (zi6 t1 t5 t6 t7 t175 t176 t257) H
def zjg (t1 t5 t6 t7 t175 t176 t177 : AV) (H : zaa) (K : Kt) (Kb26 : Lt) : Prop :=
 ztv t1 t5 t6 t7 t175 t176 t177 H K Kb26
def zeu (t1 t5 t6 t7 t12 t175 t176 t177 t220 t221 t222 : AV) (H : zaa) (K : Kt) (Kb26 : Lt) (Kb43 : Lt) : Prop :=
 zad .lss false t222 t221 fun t223 =>
 zag t223
 (zak 1 t220 t222 fun t224 =>
 zae false 1 t224 H fun t225 =>
 zad .lss false t225 (.int .i64 0) fun t227 =>
 zab t227 false H (fun K' => K' t225 H) fun t229 H =>
 zab t227 false H (fun K' => zaf 2 t1 (K' · H)) fun t230 H =>
 zab t227 false H (fun K' => zae false 1 t230 H (K' · H)) fun t231 H =>
 zab t227 false H (fun K' => zaj 1 t231 (K' · H)) fun t232 H =>
 zab t227 false H (fun K' => zad .geq false t229 t232 (K' · H)) fun t233 H =>
 zah t227 (.bool true) t233 fun t234 =>
 zag t234
 (K (.bool false) H)
 (zad .add false t222 (.int .i64 1) fun t235 =>
 Kb43 (zja t1 t5 t6 t7 t12 t175 t176 t177 t220 t221 t235) H))
 (zaf 0 t12 fun t236 =>
 zae false 1 t236 H fun t237 =>
 zad .eql false t237 (.int .i64 11) fun t238 =>
 zag t238
 (zaf 1 t12 fun t239 =>
 zae false 1 t239 H fun t240 =>
 zad .lss false t240 (.int .i64 0) fun t241 =>
 zab t241 false H (fun K' => zaf 1 t12 (K' · H)) fun t243 H =>
 zab t241 false H (fun K' => zae false 1 t243 H (K' · H)) fun t244 H =>
 zab t241 false H (fun K' => zaf 1 t1 (K' · H)) fun t245 H =>
 zab t241 false H (fun K' => zae false 1 t245 H (K' · H)) fun t246 H =>
 zab t241 false H (fun K' => zaj 1 t246 (K' · H)) fun t247 H =>
 zab t241 false H (fun K' => zad .geq false t244 t247 (K' · H)) fun t248 H =>
 zah t241 (.bool true) t248 fun t249 =>
 zag t249
 (K (.bool false) H)
 (zaf 1 t12 fun t251 =>
 zae false 1 t251 H fun t252 =>
 zak 1 t7 t252 fun t253 =>
 zae false 1 t253 H fun t254 =>
 zad .add false t254 (.int .i64 1) fun t255 =>
 zak 1 t7 t252 fun t256 =>
 zar 1 t256 t255 H fun H =>
 zjg t1 t5 t6 t7 t175 t176 t177 H K Kb26))
 (zjg t1 t5 t6 t7 t175 t176 t177 H K Kb26))
def znU (t1 t5 t6 t7 t12 t175 t176 t177 t208 t209 t210 : AV) (H : zaa) (K : Kt) (Kb26 : Lt) (Kb37 : Lt) : Prop :=
 zad .lss false t210 t209 fun t211 =>
 zag t211
 (zak 1 t208 t210 fun t212 =>
 zae false 1 t212 H fun t213 =>
 ACalls tP zeQ [t5, t213] H fun t216 H =>
 aUn .not t216 fun t217 =>
 zag t217
 (K (.bool false) H)
 (zad .add false t210 (.int .i64 1) fun t218 =>
 Kb37 (zi8 t1 t5 t6 t7 t12 t175 t176 t177 t208 t209 t218) H))
 (zaf 2 t12 fun t219 =>
 zae false 1 t219 H fun t220 =>
 zaj 1 t220 fun t221 =>
 ztz t1 t5 t6 t7 t12 t175 t176 t177 t220 t221 (.int .i64 0) H K Kb26)
def zi2 (t1 t5 t6 t7 t11 t12 t175 t176 t177 t183 t184 t185 : AV) (H : zaa) (K : Kt) (Kb26 : Lt) (Kb29 : Lt) : Prop :=
 zad .lss false t185 t184 fun t186 =>
 zag t186
 (zak 1 t183 t185 fun t187 =>
 zae false 1 t187 H fun t188 =>
 zad .leq false t188 t11 fun t191 =>
 zag t191
 (K (.bool false) H)
 (zad .add false t185 (.int .i64 1) fun t192 =>
 Kb29 (zi7 t1 t5 t6 t7 t11 t12 t175 t176 t177 t183 t184 t192) H))
 (zaf 4 t12 fun t194 =>
 zae false 1 t194 H fun t195 =>
 ACalls tP zeQ [t6, t195] H fun t196 H =>
 aUn .not t196 fun t197 =>
 zab t197 false H (fun K' => zaf 3 t12 (K' · H)) fun t199 H =>
 zab t197 false H (fun K' => zae false 1 t199 H (K' · H)) fun t200 H =>
 zab t197 false H (fun K' => zaj 1 t200 (K' · H)) fun t201 H =>
 zab t197 false H (fun K' => zaf 4 t12 (K' · H)) fun t202 H =>
 zab t197 false H (fun K' => zae false 1 t202 H (K' · H)) fun t203 H =>
 zab t197 false H (fun K' => zaj 1 t203 (K' · H)) fun t204 H =>
 zab t197 false H (fun K' => zad .neq false t201 t204 (K' · H)) fun t205 H =>
 zah t197 (.bool true) t205 fun t206 =>
 zag t206
 (K (.bool false) H)
 (zaf 3 t12 fun t207 =>
 zae false 1 t207 H fun t208 =>
 zaj 1 t208 fun t209 =>
 ztx t1 t5 t6 t7 t12 t175 t176 t177 t208 t209 (.int .i64 0) H K Kb26))
def zjb (t1 t6 t7 t258 t259 t260 : AV) : List AV := ux 1 (t1 :: ux 4 (t6 :: t7 :: ux 250 (t258 :: t259 :: t260 :: ux 88 [])))
def zDv : List Bool := zaU 54
noncomputable def zCZ : Code := zao [1, 1, 1, 1, 1, 1, 1, 1, 1, 1, 0, 1, 0, 0] zbQ
def zCP (K : Kt) : AExit → List AV → zaa → Prop := zap tP zaU [1, 1, 1, 1, 1, 1, 1, 1, 1, 1, 0, 1, 0] zbQ (zat tP zdi K)
def zn0 (t1 t6 t7 t258 t259 t260 : AV) (H : zaa) (K : Kt) : Prop := ALoop tP zCZ (zCP K) (zjb t1 t6 t7 t258 t259 t260) H
def zjc (t1 t7 t267 t268 t269 : AV) : List AV := ux 1 (t1 :: ux 5 (t7 :: ux 259 (t267 :: t268 :: t269 :: ux 79 [])))
def zDw : List Bool := zaU 60
noncomputable def zC0 : Code := zao [1, 1, 1, 1, 1, 1, 1, 1, 1, 1, 1, 0, 1, 0, 0] zbQ
def zCQ (K : Kt) : AExit → List AV → zaa → Prop := zap tP zaU [1, 1, 1, 1, 1, 1, 1, 1, 1, 1, 1, 0, 1, 0] zbQ (zat tP zdi K)
def zn1 (t1 t7 t267 t268 t269 : AV) (H : zaa) (K : Kt) : Prop := ALoop tP zC0 (zCQ K) (zjc t1 t7 t267 t268 t269) H
def zgO (t1 t276 t277 t278 : AV) : List AV := ux 1 (t1 :: ux 274 (t276 :: t277 :: t278 :: ux 70 []))
def zDx : List Bool := zaU 66
noncomputable def zC1 : Code := zao [1, 1, 1, 1, 1, 1, 1, 1, 1, 1, 1, 1, 0, 1, 0, 0] zbQ
def zCR (K : Kt) : AExit → List AV → zaa → Prop := zap tP zaU [1, 1, 1, 1, 1, 1, 1, 1, 1, 1, 1, 1, 0, 1, 0] zbQ (zat tP zdi K)
def zn2 (t1 t276 t277 t278 : AV) (H : zaa) (K : Kt) : Prop := ALoop tP zC1 (zCR K) (zgO t1 t276 t277 t278) H
def zjd (t1 t310 t311 : AV) : List AV := ux 1 (t1 :: ux 308 (t310 :: t311 :: ux 37 []))
def zDy : List Bool := zaU 72
noncomputable def zC2 : Code := zao [1, 1, 1, 1, 1, 1, 1, 1, 1, 1, 1, 1, 1, 0, 1, 0, 0] zbQ
def zCS (K : Kt) : AExit → List AV → zaa → Prop := zap tP zaU [1, 1, 1, 1, 1, 1, 1, 1, 1, 1, 1, 1, 1, 0, 1, 0] zbQ (zat tP zdi K)
def zn3 (t1 t310 t311 : AV) (H : zaa) (K : Kt) : Prop := ALoop tP zC2 (zCS K) (zjd t1 t310 t311) H
def zje (t1 t324 t325 t326 : AV) : List AV := ux 1 (t1 :: ux 322 (t324 :: t325 :: t326 :: ux 22 []))
def zDz : List Bool := zaU 78
noncomputable def zC3 : Code := zao [1, 1, 1, 1, 1, 1, 1, 1, 1, 1, 1, 1, 1, 1, 0, 1, 0, 0] zbQ
def zCT (K : Kt) : AExit → List AV → zaa → Prop := zap tP zaU [1, 1, 1, 1, 1, 1, 1, 1, 1, 1, 1, 1, 1, 1, 0, 1, 0] zbQ (zat tP zdi K)
def zn4 (t1 t324 t325 t326 : AV) (H : zaa) (K : Kt) : Prop := ALoop tP zC3 (zCT K) (zje t1 t324 t325 t326) H
def znX (t1 t324 t325 t326 : AV) (H : zaa) (K : Kt) (Kb78 : Lt) : Prop :=
 zad .lss false t326 t325 fun t327 =>
 zag t327
 (zak 7 t324 t326 fun t328 =>
 zae true 7 t328 H fun t329 =>
 zaz [(.str []), .snil, .snil, (.int .i64 0), (.int .i64 0), .snil, (.int .i64 0)] H fun t27 H =>
 zar 7 t27 t329 H fun H =>
 zaf 2 t1 fun t330 =>
 zae false 1 t330 H fun t331 =>
 zaj 1 t331 fun t332 =>
 zbu 1 [(.bool false)] t332 t332 H fun t333 H =>
 zaf 1 t27 fun t335 =>
 zae false 1 t335 H fun t336 =>
 ACalls tP zfB [t333, t336, (.bool true)] H fun t337 H =>
 zaf 2 t27 fun t339 =>
 zae false 1 t339 H fun t340 =>
 ACalls tP zfB [t333, t340, (.bool true)] H fun t341 H =>
 zae true 4 t1 H fun t342 =>
 zaf 6 t27 fun t343 =>
 zae false 1 t343 H fun t344 =>
 ACalls tP zhQ [t342, t344, t333] H fun t346 H =>
 aUn .not t346 fun t347 =>
 zag t347
 (K (.bool false) H)
 (zad .add false t326 (.int .i64 1) fun t348 =>
 Kb78 (zje t1 t324 t325 t348) H))
 (K (.bool true) H)
def znW (t1 t310 t311 : AV) (H : zaa) (K : Kt) (Kb72 : Lt) : Prop :=
 zad .lss false t311 t310 fun t312 =>
 zag t312
 (zac H (fun K' => zai true 4 t1 H (K' · H)) fun t314 =>
 zac H (fun K' => zaf 3 t1 (K' · H)) fun t315 =>
 zac H (fun K' => zai false 1 t315 H (K' · H)) fun t316 =>
 zac H (fun K' => K' t311 H) fun t317 =>
 zac H (fun K' => zak 8 t316 t317 (K' · H)) fun t318 =>
 zac H (fun K' => zai true 8 t318 H (K' · H)) fun t319 =>
 zbt .w false H (fun K' => ACalls tP zmf [t314, t319] H K') fun t320 H =>
 zac H (fun K' => aUn .not t320 (K' · H)) fun t321 =>
 zag t321
 (K (.bool false) H)
 (zad .add false t311 (.int .i64 1) fun t322 =>
 Kb72 (zjd t1 t310 t322) H))
 (zaf 1 t1 fun t323 =>
 zae false 1 t323 H fun t324 =>
 zaj 1 t324 fun t325 =>
 zn4 t1 t324 t325 (.int .i64 0) H K)
def zfU (t1 t276 t277 t278 : AV) (H : zaa) (K : Kt) (Kb66 : Lt) : Prop :=
 zad .lss false t278 t277 fun t279 =>
 zag t279
 (zak 1 t276 t278 fun t281 =>
 zae false 1 t281 H fun t282 =>
 zaf 1 t1 fun t283 =>
 zae false 1 t283 H fun t284 =>
 zak 7 t284 t278 fun t286 =>
 zaf 0 t286 fun t287 =>
 zae false 1 t287 H fun t288 =>
 zad .eql false t288 (.str []) fun t289 =>
 zab t289 true H (fun K' => K' t282 H) fun t291 H =>
 zab t289 true H (fun K' => zad .neq false t291 (.int .i64 1) (K' · H)) fun t292 H =>
 zah t289 t292 (.bool false) fun t293 =>
 zab t293 false H (fun K' => zaf 1 t1 (K' · H)) fun t295 H =>
 zab t293 false H (fun K' => zae false 1 t295 H (K' · H)) fun t296 H =>
 zab t293 false H (fun K' => K' t278 H) fun t297 H =>
 zab t293 false H (fun K' => zak 7 t296 t297 (K' · H)) fun t298 H =>
 zab t293 false H (fun K' => zaf 0 t298 (K' · H)) fun t299 H =>
 zab t293 false H (fun K' => zae false 1 t299 H (K' · H)) fun t300 H =>
 zab t293 false H (fun K' => zad .neq false t300 (.str []) (K' · H)) fun t301 H =>
 zab t293 false H (fun K' => K' t301 H) fun t302 H =>
 zab t302 true H (fun K' => K' t282 H) fun t303 H =>
 zab t302 true H (fun K' => zad .neq false t303 (.int .i64 0) (K' · H)) fun t304 H =>
 zab t293 false H (fun K' => zah t302 t304 (.bool false) (K' · H)) fun t305 H =>
 zah t293 (.bool true) t305 fun t306 =>
 zag t306
 (K (.bool false) H)
 (zad .add false t278 (.int .i64 1) fun t307 =>
 Kb66 (zgO t1 t276 t277 t307) H))
 (zaf 3 t1 fun t308 =>
 zae false 1 t308 H fun t309 =>
 zaj 1 t309 fun t310 =>
 zn3 t1 t310 (.int .i64 0) H K)
def zi4 (t1 t7 t267 t268 t269 : AV) (H : zaa) (K : Kt) (Kb60 : Lt) : Prop :=
 zad .lss false t269 t268 fun t270 =>
 zag t270
 (zak 1 t267 t269 fun t271 =>
 zae false 1 t271 H fun t272 =>
 zad .neq false t272 (.int .i64 1) fun t274 =>
 zag t274
 (K (.bool false) H)
 (zad .add false t269 (.int .i64 1) fun t275 =>
 Kb60 (zjc t1 t7 t267 t268 t275) H))
 (zaj 1 t7 fun t277 =>
 zn2 t1 t7 t277 (.int .i64 0) H K)
def zi3 (t1 t6 t7 t258 t259 t260 : AV) (H : zaa) (K : Kt) (Kb54 : Lt) : Prop :=
 zad .lss false t260 t259 fun t261 =>
 zag t261
 (zak 1 t258 t260 fun t262 =>
 zae false 1 t262 H fun t263 =>
 zad .neq false t263 (.int .i64 1) fun t265 =>
 zag t265
 (K (.bool false) H)
 (zad .add false t260 (.int .i64 1) fun t266 =>
 Kb54 (zjb t1 t6 t7 t258 t259 t266) H))
 (zaj 1 t6 fun t268 =>
 zn1 t1 t7 t6 t268 (.int .i64 0) H K)
def znT (t1 t5 t6 t7 t175 t176 t177 : AV) (H : zaa) (K : Kt) (Kb26 : Lt) : Prop :=
 zad .lss false t177 t176 fun t178 =>
 zag t178
 (zak 8 t175 t177 fun t180 =>
 zae true 8 t180 H fun t181 =>
 zaz [(.int .i64 0), (.int .i64 0), .snil, .snil, .snil, (.int .i64 0), (.int .i64 0), .snil] H fun t12 H =>
 zar 8 t12 t181 H fun H =>
 zaf 4 t12 fun t182 =>
 zae false 1 t182 H fun t183 =>
 zaj 1 t183 fun t184 =>
 ztw t1 t5 t6 t7 t177 t12 t175 t176 t177 t183 t184 (.int .i64 0) H K Kb26)
 (zaj 1 t5 fun t259 =>
 zn0 t1 t6 t7 t5 t259 (.int .i64 0) H K)
noncomputable def zDe : Code := zao [1, 1, 1, 1, 1, 1, 1, 1] zbQ
def zDd (K : Kt) : AExit → List AV → zaa → Prop := zap tP zaU [1, 1, 1, 1, 1, 1, 1, 1] zbQ (zat tP zdi K)
def ztt (t1 t5 t6 t7 t8 : AV) (H : zaa) (K : Kt) : Prop := AWp tP zDe (zDd K) (ux 1 (t1 :: ux 3 (t5 :: t6 :: t7 :: t8 :: ux 340 []))) H
def ztu (t1 t5 t6 t7 t8 : AV) (H : zaa) (K : Kt) : Prop :=
 ACalls tP zfA [t8] H fun t173 H =>
 zag t173
 (K (.bool false) H)
 (zaf 3 t1 fun t174 =>
 zae false 1 t174 H fun t175 =>
 zaj 1 t175 fun t176 =>
 znZ t1 t5 t6 t7 t175 t176 (.int .i64 0) H K)
def zdD (t1 t5 t6 t7 t8 t77 t78 t79 : AV) (H : zaa) (K : Kt) (Kb14 : Lt) : Prop :=
 zad .lss false t79 t78 fun t80 =>
 zag t80
 (zak 7 t77 t79 fun t82 =>
 zae true 7 t82 H fun t83 =>
 zaz [(.str []), .snil, .snil, (.int .i64 0), (.int .i64 0), .snil, (.int .i64 0)] H fun t10 H =>
 zar 7 t10 t83 H fun H =>
 zaf 0 t10 fun t84 =>
 zae false 1 t84 H fun t85 =>
 zad .eql false t85 (.str []) fun t86 =>
 zab t86 true H (fun K' => K' t79 H) fun t88 H =>
 zab t86 true H (fun K' => zad .add false t88 (.int .i64 1) (K' · H)) fun t89 H =>
 zab t86 true H (fun K' => zaf 1 t1 (K' · H)) fun t90 H =>
 zab t86 true H (fun K' => zae false 1 t90 H (K' · H)) fun t91 H =>
 zab t86 true H (fun K' => zaj 1 t91 (K' · H)) fun t92 H =>
 zab t86 true H (fun K' => zad .lss false t89 t92 (K' · H)) fun t93 H =>
 zah t86 t93 (.bool false) fun t94 =>
 zab t94 true H (fun K' => zaf 1 t1 (K' · H)) fun t96 H =>
 zab t94 true H (fun K' => zae false 1 t96 H (K' · H)) fun t97 H =>
 zab t94 true H (fun K' => K' t79 H) fun t98 H =>
 zab t94 true H (fun K' => zad .add false t98 (.int .i64 1) (K' · H)) fun t99 H =>
 zab t94 true H (fun K' => zak 7 t97 t99 (K' · H)) fun t100 H =>
 zab t94 true H (fun K' => zaf 0 t100 (K' · H)) fun t101 H =>
 zab t94 true H (fun K' => zae false 1 t101 H (K' · H)) fun t102 H =>
 zab t94 true H (fun K' => zad .neq false t102 (.str []) (K' · H)) fun t103 H =>
 zah t94 t103 (.bool false) fun t104 =>
 zab t104 false H (fun K' => zaf 0 t10 (K' · H)) fun t106 H =>
 zab t104 false H (fun K' => zae false 1 t106 H (K' · H)) fun t107 H =>
 zab t104 false H (fun K' => zad .neq false t107 (.str []) (K' · H)) fun t108 H =>
 zab t104 false H (fun K' => K' t108 H) fun t109 H =>
 zab t109 true H (fun K' => zaf 2 t10 (K' · H)) fun t110 H =>
 zab t109 true H (fun K' => zae false 1 t110 H (K' · H)) fun t111 H =>
 zab t109 true H (fun K' => zaj 1 t111 (K' · H)) fun t112 H =>
 zab t109 true H (fun K' => zad .gtr false t112 (.int .i64 0) (K' · H)) fun t113 H =>
 zab t104 false H (fun K' => zah t109 t113 (.bool false) (K' · H)) fun t114 H =>
 zah t104 (.bool true) t114 fun t115 =>
 zab t115 false H (fun K' => zaf 1 t10 (K' · H)) fun t117 H =>
 zab t115 false H (fun K' => zae false 1 t117 H (K' · H)) fun t118 H =>
 zab t115 false H (fun K' => zaj 1 t118 (K' · H)) fun t119 H =>
 zab t115 false H (fun K' => zad .gtr false t119 (.int .i64 6) (K' · H)) fun t120 H =>
 zah t115 (.bool true) t120 fun t121 =>
 zab t121 false H (fun K' => zaf 0 t1 (K' · H)) fun t123 H =>
 zab t121 false H (fun K' => zae false 1 t123 H (K' · H)) fun t124 H =>
 zab t121 false H (fun K' => zaf 3 t10 (K' · H)) fun t125 H =>
 zab t121 false H (fun K' => zae true 3 t125 H (K' · H)) fun t126 H =>
 zab t121 false H (fun K' => ACalls tP zfz [t124, t126, (.int .i64 0)] H K') fun t127 H =>
 zab t121 false H (fun K' => aUn .not t127 (K' · H)) fun t128 H =>
 zah t121 (.bool true) t128 fun t129 =>
 zag t129
 (K (.bool false) H)
 (zaf 0 t10 fun t130 =>
 zae false 1 t130 H fun t131 =>
 zad .neq false t131 (.str []) fun t132 =>
 zag t132
 (zaf 0 t10 fun t134 =>
 zae false 1 t134 H fun t135 =>
 zay 1 [(.str [])] 1 [(0, t135)] fun t136 =>
 zaH zbC 1 16 t8 t136 H fun t137 H =>
 zjf t1 t5 t6 t7 t137 t10 t77 t78 t79 H K Kb14)
 (zjf t1 t5 t6 t7 t8 t10 t77 t78 t79 H K Kb14)))
 (ztt t1 t5 t6 t7 t8 H K)
noncomputable def zC8 : Code := zao [1, 1, 1, 1, 1] zbQ
def zC7 (K : Kt) : AExit → List AV → zaa → Prop := zap tP zaU [1, 1, 1, 1, 1] zbQ (zat tP zdi K)
def ztq (t1 t5 t6 : AV) (H : zaa) (K : Kt) : Prop := AWp tP zC8 (zC7 K) (ux 1 (t1 :: ux 3 (t5 :: t6 :: ux 342 []))) H
def ztr (t1 t5 t6 : AV) (H : zaa) (K : Kt) : Prop :=
 zaf 1 t1 fun t72 =>
 zae false 1 t72 H fun t73 =>
 zaj 1 t73 fun t74 =>
 zbu 8 [(.int .i64 0)] t74 t74 H fun t75 H =>
 zaf 1 t1 fun t76 =>
 zae false 1 t76 H fun t77 =>
 zaj 1 t77 fun t78 =>
 zjh t1 t5 t6 t75 .snil t77 t78 (.int .i64 0) H K
def znV (t1 t52 t53 t54 : AV) (H : zaa) (K : Kt) (Kb4 : Lt) : Prop :=
 zad .lss false t54 t53 fun t55 =>
 zag t55
 (zak 3 t52 t54 fun t56 =>
 zae true 3 t56 H fun t57 =>
 zaz [(.int .i64 0), (.int .i64 0), .snil] H fun t4 H =>
 zar 3 t4 t57 H fun H =>
 zaf 0 t1 fun t58 =>
 zae false 1 t58 H fun t59 =>
 zae true 3 t4 H fun t60 =>
 ACalls tP zfz [t59, t60, (.int .i64 0)] H fun t61 H =>
 aUn .not t61 fun t62 =>
 zag t62
 (K (.bool false) H)
 (zad .add false t54 (.int .i64 1) fun t63 =>
 Kb4 (zi9 t1 t52 t53 t63) H))
 (zaf 2 t1 fun t64 =>
 zae false 1 t64 H fun t65 =>
 zaj 1 t65 fun t66 =>
 zbu 8 [(.int .i64 0)] t66 t66 H fun t67 H =>
 zaf 3 t1 fun t68 =>
 zae false 1 t68 H fun t69 =>
 zaj 1 t69 fun t70 =>
 zbu 8 [(.int .i64 0)] t70 t70 H fun t71 H =>
 ztq t1 t67 t71 H K)
noncomputable def zC5 : Code := zao [1, 1] zbQ
def zC4 (K : Kt) : AExit → List AV → zaa → Prop := zap tP zaU [1, 1] zbQ (zat tP zdi K)
def zto (t1 : AV) (H : zaa) (K : Kt) : Prop := AWp tP zC5 (zC4 K) (ux 1 (t1 :: ux 347 [])) H
def ztp (t1 : AV) (H : zaa) (K : Kt) : Prop :=
 zaf 2 t1 fun t51 =>
 zae false 1 t51 H fun t52 =>
 zaj 1 t52 fun t53 =>
 zty t1 t52 t53 (.int .i64 0) H K
def ztg (t0 : AV) (H : zaa) (K : Kt) : Prop :=
 zaF t0 H fun t1 H =>
 zaf 0 t1 fun t29 =>
 zae false 1 t29 H fun t30 =>
 ACalls tP zme [t30] H fun t31 H =>
 aUn .not t31 fun t32 =>
 zab t32 false H (fun K' => zaf 1 t1 (K' · H)) fun t34 H =>
 zab t32 false H (fun K' => zae false 1 t34 H (K' · H)) fun t35 H =>
 zab t32 false H (fun K' => zaj 1 t35 (K' · H)) fun t36 H =>
 zab t32 false H (fun K' => zad .gtr false t36 (.int .i64 64) (K' · H)) fun t37 H =>
 zah t32 (.bool true) t37 fun t38 =>
 zab t38 false H (fun K' => zaf 3 t1 (K' · H)) fun t40 H =>
 zab t38 false H (fun K' => zae false 1 t40 H (K' · H)) fun t41 H =>
 zab t38 false H (fun K' => zaj 1 t41 (K' · H)) fun t42 H =>
 zab t38 false H (fun K' => zad .gtr false t42 (.int .i64 3000) (K' · H)) fun t43 H =>
 zah t38 (.bool true) t43 fun t44 =>
 zab t44 false H (fun K' => zaf 2 t1 (K' · H)) fun t46 H =>
 zab t44 false H (fun K' => zae false 1 t46 H (K' · H)) fun t47 H =>
 zab t44 false H (fun K' => zaj 1 t47 (K' · H)) fun t48 H =>
 zab t44 false H (fun K' => zad .gtr false t48 (.int .i64 3000) (K' · H)) fun t49 H =>
 zah t44 (.bool true) t49 fun t50 =>
 zag t50
 (K (.bool false) H)
 (zto t1 H K)
theorem zDc {t1 t5 t6 t7 t8 t10 t77 t78 t79 : AV} {H : zaa} {K : Kt} {Kb14 : Lt} (h : HSc H → zts t1 t5 t6 t7 t8 t10 t77 t78 t79 H K Kb14) : zjf t1 t5 t6 t7 t8 t10 t77 t78 t79 H K Kb14 :=
 fun B w G a hH hF hd => zbA (M := zaU) _ _ _ _ (Eq.mpr (by kernel_rfl) (h hH.sc)) B w G a hH hF hd
theorem zDl {t1 t5 t6 t7 t12 t175 t176 t177 t220 t221 t222 : AV} {H : zaa} {K : Kt} {Kb26 : Lt} (Inv : Nat → AV → zaa → Prop) (n : Nat) (h0 : HSc H → Inv n t222 H)
  (round : Rd1 (fun t222 => zja t1 t5 t6 t7 t12 t175 t176 t177 t220 t221 t222) (fun t222 => fun H Kb43 => zeu t1 t5 t6 t7 t12 t175 t176 t177 t220 t221 t222 H K Kb26 Kb43) H Inv) : ztz t1 t5 t6 t7 t12 t175 t176 t177 t220 t221 t222 H K Kb26 :=
 lp1 (M := zaU) zDu t222 (by kernel_rfl) Inv n h0 round
theorem zDj {t1 t5 t6 t7 t12 t175 t176 t177 t208 t209 t210 : AV} {H : zaa} {K : Kt} {Kb26 : Lt} (Inv : Nat → AV → zaa → Prop) (n : Nat) (h0 : HSc H → Inv n t210 H)
  (round : Rd1 (fun t210 => zi8 t1 t5 t6 t7 t12 t175 t176 t177 t208 t209 t210) (fun t210 => fun H Kb37 => znU t1 t5 t6 t7 t12 t175 t176 t177 t208 t209 t210 H K Kb26 Kb37) H Inv) : ztx t1 t5 t6 t7 t12 t175 t176 t177 t208 t209 t210 H K Kb26 :=
 lp1 (M := zaU) zDs t210 (by kernel_rfl) Inv n h0 round
theorem zDi {t1 t5 t6 t7 t11 t12 t175 t176 t177 t183 t184 t185 : AV} {H : zaa} {K : Kt} {Kb26 : Lt} (Inv : Nat → AV → zaa → Prop) (n : Nat) (h0 : HSc H → Inv n t185 H)
  (round : Rd1 (fun t185 => zi7 t1 t5 t6 t7 t11 t12 t175 t176 t177 t183 t184 t185) (fun t185 => fun H Kb29 => zi2 t1 t5 t6 t7 t11 t12 t175 t176 t177 t183 t184 t185 H K Kb26 Kb29) H Inv) : ztw t1 t5 t6 t7 t11 t12 t175 t176 t177 t183 t184 t185 H K Kb26 :=
 lp1 (M := zaU) zDr t185 (by kernel_rfl) Inv n h0 round
theorem zDq {t1 t324 t325 t326 : AV} {H : zaa} {K : Kt} (Inv : Nat → AV → zaa → Prop) (n : Nat) (h0 : HSc H → Inv n t326 H)
  (round : Rd1 (fun t326 => zje t1 t324 t325 t326) (fun t326 => fun H Kb78 => znX t1 t324 t325 t326 H K Kb78) H Inv) : zn4 t1 t324 t325 t326 H K :=
 lp1 (M := zaU) zDz t326 (by kernel_rfl) Inv n h0 round
theorem zDp {t1 t310 t311 : AV} {H : zaa} {K : Kt} (Inv : Nat → AV → zaa → Prop) (n : Nat) (h0 : HSc H → Inv n t311 H)
  (round : Rd1 (fun t311 => zjd t1 t310 t311) (fun t311 => fun H Kb72 => znW t1 t310 t311 H K Kb72) H Inv) : zn3 t1 t310 t311 H K :=
 lp1 (M := zaU) zDy t311 (by kernel_rfl) Inv n h0 round
theorem zDo {t1 t276 t277 t278 : AV} {H : zaa} {K : Kt} (Inv : Nat → AV → zaa → Prop) (n : Nat) (h0 : HSc H → Inv n t278 H)
  (round : Rd1 (fun t278 => zgO t1 t276 t277 t278) (fun t278 => fun H Kb66 => zfU t1 t276 t277 t278 H K Kb66) H Inv) : zn2 t1 t276 t277 t278 H K :=
 lp1 (M := zaU) zDx t278 (by kernel_rfl) Inv n h0 round
theorem zDn {t1 t7 t267 t268 t269 : AV} {H : zaa} {K : Kt} (Inv : Nat → AV → zaa → Prop) (n : Nat) (h0 : HSc H → Inv n t269 H)
  (round : Rd1 (fun t269 => zjc t1 t7 t267 t268 t269) (fun t269 => fun H Kb60 => zi4 t1 t7 t267 t268 t269 H K Kb60) H Inv) : zn1 t1 t7 t267 t268 t269 H K :=
 lp1 (M := zaU) zDw t269 (by kernel_rfl) Inv n h0 round
theorem zDm {t1 t6 t7 t258 t259 t260 : AV} {H : zaa} {K : Kt} (Inv : Nat → AV → zaa → Prop) (n : Nat) (h0 : HSc H → Inv n t260 H)
  (round : Rd1 (fun t260 => zjb t1 t6 t7 t258 t259 t260) (fun t260 => fun H Kb54 => zi3 t1 t6 t7 t258 t259 t260 H K Kb54) H Inv) : zn0 t1 t6 t7 t258 t259 t260 H K :=
 lp1 (M := zaU) zDv t260 (by kernel_rfl) Inv n h0 round
theorem zDh {t1 t5 t6 t7 t175 t176 t177 : AV} {H : zaa} {K : Kt} (Inv : Nat → AV → zaa → Prop) (n : Nat) (h0 : HSc H → Inv n t177 H)
  (round : Rd1 (fun t177 => zi6 t1 t5 t6 t7 t175 t176 t177) (fun t177 => fun H Kb26 => znT t1 t5 t6 t7 t175 t176 t177 H K Kb26) H Inv) : znZ t1 t5 t6 t7 t175 t176 t177 H K :=
 lp1 (M := zaU) zji t177 (by kernel_rfl) Inv n h0 round
theorem zDf {t1 t5 t6 t7 t8 : AV} {H : zaa} {K : Kt} (h : HSc H → ztu t1 t5 t6 t7 t8 H K) : ztt t1 t5 t6 t7 t8 H K :=
 fun B w G a hH hF hd => zbA (M := zaU) _ _ _ _ (Eq.mpr (by kernel_rfl) (h hH.sc)) B w G a hH hF hd
theorem zDg {t1 t5 t6 t7 t8 t77 t78 t79 : AV} {H : zaa} {K : Kt} (Inv : Nat → AV → AV → zaa → Prop) (n : Nat) (h0 : HSc H → Inv n t8 t79 H)
  (round : Rd2 (fun t8 => fun t79 => zi5 t1 t5 t6 t7 t8 t77 t78 t79) (fun t8 => fun t79 => fun H Kb14 => zdD t1 t5 t6 t7 t8 t77 t78 t79 H K Kb14) H Inv) : zjh t1 t5 t6 t7 t8 t77 t78 t79 H K :=
 lp2 (M := zaU) ztA t8 t79 (by kernel_rfl) Inv n h0 round
theorem zC9 {t1 t5 t6 : AV} {H : zaa} {K : Kt} (h : HSc H → ztr t1 t5 t6 H K) : ztq t1 t5 t6 H K :=
 fun B w G a hH hF hd => zbA (M := zaU) _ _ _ _ (Eq.mpr (by kernel_rfl) (h hH.sc)) B w G a hH hF hd
theorem zDk {t1 t52 t53 t54 : AV} {H : zaa} {K : Kt} (Inv : Nat → AV → zaa → Prop) (n : Nat) (h0 : HSc H → Inv n t54 H)
  (round : Rd1 (fun t54 => zi9 t1 t52 t53 t54) (fun t54 => fun H Kb4 => znV t1 t52 t53 t54 H K Kb4) H Inv) : zty t1 t52 t53 t54 H K :=
 lp1 (M := zaU) zDt t54 (by kernel_rfl) Inv n h0 round
theorem zC6 {t1 : AV} {H : zaa} {K : Kt} (h : HSc H → ztp t1 H K) : zto t1 H K :=
 fun B w G a hH hF hd => zbA (M := zaU) _ _ _ _ (Eq.mpr (by kernel_rfl) (h hH.sc)) B w G a hH hF hd
theorem zDA {t0 : AV} {H : zaa} {K : Kt} (h : HSc H → ztg t0 H K) : ACalls tP zhL [t0] H K :=
 zaw (M := zaU) Try.func14 (c := zbQ) (by kernel_rfl) (fun hs => Eq.mpr (by kernel_rfl) (h hs))
def zdI : Nat → List Bool
 | 5 => rl false [0,1,2,3,115]
 | 12 => rl false [0,1,2,5,113]
 | 18 => rl false [0,1,2,5,85,3,25]
 | _ => []
noncomputable def zoC : Code := Try.f48.body.getD .skip
noncomputable def zFj : List ResultVar := Try.f48.results.toList
def zjO (t0 t3 t4 t5 : AV) : List AV := t0 :: ux 2 (t3 :: t4 :: t5 :: ux 115 [])
def zuu : List Bool := zdI 5
noncomputable def zoE : Code := zao [1, 1, 1, 0, 1, 0, 0] zoC
def zup (K : Kt) : AExit → List AV → zaa → Prop := zap tP zdI [1, 1, 1, 0, 1, 0] zoC (zat tP zFj K)
def zjQ (t0 t3 t4 t5 : AV) (H : zaa) (K : Kt) : Prop := ALoop tP zoE (zup K) (zjO t0 t3 t4 t5) H
def zjM (t0 t3 t4 t5 t6 t7 : AV) : List AV := t0 :: ux 2 (t3 :: t4 :: t5 :: t6 :: t7 :: ux 113 [])
def zut : List Bool := zdI 12
noncomputable def zoD : Code := zao [1, 0, 0, 1, 1, 1, 1, 0, 0] zoE
def zuo (K : Kt) (Kb5 : Lt) : AExit → List AV → zaa → Prop := zap tP zdI [1, 0, 0, 1, 1, 1, 1, 0] zoE (zbK zuu Kb5 (zup K))
def zur (t0 t3 t4 t5 t6 t7 : AV) (H : zaa) (K : Kt) (Kb5 : Lt) : Prop := ALoop tP zoD (zuo K Kb5) (zjM t0 t3 t4 t5 t6 t7) H
def zjN (t0 t3 t4 t5 t6 t7 t93 t94 t95 : AV) : List AV := t0 :: ux 2 (t3 :: t4 :: t5 :: t6 :: t7 :: ux 85 (t93 :: t94 :: t95 :: ux 25 []))
def zFh : List Bool := zdI 18
noncomputable def zFd : Code := zao [1, 0, 0, 1, 1, 1, 0, 0] zoD
def zFc (K : Kt) (Kb5 : Lt) (Kb12 : Lt) : AExit → List AV → zaa → Prop := zap tP zdI [1, 0, 0, 1, 1, 1, 0] zoD (zbK zut Kb12 (zuo K Kb5))
def zus (t0 t3 t4 t5 t6 t7 t93 t94 t95 : AV) (H : zaa) (K : Kt) (Kb5 : Lt) (Kb12 : Lt) : Prop := ALoop tP zFd (zFc K Kb5 Kb12) (zjN t0 t3 t4 t5 t6 t7 t93 t94 t95) H
def zuq (t0 t3 t4 t5 t6 t7 t93 t94 t95 : AV) (H : zaa) (K : Kt) (Kb5 : Lt) (Kb12 : Lt) (Kb18 : Lt) : Prop :=
 zad .add false t95 (.int .i64 1) fun t112 =>
 Kb18 (zjN t0 t3 t4 t5 t6 t7 t93 t94 t112) H
def zjP (t0 t3 t4 t5 t6 t7 t93 t94 t95 : AV) (H : zaa) (K : Kt) (Kb5 : Lt) (Kb12 : Lt) (Kb18 : Lt) : Prop :=
 zuq t0 t3 t4 t5 t6 t7 t93 t94 t95 H K Kb5 Kb12 Kb18
def zoB (t0 t3 t4 t5 t6 t7 t93 t94 t95 : AV) (H : zaa) (K : Kt) (Kb5 : Lt) (Kb12 : Lt) (Kb18 : Lt) : Prop :=
 zad .lss false t95 t94 fun t96 =>
 zag t96
 (zak 3 t93 t95 fun t97 =>
 zae true 3 t97 H fun t98 =>
 zaz [(.int .i64 0), (.int .i64 0), .snil] H fun t9 H =>
 zar 3 t9 t98 H fun H =>
 zae true 3 t9 H fun t99 =>
 zaf 1 t6 fun t101 =>
 zae false 1 t101 H fun t102 =>
 ACalls tP zml [t99, t5, t102] H fun t103 H =>
 zag t103
 (zjP t0 t3 t4 t5 t6 t7 t93 t94 t95 H K Kb5 Kb12 Kb18)
 (zac H (fun K' => K' t0 H) fun t104 =>
 zac H (fun K' => K' t5 H) fun t105 =>
 zac H (fun K' => zaY 1 3 t104 none (some t105) (K' · H)) fun t106 =>
 zac H (fun K' => zai true 3 t9 H (K' · H)) fun t107 =>
 zac H (fun K' => zaf 1 t6 (K' · H)) fun t108 =>
 zac H (fun K' => zai false 1 t108 H (K' · H)) fun t109 =>
 zau H (fun H K' => ACalls tP zfz [t106, t107, t109] H K') fun t110 =>
 zac H (fun K' => aUn .not t110 (K' · H)) fun t111 =>
 zag t111
 (K (.bool false) H)
 (zjP t0 t3 t4 t5 t6 t7 t93 t94 t95 H K Kb5 Kb12 Kb18)))
 (zad .add false t7 (.int .i64 1) fun t60 =>
 Kb12 (zjM t0 t3 t4 t5 t6 t60) H)
def zoA (t0 t3 t4 t5 t6 t7 : AV) (H : zaa) (K : Kt) (Kb5 : Lt) (Kb12 : Lt) : Prop :=
 zaf 2 t6 fun t55 =>
 zae false 1 t55 H fun t56 =>
 zaj 1 t56 fun t57 =>
 zad .lss false t7 t57 fun t58 =>
 zag t58
 (zaf 2 t6 fun t61 =>
 zae false 1 t61 H fun t62 =>
 zak 2 t62 t7 fun t64 =>
 zaf 0 t64 fun t65 =>
 zae false 1 t65 H fun t66 =>
 ACalls tP zhU [t66] H fun t67 H =>
 aUn .not t67 fun t68 =>
 zab t68 false H (fun K' => zaf 2 t6 (K' · H)) fun t70 H =>
 zab t68 false H (fun K' => zae false 1 t70 H (K' · H)) fun t71 H =>
 zab t68 false H (fun K' => K' t7 H) fun t72 H =>
 zab t68 false H (fun K' => zak 2 t71 t72 (K' · H)) fun t73 H =>
 zab t68 false H (fun K' => zaf 1 t73 (K' · H)) fun t74 H =>
 zab t68 false H (fun K' => zae false 1 t74 H (K' · H)) fun t75 H =>
 zab t68 false H (fun K' => zaj 1 t75 (K' · H)) fun t76 H =>
 zab t68 false H (fun K' => zad .gtr false t76 (.int .i64 6) (K' · H)) fun t77 H =>
 zah t68 (.bool true) t77 fun t78 =>
 zag t78
 (K (.bool false) H)
 (zaf 2 t6 fun t80 =>
 zae false 1 t80 H fun t81 =>
 zak 2 t81 t7 fun t83 =>
 zaf 0 t83 fun t84 =>
 zae false 1 t84 H fun t85 =>
 zay 1 [(.str [])] 1 [(0, t85)] fun t86 =>
 zaH zbC 1 16 t4 t86 H fun t87 H =>
 zaf 2 t6 fun t88 =>
 zae false 1 t88 H fun t89 =>
 zak 2 t89 t7 fun t91 =>
 zaf 1 t91 fun t92 =>
 zae false 1 t92 H fun t93 =>
 zaj 1 t93 fun t94 =>
 zus t0 t3 t87 t5 t6 t7 t93 t94 (.int .i64 0) H K Kb5 Kb12))
 (zad .add false t5 (.int .i64 1) fun t18 =>
 Kb5 (zjO t0 t3 t4 t18) H)
def ze7 (t0 t3 t4 t5 : AV) (H : zaa) (K : Kt) (Kb5 : Lt) : Prop :=
 zaj 1 t0 fun t15 =>
 zad .lss false t5 t15 fun t16 =>
 zag t16
 (zak 3 t0 t5 fun t21 =>
 zae true 3 t21 H fun t22 =>
 zaz [(.str []), (.int .i64 0), .snil] H fun t6 H =>
 zar 3 t6 t22 H fun H =>
 zaf 1 t6 fun t23 =>
 zae false 1 t23 H fun t24 =>
 zad .lss false t24 (.int .i64 0) fun t25 =>
 zab t25 false H (fun K' => zaf 1 t6 (K' · H)) fun t27 H =>
 zab t25 false H (fun K' => zae false 1 t27 H (K' · H)) fun t28 H =>
 zab t25 false H (fun K' => zad .gtr false t28 (.int .i64 6) (K' · H)) fun t29 H =>
 zah t25 (.bool true) t29 fun t30 =>
 zab t30 false H (fun K' => zaf 2 t6 (K' · H)) fun t32 H =>
 zab t30 false H (fun K' => zae false 1 t32 H (K' · H)) fun t33 H =>
 zab t30 false H (fun K' => zaj 1 t33 (K' · H)) fun t34 H =>
 zab t30 false H (fun K' => zad .lss false t34 (.int .i64 1) (K' · H)) fun t35 H =>
 zah t30 (.bool true) t35 fun t36 =>
 zab t36 false H (fun K' => zaf 2 t6 (K' · H)) fun t38 H =>
 zab t36 false H (fun K' => zae false 1 t38 H (K' · H)) fun t39 H =>
 zab t36 false H (fun K' => zaj 1 t39 (K' · H)) fun t40 H =>
 zab t36 false H (fun K' => zad .gtr false t40 (.int .i64 8) (K' · H)) fun t41 H =>
 zah t36 (.bool true) t41 fun t42 =>
 zab t42 false H (fun K' => zaf 0 t6 (K' · H)) fun t44 H =>
 zab t42 false H (fun K' => zae false 1 t44 H (K' · H)) fun t45 H =>
 zab t42 false H (fun K' => ACalls tP zhU [t45] H K') fun t46 H =>
 zab t42 false H (fun K' => aUn .not t46 (K' · H)) fun t47 H =>
 zah t42 (.bool true) t47 fun t48 =>
 zag t48
 (K (.bool false) H)
 (zaf 0 t6 fun t50 =>
 zae false 1 t50 H fun t51 =>
 zay 1 [(.str [])] 1 [(0, t51)] fun t52 =>
 zaH zbC 1 16 t3 t52 H fun t53 H =>
 zur t0 t53 t4 t5 t6 (.int .i64 0) H K Kb5))
 (ACalls tP zfA [t3] H fun t114 H =>
 aUn .not t114 fun t115 =>
 zab t115 true H (fun K' => K' t4 H) fun t117 H =>
 zab t115 true H (fun K' => ACalls tP zfA [t117] H K') fun t118 H =>
 zab t115 true H (fun K' => aUn .not t118 (K' · H)) fun t119 H =>
 zah t115 t119 (.bool false) fun t120 =>
 K t120 H)
def zoz (t0 : AV) (H : zaa) (K : Kt) : Prop :=
 zaj 1 t0 fun t11 =>
 zad .gtr false t11 (.int .i64 12) fun t12 =>
 zag t12
 (K (.bool false) H)
 (zjQ t0 .snil .snil (.int .i64 0) H K)
theorem zFf {t0 t3 t4 t5 t6 t7 t93 t94 t95 : AV} {H : zaa} {K : Kt} {Kb5 : Lt} {Kb12 : Lt} (Inv : Nat → AV → zaa → Prop) (n : Nat) (h0 : HSc H → Inv n t95 H)
  (round : Rd1 (fun t95 => zjN t0 t3 t4 t5 t6 t7 t93 t94 t95) (fun t95 => fun H Kb18 => zoB t0 t3 t4 t5 t6 t7 t93 t94 t95 H K Kb5 Kb12 Kb18) H Inv) : zus t0 t3 t4 t5 t6 t7 t93 t94 t95 H K Kb5 Kb12 :=
 lp1 (M := zdI) zFh t95 (by kernel_rfl) Inv n h0 round
theorem zFe {t0 t3 t4 t5 t6 t7 : AV} {H : zaa} {K : Kt} {Kb5 : Lt} (Inv : Nat → AV → AV → zaa → Prop) (n : Nat) (h0 : HSc H → Inv n t4 t7 H)
  (round : Rd2 (fun t4 => fun t7 => zjM t0 t3 t4 t5 t6 t7) (fun t4 => fun t7 => fun H Kb12 => zoA t0 t3 t4 t5 t6 t7 H K Kb5 Kb12) H Inv) : zur t0 t3 t4 t5 t6 t7 H K Kb5 :=
 lp2 (M := zdI) zut t4 t7 (by kernel_rfl) Inv n h0 round
theorem zFg {t0 t3 t4 t5 : AV} {H : zaa} {K : Kt} (Inv : Nat → AV → AV → AV → zaa → Prop) (n : Nat) (h0 : HSc H → Inv n t3 t4 t5 H)
  (round : Rd3 (fun t3 => fun t4 => fun t5 => zjO t0 t3 t4 t5) (fun t3 => fun t4 => fun t5 => fun H Kb5 => ze7 t0 t3 t4 t5 H K Kb5) H Inv) : zjQ t0 t3 t4 t5 H K :=
 lp3 (M := zdI) zuu t3 t4 t5 (by kernel_rfl) Inv n h0 round
theorem zFi {t0 : AV} {H : zaa} {K : Kt} (h : HSc H → zoz t0 H K) : ACalls tP zme [t0] H K :=
 zaw (M := zdI) Try.func48 (c := zoC) (by kernel_rfl) (fun hs => Eq.mpr (by kernel_rfl) (h hs))
def zjR : Nat → List Bool
 | 2 => rl false [0,1,6,3,18]
 | _ => []
noncomputable def zoF : Code := Try.f50.body.getD .skip
noncomputable def zFt : List ResultVar := Try.f50.results.toList
def zjS (t0 t7 t8 t9 : AV) : List AV := t0 :: ux 6 (t7 :: t8 :: t9 :: ux 18 [])
def zFr : List Bool := zjR 2
noncomputable def zFp : Code := zao [1, 0, 1, 0, 0] zoF
def zFo (K : Kt) : AExit → List AV → zaa → Prop := zap tP zjR [1, 0, 1, 0] zoF (zat tP zFt K)
def zux (t0 t7 t8 t9 : AV) (H : zaa) (K : Kt) : Prop := ALoop tP zFp (zFo K) (zjS t0 t7 t8 t9) H
def zgY (t0 t7 t8 t9 : AV) (H : zaa) (K : Kt) (Kb2 : Lt) : Prop :=
 zad .lss false t9 t8 fun t10 =>
 zag t10
 (zak 1 t7 t9 fun t11 =>
 zae false 1 t11 H fun t12 =>
 zad .lss false t12 (.int .i64 0) fun t14 =>
 zab t14 false H (fun K' => K' t12 H) fun t16 H =>
 zab t14 false H (fun K' => K' t0 H) fun t17 H =>
 zab t14 false H (fun K' => zaj 1 t17 (K' · H)) fun t18 H =>
 zab t14 false H (fun K' => zad .geq false t16 t18 (K' · H)) fun t19 H =>
 zah t14 (.bool true) t19 fun t20 =>
 zag t20
 (K (.bool false) H)
 (zak 1 t0 t12 fun t23 =>
 zae false 1 t23 H fun t24 =>
 zad .add false t24 (.int .i64 1) fun t25 =>
 zak 1 t0 t12 fun t26 =>
 zar 1 t26 t25 H fun H =>
 zad .add false t9 (.int .i64 1) fun t27 =>
 Kb2 (zjS t0 t7 t8 t27) H))
 (K (.bool true) H)
def zuw (t0 t1 : AV) (H : zaa) (K : Kt) : Prop :=
 zaj 1 t1 fun t8 =>
 zux t0 t1 t8 (.int .i64 0) H K
theorem zFq {t0 t7 t8 t9 : AV} {H : zaa} {K : Kt} (Inv : Nat → AV → zaa → Prop) (n : Nat) (h0 : HSc H → Inv n t9 H)
  (round : Rd1 (fun t9 => zjS t0 t7 t8 t9) (fun t9 => fun H Kb2 => zgY t0 t7 t8 t9 H K Kb2) H Inv) : zux t0 t7 t8 t9 H K :=
 lp1 (M := zjR) zFr t9 (by kernel_rfl) Inv n h0 round
theorem zFs {t0 t1 : AV} {H : zaa} {K : Kt} (h : HSc H → zuw t0 t1 H K) : ACalls tP zeQ [t0, t1] H K :=
 zaw (M := zjR) Try.func50 (c := zoF) (by kernel_rfl) (fun hs => Eq.mpr (by kernel_rfl) (h hs))
def ze8 : Nat → List Bool
 | 2 => rl false [0,1,2,1,21]
 | 5 => rl false [0,1,2,2,20]
 | _ => []
noncomputable def zoK : Code := Try.f52.body.getD .skip
noncomputable def zFG : List ResultVar := Try.f52.results.toList
def zjV (t0 t3 : AV) : List AV := t0 :: ux 2 (t3 :: ux 21 [])
def zuE : List Bool := ze8 2
noncomputable def zoL : Code := zao [1, 0, 1, 0, 0] zoK
def zuB (K : Kt) : AExit → List AV → zaa → Prop := zap tP ze8 [1, 0, 1, 0] zoK (zat tP zFG K)
def zuC (t0 t3 : AV) (H : zaa) (K : Kt) : Prop := ALoop tP zoL (zuB K) (zjV t0 t3) H
def zjW (t0 t3 t4 : AV) : List AV := t0 :: ux 2 (t3 :: t4 :: ux 20 [])
def zFE : List Bool := ze8 5
noncomputable def zFB : Code := zao [1, 0, 0, 1, 0, 0] zoL
def zFA (K : Kt) (Kb2 : Lt) : AExit → List AV → zaa → Prop := zap tP ze8 [1, 0, 0, 1, 0] zoL (zbK zuE Kb2 (zuB K))
def zuD (t0 t3 t4 : AV) (H : zaa) (K : Kt) (Kb2 : Lt) : Prop := ALoop tP zFB (zFA K Kb2) (zjW t0 t3 t4) H
def zoJ (t0 t3 t4 : AV) (H : zaa) (K : Kt) (Kb2 : Lt) (Kb5 : Lt) : Prop :=
 zad .lss false t4 t3 fun t13 =>
 zag t13
 (zac H (fun K' => K' t0 H) fun t16 =>
 zac H (fun K' => K' t3 H) fun t17 =>
 zac H (fun K' => zak 1 t16 t17 (K' · H)) fun t18 =>
 zac H (fun K' => zai false 1 t18 H (K' · H)) fun t19 =>
 zac H (fun K' => K' t0 H) fun t20 =>
 zac H (fun K' => K' t4 H) fun t21 =>
 zac H (fun K' => zak 1 t20 t21 (K' · H)) fun t22 =>
 zac H (fun K' => zai false 1 t22 H (K' · H)) fun t23 =>
 zac H (fun K' => zad .eql false t19 t23 (K' · H)) fun t24 =>
 zag t24
 (K (.bool true) H)
 (zad .add false t4 (.int .i64 1) fun t15 =>
 Kb5 (zjW t0 t3 t15) H))
 (zad .add false t3 (.int .i64 1) fun t10 =>
 Kb2 (zjV t0 t10) H)
def zoI (t0 t3 : AV) (H : zaa) (K : Kt) (Kb2 : Lt) : Prop :=
 zaj 1 t0 fun t7 =>
 zad .lss false t3 t7 fun t8 =>
 zag t8
 (zuD t0 t3 (.int .i64 0) H K Kb2)
 (K (.bool false) H)
def zuA (t0 : AV) (H : zaa) (K : Kt) : Prop :=
 zuC t0 (.int .i64 0) H K
theorem zFD {t0 t3 t4 : AV} {H : zaa} {K : Kt} {Kb2 : Lt} (Inv : Nat → AV → zaa → Prop) (n : Nat) (h0 : HSc H → Inv n t4 H)
  (round : Rd1 (fun t4 => zjW t0 t3 t4) (fun t4 => fun H Kb5 => zoJ t0 t3 t4 H K Kb2 Kb5) H Inv) : zuD t0 t3 t4 H K Kb2 :=
 lp1 (M := ze8) zFE t4 (by kernel_rfl) Inv n h0 round
theorem zFC {t0 t3 : AV} {H : zaa} {K : Kt} (Inv : Nat → AV → zaa → Prop) (n : Nat) (h0 : HSc H → Inv n t3 H)
  (round : Rd1 (fun t3 => zjV t0 t3) (fun t3 => fun H Kb2 => zoI t0 t3 H K Kb2) H Inv) : zuC t0 t3 H K :=
 lp1 (M := ze8) zuE t3 (by kernel_rfl) Inv n h0 round
theorem zFF {t0 : AV} {H : zaa} {K : Kt} (h : HSc H → zuA t0 H K) : ACalls tP zfA [t0] H K :=
 zaw (M := ze8) Try.func52 (c := zoK) (by kernel_rfl) (fun hs => Eq.mpr (by kernel_rfl) (h hs))
def zkc : Nat → List Bool
 | 1 => rl false [0,1,1,1,5,3,8]
 | _ => []
noncomputable def zoZ : Code := Try.f54.body.getD .skip
noncomputable def zGI : List ResultVar := Try.f54.results.toList
def zkd (t0 t2 t8 t9 t10 : AV) : List AV := t0 :: ux 1 (t2 :: ux 5 (t8 :: t9 :: t10 :: ux 8 []))
def zGG : List Bool := zkc 1
noncomputable def zGE : Code := zao [1, 0, 0] zoZ
def zGD (K : Kt) : AExit → List AV → zaa → Prop := zap tP zkc [1, 0] zoZ (zat tP zGI K)
def zuV (t0 t2 t8 t9 t10 : AV) (H : zaa) (K : Kt) : Prop := ALoop tP zGE (zGD K) (zkd t0 t2 t8 t9 t10) H
def zoY (t0 t2 t8 t9 t10 : AV) (H : zaa) (K : Kt) (Kb1 : Lt) : Prop :=
 zad .lss false t10 t9 fun t11 =>
 zag t11
 (zak 1 t8 t10 fun t12 =>
 zae false 1 t12 H fun t13 =>
 zak 1 t0 t13 fun t17 =>
 zar 1 t17 t2 H fun H =>
 zad .add false t10 (.int .i64 1) fun t18 =>
 Kb1 (zkd t0 t2 t8 t9 t18) H)
 (zaV [] (K · H))
def zuU (t0 t1 t2 : AV) (H : zaa) (K : Kt) : Prop :=
 zaj 1 t1 fun t9 =>
 zuV t0 t2 t1 t9 (.int .i64 0) H K
theorem zGF {t0 t2 t8 t9 t10 : AV} {H : zaa} {K : Kt} (Inv : Nat → AV → zaa → Prop) (n : Nat) (h0 : HSc H → Inv n t10 H)
  (round : Rd1 (fun t10 => zkd t0 t2 t8 t9 t10) (fun t10 => fun H Kb1 => zoY t0 t2 t8 t9 t10 H K Kb1) H Inv) : zuV t0 t2 t8 t9 t10 H K :=
 lp1 (M := zkc) zGG t10 (by kernel_rfl) Inv n h0 round
theorem zGH {t0 t1 t2 : AV} {H : zaa} {K : Kt} (h : HSc H → zuU t0 t1 t2 H K) : ACalls tP zfB [t0, t1, t2] H K :=
 zaw (M := zkc) Try.func54 (c := zoZ) (by kernel_rfl) (fun hs => Eq.mpr (by kernel_rfl) (h hs))
def ze9 : Nat → List Bool
 | 3 => rl false [2,2,3,1,10,3,40]
 | 9 => rl false [2,2,3,1,24,2,27]
 | 200012 => rl false [0,1]
 | _ => []
noncomputable def zg4 : Code := Try.f55.body.getD .skip
noncomputable def zuZ : List ResultVar := Try.f55.results.toList
def zkf (t2 t3 t7 t18 t19 t20 : AV) : List AV := ux 2 (t2 :: t3 :: ux 3 (t7 :: ux 10 (t18 :: t19 :: t20 :: ux 40 [])))
def zGP : List Bool := ze9 3
noncomputable def zGL : Code := zao [1, 1, 0, 1, 0, 0] zg4
def zGJ (K : Kt) : AExit → List AV → zaa → Prop := zap tP ze9 [1, 1, 0, 1, 0] zg4 (zat tP zuZ K)
def zuX (t2 t3 t7 t18 t19 t20 : AV) (H : zaa) (K : Kt) : Prop := ALoop tP zGL (zGJ K) (zkf t2 t3 t7 t18 t19 t20) H
def zkg (t2 t3 t7 t32 t33 : AV) : List AV := ux 2 (t2 :: t3 :: ux 3 (t7 :: ux 24 (t32 :: t33 :: ux 27 [])))
def zGQ : List Bool := ze9 9
noncomputable def zGM : Code := zao [1, 1, 1, 0, 1, 0, 0] zg4
def zGK (K : Kt) : AExit → List AV → zaa → Prop := zap tP ze9 [1, 1, 1, 0, 1, 0] zg4 (zat tP zuZ K)
def zuY (t2 t3 t7 t32 t33 : AV) (H : zaa) (K : Kt) : Prop := ALoop tP zGM (zGK K) (zkg t2 t3 t7 t32 t33) H
def zo0 (t2 t3 t7 t32 t33 : AV) (H : zaa) (K : Kt) (Kb9 : Lt) : Prop :=
 zad .lss false t33 t32 fun t34 =>
 zag t34
 (zaf 3 t7 fun t37 =>
 zae false 1 t37 H fun t38 =>
 zak 1 t38 t33 fun t40 =>
 zae false 1 t40 H fun t41 =>
 ACalls tP zfB [t2, t41, (.bool true)] H fun t42 H =>
 zac H (fun K' => zai true 4 t3 H (K' · H)) fun t43 =>
 zac H (fun K' => zaf 4 t7 (K' · H)) fun t44 =>
 zac H (fun K' => zai false 1 t44 H (K' · H)) fun t45 =>
 zac H (fun K' => K' t33 H) fun t46 =>
 zac H (fun K' => zak 1 t45 t46 (K' · H)) fun t47 =>
 zac H (fun K' => zai false 1 t47 H (K' · H)) fun t48 =>
 zac H (fun K' => K' t2 H) fun t49 =>
 zbt .w false H (fun K' => ACalls tP zhQ [t43, t48, t49] H K') fun t50 H =>
 zac H (fun K' => K' t50 H) fun t11 =>
 zaf 3 t7 fun t52 =>
 zae false 1 t52 H fun t53 =>
 zak 1 t53 t33 fun t55 =>
 zae false 1 t55 H fun t56 =>
 ACalls tP zfB [t2, t56, (.bool false)] H fun t57 H =>
 aUn .not t11 fun t59 =>
 zag t59
 (K (.bool false) H)
 (zad .add false t33 (.int .i64 1) fun t60 =>
 Kb9 (zkg t2 t3 t7 t32 t60) H))
 (K (.bool true) H)
def zke (t2 t3 t7 t18 t19 t20 : AV) (H : zaa) (K : Kt) (Kb3 : Lt) : Prop :=
 zad .lss false t20 t19 fun t21 =>
 zag t21
 (zak 1 t18 t20 fun t22 =>
 zae false 1 t22 H fun t23 =>
 zak 1 t2 t23 fun t26 =>
 zae false 1 t26 H fun t27 =>
 aUn .not t27 fun t28 =>
 zag t28
 (K (.bool false) H)
 (zad .add false t20 (.int .i64 1) fun t29 =>
 Kb3 (zkf t2 t3 t7 t18 t19 t29) H))
 (zaf 4 t7 fun t30 =>
 zae false 1 t30 H fun t31 =>
 zaj 1 t31 fun t32 =>
 zuY t2 t3 t7 t32 (.int .i64 0) H K)
def zuW (t0 t1 t2 : AV) (H : zaa) (K : Kt) : Prop :=
 zaF t0 H fun t3 H =>
 zaf 3 t3 fun t12 =>
 zae false 1 t12 H fun t13 =>
 zak 8 t13 t1 fun t15 =>
 zae true 8 t15 H fun t16 =>
 zaz [(.int .i64 0), (.int .i64 0), .snil, .snil, .snil, (.int .i64 0), (.int .i64 0), .snil] H fun t7 H =>
 zar 8 t7 t16 H fun H =>
 zaf 2 t7 fun t17 =>
 zae false 1 t17 H fun t18 =>
 zaj 1 t18 fun t19 =>
 zuX t2 t3 t7 t18 t19 (.int .i64 0) H K
theorem zGO {t2 t3 t7 t32 t33 : AV} {H : zaa} {K : Kt} (Inv : Nat → AV → zaa → Prop) (n : Nat) (h0 : HSc H → Inv n t33 H)
  (round : Rd1 (fun t33 => zkg t2 t3 t7 t32 t33) (fun t33 => fun H Kb9 => zo0 t2 t3 t7 t32 t33 H K Kb9) H Inv) : zuY t2 t3 t7 t32 t33 H K :=
 lp1 (M := ze9) zGQ t33 (by kernel_rfl) Inv n h0 round
theorem zGN {t2 t3 t7 t18 t19 t20 : AV} {H : zaa} {K : Kt} (Inv : Nat → AV → zaa → Prop) (n : Nat) (h0 : HSc H → Inv n t20 H)
  (round : Rd1 (fun t20 => zkf t2 t3 t7 t18 t19 t20) (fun t20 => fun H Kb3 => zke t2 t3 t7 t18 t19 t20 H K Kb3) H Inv) : zuX t2 t3 t7 t18 t19 t20 H K :=
 lp1 (M := ze9) zGP t20 (by kernel_rfl) Inv n h0 round
theorem zGR {t0 t1 t2 : AV} {H : zaa} {K : Kt} (h : HSc H → zuW t0 t1 t2 H K) : ACalls tP zhQ [t0, t1, t2] H K :=
 zaw (M := ze9) Try.func55 (c := zg4) (by kernel_rfl) (fun hs => Eq.mpr (by kernel_rfl) (h hs))
def zIF (_ : Nat) : List Bool := []
noncomputable def zIG : Code := Try.f81.body.getD .skip
def zvE (t0 t1 : AV) (H : zaa) (K : Kt) : Prop :=
 ACalls tP zc5 [t0, t1] H fun t7 H =>
 K t7 H
theorem zIH {t0 t1 : AV} {H : zaa} {K : Kt} (h : HSc H → zvE t0 t1 H K) : ACalls tP zcP [t0, t1] H K :=
 zaw (M := zIF) Try.func81 (c := zIG) (by kernel_rfl) (fun hs => Eq.mpr (by kernel_rfl) (h hs))
def zdC : Nat → List Bool
 | 4 => rl false [1,1,30,3,67]
 | 10 => rl false [62,3,37]
 | 15 => rl false [62,3,26,3,8]
 | _ => []
noncomputable def zgM : Code := Try.f12.body.getD .skip
noncomputable def zs2 : List ResultVar := Try.f12.results.toList
def ziC (t1 t32 t33 t34 : AV) : List AV := ux 1 (t1 :: ux 30 (t32 :: t33 :: t34 :: ux 67 []))
def zBi : List Bool := zdC 4
noncomputable def zBd : Code := zao [1, 1, 0, 1, 0, 0] zgM
def zBb (K : Kt) : AExit → List AV → zaa → Prop := zap tP zdC [1, 1, 0, 1, 0] zgM (zat tP zs2 K)
def zs0 (t1 t32 t33 t34 : AV) (H : zaa) (K : Kt) : Prop := ALoop tP zBd (zBb K) (ziC t1 t32 t33 t34) H
def ziA (t62 t63 t64 : AV) : List AV := ux 62 (t62 :: t63 :: t64 :: ux 37 [])
def zs1 : List Bool := zdC 10
noncomputable def zns : Code := zao [1, 1, 1, 0, 1, 0, 0] zgM
def zsX (K : Kt) : AExit → List AV → zaa → Prop := zap tP zdC [1, 1, 1, 0, 1, 0] zgM (zat tP zs2 K)
def zsY (t62 t63 t64 : AV) (H : zaa) (K : Kt) : Prop := ALoop tP zns (zsX K) (ziA t62 t63 t64) H
def ziB (t62 t63 t64 t91 t92 t93 : AV) : List AV := ux 62 (t62 :: t63 :: t64 :: ux 26 (t91 :: t92 :: t93 :: ux 8 []))
def zBh : List Bool := zdC 15
noncomputable def zBc : Code := zao [1, 1, 0, 0, 1, 1, 1, 0, 0] zns
def zBa (K : Kt) (Kb10 : Lt) : AExit → List AV → zaa → Prop := zap tP zdC [1, 1, 0, 0, 1, 1, 1, 0] zns (zbK zs1 Kb10 (zsX K))
def zsZ (t62 t63 t64 t91 t92 t93 : AV) (H : zaa) (K : Kt) (Kb10 : Lt) : Prop := ALoop tP zBc (zBa K Kb10) (ziB t62 t63 t64 t91 t92 t93) H
def znq (t62 t63 t64 t91 t92 t93 : AV) (H : zaa) (K : Kt) (Kb10 : Lt) (Kb15 : Lt) : Prop :=
 zad .lss false t93 t92 fun t94 =>
 zag t94
 (zak 1 t91 t93 fun t95 =>
 zae false 1 t95 H fun t96 =>
 zaj 1 t96 fun t98 =>
 zad .gtr false t98 (.int .i64 10) fun t99 =>
 zag t99
 (K (.bool false) H)
 (zad .add false t93 (.int .i64 1) fun t100 =>
 Kb15 (ziB t62 t63 t64 t91 t92 t100) H))
 (zad .add false t64 (.int .i64 1) fun t101 =>
 Kb10 (ziA t62 t63 t101) H)
def znp (t62 t63 t64 : AV) (H : zaa) (K : Kt) (Kb10 : Lt) : Prop :=
 zad .lss false t64 t63 fun t65 =>
 zag t65
 (zak 8 t62 t64 fun t66 =>
 zae true 8 t66 H fun t67 =>
 zaz [(.int .i64 0), (.int .i64 0), .snil, .snil, .snil, (.int .i64 0), (.int .i64 0), .snil] H fun t6 H =>
 zar 8 t6 t67 H fun H =>
 zaf 2 t6 fun t68 =>
 zae false 1 t68 H fun t69 =>
 zaj 1 t69 fun t70 =>
 zad .gtr false t70 (.int .i64 40) fun t71 =>
 zab t71 false H (fun K' => zaf 3 t6 (K' · H)) fun t73 H =>
 zab t71 false H (fun K' => zae false 1 t73 H (K' · H)) fun t74 H =>
 zab t71 false H (fun K' => zaj 1 t74 (K' · H)) fun t75 H =>
 zab t71 false H (fun K' => zad .gtr false t75 (.int .i64 10) (K' · H)) fun t76 H =>
 zah t71 (.bool true) t76 fun t77 =>
 zab t77 false H (fun K' => zaf 4 t6 (K' · H)) fun t79 H =>
 zab t77 false H (fun K' => zae false 1 t79 H (K' · H)) fun t80 H =>
 zab t77 false H (fun K' => zaj 1 t80 (K' · H)) fun t81 H =>
 zab t77 false H (fun K' => zad .gtr false t81 (.int .i64 10) (K' · H)) fun t82 H =>
 zah t77 (.bool true) t82 fun t83 =>
 zab t83 false H (fun K' => zaf 5 t6 (K' · H)) fun t85 H =>
 zab t83 false H (fun K' => zae true 3 t85 H (K' · H)) fun t86 H =>
 zab t83 false H (fun K' => ACalls tP zgw [t86] H K') fun t87 H =>
 zab t83 false H (fun K' => aUn .not t87 (K' · H)) fun t88 H =>
 zah t83 (.bool true) t88 fun t89 =>
 zag t89
 (K (.bool false) H)
 (zaf 3 t6 fun t90 =>
 zae false 1 t90 H fun t91 =>
 zaj 1 t91 fun t92 =>
 zsZ t62 t63 t64 t91 t92 (.int .i64 0) H K Kb10))
 (K (.bool true) H)
def znr (t1 t32 t33 t34 : AV) (H : zaa) (K : Kt) (Kb4 : Lt) : Prop :=
 zad .lss false t34 t33 fun t35 =>
 zag t35
 (zak 7 t32 t34 fun t36 =>
 zae true 7 t36 H fun t37 =>
 zaz [(.str []), .snil, .snil, (.int .i64 0), (.int .i64 0), .snil, (.int .i64 0)] H fun t4 H =>
 zar 7 t4 t37 H fun H =>
 zaf 0 t4 fun t38 =>
 zae false 1 t38 H fun t39 =>
 zaj 0 t39 fun t40 =>
 zad .gtr false t40 (.int .i64 400) fun t41 =>
 zab t41 false H (fun K' => zaf 1 t4 (K' · H)) fun t43 H =>
 zab t41 false H (fun K' => zae false 1 t43 H (K' · H)) fun t44 H =>
 zab t41 false H (fun K' => zaj 1 t44 (K' · H)) fun t45 H =>
 zab t41 false H (fun K' => zad .gtr false t45 (.int .i64 10) (K' · H)) fun t46 H =>
 zah t41 (.bool true) t46 fun t47 =>
 zab t47 false H (fun K' => zaf 2 t4 (K' · H)) fun t49 H =>
 zab t47 false H (fun K' => zae false 1 t49 H (K' · H)) fun t50 H =>
 zab t47 false H (fun K' => zaj 1 t50 (K' · H)) fun t51 H =>
 zab t47 false H (fun K' => zad .gtr false t51 (.int .i64 40) (K' · H)) fun t52 H =>
 zah t47 (.bool true) t52 fun t53 =>
 zab t53 false H (fun K' => zaf 3 t4 (K' · H)) fun t55 H =>
 zab t53 false H (fun K' => zae true 3 t55 H (K' · H)) fun t56 H =>
 zab t53 false H (fun K' => ACalls tP zgw [t56] H K') fun t57 H =>
 zab t53 false H (fun K' => aUn .not t57 (K' · H)) fun t58 H =>
 zah t53 (.bool true) t58 fun t59 =>
 zag t59
 (K (.bool false) H)
 (zad .add false t34 (.int .i64 1) fun t60 =>
 Kb4 (ziC t1 t32 t33 t60) H))
 (zaf 3 t1 fun t61 =>
 zae false 1 t61 H fun t62 =>
 zaj 1 t62 fun t63 =>
 zsY t62 t63 (.int .i64 0) H K)
def zsJ (t0 : AV) (H : zaa) (K : Kt) : Prop :=
 zaF t0 H fun t1 H =>
 zaf 0 t1 fun t9 =>
 zae false 1 t9 H fun t10 =>
 ACalls tP zl5 [t10] H fun t11 H =>
 aUn .not t11 fun t12 =>
 zab t12 false H (fun K' => zaf 1 t1 (K' · H)) fun t14 H =>
 zab t12 false H (fun K' => zae false 1 t14 H (K' · H)) fun t15 H =>
 zab t12 false H (fun K' => zaj 1 t15 (K' · H)) fun t16 H =>
 zab t12 false H (fun K' => zad .gtr false t16 (.int .i64 24) (K' · H)) fun t17 H =>
 zah t12 (.bool true) t17 fun t18 =>
 zab t18 false H (fun K' => zaf 3 t1 (K' · H)) fun t20 H =>
 zab t18 false H (fun K' => zae false 1 t20 H (K' · H)) fun t21 H =>
 zab t18 false H (fun K' => zaj 1 t21 (K' · H)) fun t22 H =>
 zab t18 false H (fun K' => zad .gtr false t22 (.int .i64 160) (K' · H)) fun t23 H =>
 zah t18 (.bool true) t23 fun t24 =>
 zab t24 false H (fun K' => zaf 2 t1 (K' · H)) fun t26 H =>
 zab t24 false H (fun K' => zae false 1 t26 H (K' · H)) fun t27 H =>
 zab t24 false H (fun K' => ACalls tP zl6 [t27, (.int .i64 160)] H K') fun t28 H =>
 zab t24 false H (fun K' => aUn .not t28 (K' · H)) fun t29 H =>
 zah t24 (.bool true) t29 fun t30 =>
 zag t30
 (K (.bool false) H)
 (zaf 1 t1 fun t31 =>
 zae false 1 t31 H fun t32 =>
 zaj 1 t32 fun t33 =>
 zs0 t1 t32 t33 (.int .i64 0) H K)
theorem zBf {t62 t63 t64 t91 t92 t93 : AV} {H : zaa} {K : Kt} {Kb10 : Lt} (Inv : Nat → AV → zaa → Prop) (n : Nat) (h0 : HSc H → Inv n t93 H)
  (round : Rd1 (fun t93 => ziB t62 t63 t64 t91 t92 t93) (fun t93 => fun H Kb15 => znq t62 t63 t64 t91 t92 t93 H K Kb10 Kb15) H Inv) : zsZ t62 t63 t64 t91 t92 t93 H K Kb10 :=
 lp1 (M := zdC) zBh t93 (by kernel_rfl) Inv n h0 round
theorem zBe {t62 t63 t64 : AV} {H : zaa} {K : Kt} (Inv : Nat → AV → zaa → Prop) (n : Nat) (h0 : HSc H → Inv n t64 H)
  (round : Rd1 (fun t64 => ziA t62 t63 t64) (fun t64 => fun H Kb10 => znp t62 t63 t64 H K Kb10) H Inv) : zsY t62 t63 t64 H K :=
 lp1 (M := zdC) zs1 t64 (by kernel_rfl) Inv n h0 round
theorem zBg {t1 t32 t33 t34 : AV} {H : zaa} {K : Kt} (Inv : Nat → AV → zaa → Prop) (n : Nat) (h0 : HSc H → Inv n t34 H)
  (round : Rd1 (fun t34 => ziC t1 t32 t33 t34) (fun t34 => fun H Kb4 => znr t1 t32 t33 t34 H K Kb4) H Inv) : zs0 t1 t32 t33 t34 H K :=
 lp1 (M := zdC) zBi t34 (by kernel_rfl) Inv n h0 round
theorem zBj {t0 : AV} {H : zaa} {K : Kt} (h : HSc H → zsJ t0 H K) : ACalls tP zlY [t0] H K :=
 zaw (M := zdC) Try.func12 (c := zgM) (by kernel_rfl) (fun hs => Eq.mpr (by kernel_rfl) (h hs))
end Go.Proofs.Ytkdmpbhbmmhijaa
namespace Go.Proofs.Ytkdmpbhbmmhijaa
open Go Go.Abs
set_option maxRecDepth 8000
theorem zcV {k : AV → Prop} (a b : AV) (vs : List AV) : za1 (.tup (a :: b :: vs)) 1 k = k b := propext Iff.rfl
theorem zcW {k : AV → Prop} (a b c : AV) (vs : List AV) : za1 (.tup (a :: b :: c :: vs)) 2 k = k c := propext Iff.rfl
def zeU (s : List UInt8) : List Tk × Int × Int :=
 if s.length > 16384 then ([], 0, 9) else
 match zbx (kwF kwds) s 0 with
 | .error (p, e) => ([], p, e)
 | .ok l => (l, 0, 0)
theorem zr9 (s : List UInt8) : zep s = .tup [.sl ((zeU s).1.map Tk.cs) .none, .int .i64 (zeU s).2.1, .int .i64 (zeU s).2.2] := by
 unfold zep zeU
 split
 ·rfl
 ·split <;> (rename_i h; simp [h])
def zbW (s : List UInt8) (x : List Tk × Int × Int) : Bool := x.2.2 == 0 && match x.1 with
 | [a, _] => a.kind == 2 && a.text == s
 | _ => false
def zcJ (s : List UInt8) : Bool := zbW s (zeU s)
theorem zvd (s : List UInt8) (H : zaa) (K : AV → zaa → Prop) (hK : K (.bool (zcJ s)) H) : ACalls tP zhR [.str s] H K := by
 refine ACalls.out (zHr fun hs => ?_)
 have hO : Out H.length K (.bool (zcJ s)) H := Out.bool (J := []) (by simp) (Nat.le_refl _) hs hK
 simp only [zvc]
 refine zzP s _ _ ?_
 rw [zr9]
 rw [zcJ] at hO
 generalize zeU s = x at hO ⊢
 obtain ⟨l, p, e⟩ := x
 clear hK
 cases h0 : e == 0 with
 | false =>
  rw [show zbW s (l, p, e) = false by simp [zbW, h0]] at hO
  simp [zcV, zcW, h0]; exact hO
 | true =>
 match l with
 | [] =>
  rw [show zbW s ([], p, e) = false by simp [zbW]] at hO
  simp [zcV, zcW, h0]; exact hO
 | [x] =>
  rw [show zbW s ([x], p, e) = false by simp [zbW]] at hO
  simp [zcV, zcW, h0]; exact hO
 | [a, x] =>
  rw [show zbW s ([a, x], p, e) = (a.kind == 2 && a.text == s) by simp [zbW, h0]] at hO
  cases hk : a.kind == 2 with
  | false => rw [hk] at hO; simp [zcV, zcW, h0, Tk.cs, hk]; exact hO
  | true => rw [hk] at hO; simp [zcV, zcW, h0, Tk.cs, hk]; exact hO
 | a :: b :: c :: r =>
  rw [show zbW s (a :: b :: c :: r, p, e) = false by simp [zbW]] at hO
  have : ¬ ((r.length : Int) + 1 + 1 + 1 = 2) := by omega
  have h2 : ((r.length : Int) + 1 + 1 + 1 == 2) = false := by simpa using this
  simp [zcV, zcW, h0, h2]; exact hO
theorem zvy (s : List UInt8) (H : zaa) (K : AV → zaa → Prop) (hK : K (.bool (zcJ s)) H) : ACalls tP zhU [.str s] H K := by
 refine ACalls.out (zIl fun hs => ?_)
 have hO : Out H.length K (.bool (zcJ s)) H := Out.bool (J := []) (by simp) (Nat.le_refl _) hs hK
 simp only [zvx]
 refine zzQ s _ _ ?_
 rw [zr9]
 rw [zcJ] at hO
 generalize zeU s = x at hO ⊢
 obtain ⟨l, p, e⟩ := x
 clear hK
 cases h0 : e == 0 with
 | false =>
  rw [show zbW s (l, p, e) = false by simp [zbW, h0]] at hO
  simp [zcV, zcW, h0]; exact hO
 | true =>
 match l with
 | [] =>
  rw [show zbW s ([], p, e) = false by simp [zbW]] at hO
  simp [zcV, zcW, h0]; exact hO
 | [x] =>
  rw [show zbW s ([x], p, e) = false by simp [zbW]] at hO
  simp [zcV, zcW, h0]; exact hO
 | [a, x] =>
  rw [show zbW s ([a, x], p, e) = (a.kind == 2 && a.text == s) by simp [zbW, h0]] at hO
  cases hk : a.kind == 2 with
  | false => rw [hk] at hO; simp [zcV, zcW, h0, Tk.cs, hk]; exact hO
  | true => rw [hk] at hO; simp [zcV, zcW, h0, Tk.cs, hk]; exact hO
 | a :: b :: c :: r =>
  rw [show zbW s (a :: b :: c :: r, p, e) = false by simp [zbW]] at hO
  have : ¬ ((r.length : Int) + 1 + 1 + 1 = 2) := by omega
  have h2 : ((r.length : Int) + 1 + 1 + 1 == 2) = false := by simpa using this
  simp [zcV, zcW, h0, h2]; exact hO
def zbZ (l : List (List UInt8)) : Bool := !decide l.Nodup
def strs (l : List (List UInt8)) : List (List AV) := l.map fun s => [.str s]
@[simp] theorem zOc (l : List (List UInt8)) : (strs l).length = l.length := by simp [strs]
theorem zzV {l : List (List UInt8)} {i : Nat} (h : i < (strs l).length) : (strs l)[i] = [.str (l[i]'(by simpa using h))] := by simp [strs]
theorem zyC {l : List (List UInt8)} {i j : Nat} (hi : i < l.length) (hj : j < i) (h : l[i] = l[j]) : zbZ l = true := by
 simp only [zbZ, Bool.not_eq_true', decide_eq_false_iff_not]
 intro hn
 exact (List.pairwise_iff_getElem.mp hn) j i (by omega) hi hj h.symm
theorem zFH (l : List (List UInt8)) (hl : l.length ≤ 1000000) (H : zaa) (K : AV → zaa → Prop) (hK : K (.bool (zbZ l)) H) : ACalls tP zfA [.sl (strs l) .none] H K := by
 refine ACalls.out (zFF fun hs => ?_)
 have hO : Out H.length K (.bool (zbZ l)) H := Out.bool (J := []) (by simp) (Nat.le_refl _) hs hK
 simp [zuA]
 refine zFC (Inv := fun q t3 H' => ∃ i : Nat, i ≤ l.length ∧ q = l.length - i ∧ t3 = .int .i64 i ∧ (∀ a b (ha : a < i) (hb : b < a) (h' : a < l.length), l[a] ≠ l[b]) ∧ H = H') l.length ?_ ?_
 ·intro _; exact ⟨0, by omega, by omega, rfl, by omega, rfl⟩
 ·rintro q t3 H' ⟨i, hi, rfl, rfl, hne, rfl⟩ hsc hlen hsF Kb hKb
  by_cases hlt : i < l.length
  ·simp [zoI, hlt]
   refine zFD (Inv := fun q t4 H' => ∃ j : Nat, j ≤ i ∧ q = i - j ∧ t4 = .int .i64 j ∧ (∀ b (hb : b < j) (hb' : b < l.length), l[i] ≠ l[b]) ∧ H = H') i ?_ ?_
   ·intro _; exact ⟨0, by omega, by omega, rfl, by omega, rfl⟩
   ·rintro q t4 H' ⟨j, hj, rfl, rfl, hnj, rfl⟩ hsc1 hlen1 hsF1 Kb1 hKb1
    by_cases hjl : j < i
    ·simp [zoJ, hjl, hlt, show j < l.length by omega, zzV]
     cases he : l[i] == l[j] with
     | true =>
      rw [zyC hlt hjl (by simpa using he)] at hO
      simpa using hO
     | false =>
      simp
      rw [zaq (by omega) (by omega)]
      refine hKb1 _ _ ⟨i - (j + 1), by omega, Back.at (J := []) (H2 := H) (by simp) (Nat.le_refl _) hs ?_ ⟨_, rfl, j + 1, by omega, rfl, by simp, ?_, rfl⟩⟩
      ·simp [zjW, AV.sc, AV.scV, AV.scA, AV.scB]
      ·intro b hb hb'
       by_cases hbj : b = j
       ·subst hbj; simpa using he
       ·exact hnj b (by omega) hb'
    ·obtain rfl : j = i := by omega
     simp [zoJ]
     rw [zaq (by omega) (by omega)]
     refine hKb _ _ ⟨l.length - (j + 1), by omega, Back.at (J := []) (H2 := H) (by simp) (Nat.le_refl _) hs ?_ ⟨_, rfl, j + 1, by omega, rfl, by simp, ?_, rfl⟩⟩
     ·simp [zjV, AV.sc, AV.scV, AV.scA, AV.scB]
     ·intro a b ha hb h'
      by_cases haj : a = j
      ·subst haj; exact hnj b hb (by omega)
      ·exact hne a b (by omega) hb h'
  ·obtain rfl : i = l.length := by omega
   have : zbZ l = false := by
    simp only [zbZ, Bool.not_eq_false', decide_eq_true_eq]
    refine List.pairwise_iff_getElem.mpr fun a b ha hb hab he => ?_
    exact hne b a hb hab hb he.symm
   rw [this] at hO
   simp [zoI]
   exact hO
end Go.Proofs.Ytkdmpbhbmmhijaa

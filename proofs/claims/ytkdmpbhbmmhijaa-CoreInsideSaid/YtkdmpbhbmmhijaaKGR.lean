import Derived.Test.YtkdmpbhbmmhijaaKNum
import Derived.Test.YtkdmpbhbmmhijaaProg
import Derived.KernelRfl
set_option linter.unusedVariables false
namespace Go.Proofs.Ytkdmpbhbmmhijaa
open Go Go.Abs
set_option maxRecDepth 100000
def zaM : Nat → List Bool
 | 4 => rl false [1,1,50,3,294]
 | 14 => rl false [1,1,3,4,68,3,269]
 | 200020 => rl false [0,1]
 | 26 => rl false [1,1,3,3,167,3,171]
 | 29 => rl false [1,1,3,3,3,2,162,3,5,3,163]
 | 37 => rl false [1,1,3,3,4,1,162,3,30,3,138]
 | 43 => rl false [1,1,3,3,4,1,162,3,42,3,126]
 | 54 => rl false [1,1,4,2,250,3,88]
 | 60 => rl false [1,1,5,1,259,3,79]
 | 66 => rl false [1,1,274,3,70]
 | 72 => rl false [1,1,308,2,37]
 | 200074 => rl false [0,1]
 | 78 => rl false [1,1,322,3,22]
 | 100020 => rl false [1,1,3,4,1,1,66,3,269]
 | 100023 => rl false [1,1,3,4,340]
 | 100011 => rl false [1,1,3,2,342]
 | 100003 => rl false [1,1,347]
 | _ => []
noncomputable def zbN : Code := Try.f14.body.getD .skip
noncomputable def zdj : List ResultVar := Try.f14.results.toList
def zfX (t1 t52 t53 t54 : AV) : List AV := ux 1 (t1 :: ux 50 (t52 :: t53 :: t54 :: ux 294 []))
def zxp : List Bool := zaM 4
noncomputable def zw0 : Code := zap [1, 1, 0, 1, 0, 0] zbN
def zwR (K : Kt) : AExit → List AV → zaa → Prop := zaq tP zaM [1, 1, 0, 1, 0] zbN (zal tP zdj K)
def zxl (t1 t52 t53 t54 : AV) (H : zaa) (K : Kt) : Prop := ALoop tP zw0 (zwR K) (zfX t1 t52 t53 t54) H
def zfT (t1 t5 t6 t7 t8 t77 t78 t79 : AV) : List AV := ux 1 (t1 :: ux 3 (t5 :: t6 :: t7 :: t8 :: ux 68 (t77 :: t78 :: t79 :: ux 269 [])))
def zqv : List Bool := zaM 14
noncomputable def zlF : Code := zap [1, 1, 1, 1, 1, 1, 1, 0, 1, 0, 0] zbN
def zqk (K : Kt) : AExit → List AV → zaa → Prop := zaq tP zaM [1, 1, 1, 1, 1, 1, 1, 0, 1, 0] zbN (zal tP zdj K)
def zlI (t1 t5 t6 t7 t8 t77 t78 t79 : AV) (H : zaa) (K : Kt) : Prop := ALoop tP zlF (zqk K) (zfT t1 t5 t6 t7 t8 t77 t78 t79) H
noncomputable def zxe : Code := zap [1, 1, 0, 0, 1, 1, 1] zlF
def zxd (K : Kt) (Kb14 : Lt) : AExit → List AV → zaa → Prop := zaq tP zaM [1, 1, 0, 0, 1, 1, 1] zlF (zat zqv Kb14 (zqk K))
def zlG (t1 t5 t6 t7 t8 t10 t77 t78 t79 : AV) (H : zaa) (K : Kt) (Kb14 : Lt) : Prop := AWp tP zxe (zxd K Kb14) (ux 1 (t1 :: ux 3 (t5 :: t6 :: t7 :: t8 :: ux 1 (t10 :: ux 66 (t77 :: t78 :: t79 :: ux 269 []))))) H
def zqn (t1 t5 t6 t7 t8 t10 t77 t78 t79 : AV) (H : zaa) (K : Kt) (Kb14 : Lt) : Prop :=
 zac H (fun K' => K' t5 H) fun t138 =>
 zac H (fun K' => zaf 1 t10 (K' · H)) fun t139 =>
 zac H (fun K' => zai false 1 t139 H (K' · H)) fun t140 =>
 zbv .w false H (fun K' => ACalls tP zfl [t138, t140] H K') fun t141 H =>
 zac H (fun K' => aUn .not t141 (K' · H)) fun t142 =>
 zac H (fun K' => K' t142 H) fun t143 =>
 zab t143 false H (fun K' => zac H (fun K'' => K'' t5 H) (K' · H)) fun t144 H =>
 zab t143 false H (fun K' => zac H (fun K'' => zaf 2 t10 (K'' · H)) (K' · H)) fun t145 H =>
 zab t143 false H (fun K' => zac H (fun K'' => zai false 1 t145 H (K'' · H)) (K' · H)) fun t146 H =>
 zab t143 false H (fun K' => zbv .w false H (fun K'' => ACalls tP zfl [t144, t146] H K'') K') fun t147 H =>
 zab t143 false H (fun K' => zac H (fun K'' => aUn .not t147 (K'' · H)) (K' · H)) fun t148 H =>
 zac H (fun K' => zah t143 (.bool true) t148 (K' · H)) fun t149 =>
 zac H (fun K' => K' t149 H) fun t150 =>
 zab t150 false H (fun K' => zac H (fun K'' => K'' t6 H) (K' · H)) fun t151 H =>
 zab t150 false H (fun K' => zac H (fun K'' => zaf 6 t10 (K'' · H)) (K' · H)) fun t152 H =>
 zab t150 false H (fun K' => zac H (fun K'' => zai false 1 t152 H (K'' · H)) (K' · H)) fun t153 H =>
 zab t150 false H (fun K' => zac H (fun K'' => zaA 1 [(.int .i64 0)] 1 [(0, t153)] (K'' · H)) (K' · H)) fun t154 H =>
 zab t150 false H (fun K' => zbv .w false H (fun K'' => ACalls tP zfl [t151, t154] H K'') K') fun t155 H =>
 zab t150 false H (fun K' => zac H (fun K'' => aUn .not t155 (K'' · H)) (K' · H)) fun t156 H =>
 zac H (fun K' => zah t150 (.bool true) t156 (K' · H)) fun t157 =>
 zac H (fun K' => K' t157 H) fun t158 =>
 zab t158 false H (fun K' => zac H (fun K'' => zaf 3 t1 (K'' · H)) (K' · H)) fun t159 H =>
 zab t158 false H (fun K' => zac H (fun K'' => zai false 1 t159 H (K'' · H)) (K' · H)) fun t160 H =>
 zab t158 false H (fun K' => zac H (fun K'' => zaf 6 t10 (K'' · H)) (K' · H)) fun t161 H =>
 zab t158 false H (fun K' => zac H (fun K'' => zai false 1 t161 H (K'' · H)) (K' · H)) fun t162 H =>
 zab t158 false H (fun K' => zac H (fun K'' => zaj 8 t160 t162 (K'' · H)) (K' · H)) fun t163 H =>
 zab t158 false H (fun K' => zac H (fun K'' => zaf 5 t163 (K'' · H)) (K' · H)) fun t164 H =>
 zab t158 false H (fun K' => zac H (fun K'' => zai true 3 t164 H (K'' · H)) (K' · H)) fun t165 H =>
 zab t158 false H (fun K' => zac H (fun K'' => zaf 3 t10 (K'' · H)) (K' · H)) fun t166 H =>
 zab t158 false H (fun K' => zac H (fun K'' => zai true 3 t166 H (K'' · H)) (K' · H)) fun t167 H =>
 zab t158 false H (fun K' => zbv .w false H (fun K'' => ACalls tP zcr [t165, t167] H K'') K') fun t168 H =>
 zab t158 false H (fun K' => zac H (fun K'' => aUn .not t168 (K'' · H)) (K' · H)) fun t169 H =>
 zac H (fun K' => zah t158 (.bool true) t169 (K' · H)) fun t170 =>
 zag t170
 (K (.bool false) H)
 (zad .add false t79 (.int .i64 1) fun t171 =>
 Kb14 (zfT t1 t5 t6 t7 t8 t77 t78 t171) H)
def zfU (t1 t5 t6 t7 t175 t176 t177 : AV) : List AV := ux 1 (t1 :: ux 3 (t5 :: t6 :: t7 :: ux 167 (t175 :: t176 :: t177 :: ux 171 [])))
def zjj : List Bool := zaM 26
noncomputable def zeO : Code := zap [1, 1, 1, 1, 1, 1, 1, 1, 1, 0, 1, 0, 0] zbN
def zjf (K : Kt) : AExit → List AV → zaa → Prop := zaq tP zaM [1, 1, 1, 1, 1, 1, 1, 1, 1, 0, 1, 0] zbN (zal tP zdj K)
def zqp (t1 t5 t6 t7 t175 t176 t177 : AV) (H : zaa) (K : Kt) : Prop := ALoop tP zeO (zjf K) (zfU t1 t5 t6 t7 t175 t176 t177) H
def zfV (t1 t5 t6 t7 t11 t12 t175 t176 t177 t183 t184 t185 : AV) : List AV := ux 1 (t1 :: ux 3 (t5 :: t6 :: t7 :: ux 3 (t11 :: t12 :: ux 162 (t175 :: t176 :: t177 :: ux 5 (t183 :: t184 :: t185 :: ux 163 [])))))
def zxn : List Bool := zaM 29
noncomputable def zwY : Code := zap [1, 1, 0, 0, 1, 0, 1, 0, 0] zeO
def zwP (K : Kt) (Kb26 : Lt) : AExit → List AV → zaa → Prop := zaq tP zaM [1, 1, 0, 0, 1, 0, 1, 0] zeO (zat zjj Kb26 (zjf K))
def zxj (t1 t5 t6 t7 t11 t12 t175 t176 t177 t183 t184 t185 : AV) (H : zaa) (K : Kt) (Kb26 : Lt) : Prop := ALoop tP zwY (zwP K Kb26) (zfV t1 t5 t6 t7 t11 t12 t175 t176 t177 t183 t184 t185) H
def zfW (t1 t5 t6 t7 t12 t175 t176 t177 t208 t209 t210 : AV) : List AV := ux 1 (t1 :: ux 3 (t5 :: t6 :: t7 :: ux 4 (t12 :: ux 162 (t175 :: t176 :: t177 :: ux 30 (t208 :: t209 :: t210 :: ux 138 [])))))
def zxo : List Bool := zaM 37
noncomputable def zwZ : Code := zap [1, 1, 0, 0, 1, 1, 1, 0, 1, 0, 0] zeO
def zwQ (K : Kt) (Kb26 : Lt) : AExit → List AV → zaa → Prop := zaq tP zaM [1, 1, 0, 0, 1, 1, 1, 0, 1, 0] zeO (zat zjj Kb26 (zjf K))
def zxk (t1 t5 t6 t7 t12 t175 t176 t177 t208 t209 t210 : AV) (H : zaa) (K : Kt) (Kb26 : Lt) : Prop := ALoop tP zwZ (zwQ K Kb26) (zfW t1 t5 t6 t7 t12 t175 t176 t177 t208 t209 t210) H
def zfY (t1 t5 t6 t7 t12 t175 t176 t177 t220 t221 t222 : AV) : List AV := ux 1 (t1 :: ux 3 (t5 :: t6 :: t7 :: ux 4 (t12 :: ux 162 (t175 :: t176 :: t177 :: ux 42 (t220 :: t221 :: t222 :: ux 126 [])))))
def zxq : List Bool := zaM 43
noncomputable def zw1 : Code := zap [1, 1, 0, 0, 1, 1, 1, 1, 0, 1, 0, 0] zeO
def zwS (K : Kt) (Kb26 : Lt) : AExit → List AV → zaa → Prop := zaq tP zaM [1, 1, 0, 0, 1, 1, 1, 1, 0, 1, 0] zeO (zat zjj Kb26 (zjf K))
def zxm (t1 t5 t6 t7 t12 t175 t176 t177 t220 t221 t222 : AV) (H : zaa) (K : Kt) (Kb26 : Lt) : Prop := ALoop tP zw1 (zwS K Kb26) (zfY t1 t5 t6 t7 t12 t175 t176 t177 t220 t221 t222) H
def zxi (t1 t5 t6 t7 t175 t176 t177 : AV) (H : zaa) (K : Kt) (Kb26 : Lt) : Prop :=
 zad .add false t177 (.int .i64 1) fun t257 =>
 Kb26 (zfU t1 t5 t6 t7 t175 t176 t257) H
def zlH (t1 t5 t6 t7 t175 t176 t177 : AV) (H : zaa) (K : Kt) (Kb26 : Lt) : Prop :=
 zxi t1 t5 t6 t7 t175 t176 t177 H K Kb26
def zei (t1 t5 t6 t7 t12 t175 t176 t177 t220 t221 t222 : AV) (H : zaa) (K : Kt) (Kb26 : Lt) (Kb43 : Lt) : Prop :=
 zad .lss false t222 t221 fun t223 =>
 zag t223
 (zaj 1 t220 t222 fun t224 =>
 zae false 1 t224 H fun t225 =>
 zad .lss false t225 (.int .i64 0) fun t227 =>
 zab t227 false H (fun K' => K' t225 H) fun t229 H =>
 zab t227 false H (fun K' => zaf 2 t1 (K' · H)) fun t230 H =>
 zab t227 false H (fun K' => zae false 1 t230 H (K' · H)) fun t231 H =>
 zab t227 false H (fun K' => zak 1 t231 (K' · H)) fun t232 H =>
 zab t227 false H (fun K' => zad .geq false t229 t232 (K' · H)) fun t233 H =>
 zah t227 (.bool true) t233 fun t234 =>
 zag t234
 (K (.bool false) H)
 (zad .add false t222 (.int .i64 1) fun t235 =>
 Kb43 (zfY t1 t5 t6 t7 t12 t175 t176 t177 t220 t221 t235) H))
 (zaf 0 t12 fun t236 =>
 zae false 1 t236 H fun t237 =>
 zad .eql false t237 (.int .i64 11) fun t238 =>
 zag t238
 (zaf 1 t12 fun t239 =>
 zae false 1 t239 H fun t240 =>
 zad .lss false t240 (.int .i64 0) fun t241 =>
 zab t241 false H (fun K' => zaf 1 t12 (K' · H)) fun t243 H =>
 zab t241 false H (fun K' => zae false 1 t243 H (K' · H)) fun t244 H =>
 zab t241 false H (fun K' => zaf 1 t1 (K' · H)) fun t245 H =>
 zab t241 false H (fun K' => zae false 1 t245 H (K' · H)) fun t246 H =>
 zab t241 false H (fun K' => zak 1 t246 (K' · H)) fun t247 H =>
 zab t241 false H (fun K' => zad .geq false t244 t247 (K' · H)) fun t248 H =>
 zah t241 (.bool true) t248 fun t249 =>
 zag t249
 (K (.bool false) H)
 (zaf 1 t12 fun t251 =>
 zae false 1 t251 H fun t252 =>
 zaj 1 t7 t252 fun t253 =>
 zae false 1 t253 H fun t254 =>
 zad .add false t254 (.int .i64 1) fun t255 =>
 zaj 1 t7 t252 fun t256 =>
 zas 1 t256 t255 H fun H =>
 zlH t1 t5 t6 t7 t175 t176 t177 H K Kb26))
 (zlH t1 t5 t6 t7 t175 t176 t177 H K Kb26))
def zlB (t1 t5 t6 t7 t12 t175 t176 t177 t208 t209 t210 : AV) (H : zaa) (K : Kt) (Kb26 : Lt) (Kb37 : Lt) : Prop :=
 zad .lss false t210 t209 fun t211 =>
 zag t211
 (zaj 1 t208 t210 fun t212 =>
 zae false 1 t212 H fun t213 =>
 ACalls tP zfl [t5, t213] H fun t216 H =>
 aUn .not t216 fun t217 =>
 zag t217
 (K (.bool false) H)
 (zad .add false t210 (.int .i64 1) fun t218 =>
 Kb37 (zfW t1 t5 t6 t7 t12 t175 t176 t177 t208 t209 t218) H))
 (zaf 2 t12 fun t219 =>
 zae false 1 t219 H fun t220 =>
 zak 1 t220 fun t221 =>
 zxm t1 t5 t6 t7 t12 t175 t176 t177 t220 t221 (.int .i64 0) H K Kb26)
def zjg (t1 t5 t6 t7 t11 t12 t175 t176 t177 t183 t184 t185 : AV) (H : zaa) (K : Kt) (Kb26 : Lt) (Kb29 : Lt) : Prop :=
 zad .lss false t185 t184 fun t186 =>
 zag t186
 (zaj 1 t183 t185 fun t187 =>
 zae false 1 t187 H fun t188 =>
 zad .leq false t188 t11 fun t191 =>
 zag t191
 (K (.bool false) H)
 (zad .add false t185 (.int .i64 1) fun t192 =>
 Kb29 (zfV t1 t5 t6 t7 t11 t12 t175 t176 t177 t183 t184 t192) H))
 (zaf 4 t12 fun t194 =>
 zae false 1 t194 H fun t195 =>
 ACalls tP zfl [t6, t195] H fun t196 H =>
 aUn .not t196 fun t197 =>
 zab t197 false H (fun K' => zaf 3 t12 (K' · H)) fun t199 H =>
 zab t197 false H (fun K' => zae false 1 t199 H (K' · H)) fun t200 H =>
 zab t197 false H (fun K' => zak 1 t200 (K' · H)) fun t201 H =>
 zab t197 false H (fun K' => zaf 4 t12 (K' · H)) fun t202 H =>
 zab t197 false H (fun K' => zae false 1 t202 H (K' · H)) fun t203 H =>
 zab t197 false H (fun K' => zak 1 t203 (K' · H)) fun t204 H =>
 zab t197 false H (fun K' => zad .neq false t201 t204 (K' · H)) fun t205 H =>
 zah t197 (.bool true) t205 fun t206 =>
 zag t206
 (K (.bool false) H)
 (zaf 3 t12 fun t207 =>
 zae false 1 t207 H fun t208 =>
 zak 1 t208 fun t209 =>
 zxk t1 t5 t6 t7 t12 t175 t176 t177 t208 t209 (.int .i64 0) H K Kb26))
def zfZ (t1 t6 t7 t258 t259 t260 : AV) : List AV := ux 1 (t1 :: ux 4 (t6 :: t7 :: ux 250 (t258 :: t259 :: t260 :: ux 88 [])))
def zxr : List Bool := zaM 54
noncomputable def zw2 : Code := zap [1, 1, 1, 1, 1, 1, 1, 1, 1, 1, 0, 1, 0, 0] zbN
def zwT (K : Kt) : AExit → List AV → zaa → Prop := zaq tP zaM [1, 1, 1, 1, 1, 1, 1, 1, 1, 1, 0, 1, 0] zbN (zal tP zdj K)
def zqq (t1 t6 t7 t258 t259 t260 : AV) (H : zaa) (K : Kt) : Prop := ALoop tP zw2 (zwT K) (zfZ t1 t6 t7 t258 t259 t260) H
def zf0 (t1 t7 t267 t268 t269 : AV) : List AV := ux 1 (t1 :: ux 5 (t7 :: ux 259 (t267 :: t268 :: t269 :: ux 79 [])))
def zxs : List Bool := zaM 60
noncomputable def zw3 : Code := zap [1, 1, 1, 1, 1, 1, 1, 1, 1, 1, 1, 0, 1, 0, 0] zbN
def zwU (K : Kt) : AExit → List AV → zaa → Prop := zaq tP zaM [1, 1, 1, 1, 1, 1, 1, 1, 1, 1, 1, 0, 1, 0] zbN (zal tP zdj K)
def zqr (t1 t7 t267 t268 t269 : AV) (H : zaa) (K : Kt) : Prop := ALoop tP zw3 (zwU K) (zf0 t1 t7 t267 t268 t269) H
def zeP (t1 t276 t277 t278 : AV) : List AV := ux 1 (t1 :: ux 274 (t276 :: t277 :: t278 :: ux 70 []))
def zxt : List Bool := zaM 66
noncomputable def zw4 : Code := zap [1, 1, 1, 1, 1, 1, 1, 1, 1, 1, 1, 1, 0, 1, 0, 0] zbN
def zwV (K : Kt) : AExit → List AV → zaa → Prop := zaq tP zaM [1, 1, 1, 1, 1, 1, 1, 1, 1, 1, 1, 1, 0, 1, 0] zbN (zal tP zdj K)
def zqs (t1 t276 t277 t278 : AV) (H : zaa) (K : Kt) : Prop := ALoop tP zw4 (zwV K) (zeP t1 t276 t277 t278) H
def zf1 (t1 t310 t311 : AV) : List AV := ux 1 (t1 :: ux 308 (t310 :: t311 :: ux 37 []))
def zxu : List Bool := zaM 72
noncomputable def zw5 : Code := zap [1, 1, 1, 1, 1, 1, 1, 1, 1, 1, 1, 1, 1, 0, 1, 0, 0] zbN
def zwW (K : Kt) : AExit → List AV → zaa → Prop := zaq tP zaM [1, 1, 1, 1, 1, 1, 1, 1, 1, 1, 1, 1, 1, 0, 1, 0] zbN (zal tP zdj K)
def zqt (t1 t310 t311 : AV) (H : zaa) (K : Kt) : Prop := ALoop tP zw5 (zwW K) (zf1 t1 t310 t311) H
def zf2 (t1 t324 t325 t326 : AV) : List AV := ux 1 (t1 :: ux 322 (t324 :: t325 :: t326 :: ux 22 []))
def zxv : List Bool := zaM 78
noncomputable def zw6 : Code := zap [1, 1, 1, 1, 1, 1, 1, 1, 1, 1, 1, 1, 1, 1, 0, 1, 0, 0] zbN
def zwX (K : Kt) : AExit → List AV → zaa → Prop := zaq tP zaM [1, 1, 1, 1, 1, 1, 1, 1, 1, 1, 1, 1, 1, 1, 0, 1, 0] zbN (zal tP zdj K)
def zqu (t1 t324 t325 t326 : AV) (H : zaa) (K : Kt) : Prop := ALoop tP zw6 (zwX K) (zf2 t1 t324 t325 t326) H
def zlE (t1 t324 t325 t326 : AV) (H : zaa) (K : Kt) (Kb78 : Lt) : Prop :=
 zad .lss false t326 t325 fun t327 =>
 zag t327
 (zaj 7 t324 t326 fun t328 =>
 zae true 7 t328 H fun t329 =>
 zaC [(.str []), .snil, .snil, (.int .i64 0), (.int .i64 0), .snil, (.int .i64 0)] H fun t27 H =>
 zas 7 t27 t329 H fun H =>
 zaf 2 t1 fun t330 =>
 zae false 1 t330 H fun t331 =>
 zak 1 t331 fun t332 =>
 zbd 1 [(.bool false)] t332 t332 H fun t333 H =>
 zaf 1 t27 fun t335 =>
 zae false 1 t335 H fun t336 =>
 ACalls tP zhm [t333, t336, (.bool true)] H fun t337 H =>
 zaf 2 t27 fun t339 =>
 zae false 1 t339 H fun t340 =>
 ACalls tP zhm [t333, t340, (.bool true)] H fun t341 H =>
 zae true 4 t1 H fun t342 =>
 zaf 6 t27 fun t343 =>
 zae false 1 t343 H fun t344 =>
 ACalls tP zkl [t342, t344, t333] H fun t346 H =>
 aUn .not t346 fun t347 =>
 zag t347
 (K (.bool false) H)
 (zad .add false t326 (.int .i64 1) fun t348 =>
 Kb78 (zf2 t1 t324 t325 t348) H))
 (K (.bool true) H)
def zlD (t1 t310 t311 : AV) (H : zaa) (K : Kt) (Kb72 : Lt) : Prop :=
 zad .lss false t311 t310 fun t312 =>
 zag t312
 (zac H (fun K' => zai true 4 t1 H (K' · H)) fun t314 =>
 zac H (fun K' => zaf 3 t1 (K' · H)) fun t315 =>
 zac H (fun K' => zai false 1 t315 H (K' · H)) fun t316 =>
 zac H (fun K' => K' t311 H) fun t317 =>
 zac H (fun K' => zaj 8 t316 t317 (K' · H)) fun t318 =>
 zac H (fun K' => zai true 8 t318 H (K' · H)) fun t319 =>
 zbv .w false H (fun K' => ACalls tP zoR [t314, t319] H K') fun t320 H =>
 zac H (fun K' => aUn .not t320 (K' · H)) fun t321 =>
 zag t321
 (K (.bool false) H)
 (zad .add false t311 (.int .i64 1) fun t322 =>
 Kb72 (zf1 t1 t310 t322) H))
 (zaf 1 t1 fun t323 =>
 zae false 1 t323 H fun t324 =>
 zak 1 t324 fun t325 =>
 zqu t1 t324 t325 (.int .i64 0) H K)
def zfS (t1 t276 t277 t278 : AV) (H : zaa) (K : Kt) (Kb66 : Lt) : Prop :=
 zad .lss false t278 t277 fun t279 =>
 zag t279
 (zaj 1 t276 t278 fun t281 =>
 zae false 1 t281 H fun t282 =>
 zaf 1 t1 fun t283 =>
 zae false 1 t283 H fun t284 =>
 zaj 7 t284 t278 fun t286 =>
 zaf 0 t286 fun t287 =>
 zae false 1 t287 H fun t288 =>
 zad .eql false t288 (.str []) fun t289 =>
 zab t289 true H (fun K' => K' t282 H) fun t291 H =>
 zab t289 true H (fun K' => zad .neq false t291 (.int .i64 1) (K' · H)) fun t292 H =>
 zah t289 t292 (.bool false) fun t293 =>
 zab t293 false H (fun K' => zaf 1 t1 (K' · H)) fun t295 H =>
 zab t293 false H (fun K' => zae false 1 t295 H (K' · H)) fun t296 H =>
 zab t293 false H (fun K' => K' t278 H) fun t297 H =>
 zab t293 false H (fun K' => zaj 7 t296 t297 (K' · H)) fun t298 H =>
 zab t293 false H (fun K' => zaf 0 t298 (K' · H)) fun t299 H =>
 zab t293 false H (fun K' => zae false 1 t299 H (K' · H)) fun t300 H =>
 zab t293 false H (fun K' => zad .neq false t300 (.str []) (K' · H)) fun t301 H =>
 zab t293 false H (fun K' => K' t301 H) fun t302 H =>
 zab t302 true H (fun K' => K' t282 H) fun t303 H =>
 zab t302 true H (fun K' => zad .neq false t303 (.int .i64 0) (K' · H)) fun t304 H =>
 zab t293 false H (fun K' => zah t302 t304 (.bool false) (K' · H)) fun t305 H =>
 zah t293 (.bool true) t305 fun t306 =>
 zag t306
 (K (.bool false) H)
 (zad .add false t278 (.int .i64 1) fun t307 =>
 Kb66 (zeP t1 t276 t277 t307) H))
 (zaf 3 t1 fun t308 =>
 zae false 1 t308 H fun t309 =>
 zak 1 t309 fun t310 =>
 zqt t1 t310 (.int .i64 0) H K)
def zji (t1 t7 t267 t268 t269 : AV) (H : zaa) (K : Kt) (Kb60 : Lt) : Prop :=
 zad .lss false t269 t268 fun t270 =>
 zag t270
 (zaj 1 t267 t269 fun t271 =>
 zae false 1 t271 H fun t272 =>
 zad .neq false t272 (.int .i64 1) fun t274 =>
 zag t274
 (K (.bool false) H)
 (zad .add false t269 (.int .i64 1) fun t275 =>
 Kb60 (zf0 t1 t7 t267 t268 t275) H))
 (zak 1 t7 fun t277 =>
 zqs t1 t7 t277 (.int .i64 0) H K)
def zjh (t1 t6 t7 t258 t259 t260 : AV) (H : zaa) (K : Kt) (Kb54 : Lt) : Prop :=
 zad .lss false t260 t259 fun t261 =>
 zag t261
 (zaj 1 t258 t260 fun t262 =>
 zae false 1 t262 H fun t263 =>
 zad .neq false t263 (.int .i64 1) fun t265 =>
 zag t265
 (K (.bool false) H)
 (zad .add false t260 (.int .i64 1) fun t266 =>
 Kb54 (zfZ t1 t6 t7 t258 t259 t266) H))
 (zak 1 t6 fun t268 =>
 zqr t1 t7 t6 t268 (.int .i64 0) H K)
def zlA (t1 t5 t6 t7 t175 t176 t177 : AV) (H : zaa) (K : Kt) (Kb26 : Lt) : Prop :=
 zad .lss false t177 t176 fun t178 =>
 zag t178
 (zaj 8 t175 t177 fun t180 =>
 zae true 8 t180 H fun t181 =>
 zaC [(.int .i64 0), (.int .i64 0), .snil, .snil, .snil, (.int .i64 0), (.int .i64 0), .snil] H fun t12 H =>
 zas 8 t12 t181 H fun H =>
 zaf 4 t12 fun t182 =>
 zae false 1 t182 H fun t183 =>
 zak 1 t183 fun t184 =>
 zxj t1 t5 t6 t7 t177 t12 t175 t176 t177 t183 t184 (.int .i64 0) H K Kb26)
 (zak 1 t5 fun t259 =>
 zqq t1 t6 t7 t5 t259 (.int .i64 0) H K)
noncomputable def zxh : Code := zap [1, 1, 1, 1, 1, 1, 1, 1] zbN
def zxg (K : Kt) : AExit → List AV → zaa → Prop := zaq tP zaM [1, 1, 1, 1, 1, 1, 1, 1] zbN (zal tP zdj K)
def zxf (t1 t5 t6 t7 t8 : AV) (H : zaa) (K : Kt) : Prop := AWp tP zxh (zxg K) (ux 1 (t1 :: ux 3 (t5 :: t6 :: t7 :: t8 :: ux 340 []))) H
def zqo (t1 t5 t6 t7 t8 : AV) (H : zaa) (K : Kt) : Prop :=
 ACalls tP zhl [t8] H fun t173 H =>
 zag t173
 (K (.bool false) H)
 (zaf 3 t1 fun t174 =>
 zae false 1 t174 H fun t175 =>
 zak 1 t175 fun t176 =>
 zqp t1 t5 t6 t7 t175 t176 (.int .i64 0) H K)
def zdx (t1 t5 t6 t7 t8 t77 t78 t79 : AV) (H : zaa) (K : Kt) (Kb14 : Lt) : Prop :=
 zad .lss false t79 t78 fun t80 =>
 zag t80
 (zaj 7 t77 t79 fun t82 =>
 zae true 7 t82 H fun t83 =>
 zaC [(.str []), .snil, .snil, (.int .i64 0), (.int .i64 0), .snil, (.int .i64 0)] H fun t10 H =>
 zas 7 t10 t83 H fun H =>
 zaf 0 t10 fun t84 =>
 zae false 1 t84 H fun t85 =>
 zad .eql false t85 (.str []) fun t86 =>
 zab t86 true H (fun K' => K' t79 H) fun t88 H =>
 zab t86 true H (fun K' => zad .add false t88 (.int .i64 1) (K' · H)) fun t89 H =>
 zab t86 true H (fun K' => zaf 1 t1 (K' · H)) fun t90 H =>
 zab t86 true H (fun K' => zae false 1 t90 H (K' · H)) fun t91 H =>
 zab t86 true H (fun K' => zak 1 t91 (K' · H)) fun t92 H =>
 zab t86 true H (fun K' => zad .lss false t89 t92 (K' · H)) fun t93 H =>
 zah t86 t93 (.bool false) fun t94 =>
 zab t94 true H (fun K' => zaf 1 t1 (K' · H)) fun t96 H =>
 zab t94 true H (fun K' => zae false 1 t96 H (K' · H)) fun t97 H =>
 zab t94 true H (fun K' => K' t79 H) fun t98 H =>
 zab t94 true H (fun K' => zad .add false t98 (.int .i64 1) (K' · H)) fun t99 H =>
 zab t94 true H (fun K' => zaj 7 t97 t99 (K' · H)) fun t100 H =>
 zab t94 true H (fun K' => zaf 0 t100 (K' · H)) fun t101 H =>
 zab t94 true H (fun K' => zae false 1 t101 H (K' · H)) fun t102 H =>
 zab t94 true H (fun K' => zad .neq false t102 (.str []) (K' · H)) fun t103 H =>
 zah t94 t103 (.bool false) fun t104 =>
 zab t104 false H (fun K' => zaf 0 t10 (K' · H)) fun t106 H =>
 zab t104 false H (fun K' => zae false 1 t106 H (K' · H)) fun t107 H =>
 zab t104 false H (fun K' => zad .neq false t107 (.str []) (K' · H)) fun t108 H =>
 zab t104 false H (fun K' => K' t108 H) fun t109 H =>
 zab t109 true H (fun K' => zaf 2 t10 (K' · H)) fun t110 H =>
 zab t109 true H (fun K' => zae false 1 t110 H (K' · H)) fun t111 H =>
 zab t109 true H (fun K' => zak 1 t111 (K' · H)) fun t112 H =>
 zab t109 true H (fun K' => zad .gtr false t112 (.int .i64 0) (K' · H)) fun t113 H =>
 zab t104 false H (fun K' => zah t109 t113 (.bool false) (K' · H)) fun t114 H =>
 zah t104 (.bool true) t114 fun t115 =>
 zab t115 false H (fun K' => zaf 1 t10 (K' · H)) fun t117 H =>
 zab t115 false H (fun K' => zae false 1 t117 H (K' · H)) fun t118 H =>
 zab t115 false H (fun K' => zak 1 t118 (K' · H)) fun t119 H =>
 zab t115 false H (fun K' => zad .gtr false t119 (.int .i64 6) (K' · H)) fun t120 H =>
 zah t115 (.bool true) t120 fun t121 =>
 zab t121 false H (fun K' => zaf 0 t1 (K' · H)) fun t123 H =>
 zab t121 false H (fun K' => zae false 1 t123 H (K' · H)) fun t124 H =>
 zab t121 false H (fun K' => zaf 3 t10 (K' · H)) fun t125 H =>
 zab t121 false H (fun K' => zae true 3 t125 H (K' · H)) fun t126 H =>
 zab t121 false H (fun K' => ACalls tP zhk [t124, t126, (.int .i64 0)] H K') fun t127 H =>
 zab t121 false H (fun K' => aUn .not t127 (K' · H)) fun t128 H =>
 zah t121 (.bool true) t128 fun t129 =>
 zag t129
 (K (.bool false) H)
 (zaf 0 t10 fun t130 =>
 zae false 1 t130 H fun t131 =>
 zad .neq false t131 (.str []) fun t132 =>
 zag t132
 (zaf 0 t10 fun t134 =>
 zae false 1 t134 H fun t135 =>
 zaA 1 [(.str [])] 1 [(0, t135)] fun t136 =>
 zaJ zbD 1 16 t8 t136 H fun t137 H =>
 zlG t1 t5 t6 t7 t137 t10 t77 t78 t79 H K Kb14)
 (zlG t1 t5 t6 t7 t8 t10 t77 t78 t79 H K Kb14)))
 (zxf t1 t5 t6 t7 t8 H K)
noncomputable def zxc : Code := zap [1, 1, 1, 1, 1] zbN
def zxb (K : Kt) : AExit → List AV → zaa → Prop := zaq tP zaM [1, 1, 1, 1, 1] zbN (zal tP zdj K)
def zxa (t1 t5 t6 : AV) (H : zaa) (K : Kt) : Prop := AWp tP zxc (zxb K) (ux 1 (t1 :: ux 3 (t5 :: t6 :: ux 342 []))) H
def zqm (t1 t5 t6 : AV) (H : zaa) (K : Kt) : Prop :=
 zaf 1 t1 fun t72 =>
 zae false 1 t72 H fun t73 =>
 zak 1 t73 fun t74 =>
 zbd 8 [(.int .i64 0)] t74 t74 H fun t75 H =>
 zaf 1 t1 fun t76 =>
 zae false 1 t76 H fun t77 =>
 zak 1 t77 fun t78 =>
 zlI t1 t5 t6 t75 .snil t77 t78 (.int .i64 0) H K
def zlC (t1 t52 t53 t54 : AV) (H : zaa) (K : Kt) (Kb4 : Lt) : Prop :=
 zad .lss false t54 t53 fun t55 =>
 zag t55
 (zaj 3 t52 t54 fun t56 =>
 zae true 3 t56 H fun t57 =>
 zaC [(.int .i64 0), (.int .i64 0), .snil] H fun t4 H =>
 zas 3 t4 t57 H fun H =>
 zaf 0 t1 fun t58 =>
 zae false 1 t58 H fun t59 =>
 zae true 3 t4 H fun t60 =>
 ACalls tP zhk [t59, t60, (.int .i64 0)] H fun t61 H =>
 aUn .not t61 fun t62 =>
 zag t62
 (K (.bool false) H)
 (zad .add false t54 (.int .i64 1) fun t63 =>
 Kb4 (zfX t1 t52 t53 t63) H))
 (zaf 2 t1 fun t64 =>
 zae false 1 t64 H fun t65 =>
 zak 1 t65 fun t66 =>
 zbd 8 [(.int .i64 0)] t66 t66 H fun t67 H =>
 zaf 3 t1 fun t68 =>
 zae false 1 t68 H fun t69 =>
 zak 1 t69 fun t70 =>
 zbd 8 [(.int .i64 0)] t70 t70 H fun t71 H =>
 zxa t1 t67 t71 H K)
noncomputable def zw9 : Code := zap [1, 1] zbN
def zw8 (K : Kt) : AExit → List AV → zaa → Prop := zaq tP zaM [1, 1] zbN (zal tP zdj K)
def zw7 (t1 : AV) (H : zaa) (K : Kt) : Prop := AWp tP zw9 (zw8 K) (ux 1 (t1 :: ux 347 [])) H
def zql (t1 : AV) (H : zaa) (K : Kt) : Prop :=
 zaf 2 t1 fun t51 =>
 zae false 1 t51 H fun t52 =>
 zak 1 t52 fun t53 =>
 zxl t1 t52 t53 (.int .i64 0) H K
def zqe (t0 : AV) (H : zaa) (K : Kt) : Prop :=
 zaH t0 H fun t1 H =>
 zaf 0 t1 fun t29 =>
 zae false 1 t29 H fun t30 =>
 ACalls tP zoQ [t30] H fun t31 H =>
 aUn .not t31 fun t32 =>
 zab t32 false H (fun K' => zaf 1 t1 (K' · H)) fun t34 H =>
 zab t32 false H (fun K' => zae false 1 t34 H (K' · H)) fun t35 H =>
 zab t32 false H (fun K' => zak 1 t35 (K' · H)) fun t36 H =>
 zab t32 false H (fun K' => zad .gtr false t36 (.int .i64 64) (K' · H)) fun t37 H =>
 zah t32 (.bool true) t37 fun t38 =>
 zab t38 false H (fun K' => zaf 3 t1 (K' · H)) fun t40 H =>
 zab t38 false H (fun K' => zae false 1 t40 H (K' · H)) fun t41 H =>
 zab t38 false H (fun K' => zak 1 t41 (K' · H)) fun t42 H =>
 zab t38 false H (fun K' => zad .gtr false t42 (.int .i64 3000) (K' · H)) fun t43 H =>
 zah t38 (.bool true) t43 fun t44 =>
 zab t44 false H (fun K' => zaf 2 t1 (K' · H)) fun t46 H =>
 zab t44 false H (fun K' => zae false 1 t46 H (K' · H)) fun t47 H =>
 zab t44 false H (fun K' => zak 1 t47 (K' · H)) fun t48 H =>
 zab t44 false H (fun K' => zad .gtr false t48 (.int .i64 3000) (K' · H)) fun t49 H =>
 zah t44 (.bool true) t49 fun t50 =>
 zag t50
 (K (.bool false) H)
 (zw7 t1 H K)
theorem zJq (t1 t5 t6 t7 t8 t10 t77 t78 t79 : AV) (H : zaa) (K : Kt) (Kb14 : Lt) : awp tP zaM zxe (zxd K Kb14) (ux 1 (t1 :: ux 3 (t5 :: t6 :: t7 :: t8 :: ux 1 (t10 :: ux 66 (t77 :: t78 :: t79 :: ux 269 []))))) H = zqn t1 t5 t6 t7 t8 t10 t77 t78 t79 H K Kb14 := by kernel_rfl
theorem zJr {t1 t5 t6 t7 t8 t10 t77 t78 t79 : AV} {H : zaa} {K : Kt} {Kb14 : Lt} (h : HSc H → zqn t1 t5 t6 t7 t8 t10 t77 t78 t79 H K Kb14) : zlG t1 t5 t6 t7 t8 t10 t77 t78 t79 H K Kb14 :=
 fun B w G a hH hF hd => zbB (M := zaM) _ _ _ _ ((zJq t1 t5 t6 t7 t8 t10 t77 t78 t79 H K Kb14).mpr (h hH.sc)) B w G a hH hF hd
theorem zJe (t1 t5 t6 t7 t12 t175 t176 t177 t220 t221 t222 : AV) (H : zaa) (K : Kt) (Kb26 : Lt) (Kb43 : Lt) : awp tP zaM zw1 (zat zxq Kb43 (zwS K Kb26)) (zfY t1 t5 t6 t7 t12 t175 t176 t177 t220 t221 t222) H = zei t1 t5 t6 t7 t12 t175 t176 t177 t220 t221 t222 H K Kb26 Kb43 := by kernel_rfl
theorem zJz {t1 t5 t6 t7 t12 t175 t176 t177 t220 t221 t222 : AV} {H : zaa} {K : Kt} {Kb26 : Lt} (Inv : Nat → AV → zaa → Prop) (n : Nat) (h0 : HSc H → Inv n t222 H)
  (round : ∀ n t222 H', Inv n t222 H' → HSc H' → H.length ≤ H'.length → (zfY t1 t5 t6 t7 t12 t175 t176 t177 t220 t221 t222).all (AV.sc H'.length) = true → ∀ Kb43 : Lt, (∀ F'' H'', (∃ n', n' < n ∧ Back H.length (fun F2 H2 => ∃ t222, F2 = zfY t1 t5 t6 t7 t12 t175 t176 t177 t220 t221 t222 ∧ Inv n' t222 H2) F'' H'') → Kb43 F'' H'') → zei t1 t5 t6 t7 t12 t175 t176 t177 t220 t221 t222 H' K Kb26 Kb43) : zxm t1 t5 t6 t7 t12 t175 t176 t177 t220 t221 t222 H K Kb26 :=
 zav (M := zaM) zxq (fun n F H => ∃ t222, F = zfY t1 t5 t6 t7 t12 t175 t176 t177 t220 t221 t222 ∧ Inv n t222 H) n (fun hs _ => ⟨t222, rfl, h0 hs⟩) (fun n F H' ⟨t222, hF, hI⟩ h1 h2 h3 => by subst hF; rw [zJe]; exact round n t222 H' hI h1 h2 h3 _ (fun _ _ h => h))
theorem zJd (t1 t5 t6 t7 t12 t175 t176 t177 t208 t209 t210 : AV) (H : zaa) (K : Kt) (Kb26 : Lt) (Kb37 : Lt) : awp tP zaM zwZ (zat zxo Kb37 (zwQ K Kb26)) (zfW t1 t5 t6 t7 t12 t175 t176 t177 t208 t209 t210) H = zlB t1 t5 t6 t7 t12 t175 t176 t177 t208 t209 t210 H K Kb26 Kb37 := by kernel_rfl
theorem zJx {t1 t5 t6 t7 t12 t175 t176 t177 t208 t209 t210 : AV} {H : zaa} {K : Kt} {Kb26 : Lt} (Inv : Nat → AV → zaa → Prop) (n : Nat) (h0 : HSc H → Inv n t210 H)
  (round : ∀ n t210 H', Inv n t210 H' → HSc H' → H.length ≤ H'.length → (zfW t1 t5 t6 t7 t12 t175 t176 t177 t208 t209 t210).all (AV.sc H'.length) = true → ∀ Kb37 : Lt, (∀ F'' H'', (∃ n', n' < n ∧ Back H.length (fun F2 H2 => ∃ t210, F2 = zfW t1 t5 t6 t7 t12 t175 t176 t177 t208 t209 t210 ∧ Inv n' t210 H2) F'' H'') → Kb37 F'' H'') → zlB t1 t5 t6 t7 t12 t175 t176 t177 t208 t209 t210 H' K Kb26 Kb37) : zxk t1 t5 t6 t7 t12 t175 t176 t177 t208 t209 t210 H K Kb26 :=
 zav (M := zaM) zxo (fun n F H => ∃ t210, F = zfW t1 t5 t6 t7 t12 t175 t176 t177 t208 t209 t210 ∧ Inv n t210 H) n (fun hs _ => ⟨t210, rfl, h0 hs⟩) (fun n F H' ⟨t210, hF, hI⟩ h1 h2 h3 => by subst hF; rw [zJd]; exact round n t210 H' hI h1 h2 h3 _ (fun _ _ h => h))
theorem zJc (t1 t5 t6 t7 t11 t12 t175 t176 t177 t183 t184 t185 : AV) (H : zaa) (K : Kt) (Kb26 : Lt) (Kb29 : Lt) : awp tP zaM zwY (zat zxn Kb29 (zwP K Kb26)) (zfV t1 t5 t6 t7 t11 t12 t175 t176 t177 t183 t184 t185) H = zjg t1 t5 t6 t7 t11 t12 t175 t176 t177 t183 t184 t185 H K Kb26 Kb29 := by kernel_rfl
theorem zJw {t1 t5 t6 t7 t11 t12 t175 t176 t177 t183 t184 t185 : AV} {H : zaa} {K : Kt} {Kb26 : Lt} (Inv : Nat → AV → zaa → Prop) (n : Nat) (h0 : HSc H → Inv n t185 H)
  (round : ∀ n t185 H', Inv n t185 H' → HSc H' → H.length ≤ H'.length → (zfV t1 t5 t6 t7 t11 t12 t175 t176 t177 t183 t184 t185).all (AV.sc H'.length) = true → ∀ Kb29 : Lt, (∀ F'' H'', (∃ n', n' < n ∧ Back H.length (fun F2 H2 => ∃ t185, F2 = zfV t1 t5 t6 t7 t11 t12 t175 t176 t177 t183 t184 t185 ∧ Inv n' t185 H2) F'' H'') → Kb29 F'' H'') → zjg t1 t5 t6 t7 t11 t12 t175 t176 t177 t183 t184 t185 H' K Kb26 Kb29) : zxj t1 t5 t6 t7 t11 t12 t175 t176 t177 t183 t184 t185 H K Kb26 :=
 zav (M := zaM) zxn (fun n F H => ∃ t185, F = zfV t1 t5 t6 t7 t11 t12 t175 t176 t177 t183 t184 t185 ∧ Inv n t185 H) n (fun hs _ => ⟨t185, rfl, h0 hs⟩) (fun n F H' ⟨t185, hF, hI⟩ h1 h2 h3 => by subst hF; rw [zJc]; exact round n t185 H' hI h1 h2 h3 _ (fun _ _ h => h))
theorem zJk (t1 t324 t325 t326 : AV) (H : zaa) (K : Kt) (Kb78 : Lt) : awp tP zaM zw6 (zat zxv Kb78 (zwX K)) (zf2 t1 t324 t325 t326) H = zlE t1 t324 t325 t326 H K Kb78 := by kernel_rfl
theorem zJE {t1 t324 t325 t326 : AV} {H : zaa} {K : Kt} (Inv : Nat → AV → zaa → Prop) (n : Nat) (h0 : HSc H → Inv n t326 H)
  (round : ∀ n t326 H', Inv n t326 H' → HSc H' → H.length ≤ H'.length → (zf2 t1 t324 t325 t326).all (AV.sc H'.length) = true → ∀ Kb78 : Lt, (∀ F'' H'', (∃ n', n' < n ∧ Back H.length (fun F2 H2 => ∃ t326, F2 = zf2 t1 t324 t325 t326 ∧ Inv n' t326 H2) F'' H'') → Kb78 F'' H'') → zlE t1 t324 t325 t326 H' K Kb78) : zqu t1 t324 t325 t326 H K :=
 zav (M := zaM) zxv (fun n F H => ∃ t326, F = zf2 t1 t324 t325 t326 ∧ Inv n t326 H) n (fun hs _ => ⟨t326, rfl, h0 hs⟩) (fun n F H' ⟨t326, hF, hI⟩ h1 h2 h3 => by subst hF; rw [zJk]; exact round n t326 H' hI h1 h2 h3 _ (fun _ _ h => h))
theorem zJj (t1 t310 t311 : AV) (H : zaa) (K : Kt) (Kb72 : Lt) : awp tP zaM zw5 (zat zxu Kb72 (zwW K)) (zf1 t1 t310 t311) H = zlD t1 t310 t311 H K Kb72 := by kernel_rfl
theorem zJD {t1 t310 t311 : AV} {H : zaa} {K : Kt} (Inv : Nat → AV → zaa → Prop) (n : Nat) (h0 : HSc H → Inv n t311 H)
  (round : ∀ n t311 H', Inv n t311 H' → HSc H' → H.length ≤ H'.length → (zf1 t1 t310 t311).all (AV.sc H'.length) = true → ∀ Kb72 : Lt, (∀ F'' H'', (∃ n', n' < n ∧ Back H.length (fun F2 H2 => ∃ t311, F2 = zf1 t1 t310 t311 ∧ Inv n' t311 H2) F'' H'') → Kb72 F'' H'') → zlD t1 t310 t311 H' K Kb72) : zqt t1 t310 t311 H K :=
 zav (M := zaM) zxu (fun n F H => ∃ t311, F = zf1 t1 t310 t311 ∧ Inv n t311 H) n (fun hs _ => ⟨t311, rfl, h0 hs⟩) (fun n F H' ⟨t311, hF, hI⟩ h1 h2 h3 => by subst hF; rw [zJj]; exact round n t311 H' hI h1 h2 h3 _ (fun _ _ h => h))
theorem zJi (t1 t276 t277 t278 : AV) (H : zaa) (K : Kt) (Kb66 : Lt) : awp tP zaM zw4 (zat zxt Kb66 (zwV K)) (zeP t1 t276 t277 t278) H = zfS t1 t276 t277 t278 H K Kb66 := by kernel_rfl
theorem zJC {t1 t276 t277 t278 : AV} {H : zaa} {K : Kt} (Inv : Nat → AV → zaa → Prop) (n : Nat) (h0 : HSc H → Inv n t278 H)
  (round : ∀ n t278 H', Inv n t278 H' → HSc H' → H.length ≤ H'.length → (zeP t1 t276 t277 t278).all (AV.sc H'.length) = true → ∀ Kb66 : Lt, (∀ F'' H'', (∃ n', n' < n ∧ Back H.length (fun F2 H2 => ∃ t278, F2 = zeP t1 t276 t277 t278 ∧ Inv n' t278 H2) F'' H'') → Kb66 F'' H'') → zfS t1 t276 t277 t278 H' K Kb66) : zqs t1 t276 t277 t278 H K :=
 zav (M := zaM) zxt (fun n F H => ∃ t278, F = zeP t1 t276 t277 t278 ∧ Inv n t278 H) n (fun hs _ => ⟨t278, rfl, h0 hs⟩) (fun n F H' ⟨t278, hF, hI⟩ h1 h2 h3 => by subst hF; rw [zJi]; exact round n t278 H' hI h1 h2 h3 _ (fun _ _ h => h))
theorem zJh (t1 t7 t267 t268 t269 : AV) (H : zaa) (K : Kt) (Kb60 : Lt) : awp tP zaM zw3 (zat zxs Kb60 (zwU K)) (zf0 t1 t7 t267 t268 t269) H = zji t1 t7 t267 t268 t269 H K Kb60 := by kernel_rfl
theorem zJB {t1 t7 t267 t268 t269 : AV} {H : zaa} {K : Kt} (Inv : Nat → AV → zaa → Prop) (n : Nat) (h0 : HSc H → Inv n t269 H)
  (round : ∀ n t269 H', Inv n t269 H' → HSc H' → H.length ≤ H'.length → (zf0 t1 t7 t267 t268 t269).all (AV.sc H'.length) = true → ∀ Kb60 : Lt, (∀ F'' H'', (∃ n', n' < n ∧ Back H.length (fun F2 H2 => ∃ t269, F2 = zf0 t1 t7 t267 t268 t269 ∧ Inv n' t269 H2) F'' H'') → Kb60 F'' H'') → zji t1 t7 t267 t268 t269 H' K Kb60) : zqr t1 t7 t267 t268 t269 H K :=
 zav (M := zaM) zxs (fun n F H => ∃ t269, F = zf0 t1 t7 t267 t268 t269 ∧ Inv n t269 H) n (fun hs _ => ⟨t269, rfl, h0 hs⟩) (fun n F H' ⟨t269, hF, hI⟩ h1 h2 h3 => by subst hF; rw [zJh]; exact round n t269 H' hI h1 h2 h3 _ (fun _ _ h => h))
theorem zJg (t1 t6 t7 t258 t259 t260 : AV) (H : zaa) (K : Kt) (Kb54 : Lt) : awp tP zaM zw2 (zat zxr Kb54 (zwT K)) (zfZ t1 t6 t7 t258 t259 t260) H = zjh t1 t6 t7 t258 t259 t260 H K Kb54 := by kernel_rfl
theorem zJA {t1 t6 t7 t258 t259 t260 : AV} {H : zaa} {K : Kt} (Inv : Nat → AV → zaa → Prop) (n : Nat) (h0 : HSc H → Inv n t260 H)
  (round : ∀ n t260 H', Inv n t260 H' → HSc H' → H.length ≤ H'.length → (zfZ t1 t6 t7 t258 t259 t260).all (AV.sc H'.length) = true → ∀ Kb54 : Lt, (∀ F'' H'', (∃ n', n' < n ∧ Back H.length (fun F2 H2 => ∃ t260, F2 = zfZ t1 t6 t7 t258 t259 t260 ∧ Inv n' t260 H2) F'' H'') → Kb54 F'' H'') → zjh t1 t6 t7 t258 t259 t260 H' K Kb54) : zqq t1 t6 t7 t258 t259 t260 H K :=
 zav (M := zaM) zxr (fun n F H => ∃ t260, F = zfZ t1 t6 t7 t258 t259 t260 ∧ Inv n t260 H) n (fun hs _ => ⟨t260, rfl, h0 hs⟩) (fun n F H' ⟨t260, hF, hI⟩ h1 h2 h3 => by subst hF; rw [zJg]; exact round n t260 H' hI h1 h2 h3 _ (fun _ _ h => h))
theorem zJb (t1 t5 t6 t7 t175 t176 t177 : AV) (H : zaa) (K : Kt) (Kb26 : Lt) : awp tP zaM zeO (zat zjj Kb26 (zjf K)) (zfU t1 t5 t6 t7 t175 t176 t177) H = zlA t1 t5 t6 t7 t175 t176 t177 H K Kb26 := by kernel_rfl
theorem zJv {t1 t5 t6 t7 t175 t176 t177 : AV} {H : zaa} {K : Kt} (Inv : Nat → AV → zaa → Prop) (n : Nat) (h0 : HSc H → Inv n t177 H)
  (round : ∀ n t177 H', Inv n t177 H' → HSc H' → H.length ≤ H'.length → (zfU t1 t5 t6 t7 t175 t176 t177).all (AV.sc H'.length) = true → ∀ Kb26 : Lt, (∀ F'' H'', (∃ n', n' < n ∧ Back H.length (fun F2 H2 => ∃ t177, F2 = zfU t1 t5 t6 t7 t175 t176 t177 ∧ Inv n' t177 H2) F'' H'') → Kb26 F'' H'') → zlA t1 t5 t6 t7 t175 t176 t177 H' K Kb26) : zqp t1 t5 t6 t7 t175 t176 t177 H K :=
 zav (M := zaM) zjj (fun n F H => ∃ t177, F = zfU t1 t5 t6 t7 t175 t176 t177 ∧ Inv n t177 H) n (fun hs _ => ⟨t177, rfl, h0 hs⟩) (fun n F H' ⟨t177, hF, hI⟩ h1 h2 h3 => by subst hF; rw [zJb]; exact round n t177 H' hI h1 h2 h3 _ (fun _ _ h => h))
theorem zJs (t1 t5 t6 t7 t8 : AV) (H : zaa) (K : Kt) : awp tP zaM zxh (zxg K) (ux 1 (t1 :: ux 3 (t5 :: t6 :: t7 :: t8 :: ux 340 []))) H = zqo t1 t5 t6 t7 t8 H K := by kernel_rfl
theorem zJt {t1 t5 t6 t7 t8 : AV} {H : zaa} {K : Kt} (h : HSc H → zqo t1 t5 t6 t7 t8 H K) : zxf t1 t5 t6 t7 t8 H K :=
 fun B w G a hH hF hd => zbB (M := zaM) _ _ _ _ ((zJs t1 t5 t6 t7 t8 H K).mpr (h hH.sc)) B w G a hH hF hd
theorem zJa (t1 t5 t6 t7 t8 t77 t78 t79 : AV) (H : zaa) (K : Kt) (Kb14 : Lt) : awp tP zaM zlF (zat zqv Kb14 (zqk K)) (zfT t1 t5 t6 t7 t8 t77 t78 t79) H = zdx t1 t5 t6 t7 t8 t77 t78 t79 H K Kb14 := by kernel_rfl
theorem zJu {t1 t5 t6 t7 t8 t77 t78 t79 : AV} {H : zaa} {K : Kt} (Inv : Nat → AV → AV → zaa → Prop) (n : Nat) (h0 : HSc H → Inv n t8 t79 H)
  (round : ∀ n t8 t79 H', Inv n t8 t79 H' → HSc H' → H.length ≤ H'.length → (zfT t1 t5 t6 t7 t8 t77 t78 t79).all (AV.sc H'.length) = true → ∀ Kb14 : Lt, (∀ F'' H'', (∃ n', n' < n ∧ Back H.length (fun F2 H2 => ∃ t8 t79, F2 = zfT t1 t5 t6 t7 t8 t77 t78 t79 ∧ Inv n' t8 t79 H2) F'' H'') → Kb14 F'' H'') → zdx t1 t5 t6 t7 t8 t77 t78 t79 H' K Kb14) : zlI t1 t5 t6 t7 t8 t77 t78 t79 H K :=
 zav (M := zaM) zqv (fun n F H => ∃ t8 t79, F = zfT t1 t5 t6 t7 t8 t77 t78 t79 ∧ Inv n t8 t79 H) n (fun hs _ => ⟨t8, t79, rfl, h0 hs⟩) (fun n F H' ⟨t8, t79, hF, hI⟩ h1 h2 h3 => by subst hF; rw [zJa]; exact round n t8 t79 H' hI h1 h2 h3 _ (fun _ _ h => h))
theorem zJo (t1 t5 t6 : AV) (H : zaa) (K : Kt) : awp tP zaM zxc (zxb K) (ux 1 (t1 :: ux 3 (t5 :: t6 :: ux 342 []))) H = zqm t1 t5 t6 H K := by kernel_rfl
theorem zJp {t1 t5 t6 : AV} {H : zaa} {K : Kt} (h : HSc H → zqm t1 t5 t6 H K) : zxa t1 t5 t6 H K :=
 fun B w G a hH hF hd => zbB (M := zaM) _ _ _ _ ((zJo t1 t5 t6 H K).mpr (h hH.sc)) B w G a hH hF hd
theorem zJf (t1 t52 t53 t54 : AV) (H : zaa) (K : Kt) (Kb4 : Lt) : awp tP zaM zw0 (zat zxp Kb4 (zwR K)) (zfX t1 t52 t53 t54) H = zlC t1 t52 t53 t54 H K Kb4 := by kernel_rfl
theorem zJy {t1 t52 t53 t54 : AV} {H : zaa} {K : Kt} (Inv : Nat → AV → zaa → Prop) (n : Nat) (h0 : HSc H → Inv n t54 H)
  (round : ∀ n t54 H', Inv n t54 H' → HSc H' → H.length ≤ H'.length → (zfX t1 t52 t53 t54).all (AV.sc H'.length) = true → ∀ Kb4 : Lt, (∀ F'' H'', (∃ n', n' < n ∧ Back H.length (fun F2 H2 => ∃ t54, F2 = zfX t1 t52 t53 t54 ∧ Inv n' t54 H2) F'' H'') → Kb4 F'' H'') → zlC t1 t52 t53 t54 H' K Kb4) : zxl t1 t52 t53 t54 H K :=
 zav (M := zaM) zxp (fun n F H => ∃ t54, F = zfX t1 t52 t53 t54 ∧ Inv n t54 H) n (fun hs _ => ⟨t54, rfl, h0 hs⟩) (fun n F H' ⟨t54, hF, hI⟩ h1 h2 h3 => by subst hF; rw [zJf]; exact round n t54 H' hI h1 h2 h3 _ (fun _ _ h => h))
theorem zJm (t1 : AV) (H : zaa) (K : Kt) : awp tP zaM zw9 (zw8 K) (ux 1 (t1 :: ux 347 [])) H = zql t1 H K := by kernel_rfl
theorem zJn {t1 : AV} {H : zaa} {K : Kt} (h : HSc H → zql t1 H K) : zw7 t1 H K :=
 fun B w G a hH hF hd => zbB (M := zaM) _ _ _ _ ((zJm t1 H K).mpr (h hH.sc)) B w G a hH hF hd
theorem zJl (t0 : AV) (H : zaa) (K : Kt) : awp tP zaM zbN (zal tP zdj K) (t0 :: List.replicate 348 .unk) H = zqe t0 H K := by kernel_rfl
theorem zJF {t0 : AV} {H : zaa} {K : Kt} (h : HSc H → zqe t0 H K) : ACalls tP zkg [t0] H K :=
 zaw (M := zaM) Try.func14 (c := zbN) (by kernel_rfl) (fun hs => (zJl t0 H K).mpr (h hs))
def zcU : Nat → List Bool
 | 5 => rl false [0,1,2,3,115]
 | 12 => rl false [0,1,2,5,113]
 | 18 => rl false [0,1,2,5,85,3,25]
 | _ => []
noncomputable def zmi : Code := Try.f48.body.getD .skip
noncomputable def zy0 : List ResultVar := Try.f48.results.toList
def zgq (t0 t3 t4 t5 : AV) : List AV := t0 :: ux 2 (t3 :: t4 :: t5 :: ux 115 [])
def zra : List Bool := zcU 5
noncomputable def zmk : Code := zap [1, 1, 1, 0, 1, 0, 0] zmi
def zq7 (K : Kt) : AExit → List AV → zaa → Prop := zaq tP zcU [1, 1, 1, 0, 1, 0] zmi (zal tP zy0 K)
def zmm (t0 t3 t4 t5 : AV) (H : zaa) (K : Kt) : Prop := ALoop tP zmk (zq7 K) (zgq t0 t3 t4 t5) H
def zgo (t0 t3 t4 t5 t6 t7 : AV) : List AV := t0 :: ux 2 (t3 :: t4 :: t5 :: t6 :: t7 :: ux 113 [])
def zq9 : List Bool := zcU 12
noncomputable def zmj : Code := zap [1, 0, 0, 1, 1, 1, 1, 0, 0] zmk
def zq6 (K : Kt) (Kb5 : Lt) : AExit → List AV → zaa → Prop := zaq tP zcU [1, 0, 0, 1, 1, 1, 1, 0] zmk (zat zra Kb5 (zq7 K))
def zyX (t0 t3 t4 t5 t6 t7 : AV) (H : zaa) (K : Kt) (Kb5 : Lt) : Prop := ALoop tP zmj (zq6 K Kb5) (zgo t0 t3 t4 t5 t6 t7) H
def zgp (t0 t3 t4 t5 t6 t7 t93 t94 t95 : AV) : List AV := t0 :: ux 2 (t3 :: t4 :: t5 :: t6 :: t7 :: ux 85 (t93 :: t94 :: t95 :: ux 25 []))
def zyZ : List Bool := zcU 18
noncomputable def zyV : Code := zap [1, 0, 0, 1, 1, 1, 0, 0] zmj
def zyU (K : Kt) (Kb5 : Lt) (Kb12 : Lt) : AExit → List AV → zaa → Prop := zaq tP zcU [1, 0, 0, 1, 1, 1, 0] zmj (zat zq9 Kb12 (zq6 K Kb5))
def zyY (t0 t3 t4 t5 t6 t7 t93 t94 t95 : AV) (H : zaa) (K : Kt) (Kb5 : Lt) (Kb12 : Lt) : Prop := ALoop tP zyV (zyU K Kb5 Kb12) (zgp t0 t3 t4 t5 t6 t7 t93 t94 t95) H
def zyW (t0 t3 t4 t5 t6 t7 t93 t94 t95 : AV) (H : zaa) (K : Kt) (Kb5 : Lt) (Kb12 : Lt) (Kb18 : Lt) : Prop :=
 zad .add false t95 (.int .i64 1) fun t112 =>
 Kb18 (zgp t0 t3 t4 t5 t6 t7 t93 t94 t112) H
def zml (t0 t3 t4 t5 t6 t7 t93 t94 t95 : AV) (H : zaa) (K : Kt) (Kb5 : Lt) (Kb12 : Lt) (Kb18 : Lt) : Prop :=
 zyW t0 t3 t4 t5 t6 t7 t93 t94 t95 H K Kb5 Kb12 Kb18
def zmh (t0 t3 t4 t5 t6 t7 t93 t94 t95 : AV) (H : zaa) (K : Kt) (Kb5 : Lt) (Kb12 : Lt) (Kb18 : Lt) : Prop :=
 zad .lss false t95 t94 fun t96 =>
 zag t96
 (zaj 3 t93 t95 fun t97 =>
 zae true 3 t97 H fun t98 =>
 zaC [(.int .i64 0), (.int .i64 0), .snil] H fun t9 H =>
 zas 3 t9 t98 H fun H =>
 zae true 3 t9 H fun t99 =>
 zaf 1 t6 fun t101 =>
 zae false 1 t101 H fun t102 =>
 ACalls tP zoV [t99, t5, t102] H fun t103 H =>
 zag t103
 (zml t0 t3 t4 t5 t6 t7 t93 t94 t95 H K Kb5 Kb12 Kb18)
 (zac H (fun K' => K' t0 H) fun t104 =>
 zac H (fun K' => K' t5 H) fun t105 =>
 zac H (fun K' => za0 1 3 t104 none (some t105) (K' · H)) fun t106 =>
 zac H (fun K' => zai true 3 t9 H (K' · H)) fun t107 =>
 zac H (fun K' => zaf 1 t6 (K' · H)) fun t108 =>
 zac H (fun K' => zai false 1 t108 H (K' · H)) fun t109 =>
 zay H (fun H K' => ACalls tP zhk [t106, t107, t109] H K') fun t110 =>
 zac H (fun K' => aUn .not t110 (K' · H)) fun t111 =>
 zag t111
 (K (.bool false) H)
 (zml t0 t3 t4 t5 t6 t7 t93 t94 t95 H K Kb5 Kb12 Kb18)))
 (zad .add false t7 (.int .i64 1) fun t60 =>
 Kb12 (zgo t0 t3 t4 t5 t6 t60) H)
def zmg (t0 t3 t4 t5 t6 t7 : AV) (H : zaa) (K : Kt) (Kb5 : Lt) (Kb12 : Lt) : Prop :=
 zaf 2 t6 fun t55 =>
 zae false 1 t55 H fun t56 =>
 zak 1 t56 fun t57 =>
 zad .lss false t7 t57 fun t58 =>
 zag t58
 (zaf 2 t6 fun t61 =>
 zae false 1 t61 H fun t62 =>
 zaj 2 t62 t7 fun t64 =>
 zaf 0 t64 fun t65 =>
 zae false 1 t65 H fun t66 =>
 ACalls tP zkr [t66] H fun t67 H =>
 aUn .not t67 fun t68 =>
 zab t68 false H (fun K' => zaf 2 t6 (K' · H)) fun t70 H =>
 zab t68 false H (fun K' => zae false 1 t70 H (K' · H)) fun t71 H =>
 zab t68 false H (fun K' => K' t7 H) fun t72 H =>
 zab t68 false H (fun K' => zaj 2 t71 t72 (K' · H)) fun t73 H =>
 zab t68 false H (fun K' => zaf 1 t73 (K' · H)) fun t74 H =>
 zab t68 false H (fun K' => zae false 1 t74 H (K' · H)) fun t75 H =>
 zab t68 false H (fun K' => zak 1 t75 (K' · H)) fun t76 H =>
 zab t68 false H (fun K' => zad .gtr false t76 (.int .i64 6) (K' · H)) fun t77 H =>
 zah t68 (.bool true) t77 fun t78 =>
 zag t78
 (K (.bool false) H)
 (zaf 2 t6 fun t80 =>
 zae false 1 t80 H fun t81 =>
 zaj 2 t81 t7 fun t83 =>
 zaf 0 t83 fun t84 =>
 zae false 1 t84 H fun t85 =>
 zaA 1 [(.str [])] 1 [(0, t85)] fun t86 =>
 zaJ zbD 1 16 t4 t86 H fun t87 H =>
 zaf 2 t6 fun t88 =>
 zae false 1 t88 H fun t89 =>
 zaj 2 t89 t7 fun t91 =>
 zaf 1 t91 fun t92 =>
 zae false 1 t92 H fun t93 =>
 zak 1 t93 fun t94 =>
 zyY t0 t3 t87 t5 t6 t7 t93 t94 (.int .i64 0) H K Kb5 Kb12))
 (zad .add false t5 (.int .i64 1) fun t18 =>
 Kb5 (zgq t0 t3 t4 t18) H)
def zeT (t0 t3 t4 t5 : AV) (H : zaa) (K : Kt) (Kb5 : Lt) : Prop :=
 zak 1 t0 fun t15 =>
 zad .lss false t5 t15 fun t16 =>
 zag t16
 (zaj 3 t0 t5 fun t21 =>
 zae true 3 t21 H fun t22 =>
 zaC [(.str []), (.int .i64 0), .snil] H fun t6 H =>
 zas 3 t6 t22 H fun H =>
 zaf 1 t6 fun t23 =>
 zae false 1 t23 H fun t24 =>
 zad .lss false t24 (.int .i64 0) fun t25 =>
 zab t25 false H (fun K' => zaf 1 t6 (K' · H)) fun t27 H =>
 zab t25 false H (fun K' => zae false 1 t27 H (K' · H)) fun t28 H =>
 zab t25 false H (fun K' => zad .gtr false t28 (.int .i64 6) (K' · H)) fun t29 H =>
 zah t25 (.bool true) t29 fun t30 =>
 zab t30 false H (fun K' => zaf 2 t6 (K' · H)) fun t32 H =>
 zab t30 false H (fun K' => zae false 1 t32 H (K' · H)) fun t33 H =>
 zab t30 false H (fun K' => zak 1 t33 (K' · H)) fun t34 H =>
 zab t30 false H (fun K' => zad .lss false t34 (.int .i64 1) (K' · H)) fun t35 H =>
 zah t30 (.bool true) t35 fun t36 =>
 zab t36 false H (fun K' => zaf 2 t6 (K' · H)) fun t38 H =>
 zab t36 false H (fun K' => zae false 1 t38 H (K' · H)) fun t39 H =>
 zab t36 false H (fun K' => zak 1 t39 (K' · H)) fun t40 H =>
 zab t36 false H (fun K' => zad .gtr false t40 (.int .i64 8) (K' · H)) fun t41 H =>
 zah t36 (.bool true) t41 fun t42 =>
 zab t42 false H (fun K' => zaf 0 t6 (K' · H)) fun t44 H =>
 zab t42 false H (fun K' => zae false 1 t44 H (K' · H)) fun t45 H =>
 zab t42 false H (fun K' => ACalls tP zkr [t45] H K') fun t46 H =>
 zab t42 false H (fun K' => aUn .not t46 (K' · H)) fun t47 H =>
 zah t42 (.bool true) t47 fun t48 =>
 zag t48
 (K (.bool false) H)
 (zaf 0 t6 fun t50 =>
 zae false 1 t50 H fun t51 =>
 zaA 1 [(.str [])] 1 [(0, t51)] fun t52 =>
 zaJ zbD 1 16 t3 t52 H fun t53 H =>
 zyX t0 t53 t4 t5 t6 (.int .i64 0) H K Kb5))
 (ACalls tP zhl [t3] H fun t114 H =>
 aUn .not t114 fun t115 =>
 zab t115 true H (fun K' => K' t4 H) fun t117 H =>
 zab t115 true H (fun K' => ACalls tP zhl [t117] H K') fun t118 H =>
 zab t115 true H (fun K' => aUn .not t118 (K' · H)) fun t119 H =>
 zah t115 t119 (.bool false) fun t120 =>
 K t120 H)
def zmf (t0 : AV) (H : zaa) (K : Kt) : Prop :=
 zak 1 t0 fun t11 =>
 zad .gtr false t11 (.int .i64 12) fun t12 =>
 zag t12
 (K (.bool false) H)
 (zmm t0 .snil .snil (.int .i64 0) H K)
theorem zLa (t0 t3 t4 t5 t6 t7 t93 t94 t95 : AV) (H : zaa) (K : Kt) (Kb5 : Lt) (Kb12 : Lt) (Kb18 : Lt) : awp tP zcU zyV (zat zyZ Kb18 (zyU K Kb5 Kb12)) (zgp t0 t3 t4 t5 t6 t7 t93 t94 t95) H = zmh t0 t3 t4 t5 t6 t7 t93 t94 t95 H K Kb5 Kb12 Kb18 := by kernel_rfl
theorem zLe {t0 t3 t4 t5 t6 t7 t93 t94 t95 : AV} {H : zaa} {K : Kt} {Kb5 : Lt} {Kb12 : Lt} (Inv : Nat → AV → zaa → Prop) (n : Nat) (h0 : HSc H → Inv n t95 H)
  (round : ∀ n t95 H', Inv n t95 H' → HSc H' → H.length ≤ H'.length → (zgp t0 t3 t4 t5 t6 t7 t93 t94 t95).all (AV.sc H'.length) = true → ∀ Kb18 : Lt, (∀ F'' H'', (∃ n', n' < n ∧ Back H.length (fun F2 H2 => ∃ t95, F2 = zgp t0 t3 t4 t5 t6 t7 t93 t94 t95 ∧ Inv n' t95 H2) F'' H'') → Kb18 F'' H'') → zmh t0 t3 t4 t5 t6 t7 t93 t94 t95 H' K Kb5 Kb12 Kb18) : zyY t0 t3 t4 t5 t6 t7 t93 t94 t95 H K Kb5 Kb12 :=
 zav (M := zcU) zyZ (fun n F H => ∃ t95, F = zgp t0 t3 t4 t5 t6 t7 t93 t94 t95 ∧ Inv n t95 H) n (fun hs _ => ⟨t95, rfl, h0 hs⟩) (fun n F H' ⟨t95, hF, hI⟩ h1 h2 h3 => by subst hF; rw [zLa]; exact round n t95 H' hI h1 h2 h3 _ (fun _ _ h => h))
theorem zK9 (t0 t3 t4 t5 t6 t7 : AV) (H : zaa) (K : Kt) (Kb5 : Lt) (Kb12 : Lt) : awp tP zcU zmj (zat zq9 Kb12 (zq6 K Kb5)) (zgo t0 t3 t4 t5 t6 t7) H = zmg t0 t3 t4 t5 t6 t7 H K Kb5 Kb12 := by kernel_rfl
theorem zLd {t0 t3 t4 t5 t6 t7 : AV} {H : zaa} {K : Kt} {Kb5 : Lt} (Inv : Nat → AV → AV → zaa → Prop) (n : Nat) (h0 : HSc H → Inv n t4 t7 H)
  (round : ∀ n t4 t7 H', Inv n t4 t7 H' → HSc H' → H.length ≤ H'.length → (zgo t0 t3 t4 t5 t6 t7).all (AV.sc H'.length) = true → ∀ Kb12 : Lt, (∀ F'' H'', (∃ n', n' < n ∧ Back H.length (fun F2 H2 => ∃ t4 t7, F2 = zgo t0 t3 t4 t5 t6 t7 ∧ Inv n' t4 t7 H2) F'' H'') → Kb12 F'' H'') → zmg t0 t3 t4 t5 t6 t7 H' K Kb5 Kb12) : zyX t0 t3 t4 t5 t6 t7 H K Kb5 :=
 zav (M := zcU) zq9 (fun n F H => ∃ t4 t7, F = zgo t0 t3 t4 t5 t6 t7 ∧ Inv n t4 t7 H) n (fun hs _ => ⟨t4, t7, rfl, h0 hs⟩) (fun n F H' ⟨t4, t7, hF, hI⟩ h1 h2 h3 => by subst hF; rw [zK9]; exact round n t4 t7 H' hI h1 h2 h3 _ (fun _ _ h => h))
theorem zLb (t0 t3 t4 t5 : AV) (H : zaa) (K : Kt) (Kb5 : Lt) : awp tP zcU zmk (zat zra Kb5 (zq7 K)) (zgq t0 t3 t4 t5) H = zeT t0 t3 t4 t5 H K Kb5 := by kernel_rfl
theorem zLf {t0 t3 t4 t5 : AV} {H : zaa} {K : Kt} (Inv : Nat → AV → AV → AV → zaa → Prop) (n : Nat) (h0 : HSc H → Inv n t3 t4 t5 H)
  (round : ∀ n t3 t4 t5 H', Inv n t3 t4 t5 H' → HSc H' → H.length ≤ H'.length → (zgq t0 t3 t4 t5).all (AV.sc H'.length) = true → ∀ Kb5 : Lt, (∀ F'' H'', (∃ n', n' < n ∧ Back H.length (fun F2 H2 => ∃ t3 t4 t5, F2 = zgq t0 t3 t4 t5 ∧ Inv n' t3 t4 t5 H2) F'' H'') → Kb5 F'' H'') → zeT t0 t3 t4 t5 H' K Kb5) : zmm t0 t3 t4 t5 H K :=
 zav (M := zcU) zra (fun n F H => ∃ t3 t4 t5, F = zgq t0 t3 t4 t5 ∧ Inv n t3 t4 t5 H) n (fun hs _ => ⟨t3, t4, t5, rfl, h0 hs⟩) (fun n F H' ⟨t3, t4, t5, hF, hI⟩ h1 h2 h3 => by subst hF; rw [zLb]; exact round n t3 t4 t5 H' hI h1 h2 h3 _ (fun _ _ h => h))
theorem zLc (t0 : AV) (H : zaa) (K : Kt) : awp tP zcU zmi (zal tP zy0 K) (t0 :: List.replicate 120 .unk) H = zmf t0 H K := by kernel_rfl
theorem zLg {t0 : AV} {H : zaa} {K : Kt} (h : HSc H → zmf t0 H K) : ACalls tP zoQ [t0] H K :=
 zaw (M := zcU) Try.func48 (c := zmi) (by kernel_rfl) (fun hs => (zLc t0 H K).mpr (h hs))
def zh3 : Nat → List Bool
 | 2 => rl false [0,1,6,3,18]
 | _ => []
noncomputable def zmn : Code := Try.f50.body.getD .skip
noncomputable def zy7 : List ResultVar := Try.f50.results.toList
def zgr (t0 t7 t8 t9 : AV) : List AV := t0 :: ux 6 (t7 :: t8 :: t9 :: ux 18 [])
def zy6 : List Bool := zh3 2
noncomputable def zy4 : Code := zap [1, 0, 1, 0, 0] zmn
def zy3 (K : Kt) : AExit → List AV → zaa → Prop := zaq tP zh3 [1, 0, 1, 0] zmn (zal tP zy7 K)
def zy5 (t0 t7 t8 t9 : AV) (H : zaa) (K : Kt) : Prop := ALoop tP zy4 (zy3 K) (zgr t0 t7 t8 t9) H
def zh4 (t0 t7 t8 t9 : AV) (H : zaa) (K : Kt) (Kb2 : Lt) : Prop :=
 zad .lss false t9 t8 fun t10 =>
 zag t10
 (zaj 1 t7 t9 fun t11 =>
 zae false 1 t11 H fun t12 =>
 zad .lss false t12 (.int .i64 0) fun t14 =>
 zab t14 false H (fun K' => K' t12 H) fun t16 H =>
 zab t14 false H (fun K' => K' t0 H) fun t17 H =>
 zab t14 false H (fun K' => zak 1 t17 (K' · H)) fun t18 H =>
 zab t14 false H (fun K' => zad .geq false t16 t18 (K' · H)) fun t19 H =>
 zah t14 (.bool true) t19 fun t20 =>
 zag t20
 (K (.bool false) H)
 (zaj 1 t0 t12 fun t23 =>
 zae false 1 t23 H fun t24 =>
 zad .add false t24 (.int .i64 1) fun t25 =>
 zaj 1 t0 t12 fun t26 =>
 zas 1 t26 t25 H fun H =>
 zad .add false t9 (.int .i64 1) fun t27 =>
 Kb2 (zgr t0 t7 t8 t27) H))
 (K (.bool true) H)
def zrc (t0 t1 : AV) (H : zaa) (K : Kt) : Prop :=
 zak 1 t1 fun t8 =>
 zy5 t0 t1 t8 (.int .i64 0) H K
theorem zLl (t0 t7 t8 t9 : AV) (H : zaa) (K : Kt) (Kb2 : Lt) : awp tP zh3 zy4 (zat zy6 Kb2 (zy3 K)) (zgr t0 t7 t8 t9) H = zh4 t0 t7 t8 t9 H K Kb2 := by kernel_rfl
theorem zLn {t0 t7 t8 t9 : AV} {H : zaa} {K : Kt} (Inv : Nat → AV → zaa → Prop) (n : Nat) (h0 : HSc H → Inv n t9 H)
  (round : ∀ n t9 H', Inv n t9 H' → HSc H' → H.length ≤ H'.length → (zgr t0 t7 t8 t9).all (AV.sc H'.length) = true → ∀ Kb2 : Lt, (∀ F'' H'', (∃ n', n' < n ∧ Back H.length (fun F2 H2 => ∃ t9, F2 = zgr t0 t7 t8 t9 ∧ Inv n' t9 H2) F'' H'') → Kb2 F'' H'') → zh4 t0 t7 t8 t9 H' K Kb2) : zy5 t0 t7 t8 t9 H K :=
 zav (M := zh3) zy6 (fun n F H => ∃ t9, F = zgr t0 t7 t8 t9 ∧ Inv n t9 H) n (fun hs _ => ⟨t9, rfl, h0 hs⟩) (fun n F H' ⟨t9, hF, hI⟩ h1 h2 h3 => by subst hF; rw [zLl]; exact round n t9 H' hI h1 h2 h3 _ (fun _ _ h => h))
theorem zLm (t0 t1 : AV) (H : zaa) (K : Kt) : awp tP zh3 zmn (zal tP zy7 K) (t0 :: t1 :: List.replicate 26 .unk) H = zrc t0 t1 H K := by kernel_rfl
theorem zLo {t0 t1 : AV} {H : zaa} {K : Kt} (h : HSc H → zrc t0 t1 H K) : ACalls tP zfl [t0, t1] H K :=
 zaw (M := zh3) Try.func50 (c := zmn) (by kernel_rfl) (fun hs => (zLm t0 t1 H K).mpr (h hs))
def zdU : Nat → List Bool
 | 2 => rl false [0,1,2,1,21]
 | 5 => rl false [0,1,2,2,20]
 | _ => []
noncomputable def zms : Code := Try.f52.body.getD .skip
noncomputable def zzj : List ResultVar := Try.f52.results.toList
def zgt (t0 t3 : AV) : List AV := t0 :: ux 2 (t3 :: ux 21 [])
def zrf : List Bool := zdU 2
noncomputable def zmt : Code := zap [1, 0, 1, 0, 0] zms
def zre (K : Kt) : AExit → List AV → zaa → Prop := zaq tP zdU [1, 0, 1, 0] zms (zal tP zzj K)
def zzg (t0 t3 : AV) (H : zaa) (K : Kt) : Prop := ALoop tP zmt (zre K) (zgt t0 t3) H
def zgu (t0 t3 t4 : AV) : List AV := t0 :: ux 2 (t3 :: t4 :: ux 20 [])
def zzi : List Bool := zdU 5
noncomputable def zzf : Code := zap [1, 0, 0, 1, 0, 0] zmt
def zze (K : Kt) (Kb2 : Lt) : AExit → List AV → zaa → Prop := zaq tP zdU [1, 0, 0, 1, 0] zmt (zat zrf Kb2 (zre K))
def zzh (t0 t3 t4 : AV) (H : zaa) (K : Kt) (Kb2 : Lt) : Prop := ALoop tP zzf (zze K Kb2) (zgu t0 t3 t4) H
def zmr (t0 t3 t4 : AV) (H : zaa) (K : Kt) (Kb2 : Lt) (Kb5 : Lt) : Prop :=
 zad .lss false t4 t3 fun t13 =>
 zag t13
 (zac H (fun K' => K' t0 H) fun t16 =>
 zac H (fun K' => K' t3 H) fun t17 =>
 zac H (fun K' => zaj 1 t16 t17 (K' · H)) fun t18 =>
 zac H (fun K' => zai false 1 t18 H (K' · H)) fun t19 =>
 zac H (fun K' => K' t0 H) fun t20 =>
 zac H (fun K' => K' t4 H) fun t21 =>
 zac H (fun K' => zaj 1 t20 t21 (K' · H)) fun t22 =>
 zac H (fun K' => zai false 1 t22 H (K' · H)) fun t23 =>
 zac H (fun K' => zad .eql false t19 t23 (K' · H)) fun t24 =>
 zag t24
 (K (.bool true) H)
 (zad .add false t4 (.int .i64 1) fun t15 =>
 Kb5 (zgu t0 t3 t15) H))
 (zad .add false t3 (.int .i64 1) fun t10 =>
 Kb2 (zgt t0 t10) H)
def zmq (t0 t3 : AV) (H : zaa) (K : Kt) (Kb2 : Lt) : Prop :=
 zak 1 t0 fun t7 =>
 zad .lss false t3 t7 fun t8 =>
 zag t8
 (zzh t0 t3 (.int .i64 0) H K Kb2)
 (K (.bool false) H)
def zrd (t0 : AV) (H : zaa) (K : Kt) : Prop :=
 zzg t0 (.int .i64 0) H K
theorem zLu (t0 t3 t4 : AV) (H : zaa) (K : Kt) (Kb2 : Lt) (Kb5 : Lt) : awp tP zdU zzf (zat zzi Kb5 (zze K Kb2)) (zgu t0 t3 t4) H = zmr t0 t3 t4 H K Kb2 Kb5 := by kernel_rfl
theorem zLx {t0 t3 t4 : AV} {H : zaa} {K : Kt} {Kb2 : Lt} (Inv : Nat → AV → zaa → Prop) (n : Nat) (h0 : HSc H → Inv n t4 H)
  (round : ∀ n t4 H', Inv n t4 H' → HSc H' → H.length ≤ H'.length → (zgu t0 t3 t4).all (AV.sc H'.length) = true → ∀ Kb5 : Lt, (∀ F'' H'', (∃ n', n' < n ∧ Back H.length (fun F2 H2 => ∃ t4, F2 = zgu t0 t3 t4 ∧ Inv n' t4 H2) F'' H'') → Kb5 F'' H'') → zmr t0 t3 t4 H' K Kb2 Kb5) : zzh t0 t3 t4 H K Kb2 :=
 zav (M := zdU) zzi (fun n F H => ∃ t4, F = zgu t0 t3 t4 ∧ Inv n t4 H) n (fun hs _ => ⟨t4, rfl, h0 hs⟩) (fun n F H' ⟨t4, hF, hI⟩ h1 h2 h3 => by subst hF; rw [zLu]; exact round n t4 H' hI h1 h2 h3 _ (fun _ _ h => h))
theorem zLt (t0 t3 : AV) (H : zaa) (K : Kt) (Kb2 : Lt) : awp tP zdU zmt (zat zrf Kb2 (zre K)) (zgt t0 t3) H = zmq t0 t3 H K Kb2 := by kernel_rfl
theorem zLw {t0 t3 : AV} {H : zaa} {K : Kt} (Inv : Nat → AV → zaa → Prop) (n : Nat) (h0 : HSc H → Inv n t3 H)
  (round : ∀ n t3 H', Inv n t3 H' → HSc H' → H.length ≤ H'.length → (zgt t0 t3).all (AV.sc H'.length) = true → ∀ Kb2 : Lt, (∀ F'' H'', (∃ n', n' < n ∧ Back H.length (fun F2 H2 => ∃ t3, F2 = zgt t0 t3 ∧ Inv n' t3 H2) F'' H'') → Kb2 F'' H'') → zmq t0 t3 H' K Kb2) : zzg t0 t3 H K :=
 zav (M := zdU) zrf (fun n F H => ∃ t3, F = zgt t0 t3 ∧ Inv n t3 H) n (fun hs _ => ⟨t3, rfl, h0 hs⟩) (fun n F H' ⟨t3, hF, hI⟩ h1 h2 h3 => by subst hF; rw [zLt]; exact round n t3 H' hI h1 h2 h3 _ (fun _ _ h => h))
theorem zLv (t0 : AV) (H : zaa) (K : Kt) : awp tP zdU zms (zal tP zzj K) (t0 :: List.replicate 24 .unk) H = zrd t0 H K := by kernel_rfl
theorem zLy {t0 : AV} {H : zaa} {K : Kt} (h : HSc H → zrd t0 H K) : ACalls tP zhl [t0] H K :=
 zaw (M := zdU) Try.func52 (c := zms) (by kernel_rfl) (fun hs => (zLv t0 H K).mpr (h hs))
def zh8 : Nat → List Bool
 | 1 => rl false [0,1,1,1,5,3,8]
 | _ => []
noncomputable def zmI : Code := Try.f54.body.getD .skip
noncomputable def zz4 : List ResultVar := Try.f54.results.toList
def zgD (t0 t2 t8 t9 t10 : AV) : List AV := t0 :: ux 1 (t2 :: ux 5 (t8 :: t9 :: t10 :: ux 8 []))
def zz3 : List Bool := zh8 1
noncomputable def zz1 : Code := zap [1, 0, 0] zmI
def zz0 (K : Kt) : AExit → List AV → zaa → Prop := zaq tP zh8 [1, 0] zmI (zal tP zz4 K)
def zz2 (t0 t2 t8 t9 t10 : AV) (H : zaa) (K : Kt) : Prop := ALoop tP zz1 (zz0 K) (zgD t0 t2 t8 t9 t10) H
def zmH (t0 t2 t8 t9 t10 : AV) (H : zaa) (K : Kt) (Kb1 : Lt) : Prop :=
 zad .lss false t10 t9 fun t11 =>
 zag t11
 (zaj 1 t8 t10 fun t12 =>
 zae false 1 t12 H fun t13 =>
 zaj 1 t0 t13 fun t17 =>
 zas 1 t17 t2 H fun H =>
 zad .add false t10 (.int .i64 1) fun t18 =>
 Kb1 (zgD t0 t2 t8 t9 t18) H)
 (zaY [] (K · H))
def zrx (t0 t1 t2 : AV) (H : zaa) (K : Kt) : Prop :=
 zak 1 t1 fun t9 =>
 zz2 t0 t2 t1 t9 (.int .i64 0) H K
theorem zMa (t0 t2 t8 t9 t10 : AV) (H : zaa) (K : Kt) (Kb1 : Lt) : awp tP zh8 zz1 (zat zz3 Kb1 (zz0 K)) (zgD t0 t2 t8 t9 t10) H = zmH t0 t2 t8 t9 t10 H K Kb1 := by kernel_rfl
theorem zMc {t0 t2 t8 t9 t10 : AV} {H : zaa} {K : Kt} (Inv : Nat → AV → zaa → Prop) (n : Nat) (h0 : HSc H → Inv n t10 H)
  (round : ∀ n t10 H', Inv n t10 H' → HSc H' → H.length ≤ H'.length → (zgD t0 t2 t8 t9 t10).all (AV.sc H'.length) = true → ∀ Kb1 : Lt, (∀ F'' H'', (∃ n', n' < n ∧ Back H.length (fun F2 H2 => ∃ t10, F2 = zgD t0 t2 t8 t9 t10 ∧ Inv n' t10 H2) F'' H'') → Kb1 F'' H'') → zmH t0 t2 t8 t9 t10 H' K Kb1) : zz2 t0 t2 t8 t9 t10 H K :=
 zav (M := zh8) zz3 (fun n F H => ∃ t10, F = zgD t0 t2 t8 t9 t10 ∧ Inv n t10 H) n (fun hs _ => ⟨t10, rfl, h0 hs⟩) (fun n F H' ⟨t10, hF, hI⟩ h1 h2 h3 => by subst hF; rw [zMa]; exact round n t10 H' hI h1 h2 h3 _ (fun _ _ h => h))
theorem zMb (t0 t1 t2 : AV) (H : zaa) (K : Kt) : awp tP zh8 zmI (zal tP zz4 K) (t0 :: t1 :: t2 :: List.replicate 16 .unk) H = zrx t0 t1 t2 H K := by kernel_rfl
theorem zMd {t0 t1 t2 : AV} {H : zaa} {K : Kt} (h : HSc H → zrx t0 t1 t2 H K) : ACalls tP zhm [t0, t1, t2] H K :=
 zaw (M := zh8) Try.func54 (c := zmI) (by kernel_rfl) (fun hs => (zMb t0 t1 t2 H K).mpr (h hs))
def zdV : Nat → List Bool
 | 3 => rl false [2,2,3,1,10,3,40]
 | 9 => rl false [2,2,3,1,24,2,27]
 | 200012 => rl false [0,1]
 | _ => []
noncomputable def zh9 : Code := Try.f55.body.getD .skip
noncomputable def zrz : List ResultVar := Try.f55.results.toList
def zgE (t2 t3 t7 t18 t19 t20 : AV) : List AV := ux 2 (t2 :: t3 :: ux 3 (t7 :: ux 10 (t18 :: t19 :: t20 :: ux 40 [])))
def zAb : List Bool := zdV 3
noncomputable def zz7 : Code := zap [1, 1, 0, 1, 0, 0] zh9
def zz5 (K : Kt) : AExit → List AV → zaa → Prop := zaq tP zdV [1, 1, 0, 1, 0] zh9 (zal tP zrz K)
def zz9 (t2 t3 t7 t18 t19 t20 : AV) (H : zaa) (K : Kt) : Prop := ALoop tP zz7 (zz5 K) (zgE t2 t3 t7 t18 t19 t20) H
def zgF (t2 t3 t7 t32 t33 : AV) : List AV := ux 2 (t2 :: t3 :: ux 3 (t7 :: ux 24 (t32 :: t33 :: ux 27 [])))
def zAc : List Bool := zdV 9
noncomputable def zz8 : Code := zap [1, 1, 1, 0, 1, 0, 0] zh9
def zz6 (K : Kt) : AExit → List AV → zaa → Prop := zaq tP zdV [1, 1, 1, 0, 1, 0] zh9 (zal tP zrz K)
def zAa (t2 t3 t7 t32 t33 : AV) (H : zaa) (K : Kt) : Prop := ALoop tP zz8 (zz6 K) (zgF t2 t3 t7 t32 t33) H
def zmJ (t2 t3 t7 t32 t33 : AV) (H : zaa) (K : Kt) (Kb9 : Lt) : Prop :=
 zad .lss false t33 t32 fun t34 =>
 zag t34
 (zaf 3 t7 fun t37 =>
 zae false 1 t37 H fun t38 =>
 zaj 1 t38 t33 fun t40 =>
 zae false 1 t40 H fun t41 =>
 ACalls tP zhm [t2, t41, (.bool true)] H fun t42 H =>
 zac H (fun K' => zai true 4 t3 H (K' · H)) fun t43 =>
 zac H (fun K' => zaf 4 t7 (K' · H)) fun t44 =>
 zac H (fun K' => zai false 1 t44 H (K' · H)) fun t45 =>
 zac H (fun K' => K' t33 H) fun t46 =>
 zac H (fun K' => zaj 1 t45 t46 (K' · H)) fun t47 =>
 zac H (fun K' => zai false 1 t47 H (K' · H)) fun t48 =>
 zac H (fun K' => K' t2 H) fun t49 =>
 zbv .w false H (fun K' => ACalls tP zkl [t43, t48, t49] H K') fun t50 H =>
 zac H (fun K' => K' t50 H) fun t11 =>
 zaf 3 t7 fun t52 =>
 zae false 1 t52 H fun t53 =>
 zaj 1 t53 t33 fun t55 =>
 zae false 1 t55 H fun t56 =>
 ACalls tP zhm [t2, t56, (.bool false)] H fun t57 H =>
 aUn .not t11 fun t59 =>
 zag t59
 (K (.bool false) H)
 (zad .add false t33 (.int .i64 1) fun t60 =>
 Kb9 (zgF t2 t3 t7 t32 t60) H))
 (K (.bool true) H)
def zjw (t2 t3 t7 t18 t19 t20 : AV) (H : zaa) (K : Kt) (Kb3 : Lt) : Prop :=
 zad .lss false t20 t19 fun t21 =>
 zag t21
 (zaj 1 t18 t20 fun t22 =>
 zae false 1 t22 H fun t23 =>
 zaj 1 t2 t23 fun t26 =>
 zae false 1 t26 H fun t27 =>
 aUn .not t27 fun t28 =>
 zag t28
 (K (.bool false) H)
 (zad .add false t20 (.int .i64 1) fun t29 =>
 Kb3 (zgE t2 t3 t7 t18 t19 t29) H))
 (zaf 4 t7 fun t30 =>
 zae false 1 t30 H fun t31 =>
 zak 1 t31 fun t32 =>
 zAa t2 t3 t7 t32 (.int .i64 0) H K)
def zry (t0 t1 t2 : AV) (H : zaa) (K : Kt) : Prop :=
 zaH t0 H fun t3 H =>
 zaf 3 t3 fun t12 =>
 zae false 1 t12 H fun t13 =>
 zaj 8 t13 t1 fun t15 =>
 zae true 8 t15 H fun t16 =>
 zaC [(.int .i64 0), (.int .i64 0), .snil, .snil, .snil, (.int .i64 0), (.int .i64 0), .snil] H fun t7 H =>
 zas 8 t7 t16 H fun H =>
 zaf 2 t7 fun t17 =>
 zae false 1 t17 H fun t18 =>
 zak 1 t18 fun t19 =>
 zz9 t2 t3 t7 t18 t19 (.int .i64 0) H K
theorem zMf (t2 t3 t7 t32 t33 : AV) (H : zaa) (K : Kt) (Kb9 : Lt) : awp tP zdV zz8 (zat zAc Kb9 (zz6 K)) (zgF t2 t3 t7 t32 t33) H = zmJ t2 t3 t7 t32 t33 H K Kb9 := by kernel_rfl
theorem zMi {t2 t3 t7 t32 t33 : AV} {H : zaa} {K : Kt} (Inv : Nat → AV → zaa → Prop) (n : Nat) (h0 : HSc H → Inv n t33 H)
  (round : ∀ n t33 H', Inv n t33 H' → HSc H' → H.length ≤ H'.length → (zgF t2 t3 t7 t32 t33).all (AV.sc H'.length) = true → ∀ Kb9 : Lt, (∀ F'' H'', (∃ n', n' < n ∧ Back H.length (fun F2 H2 => ∃ t33, F2 = zgF t2 t3 t7 t32 t33 ∧ Inv n' t33 H2) F'' H'') → Kb9 F'' H'') → zmJ t2 t3 t7 t32 t33 H' K Kb9) : zAa t2 t3 t7 t32 t33 H K :=
 zav (M := zdV) zAc (fun n F H => ∃ t33, F = zgF t2 t3 t7 t32 t33 ∧ Inv n t33 H) n (fun hs _ => ⟨t33, rfl, h0 hs⟩) (fun n F H' ⟨t33, hF, hI⟩ h1 h2 h3 => by subst hF; rw [zMf]; exact round n t33 H' hI h1 h2 h3 _ (fun _ _ h => h))
theorem zMe (t2 t3 t7 t18 t19 t20 : AV) (H : zaa) (K : Kt) (Kb3 : Lt) : awp tP zdV zz7 (zat zAb Kb3 (zz5 K)) (zgE t2 t3 t7 t18 t19 t20) H = zjw t2 t3 t7 t18 t19 t20 H K Kb3 := by kernel_rfl
theorem zMh {t2 t3 t7 t18 t19 t20 : AV} {H : zaa} {K : Kt} (Inv : Nat → AV → zaa → Prop) (n : Nat) (h0 : HSc H → Inv n t20 H)
  (round : ∀ n t20 H', Inv n t20 H' → HSc H' → H.length ≤ H'.length → (zgE t2 t3 t7 t18 t19 t20).all (AV.sc H'.length) = true → ∀ Kb3 : Lt, (∀ F'' H'', (∃ n', n' < n ∧ Back H.length (fun F2 H2 => ∃ t20, F2 = zgE t2 t3 t7 t18 t19 t20 ∧ Inv n' t20 H2) F'' H'') → Kb3 F'' H'') → zjw t2 t3 t7 t18 t19 t20 H' K Kb3) : zz9 t2 t3 t7 t18 t19 t20 H K :=
 zav (M := zdV) zAb (fun n F H => ∃ t20, F = zgE t2 t3 t7 t18 t19 t20 ∧ Inv n t20 H) n (fun hs _ => ⟨t20, rfl, h0 hs⟩) (fun n F H' ⟨t20, hF, hI⟩ h1 h2 h3 => by subst hF; rw [zMe]; exact round n t20 H' hI h1 h2 h3 _ (fun _ _ h => h))
theorem zMg (t0 t1 t2 : AV) (H : zaa) (K : Kt) : awp tP zdV zh9 (zal tP zrz K) (t0 :: t1 :: t2 :: List.replicate 58 .unk) H = zry t0 t1 t2 H K := by kernel_rfl
theorem zMj {t0 t1 t2 : AV} {H : zaa} {K : Kt} (h : HSc H → zry t0 t1 t2 H K) : ACalls tP zkl [t0, t1, t2] H K :=
 zaw (M := zdV) Try.func55 (c := zh9) (by kernel_rfl) (fun hs => (zMg t0 t1 t2 H K).mpr (h hs))
def zBv (_ : Nat) : List Bool := []
noncomputable def zBw : Code := Try.f81.body.getD .skip
noncomputable def zNA : List ResultVar := Try.f81.results.toList
def zrX (t0 t1 : AV) (H : zaa) (K : Kt) : Prop :=
 ACalls tP zdh [t0, t1] H fun t7 H =>
 K t7 H
theorem zNy (t0 t1 : AV) (H : zaa) (K : Kt) : awp tP zBv zBw (zal tP zNA K) (t0 :: t1 :: List.replicate 6 .unk) H = zrX t0 t1 H K := by kernel_rfl
theorem zNz {t0 t1 : AV} {H : zaa} {K : Kt} (h : HSc H → zrX t0 t1 H K) : ACalls tP zc1 [t0, t1] H K :=
 zaw (M := zBv) Try.func81 (c := zBw) (by kernel_rfl) (fun hs => (zNy t0 t1 H K).mpr (h hs))
def zcO : Nat → List Bool
 | 4 => rl false [1,1,30,3,67]
 | 10 => rl false [62,3,37]
 | 15 => rl false [62,3,26,3,8]
 | _ => []
noncomputable def zhG : Code := Try.f12.body.getD .skip
noncomputable def zp0 : List ResultVar := Try.f12.results.toList
def zfE (t1 t32 t33 t34 : AV) : List AV := ux 1 (t1 :: ux 30 (t32 :: t33 :: t34 :: ux 67 []))
def zvO : List Bool := zcO 4
noncomputable def zvJ : Code := zap [1, 1, 0, 1, 0, 0] zhG
def zvH (K : Kt) : AExit → List AV → zaa → Prop := zaq tP zcO [1, 1, 0, 1, 0] zhG (zal tP zp0 K)
def zvM (t1 t32 t33 t34 : AV) (H : zaa) (K : Kt) : Prop := ALoop tP zvJ (zvH K) (zfE t1 t32 t33 t34) H
def zfC (t62 t63 t64 : AV) : List AV := ux 62 (t62 :: t63 :: t64 :: ux 37 [])
def zpZ : List Bool := zcO 10
noncomputable def zlc : Code := zap [1, 1, 1, 0, 1, 0, 0] zhG
def zpY (K : Kt) : AExit → List AV → zaa → Prop := zaq tP zcO [1, 1, 1, 0, 1, 0] zhG (zal tP zp0 K)
def zvK (t62 t63 t64 : AV) (H : zaa) (K : Kt) : Prop := ALoop tP zlc (zpY K) (zfC t62 t63 t64) H
def zfD (t62 t63 t64 t91 t92 t93 : AV) : List AV := ux 62 (t62 :: t63 :: t64 :: ux 26 (t91 :: t92 :: t93 :: ux 8 []))
def zvN : List Bool := zcO 15
noncomputable def zvI : Code := zap [1, 1, 0, 0, 1, 1, 1, 0, 0] zlc
def zvG (K : Kt) (Kb10 : Lt) : AExit → List AV → zaa → Prop := zaq tP zcO [1, 1, 0, 0, 1, 1, 1, 0] zlc (zat zpZ Kb10 (zpY K))
def zvL (t62 t63 t64 t91 t92 t93 : AV) (H : zaa) (K : Kt) (Kb10 : Lt) : Prop := ALoop tP zvI (zvG K Kb10) (zfD t62 t63 t64 t91 t92 t93) H
def zla (t62 t63 t64 t91 t92 t93 : AV) (H : zaa) (K : Kt) (Kb10 : Lt) (Kb15 : Lt) : Prop :=
 zad .lss false t93 t92 fun t94 =>
 zag t94
 (zaj 1 t91 t93 fun t95 =>
 zae false 1 t95 H fun t96 =>
 zak 1 t96 fun t98 =>
 zad .gtr false t98 (.int .i64 10) fun t99 =>
 zag t99
 (K (.bool false) H)
 (zad .add false t93 (.int .i64 1) fun t100 =>
 Kb15 (zfD t62 t63 t64 t91 t92 t100) H))
 (zad .add false t64 (.int .i64 1) fun t101 =>
 Kb10 (zfC t62 t63 t101) H)
def zk9 (t62 t63 t64 : AV) (H : zaa) (K : Kt) (Kb10 : Lt) : Prop :=
 zad .lss false t64 t63 fun t65 =>
 zag t65
 (zaj 8 t62 t64 fun t66 =>
 zae true 8 t66 H fun t67 =>
 zaC [(.int .i64 0), (.int .i64 0), .snil, .snil, .snil, (.int .i64 0), (.int .i64 0), .snil] H fun t6 H =>
 zas 8 t6 t67 H fun H =>
 zaf 2 t6 fun t68 =>
 zae false 1 t68 H fun t69 =>
 zak 1 t69 fun t70 =>
 zad .gtr false t70 (.int .i64 40) fun t71 =>
 zab t71 false H (fun K' => zaf 3 t6 (K' · H)) fun t73 H =>
 zab t71 false H (fun K' => zae false 1 t73 H (K' · H)) fun t74 H =>
 zab t71 false H (fun K' => zak 1 t74 (K' · H)) fun t75 H =>
 zab t71 false H (fun K' => zad .gtr false t75 (.int .i64 10) (K' · H)) fun t76 H =>
 zah t71 (.bool true) t76 fun t77 =>
 zab t77 false H (fun K' => zaf 4 t6 (K' · H)) fun t79 H =>
 zab t77 false H (fun K' => zae false 1 t79 H (K' · H)) fun t80 H =>
 zab t77 false H (fun K' => zak 1 t80 (K' · H)) fun t81 H =>
 zab t77 false H (fun K' => zad .gtr false t81 (.int .i64 10) (K' · H)) fun t82 H =>
 zah t77 (.bool true) t82 fun t83 =>
 zab t83 false H (fun K' => zaf 5 t6 (K' · H)) fun t85 H =>
 zab t83 false H (fun K' => zae true 3 t85 H (K' · H)) fun t86 H =>
 zab t83 false H (fun K' => ACalls tP ziY [t86] H K') fun t87 H =>
 zab t83 false H (fun K' => aUn .not t87 (K' · H)) fun t88 H =>
 zah t83 (.bool true) t88 fun t89 =>
 zag t89
 (K (.bool false) H)
 (zaf 3 t6 fun t90 =>
 zae false 1 t90 H fun t91 =>
 zak 1 t91 fun t92 =>
 zvL t62 t63 t64 t91 t92 (.int .i64 0) H K Kb10))
 (K (.bool true) H)
def zlb (t1 t32 t33 t34 : AV) (H : zaa) (K : Kt) (Kb4 : Lt) : Prop :=
 zad .lss false t34 t33 fun t35 =>
 zag t35
 (zaj 7 t32 t34 fun t36 =>
 zae true 7 t36 H fun t37 =>
 zaC [(.str []), .snil, .snil, (.int .i64 0), (.int .i64 0), .snil, (.int .i64 0)] H fun t4 H =>
 zas 7 t4 t37 H fun H =>
 zaf 0 t4 fun t38 =>
 zae false 1 t38 H fun t39 =>
 zak 0 t39 fun t40 =>
 zad .gtr false t40 (.int .i64 400) fun t41 =>
 zab t41 false H (fun K' => zaf 1 t4 (K' · H)) fun t43 H =>
 zab t41 false H (fun K' => zae false 1 t43 H (K' · H)) fun t44 H =>
 zab t41 false H (fun K' => zak 1 t44 (K' · H)) fun t45 H =>
 zab t41 false H (fun K' => zad .gtr false t45 (.int .i64 10) (K' · H)) fun t46 H =>
 zah t41 (.bool true) t46 fun t47 =>
 zab t47 false H (fun K' => zaf 2 t4 (K' · H)) fun t49 H =>
 zab t47 false H (fun K' => zae false 1 t49 H (K' · H)) fun t50 H =>
 zab t47 false H (fun K' => zak 1 t50 (K' · H)) fun t51 H =>
 zab t47 false H (fun K' => zad .gtr false t51 (.int .i64 40) (K' · H)) fun t52 H =>
 zah t47 (.bool true) t52 fun t53 =>
 zab t53 false H (fun K' => zaf 3 t4 (K' · H)) fun t55 H =>
 zab t53 false H (fun K' => zae true 3 t55 H (K' · H)) fun t56 H =>
 zab t53 false H (fun K' => ACalls tP ziY [t56] H K') fun t57 H =>
 zab t53 false H (fun K' => aUn .not t57 (K' · H)) fun t58 H =>
 zah t53 (.bool true) t58 fun t59 =>
 zag t59
 (K (.bool false) H)
 (zad .add false t34 (.int .i64 1) fun t60 =>
 Kb4 (zfE t1 t32 t33 t60) H))
 (zaf 3 t1 fun t61 =>
 zae false 1 t61 H fun t62 =>
 zak 1 t62 fun t63 =>
 zvK t62 t63 (.int .i64 0) H K)
def zpO (t0 : AV) (H : zaa) (K : Kt) : Prop :=
 zaH t0 H fun t1 H =>
 zaf 0 t1 fun t9 =>
 zae false 1 t9 H fun t10 =>
 ACalls tP zoH [t10] H fun t11 H =>
 aUn .not t11 fun t12 =>
 zab t12 false H (fun K' => zaf 1 t1 (K' · H)) fun t14 H =>
 zab t12 false H (fun K' => zae false 1 t14 H (K' · H)) fun t15 H =>
 zab t12 false H (fun K' => zak 1 t15 (K' · H)) fun t16 H =>
 zab t12 false H (fun K' => zad .gtr false t16 (.int .i64 24) (K' · H)) fun t17 H =>
 zah t12 (.bool true) t17 fun t18 =>
 zab t18 false H (fun K' => zaf 3 t1 (K' · H)) fun t20 H =>
 zab t18 false H (fun K' => zae false 1 t20 H (K' · H)) fun t21 H =>
 zab t18 false H (fun K' => zak 1 t21 (K' · H)) fun t22 H =>
 zab t18 false H (fun K' => zad .gtr false t22 (.int .i64 160) (K' · H)) fun t23 H =>
 zah t18 (.bool true) t23 fun t24 =>
 zab t24 false H (fun K' => zaf 2 t1 (K' · H)) fun t26 H =>
 zab t24 false H (fun K' => zae false 1 t26 H (K' · H)) fun t27 H =>
 zab t24 false H (fun K' => ACalls tP zoI [t27, (.int .i64 160)] H K') fun t28 H =>
 zab t24 false H (fun K' => aUn .not t28 (K' · H)) fun t29 H =>
 zah t24 (.bool true) t29 fun t30 =>
 zag t30
 (K (.bool false) H)
 (zaf 1 t1 fun t31 =>
 zae false 1 t31 H fun t32 =>
 zak 1 t32 fun t33 =>
 zvM t1 t32 t33 (.int .i64 0) H K)
theorem zHV (t62 t63 t64 t91 t92 t93 : AV) (H : zaa) (K : Kt) (Kb10 : Lt) (Kb15 : Lt) : awp tP zcO zvI (zat zvN Kb15 (zvG K Kb10)) (zfD t62 t63 t64 t91 t92 t93) H = zla t62 t63 t64 t91 t92 t93 H K Kb10 Kb15 := by kernel_rfl
theorem zHZ {t62 t63 t64 t91 t92 t93 : AV} {H : zaa} {K : Kt} {Kb10 : Lt} (Inv : Nat → AV → zaa → Prop) (n : Nat) (h0 : HSc H → Inv n t93 H)
  (round : ∀ n t93 H', Inv n t93 H' → HSc H' → H.length ≤ H'.length → (zfD t62 t63 t64 t91 t92 t93).all (AV.sc H'.length) = true → ∀ Kb15 : Lt, (∀ F'' H'', (∃ n', n' < n ∧ Back H.length (fun F2 H2 => ∃ t93, F2 = zfD t62 t63 t64 t91 t92 t93 ∧ Inv n' t93 H2) F'' H'') → Kb15 F'' H'') → zla t62 t63 t64 t91 t92 t93 H' K Kb10 Kb15) : zvL t62 t63 t64 t91 t92 t93 H K Kb10 :=
 zav (M := zcO) zvN (fun n F H => ∃ t93, F = zfD t62 t63 t64 t91 t92 t93 ∧ Inv n t93 H) n (fun hs _ => ⟨t93, rfl, h0 hs⟩) (fun n F H' ⟨t93, hF, hI⟩ h1 h2 h3 => by subst hF; rw [zHV]; exact round n t93 H' hI h1 h2 h3 _ (fun _ _ h => h))
theorem zHU (t62 t63 t64 : AV) (H : zaa) (K : Kt) (Kb10 : Lt) : awp tP zcO zlc (zat zpZ Kb10 (zpY K)) (zfC t62 t63 t64) H = zk9 t62 t63 t64 H K Kb10 := by kernel_rfl
theorem zHY {t62 t63 t64 : AV} {H : zaa} {K : Kt} (Inv : Nat → AV → zaa → Prop) (n : Nat) (h0 : HSc H → Inv n t64 H)
  (round : ∀ n t64 H', Inv n t64 H' → HSc H' → H.length ≤ H'.length → (zfC t62 t63 t64).all (AV.sc H'.length) = true → ∀ Kb10 : Lt, (∀ F'' H'', (∃ n', n' < n ∧ Back H.length (fun F2 H2 => ∃ t64, F2 = zfC t62 t63 t64 ∧ Inv n' t64 H2) F'' H'') → Kb10 F'' H'') → zk9 t62 t63 t64 H' K Kb10) : zvK t62 t63 t64 H K :=
 zav (M := zcO) zpZ (fun n F H => ∃ t64, F = zfC t62 t63 t64 ∧ Inv n t64 H) n (fun hs _ => ⟨t64, rfl, h0 hs⟩) (fun n F H' ⟨t64, hF, hI⟩ h1 h2 h3 => by subst hF; rw [zHU]; exact round n t64 H' hI h1 h2 h3 _ (fun _ _ h => h))
theorem zHW (t1 t32 t33 t34 : AV) (H : zaa) (K : Kt) (Kb4 : Lt) : awp tP zcO zvJ (zat zvO Kb4 (zvH K)) (zfE t1 t32 t33 t34) H = zlb t1 t32 t33 t34 H K Kb4 := by kernel_rfl
theorem zH0 {t1 t32 t33 t34 : AV} {H : zaa} {K : Kt} (Inv : Nat → AV → zaa → Prop) (n : Nat) (h0 : HSc H → Inv n t34 H)
  (round : ∀ n t34 H', Inv n t34 H' → HSc H' → H.length ≤ H'.length → (zfE t1 t32 t33 t34).all (AV.sc H'.length) = true → ∀ Kb4 : Lt, (∀ F'' H'', (∃ n', n' < n ∧ Back H.length (fun F2 H2 => ∃ t34, F2 = zfE t1 t32 t33 t34 ∧ Inv n' t34 H2) F'' H'') → Kb4 F'' H'') → zlb t1 t32 t33 t34 H' K Kb4) : zvM t1 t32 t33 t34 H K :=
 zav (M := zcO) zvO (fun n F H => ∃ t34, F = zfE t1 t32 t33 t34 ∧ Inv n t34 H) n (fun hs _ => ⟨t34, rfl, h0 hs⟩) (fun n F H' ⟨t34, hF, hI⟩ h1 h2 h3 => by subst hF; rw [zHW]; exact round n t34 H' hI h1 h2 h3 _ (fun _ _ h => h))
theorem zHX (t0 : AV) (H : zaa) (K : Kt) : awp tP zcO zhG (zal tP zp0 K) (t0 :: List.replicate 101 .unk) H = zpO t0 H K := by kernel_rfl
theorem zH1 {t0 : AV} {H : zaa} {K : Kt} (h : HSc H → zpO t0 H K) : ACalls tP zoz [t0] H K :=
 zaw (M := zcO) Try.func12 (c := zhG) (by kernel_rfl) (fun hs => (zHX t0 H K).mpr (h hs))
end Go.Proofs.Ytkdmpbhbmmhijaa

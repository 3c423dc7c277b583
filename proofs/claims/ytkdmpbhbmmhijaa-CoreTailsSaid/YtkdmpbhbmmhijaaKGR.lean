/- The shallow forms of functions of the program, printed by a program (absgen.py) off the translation, each tied to the model by the kernel. -/
import Derived.Test.YtkdmpbhbmmhijaaKNum
import Derived.Test.YtkdmpbhbmmhijaaProg
import Derived.KernelRfl
namespace Go.Proofs.Ytkdmpbhbmmhijaa
open Go Go.Abs
set_option linter.unusedVariables false
set_option maxRecDepth 100000
def zq12_M : Nat → List Bool
 | 4 => rl false [1,1,50,3,294]
 | 14 => rl false [1,1,3,4,68,3,269]
 | 200020 => rl false [0,1]
 | 26 => rl false [1,1,3,3,167,3,171]
 | 29 => rl false [1,1,3,3,3,2,162,3,5,3,163]
 | 37 => rl false [1,1,3,3,4,1,162,3,30,3,138]
 | 43 => rl false [1,1,3,3,4,1,162,3,42,3,126]
 | 54 => rl false [1,1,4,2,250,3,88]
 | 60 => rl false [1,1,5,1,259,3,79]
 | 66 => rl false [1,1,274,3,70]
 | 72 => rl false [1,1,308,2,37]
 | 200074 => rl false [0,1]
 | 78 => rl false [1,1,322,3,22]
 | 100020 => rl false [1,1,3,4,1,1,66,3,269]
 | 100023 => rl false [1,1,3,4,340]
 | 100011 => rl false [1,1,3,2,342]
 | 100003 => rl false [1,1,347]
 | _ => []
noncomputable def zq12_c : Code := Try.f14.body.getD .skip
noncomputable def zq12_r : List ResultVar := Try.f14.results.toList
def zq12_fr4 (t1 t52 t53 t54 : AV) : List AV := ux 1 (t1 :: ux 50 (t52 :: t53 :: t54 :: ux 294 []))
def zq12_m4 : List Bool := zq12_M 4
noncomputable def zq12_c4 : Code := codeAt [1, 1, 0, 1, 0, 0] zq12_c
def zq12_Q4 (K : Kt) : AExit → List AV → Heap → Prop := contAt tP zq12_M [1, 1, 0, 1, 0] zq12_c (retQ tP zq12_r K)
def zq12_l4 (t1 t52 t53 t54 : AV) (H : Heap) (K : Kt) : Prop := ALoop tP zq12_c4 (zq12_Q4 K) (zq12_fr4 t1 t52 t53 t54) H
def zq12_fr14 (t1 t5 t6 t7 t8 t77 t78 t79 : AV) : List AV := ux 1 (t1 :: ux 3 (t5 :: t6 :: t7 :: t8 :: ux 68 (t77 :: t78 :: t79 :: ux 269 [])))
def zq12_m14 : List Bool := zq12_M 14
noncomputable def zq12_c14 : Code := codeAt [1, 1, 1, 1, 1, 1, 1, 0, 1, 0, 0] zq12_c
def zq12_Q14 (K : Kt) : AExit → List AV → Heap → Prop := contAt tP zq12_M [1, 1, 1, 1, 1, 1, 1, 0, 1, 0] zq12_c (retQ tP zq12_r K)
def zq12_l14 (t1 t5 t6 t7 t8 t77 t78 t79 : AV) (H : Heap) (K : Kt) : Prop := ALoop tP zq12_c14 (zq12_Q14 K) (zq12_fr14 t1 t5 t6 t7 t8 t77 t78 t79) H
noncomputable def zq12_j3_c : Code := codeAt [1, 1, 0, 0, 1, 1, 1] zq12_c14
def zq12_j3_Q (K : Kt) (Kb14 : Lt) : AExit → List AV → Heap → Prop := contAt tP zq12_M [1, 1, 0, 0, 1, 1, 1] zq12_c14 (roundQ zq12_m14 Kb14 (zq12_Q14 K))
def zq12_j3 (t1 t5 t6 t7 t8 t10 t77 t78 t79 : AV) (H : Heap) (K : Kt) (Kb14 : Lt) : Prop := AWp tP zq12_j3_c (zq12_j3_Q K Kb14) (ux 1 (t1 :: ux 3 (t5 :: t6 :: t7 :: t8 :: ux 1 (t10 :: ux 66 (t77 :: t78 :: t79 :: ux 269 []))))) H
def zq12_j3b (t1 t5 t6 t7 t8 t10 t77 t78 t79 : AV) (H : Heap) (K : Kt) (Kb14 : Lt) : Prop :=
 aPure H (fun k => k t5 H) fun t138 =>
 aPure H (fun k => aFld 1 t10 (k · H)) fun t139 =>
 aPure H (fun k => aLoad false 1 t139 H (k · H)) fun t140 =>
 aDet .w false H (fun k => ACalls tP n_zq48 [t138, t140] H k) fun t141 H =>
 aPure H (fun k => aUn .not t141 (k · H)) fun t142 =>
 aPure H (fun k => k t142 H) fun t143 =>
 aGuardJ t143 false H (fun k => aPure H (fun l => l t5 H) (k · H)) fun t144 H =>
 aGuardJ t143 false H (fun k => aPure H (fun l => aFld 2 t10 (l · H)) (k · H)) fun t145 H =>
 aGuardJ t143 false H (fun k => aPure H (fun l => aLoad false 1 t145 H (l · H)) (k · H)) fun t146 H =>
 aGuardJ t143 false H (fun k => aDet .w false H (fun l => ACalls tP n_zq48 [t144, t146] H l) k) fun t147 H =>
 aGuardJ t143 false H (fun k => aPure H (fun l => aUn .not t147 (l · H)) (k · H)) fun t148 H =>
 aPure H (fun k => aPick t143 (.bool true) t148 (k · H)) fun t149 =>
 aPure H (fun k => k t149 H) fun t150 =>
 aGuardJ t150 false H (fun k => aPure H (fun l => l t6 H) (k · H)) fun t151 H =>
 aGuardJ t150 false H (fun k => aPure H (fun l => aFld 6 t10 (l · H)) (k · H)) fun t152 H =>
 aGuardJ t150 false H (fun k => aPure H (fun l => aLoad false 1 t152 H (l · H)) (k · H)) fun t153 H =>
 aGuardJ t150 false H (fun k => aPure H (fun l => aBuildS 1 [(.int .i64 0)] 1 [(0, t153)] (l · H)) (k · H)) fun t154 H =>
 aGuardJ t150 false H (fun k => aDet .w false H (fun l => ACalls tP n_zq48 [t151, t154] H l) k) fun t155 H =>
 aGuardJ t150 false H (fun k => aPure H (fun l => aUn .not t155 (l · H)) (k · H)) fun t156 H =>
 aPure H (fun k => aPick t150 (.bool true) t156 (k · H)) fun t157 =>
 aPure H (fun k => k t157 H) fun t158 =>
 aGuardJ t158 false H (fun k => aPure H (fun l => aFld 3 t1 (l · H)) (k · H)) fun t159 H =>
 aGuardJ t158 false H (fun k => aPure H (fun l => aLoad false 1 t159 H (l · H)) (k · H)) fun t160 H =>
 aGuardJ t158 false H (fun k => aPure H (fun l => aFld 6 t10 (l · H)) (k · H)) fun t161 H =>
 aGuardJ t158 false H (fun k => aPure H (fun l => aLoad false 1 t161 H (l · H)) (k · H)) fun t162 H =>
 aGuardJ t158 false H (fun k => aPure H (fun l => aIdxA 8 t160 t162 (l · H)) (k · H)) fun t163 H =>
 aGuardJ t158 false H (fun k => aPure H (fun l => aFld 5 t163 (l · H)) (k · H)) fun t164 H =>
 aGuardJ t158 false H (fun k => aPure H (fun l => aLoad true 3 t164 H (l · H)) (k · H)) fun t165 H =>
 aGuardJ t158 false H (fun k => aPure H (fun l => aFld 3 t10 (l · H)) (k · H)) fun t166 H =>
 aGuardJ t158 false H (fun k => aPure H (fun l => aLoad true 3 t166 H (l · H)) (k · H)) fun t167 H =>
 aGuardJ t158 false H (fun k => aDet .w false H (fun l => ACalls tP n_zq49 [t165, t167] H l) k) fun t168 H =>
 aGuardJ t158 false H (fun k => aPure H (fun l => aUn .not t168 (l · H)) (k · H)) fun t169 H =>
 aPure H (fun k => aPick t158 (.bool true) t169 (k · H)) fun t170 =>
 aTest t170
 (K (.bool false) H)
 (aBin .add false t79 (.int .i64 1) fun t171 =>
 Kb14 (zq12_fr14 t1 t5 t6 t7 t8 t77 t78 t171) H)
def zq12_fr26 (t1 t5 t6 t7 t175 t176 t177 : AV) : List AV := ux 1 (t1 :: ux 3 (t5 :: t6 :: t7 :: ux 167 (t175 :: t176 :: t177 :: ux 171 [])))
def zq12_m26 : List Bool := zq12_M 26
noncomputable def zq12_c26 : Code := codeAt [1, 1, 1, 1, 1, 1, 1, 1, 1, 0, 1, 0, 0] zq12_c
def zq12_Q26 (K : Kt) : AExit → List AV → Heap → Prop := contAt tP zq12_M [1, 1, 1, 1, 1, 1, 1, 1, 1, 0, 1, 0] zq12_c (retQ tP zq12_r K)
def zq12_l26 (t1 t5 t6 t7 t175 t176 t177 : AV) (H : Heap) (K : Kt) : Prop := ALoop tP zq12_c26 (zq12_Q26 K) (zq12_fr26 t1 t5 t6 t7 t175 t176 t177) H
def zq12_fr29 (t1 t5 t6 t7 t11 t12 t175 t176 t177 t183 t184 t185 : AV) : List AV := ux 1 (t1 :: ux 3 (t5 :: t6 :: t7 :: ux 3 (t11 :: t12 :: ux 162 (t175 :: t176 :: t177 :: ux 5 (t183 :: t184 :: t185 :: ux 163 [])))))
def zq12_m29 : List Bool := zq12_M 29
noncomputable def zq12_c29 : Code := codeAt [1, 1, 0, 0, 1, 0, 1, 0, 0] zq12_c26
def zq12_Q29 (K : Kt) (Kb26 : Lt) : AExit → List AV → Heap → Prop := contAt tP zq12_M [1, 1, 0, 0, 1, 0, 1, 0] zq12_c26 (roundQ zq12_m26 Kb26 (zq12_Q26 K))
def zq12_l29 (t1 t5 t6 t7 t11 t12 t175 t176 t177 t183 t184 t185 : AV) (H : Heap) (K : Kt) (Kb26 : Lt) : Prop := ALoop tP zq12_c29 (zq12_Q29 K Kb26) (zq12_fr29 t1 t5 t6 t7 t11 t12 t175 t176 t177 t183 t184 t185) H
def zq12_fr37 (t1 t5 t6 t7 t12 t175 t176 t177 t208 t209 t210 : AV) : List AV := ux 1 (t1 :: ux 3 (t5 :: t6 :: t7 :: ux 4 (t12 :: ux 162 (t175 :: t176 :: t177 :: ux 30 (t208 :: t209 :: t210 :: ux 138 [])))))
def zq12_m37 : List Bool := zq12_M 37
noncomputable def zq12_c37 : Code := codeAt [1, 1, 0, 0, 1, 1, 1, 0, 1, 0, 0] zq12_c26
def zq12_Q37 (K : Kt) (Kb26 : Lt) : AExit → List AV → Heap → Prop := contAt tP zq12_M [1, 1, 0, 0, 1, 1, 1, 0, 1, 0] zq12_c26 (roundQ zq12_m26 Kb26 (zq12_Q26 K))
def zq12_l37 (t1 t5 t6 t7 t12 t175 t176 t177 t208 t209 t210 : AV) (H : Heap) (K : Kt) (Kb26 : Lt) : Prop := ALoop tP zq12_c37 (zq12_Q37 K Kb26) (zq12_fr37 t1 t5 t6 t7 t12 t175 t176 t177 t208 t209 t210) H
def zq12_fr43 (t1 t5 t6 t7 t12 t175 t176 t177 t220 t221 t222 : AV) : List AV := ux 1 (t1 :: ux 3 (t5 :: t6 :: t7 :: ux 4 (t12 :: ux 162 (t175 :: t176 :: t177 :: ux 42 (t220 :: t221 :: t222 :: ux 126 [])))))
def zq12_m43 : List Bool := zq12_M 43
noncomputable def zq12_c43 : Code := codeAt [1, 1, 0, 0, 1, 1, 1, 1, 0, 1, 0, 0] zq12_c26
def zq12_Q43 (K : Kt) (Kb26 : Lt) : AExit → List AV → Heap → Prop := contAt tP zq12_M [1, 1, 0, 0, 1, 1, 1, 1, 0, 1, 0] zq12_c26 (roundQ zq12_m26 Kb26 (zq12_Q26 K))
def zq12_l43 (t1 t5 t6 t7 t12 t175 t176 t177 t220 t221 t222 : AV) (H : Heap) (K : Kt) (Kb26 : Lt) : Prop := ALoop tP zq12_c43 (zq12_Q43 K Kb26) (zq12_fr43 t1 t5 t6 t7 t12 t175 t176 t177 t220 t221 t222) H
def zq12_j6 (t1 t5 t6 t7 t175 t176 t177 : AV) (H : Heap) (K : Kt) (Kb26 : Lt) : Prop :=
 aBin .add false t177 (.int .i64 1) fun t257 =>
 Kb26 (zq12_fr26 t1 t5 t6 t7 t175 t176 t257) H
def zq12_j5 (t1 t5 t6 t7 t175 t176 t177 : AV) (H : Heap) (K : Kt) (Kb26 : Lt) : Prop :=
 zq12_j6 t1 t5 t6 t7 t175 t176 t177 H K Kb26
def zq12_b43 (t1 t5 t6 t7 t12 t175 t176 t177 t220 t221 t222 : AV) (H : Heap) (K : Kt) (Kb26 : Lt) (Kb43 : Lt) : Prop :=
 aBin .lss false t222 t221 fun t223 =>
 aTest t223
 (aIdxA 1 t220 t222 fun t224 =>
 aLoad false 1 t224 H fun t225 =>
 aBin .lss false t225 (.int .i64 0) fun t227 =>
 aGuardJ t227 false H (fun k => k t225 H) fun t229 H =>
 aGuardJ t227 false H (fun k => aFld 2 t1 (k · H)) fun t230 H =>
 aGuardJ t227 false H (fun k => aLoad false 1 t230 H (k · H)) fun t231 H =>
 aGuardJ t227 false H (fun k => aLen 1 t231 (k · H)) fun t232 H =>
 aGuardJ t227 false H (fun k => aBin .geq false t229 t232 (k · H)) fun t233 H =>
 aPick t227 (.bool true) t233 fun t234 =>
 aTest t234
 (K (.bool false) H)
 (aBin .add false t222 (.int .i64 1) fun t235 =>
 Kb43 (zq12_fr43 t1 t5 t6 t7 t12 t175 t176 t177 t220 t221 t235) H))
 (aFld 0 t12 fun t236 =>
 aLoad false 1 t236 H fun t237 =>
 aBin .eql false t237 (.int .i64 11) fun t238 =>
 aTest t238
 (aFld 1 t12 fun t239 =>
 aLoad false 1 t239 H fun t240 =>
 aBin .lss false t240 (.int .i64 0) fun t241 =>
 aGuardJ t241 false H (fun k => aFld 1 t12 (k · H)) fun t243 H =>
 aGuardJ t241 false H (fun k => aLoad false 1 t243 H (k · H)) fun t244 H =>
 aGuardJ t241 false H (fun k => aFld 1 t1 (k · H)) fun t245 H =>
 aGuardJ t241 false H (fun k => aLoad false 1 t245 H (k · H)) fun t246 H =>
 aGuardJ t241 false H (fun k => aLen 1 t246 (k · H)) fun t247 H =>
 aGuardJ t241 false H (fun k => aBin .geq false t244 t247 (k · H)) fun t248 H =>
 aPick t241 (.bool true) t248 fun t249 =>
 aTest t249
 (K (.bool false) H)
 (aFld 1 t12 fun t251 =>
 aLoad false 1 t251 H fun t252 =>
 aIdxA 1 t7 t252 fun t253 =>
 aLoad false 1 t253 H fun t254 =>
 aBin .add false t254 (.int .i64 1) fun t255 =>
 aIdxA 1 t7 t252 fun t256 =>
 aStore 1 t256 t255 H fun H =>
 zq12_j5 t1 t5 t6 t7 t175 t176 t177 H K Kb26))
 (zq12_j5 t1 t5 t6 t7 t175 t176 t177 H K Kb26))
def zq12_b37 (t1 t5 t6 t7 t12 t175 t176 t177 t208 t209 t210 : AV) (H : Heap) (K : Kt) (Kb26 : Lt) (Kb37 : Lt) : Prop :=
 aBin .lss false t210 t209 fun t211 =>
 aTest t211
 (aIdxA 1 t208 t210 fun t212 =>
 aLoad false 1 t212 H fun t213 =>
 ACalls tP n_zq48 [t5, t213] H fun t216 H =>
 aUn .not t216 fun t217 =>
 aTest t217
 (K (.bool false) H)
 (aBin .add false t210 (.int .i64 1) fun t218 =>
 Kb37 (zq12_fr37 t1 t5 t6 t7 t12 t175 t176 t177 t208 t209 t218) H))
 (aFld 2 t12 fun t219 =>
 aLoad false 1 t219 H fun t220 =>
 aLen 1 t220 fun t221 =>
 zq12_l43 t1 t5 t6 t7 t12 t175 t176 t177 t220 t221 (.int .i64 0) H K Kb26)
def zq12_b29 (t1 t5 t6 t7 t11 t12 t175 t176 t177 t183 t184 t185 : AV) (H : Heap) (K : Kt) (Kb26 : Lt) (Kb29 : Lt) : Prop :=
 aBin .lss false t185 t184 fun t186 =>
 aTest t186
 (aIdxA 1 t183 t185 fun t187 =>
 aLoad false 1 t187 H fun t188 =>
 aBin .leq false t188 t11 fun t191 =>
 aTest t191
 (K (.bool false) H)
 (aBin .add false t185 (.int .i64 1) fun t192 =>
 Kb29 (zq12_fr29 t1 t5 t6 t7 t11 t12 t175 t176 t177 t183 t184 t192) H))
 (aFld 4 t12 fun t194 =>
 aLoad false 1 t194 H fun t195 =>
 ACalls tP n_zq48 [t6, t195] H fun t196 H =>
 aUn .not t196 fun t197 =>
 aGuardJ t197 false H (fun k => aFld 3 t12 (k · H)) fun t199 H =>
 aGuardJ t197 false H (fun k => aLoad false 1 t199 H (k · H)) fun t200 H =>
 aGuardJ t197 false H (fun k => aLen 1 t200 (k · H)) fun t201 H =>
 aGuardJ t197 false H (fun k => aFld 4 t12 (k · H)) fun t202 H =>
 aGuardJ t197 false H (fun k => aLoad false 1 t202 H (k · H)) fun t203 H =>
 aGuardJ t197 false H (fun k => aLen 1 t203 (k · H)) fun t204 H =>
 aGuardJ t197 false H (fun k => aBin .neq false t201 t204 (k · H)) fun t205 H =>
 aPick t197 (.bool true) t205 fun t206 =>
 aTest t206
 (K (.bool false) H)
 (aFld 3 t12 fun t207 =>
 aLoad false 1 t207 H fun t208 =>
 aLen 1 t208 fun t209 =>
 zq12_l37 t1 t5 t6 t7 t12 t175 t176 t177 t208 t209 (.int .i64 0) H K Kb26))
def zq12_fr54 (t1 t6 t7 t258 t259 t260 : AV) : List AV := ux 1 (t1 :: ux 4 (t6 :: t7 :: ux 250 (t258 :: t259 :: t260 :: ux 88 [])))
def zq12_m54 : List Bool := zq12_M 54
noncomputable def zq12_c54 : Code := codeAt [1, 1, 1, 1, 1, 1, 1, 1, 1, 1, 0, 1, 0, 0] zq12_c
def zq12_Q54 (K : Kt) : AExit → List AV → Heap → Prop := contAt tP zq12_M [1, 1, 1, 1, 1, 1, 1, 1, 1, 1, 0, 1, 0] zq12_c (retQ tP zq12_r K)
def zq12_l54 (t1 t6 t7 t258 t259 t260 : AV) (H : Heap) (K : Kt) : Prop := ALoop tP zq12_c54 (zq12_Q54 K) (zq12_fr54 t1 t6 t7 t258 t259 t260) H
def zq12_fr60 (t1 t7 t267 t268 t269 : AV) : List AV := ux 1 (t1 :: ux 5 (t7 :: ux 259 (t267 :: t268 :: t269 :: ux 79 [])))
def zq12_m60 : List Bool := zq12_M 60
noncomputable def zq12_c60 : Code := codeAt [1, 1, 1, 1, 1, 1, 1, 1, 1, 1, 1, 0, 1, 0, 0] zq12_c
def zq12_Q60 (K : Kt) : AExit → List AV → Heap → Prop := contAt tP zq12_M [1, 1, 1, 1, 1, 1, 1, 1, 1, 1, 1, 0, 1, 0] zq12_c (retQ tP zq12_r K)
def zq12_l60 (t1 t7 t267 t268 t269 : AV) (H : Heap) (K : Kt) : Prop := ALoop tP zq12_c60 (zq12_Q60 K) (zq12_fr60 t1 t7 t267 t268 t269) H
def zq12_fr66 (t1 t276 t277 t278 : AV) : List AV := ux 1 (t1 :: ux 274 (t276 :: t277 :: t278 :: ux 70 []))
def zq12_m66 : List Bool := zq12_M 66
noncomputable def zq12_c66 : Code := codeAt [1, 1, 1, 1, 1, 1, 1, 1, 1, 1, 1, 1, 0, 1, 0, 0] zq12_c
def zq12_Q66 (K : Kt) : AExit → List AV → Heap → Prop := contAt tP zq12_M [1, 1, 1, 1, 1, 1, 1, 1, 1, 1, 1, 1, 0, 1, 0] zq12_c (retQ tP zq12_r K)
def zq12_l66 (t1 t276 t277 t278 : AV) (H : Heap) (K : Kt) : Prop := ALoop tP zq12_c66 (zq12_Q66 K) (zq12_fr66 t1 t276 t277 t278) H
def zq12_fr72 (t1 t310 t311 : AV) : List AV := ux 1 (t1 :: ux 308 (t310 :: t311 :: ux 37 []))
def zq12_m72 : List Bool := zq12_M 72
noncomputable def zq12_c72 : Code := codeAt [1, 1, 1, 1, 1, 1, 1, 1, 1, 1, 1, 1, 1, 0, 1, 0, 0] zq12_c
def zq12_Q72 (K : Kt) : AExit → List AV → Heap → Prop := contAt tP zq12_M [1, 1, 1, 1, 1, 1, 1, 1, 1, 1, 1, 1, 1, 0, 1, 0] zq12_c (retQ tP zq12_r K)
def zq12_l72 (t1 t310 t311 : AV) (H : Heap) (K : Kt) : Prop := ALoop tP zq12_c72 (zq12_Q72 K) (zq12_fr72 t1 t310 t311) H
def zq12_fr78 (t1 t324 t325 t326 : AV) : List AV := ux 1 (t1 :: ux 322 (t324 :: t325 :: t326 :: ux 22 []))
def zq12_m78 : List Bool := zq12_M 78
noncomputable def zq12_c78 : Code := codeAt [1, 1, 1, 1, 1, 1, 1, 1, 1, 1, 1, 1, 1, 1, 0, 1, 0, 0] zq12_c
def zq12_Q78 (K : Kt) : AExit → List AV → Heap → Prop := contAt tP zq12_M [1, 1, 1, 1, 1, 1, 1, 1, 1, 1, 1, 1, 1, 1, 0, 1, 0] zq12_c (retQ tP zq12_r K)
def zq12_l78 (t1 t324 t325 t326 : AV) (H : Heap) (K : Kt) : Prop := ALoop tP zq12_c78 (zq12_Q78 K) (zq12_fr78 t1 t324 t325 t326) H
def zq12_b78 (t1 t324 t325 t326 : AV) (H : Heap) (K : Kt) (Kb78 : Lt) : Prop :=
 aBin .lss false t326 t325 fun t327 =>
 aTest t327
 (aIdxA 7 t324 t326 fun t328 =>
 aLoad true 7 t328 H fun t329 =>
 aNew [(.str []), .snil, .snil, (.int .i64 0), (.int .i64 0), .snil, (.int .i64 0)] H fun t27 H =>
 aStore 7 t27 t329 H fun H =>
 aFld 2 t1 fun t330 =>
 aLoad false 1 t330 H fun t331 =>
 aLen 1 t331 fun t332 =>
 aMake 1 [(.bool false)] t332 t332 H fun t333 H =>
 aFld 1 t27 fun t335 =>
 aLoad false 1 t335 H fun t336 =>
 ACalls tP n_zq52 [t333, t336, (.bool true)] H fun t337 H =>
 aFld 2 t27 fun t339 =>
 aLoad false 1 t339 H fun t340 =>
 ACalls tP n_zq52 [t333, t340, (.bool true)] H fun t341 H =>
 aLoad true 4 t1 H fun t342 =>
 aFld 6 t27 fun t343 =>
 aLoad false 1 t343 H fun t344 =>
 ACalls tP n_zq53 [t342, t344, t333] H fun t346 H =>
 aUn .not t346 fun t347 =>
 aTest t347
 (K (.bool false) H)
 (aBin .add false t326 (.int .i64 1) fun t348 =>
 Kb78 (zq12_fr78 t1 t324 t325 t348) H))
 (K (.bool true) H)
def zq12_b72 (t1 t310 t311 : AV) (H : Heap) (K : Kt) (Kb72 : Lt) : Prop :=
 aBin .lss false t311 t310 fun t312 =>
 aTest t312
 (aPure H (fun k => aLoad true 4 t1 H (k · H)) fun t314 =>
 aPure H (fun k => aFld 3 t1 (k · H)) fun t315 =>
 aPure H (fun k => aLoad false 1 t315 H (k · H)) fun t316 =>
 aPure H (fun k => k t311 H) fun t317 =>
 aPure H (fun k => aIdxA 8 t316 t317 (k · H)) fun t318 =>
 aPure H (fun k => aLoad true 8 t318 H (k · H)) fun t319 =>
 aDet .w false H (fun k => ACalls tP n_zq51 [t314, t319] H k) fun t320 H =>
 aPure H (fun k => aUn .not t320 (k · H)) fun t321 =>
 aTest t321
 (K (.bool false) H)
 (aBin .add false t311 (.int .i64 1) fun t322 =>
 Kb72 (zq12_fr72 t1 t310 t322) H))
 (aFld 1 t1 fun t323 =>
 aLoad false 1 t323 H fun t324 =>
 aLen 1 t324 fun t325 =>
 zq12_l78 t1 t324 t325 (.int .i64 0) H K)
def zq12_b66 (t1 t276 t277 t278 : AV) (H : Heap) (K : Kt) (Kb66 : Lt) : Prop :=
 aBin .lss false t278 t277 fun t279 =>
 aTest t279
 (aIdxA 1 t276 t278 fun t281 =>
 aLoad false 1 t281 H fun t282 =>
 aFld 1 t1 fun t283 =>
 aLoad false 1 t283 H fun t284 =>
 aIdxA 7 t284 t278 fun t286 =>
 aFld 0 t286 fun t287 =>
 aLoad false 1 t287 H fun t288 =>
 aBin .eql false t288 (.str []) fun t289 =>
 aGuardJ t289 true H (fun k => k t282 H) fun t291 H =>
 aGuardJ t289 true H (fun k => aBin .neq false t291 (.int .i64 1) (k · H)) fun t292 H =>
 aPick t289 t292 (.bool false) fun t293 =>
 aGuardJ t293 false H (fun k => aFld 1 t1 (k · H)) fun t295 H =>
 aGuardJ t293 false H (fun k => aLoad false 1 t295 H (k · H)) fun t296 H =>
 aGuardJ t293 false H (fun k => k t278 H) fun t297 H =>
 aGuardJ t293 false H (fun k => aIdxA 7 t296 t297 (k · H)) fun t298 H =>
 aGuardJ t293 false H (fun k => aFld 0 t298 (k · H)) fun t299 H =>
 aGuardJ t293 false H (fun k => aLoad false 1 t299 H (k · H)) fun t300 H =>
 aGuardJ t293 false H (fun k => aBin .neq false t300 (.str []) (k · H)) fun t301 H =>
 aGuardJ t293 false H (fun k => k t301 H) fun t302 H =>
 aGuardJ t302 true H (fun k => k t282 H) fun t303 H =>
 aGuardJ t302 true H (fun k => aBin .neq false t303 (.int .i64 0) (k · H)) fun t304 H =>
 aGuardJ t293 false H (fun k => aPick t302 t304 (.bool false) (k · H)) fun t305 H =>
 aPick t293 (.bool true) t305 fun t306 =>
 aTest t306
 (K (.bool false) H)
 (aBin .add false t278 (.int .i64 1) fun t307 =>
 Kb66 (zq12_fr66 t1 t276 t277 t307) H))
 (aFld 3 t1 fun t308 =>
 aLoad false 1 t308 H fun t309 =>
 aLen 1 t309 fun t310 =>
 zq12_l72 t1 t310 (.int .i64 0) H K)
def zq12_b60 (t1 t7 t267 t268 t269 : AV) (H : Heap) (K : Kt) (Kb60 : Lt) : Prop :=
 aBin .lss false t269 t268 fun t270 =>
 aTest t270
 (aIdxA 1 t267 t269 fun t271 =>
 aLoad false 1 t271 H fun t272 =>
 aBin .neq false t272 (.int .i64 1) fun t274 =>
 aTest t274
 (K (.bool false) H)
 (aBin .add false t269 (.int .i64 1) fun t275 =>
 Kb60 (zq12_fr60 t1 t7 t267 t268 t275) H))
 (aLen 1 t7 fun t277 =>
 zq12_l66 t1 t7 t277 (.int .i64 0) H K)
def zq12_b54 (t1 t6 t7 t258 t259 t260 : AV) (H : Heap) (K : Kt) (Kb54 : Lt) : Prop :=
 aBin .lss false t260 t259 fun t261 =>
 aTest t261
 (aIdxA 1 t258 t260 fun t262 =>
 aLoad false 1 t262 H fun t263 =>
 aBin .neq false t263 (.int .i64 1) fun t265 =>
 aTest t265
 (K (.bool false) H)
 (aBin .add false t260 (.int .i64 1) fun t266 =>
 Kb54 (zq12_fr54 t1 t6 t7 t258 t259 t266) H))
 (aLen 1 t6 fun t268 =>
 zq12_l60 t1 t7 t6 t268 (.int .i64 0) H K)
def zq12_b26 (t1 t5 t6 t7 t175 t176 t177 : AV) (H : Heap) (K : Kt) (Kb26 : Lt) : Prop :=
 aBin .lss false t177 t176 fun t178 =>
 aTest t178
 (aIdxA 8 t175 t177 fun t180 =>
 aLoad true 8 t180 H fun t181 =>
 aNew [(.int .i64 0), (.int .i64 0), .snil, .snil, .snil, (.int .i64 0), (.int .i64 0), .snil] H fun t12 H =>
 aStore 8 t12 t181 H fun H =>
 aFld 4 t12 fun t182 =>
 aLoad false 1 t182 H fun t183 =>
 aLen 1 t183 fun t184 =>
 zq12_l29 t1 t5 t6 t7 t177 t12 t175 t176 t177 t183 t184 (.int .i64 0) H K Kb26)
 (aLen 1 t5 fun t259 =>
 zq12_l54 t1 t6 t7 t5 t259 (.int .i64 0) H K)
noncomputable def zq12_j4_c : Code := codeAt [1, 1, 1, 1, 1, 1, 1, 1] zq12_c
def zq12_j4_Q (K : Kt) : AExit → List AV → Heap → Prop := contAt tP zq12_M [1, 1, 1, 1, 1, 1, 1, 1] zq12_c (retQ tP zq12_r K)
def zq12_j4 (t1 t5 t6 t7 t8 : AV) (H : Heap) (K : Kt) : Prop := AWp tP zq12_j4_c (zq12_j4_Q K) (ux 1 (t1 :: ux 3 (t5 :: t6 :: t7 :: t8 :: ux 340 []))) H
def zq12_j4b (t1 t5 t6 t7 t8 : AV) (H : Heap) (K : Kt) : Prop :=
 ACalls tP n_zq50 [t8] H fun t173 H =>
 aTest t173
 (K (.bool false) H)
 (aFld 3 t1 fun t174 =>
 aLoad false 1 t174 H fun t175 =>
 aLen 1 t175 fun t176 =>
 zq12_l26 t1 t5 t6 t7 t175 t176 (.int .i64 0) H K)
def zq12_b14 (t1 t5 t6 t7 t8 t77 t78 t79 : AV) (H : Heap) (K : Kt) (Kb14 : Lt) : Prop :=
 aBin .lss false t79 t78 fun t80 =>
 aTest t80
 (aIdxA 7 t77 t79 fun t82 =>
 aLoad true 7 t82 H fun t83 =>
 aNew [(.str []), .snil, .snil, (.int .i64 0), (.int .i64 0), .snil, (.int .i64 0)] H fun t10 H =>
 aStore 7 t10 t83 H fun H =>
 aFld 0 t10 fun t84 =>
 aLoad false 1 t84 H fun t85 =>
 aBin .eql false t85 (.str []) fun t86 =>
 aGuardJ t86 true H (fun k => k t79 H) fun t88 H =>
 aGuardJ t86 true H (fun k => aBin .add false t88 (.int .i64 1) (k · H)) fun t89 H =>
 aGuardJ t86 true H (fun k => aFld 1 t1 (k · H)) fun t90 H =>
 aGuardJ t86 true H (fun k => aLoad false 1 t90 H (k · H)) fun t91 H =>
 aGuardJ t86 true H (fun k => aLen 1 t91 (k · H)) fun t92 H =>
 aGuardJ t86 true H (fun k => aBin .lss false t89 t92 (k · H)) fun t93 H =>
 aPick t86 t93 (.bool false) fun t94 =>
 aGuardJ t94 true H (fun k => aFld 1 t1 (k · H)) fun t96 H =>
 aGuardJ t94 true H (fun k => aLoad false 1 t96 H (k · H)) fun t97 H =>
 aGuardJ t94 true H (fun k => k t79 H) fun t98 H =>
 aGuardJ t94 true H (fun k => aBin .add false t98 (.int .i64 1) (k · H)) fun t99 H =>
 aGuardJ t94 true H (fun k => aIdxA 7 t97 t99 (k · H)) fun t100 H =>
 aGuardJ t94 true H (fun k => aFld 0 t100 (k · H)) fun t101 H =>
 aGuardJ t94 true H (fun k => aLoad false 1 t101 H (k · H)) fun t102 H =>
 aGuardJ t94 true H (fun k => aBin .neq false t102 (.str []) (k · H)) fun t103 H =>
 aPick t94 t103 (.bool false) fun t104 =>
 aGuardJ t104 false H (fun k => aFld 0 t10 (k · H)) fun t106 H =>
 aGuardJ t104 false H (fun k => aLoad false 1 t106 H (k · H)) fun t107 H =>
 aGuardJ t104 false H (fun k => aBin .neq false t107 (.str []) (k · H)) fun t108 H =>
 aGuardJ t104 false H (fun k => k t108 H) fun t109 H =>
 aGuardJ t109 true H (fun k => aFld 2 t10 (k · H)) fun t110 H =>
 aGuardJ t109 true H (fun k => aLoad false 1 t110 H (k · H)) fun t111 H =>
 aGuardJ t109 true H (fun k => aLen 1 t111 (k · H)) fun t112 H =>
 aGuardJ t109 true H (fun k => aBin .gtr false t112 (.int .i64 0) (k · H)) fun t113 H =>
 aGuardJ t104 false H (fun k => aPick t109 t113 (.bool false) (k · H)) fun t114 H =>
 aPick t104 (.bool true) t114 fun t115 =>
 aGuardJ t115 false H (fun k => aFld 1 t10 (k · H)) fun t117 H =>
 aGuardJ t115 false H (fun k => aLoad false 1 t117 H (k · H)) fun t118 H =>
 aGuardJ t115 false H (fun k => aLen 1 t118 (k · H)) fun t119 H =>
 aGuardJ t115 false H (fun k => aBin .gtr false t119 (.int .i64 6) (k · H)) fun t120 H =>
 aPick t115 (.bool true) t120 fun t121 =>
 aGuardJ t121 false H (fun k => aFld 0 t1 (k · H)) fun t123 H =>
 aGuardJ t121 false H (fun k => aLoad false 1 t123 H (k · H)) fun t124 H =>
 aGuardJ t121 false H (fun k => aFld 3 t10 (k · H)) fun t125 H =>
 aGuardJ t121 false H (fun k => aLoad true 3 t125 H (k · H)) fun t126 H =>
 aGuardJ t121 false H (fun k => ACalls tP n_zq47 [t124, t126, (.int .i64 0)] H k) fun t127 H =>
 aGuardJ t121 false H (fun k => aUn .not t127 (k · H)) fun t128 H =>
 aPick t121 (.bool true) t128 fun t129 =>
 aTest t129
 (K (.bool false) H)
 (aFld 0 t10 fun t130 =>
 aLoad false 1 t130 H fun t131 =>
 aBin .neq false t131 (.str []) fun t132 =>
 aTest t132
 (aFld 0 t10 fun t134 =>
 aLoad false 1 t134 H fun t135 =>
 aBuildS 1 [(.str [])] 1 [(0, t135)] fun t136 =>
 aAppend e_string 1 16 t8 t136 H fun t137 H =>
 zq12_j3 t1 t5 t6 t7 t137 t10 t77 t78 t79 H K Kb14)
 (zq12_j3 t1 t5 t6 t7 t8 t10 t77 t78 t79 H K Kb14)))
 (zq12_j4 t1 t5 t6 t7 t8 H K)
noncomputable def zq12_j2_c : Code := codeAt [1, 1, 1, 1, 1] zq12_c
def zq12_j2_Q (K : Kt) : AExit → List AV → Heap → Prop := contAt tP zq12_M [1, 1, 1, 1, 1] zq12_c (retQ tP zq12_r K)
def zq12_j2 (t1 t5 t6 : AV) (H : Heap) (K : Kt) : Prop := AWp tP zq12_j2_c (zq12_j2_Q K) (ux 1 (t1 :: ux 3 (t5 :: t6 :: ux 342 []))) H
def zq12_j2b (t1 t5 t6 : AV) (H : Heap) (K : Kt) : Prop :=
 aFld 1 t1 fun t72 =>
 aLoad false 1 t72 H fun t73 =>
 aLen 1 t73 fun t74 =>
 aMake 8 [(.int .i64 0)] t74 t74 H fun t75 H =>
 aFld 1 t1 fun t76 =>
 aLoad false 1 t76 H fun t77 =>
 aLen 1 t77 fun t78 =>
 zq12_l14 t1 t5 t6 t75 .snil t77 t78 (.int .i64 0) H K
def zq12_b4 (t1 t52 t53 t54 : AV) (H : Heap) (K : Kt) (Kb4 : Lt) : Prop :=
 aBin .lss false t54 t53 fun t55 =>
 aTest t55
 (aIdxA 3 t52 t54 fun t56 =>
 aLoad true 3 t56 H fun t57 =>
 aNew [(.int .i64 0), (.int .i64 0), .snil] H fun t4 H =>
 aStore 3 t4 t57 H fun H =>
 aFld 0 t1 fun t58 =>
 aLoad false 1 t58 H fun t59 =>
 aLoad true 3 t4 H fun t60 =>
 ACalls tP n_zq47 [t59, t60, (.int .i64 0)] H fun t61 H =>
 aUn .not t61 fun t62 =>
 aTest t62
 (K (.bool false) H)
 (aBin .add false t54 (.int .i64 1) fun t63 =>
 Kb4 (zq12_fr4 t1 t52 t53 t63) H))
 (aFld 2 t1 fun t64 =>
 aLoad false 1 t64 H fun t65 =>
 aLen 1 t65 fun t66 =>
 aMake 8 [(.int .i64 0)] t66 t66 H fun t67 H =>
 aFld 3 t1 fun t68 =>
 aLoad false 1 t68 H fun t69 =>
 aLen 1 t69 fun t70 =>
 aMake 8 [(.int .i64 0)] t70 t70 H fun t71 H =>
 zq12_j2 t1 t67 t71 H K)
noncomputable def zq12_j1_c : Code := codeAt [1, 1] zq12_c
def zq12_j1_Q (K : Kt) : AExit → List AV → Heap → Prop := contAt tP zq12_M [1, 1] zq12_c (retQ tP zq12_r K)
def zq12_j1 (t1 : AV) (H : Heap) (K : Kt) : Prop := AWp tP zq12_j1_c (zq12_j1_Q K) (ux 1 (t1 :: ux 347 [])) H
def zq12_j1b (t1 : AV) (H : Heap) (K : Kt) : Prop :=
 aFld 2 t1 fun t51 =>
 aLoad false 1 t51 H fun t52 =>
 aLen 1 t52 fun t53 =>
 zq12_l4 t1 t52 t53 (.int .i64 0) H K
def zq12 (t0 : AV) (H : Heap) (K : Kt) : Prop :=
 aBox t0 H fun t1 H =>
 aFld 0 t1 fun t29 =>
 aLoad false 1 t29 H fun t30 =>
 ACalls tP n_zq46 [t30] H fun t31 H =>
 aUn .not t31 fun t32 =>
 aGuardJ t32 false H (fun k => aFld 1 t1 (k · H)) fun t34 H =>
 aGuardJ t32 false H (fun k => aLoad false 1 t34 H (k · H)) fun t35 H =>
 aGuardJ t32 false H (fun k => aLen 1 t35 (k · H)) fun t36 H =>
 aGuardJ t32 false H (fun k => aBin .gtr false t36 (.int .i64 64) (k · H)) fun t37 H =>
 aPick t32 (.bool true) t37 fun t38 =>
 aGuardJ t38 false H (fun k => aFld 3 t1 (k · H)) fun t40 H =>
 aGuardJ t38 false H (fun k => aLoad false 1 t40 H (k · H)) fun t41 H =>
 aGuardJ t38 false H (fun k => aLen 1 t41 (k · H)) fun t42 H =>
 aGuardJ t38 false H (fun k => aBin .gtr false t42 (.int .i64 3000) (k · H)) fun t43 H =>
 aPick t38 (.bool true) t43 fun t44 =>
 aGuardJ t44 false H (fun k => aFld 2 t1 (k · H)) fun t46 H =>
 aGuardJ t44 false H (fun k => aLoad false 1 t46 H (k · H)) fun t47 H =>
 aGuardJ t44 false H (fun k => aLen 1 t47 (k · H)) fun t48 H =>
 aGuardJ t44 false H (fun k => aBin .gtr false t48 (.int .i64 3000) (k · H)) fun t49 H =>
 aPick t44 (.bool true) t49 fun t50 =>
 aTest t50
 (K (.bool false) H)
 (zq12_j1 t1 H K)
theorem zq12_j3_eq (t1 t5 t6 t7 t8 t10 t77 t78 t79 : AV) (H : Heap) (K : Kt) (Kb14 : Lt) : awp tP zq12_M zq12_j3_c (zq12_j3_Q K Kb14) (ux 1 (t1 :: ux 3 (t5 :: t6 :: t7 :: t8 :: ux 1 (t10 :: ux 66 (t77 :: t78 :: t79 :: ux 269 []))))) H = zq12_j3b t1 t5 t6 t7 t8 t10 t77 t78 t79 H K Kb14 := by kernel_rfl
theorem zq12_j3_ok {t1 t5 t6 t7 t8 t10 t77 t78 t79 : AV} {H : Heap} {K : Kt} {Kb14 : Lt} (h : HSc H → zq12_j3b t1 t5 t6 t7 t8 t10 t77 t78 t79 H K Kb14) : zq12_j3 t1 t5 t6 t7 t8 t10 t77 t78 t79 H K Kb14 :=
 fun B w G a hH hF hd => awp_sound (M := zq12_M) _ _ _ _ ((zq12_j3_eq t1 t5 t6 t7 t8 t10 t77 t78 t79 H K Kb14).mpr (h hH.sc)) B w G a hH hF hd
theorem zq12_b43_eq (t1 t5 t6 t7 t12 t175 t176 t177 t220 t221 t222 : AV) (H : Heap) (K : Kt) (Kb26 : Lt) (Kb43 : Lt) : awp tP zq12_M zq12_c43 (roundQ zq12_m43 Kb43 (zq12_Q43 K Kb26)) (zq12_fr43 t1 t5 t6 t7 t12 t175 t176 t177 t220 t221 t222) H = zq12_b43 t1 t5 t6 t7 t12 t175 t176 t177 t220 t221 t222 H K Kb26 Kb43 := by kernel_rfl
theorem zq12_loop43 {t1 t5 t6 t7 t12 t175 t176 t177 t220 t221 t222 : AV} {H : Heap} {K : Kt} {Kb26 : Lt} (Inv : Nat → AV → Heap → Prop) (n : Nat) (h0 : HSc H → Inv n t222 H)
   (round : ∀ n t222 H', Inv n t222 H' → HSc H' → H.length ≤ H'.length → (zq12_fr43 t1 t5 t6 t7 t12 t175 t176 t177 t220 t221 t222).all (AV.sc H'.length) = true → ∀ Kb43 : Lt, (∀ F'' H'', (∃ n', n' < n ∧ Back H.length (fun F2 H2 => ∃ t222, F2 = zq12_fr43 t1 t5 t6 t7 t12 t175 t176 t177 t220 t221 t222 ∧ Inv n' t222 H2) F'' H'') → Kb43 F'' H'') → zq12_b43 t1 t5 t6 t7 t12 t175 t176 t177 t220 t221 t222 H' K Kb26 Kb43) : zq12_l43 t1 t5 t6 t7 t12 t175 t176 t177 t220 t221 t222 H K Kb26 :=
 aloop (M := zq12_M) zq12_m43 (fun n F H => ∃ t222, F = zq12_fr43 t1 t5 t6 t7 t12 t175 t176 t177 t220 t221 t222 ∧ Inv n t222 H) n (fun hs _ => ⟨t222, rfl, h0 hs⟩) (fun n F H' ⟨t222, hF, hI⟩ h1 h2 h3 => by subst hF; rw [zq12_b43_eq]; exact round n t222 H' hI h1 h2 h3 _ (fun _ _ h => h))
theorem zq12_b37_eq (t1 t5 t6 t7 t12 t175 t176 t177 t208 t209 t210 : AV) (H : Heap) (K : Kt) (Kb26 : Lt) (Kb37 : Lt) : awp tP zq12_M zq12_c37 (roundQ zq12_m37 Kb37 (zq12_Q37 K Kb26)) (zq12_fr37 t1 t5 t6 t7 t12 t175 t176 t177 t208 t209 t210) H = zq12_b37 t1 t5 t6 t7 t12 t175 t176 t177 t208 t209 t210 H K Kb26 Kb37 := by kernel_rfl
theorem zq12_loop37 {t1 t5 t6 t7 t12 t175 t176 t177 t208 t209 t210 : AV} {H : Heap} {K : Kt} {Kb26 : Lt} (Inv : Nat → AV → Heap → Prop) (n : Nat) (h0 : HSc H → Inv n t210 H)
   (round : ∀ n t210 H', Inv n t210 H' → HSc H' → H.length ≤ H'.length → (zq12_fr37 t1 t5 t6 t7 t12 t175 t176 t177 t208 t209 t210).all (AV.sc H'.length) = true → ∀ Kb37 : Lt, (∀ F'' H'', (∃ n', n' < n ∧ Back H.length (fun F2 H2 => ∃ t210, F2 = zq12_fr37 t1 t5 t6 t7 t12 t175 t176 t177 t208 t209 t210 ∧ Inv n' t210 H2) F'' H'') → Kb37 F'' H'') → zq12_b37 t1 t5 t6 t7 t12 t175 t176 t177 t208 t209 t210 H' K Kb26 Kb37) : zq12_l37 t1 t5 t6 t7 t12 t175 t176 t177 t208 t209 t210 H K Kb26 :=
 aloop (M := zq12_M) zq12_m37 (fun n F H => ∃ t210, F = zq12_fr37 t1 t5 t6 t7 t12 t175 t176 t177 t208 t209 t210 ∧ Inv n t210 H) n (fun hs _ => ⟨t210, rfl, h0 hs⟩) (fun n F H' ⟨t210, hF, hI⟩ h1 h2 h3 => by subst hF; rw [zq12_b37_eq]; exact round n t210 H' hI h1 h2 h3 _ (fun _ _ h => h))
theorem zq12_b29_eq (t1 t5 t6 t7 t11 t12 t175 t176 t177 t183 t184 t185 : AV) (H : Heap) (K : Kt) (Kb26 : Lt) (Kb29 : Lt) : awp tP zq12_M zq12_c29 (roundQ zq12_m29 Kb29 (zq12_Q29 K Kb26)) (zq12_fr29 t1 t5 t6 t7 t11 t12 t175 t176 t177 t183 t184 t185) H = zq12_b29 t1 t5 t6 t7 t11 t12 t175 t176 t177 t183 t184 t185 H K Kb26 Kb29 := by kernel_rfl
theorem zq12_loop29 {t1 t5 t6 t7 t11 t12 t175 t176 t177 t183 t184 t185 : AV} {H : Heap} {K : Kt} {Kb26 : Lt} (Inv : Nat → AV → Heap → Prop) (n : Nat) (h0 : HSc H → Inv n t185 H)
   (round : ∀ n t185 H', Inv n t185 H' → HSc H' → H.length ≤ H'.length → (zq12_fr29 t1 t5 t6 t7 t11 t12 t175 t176 t177 t183 t184 t185).all (AV.sc H'.length) = true → ∀ Kb29 : Lt, (∀ F'' H'', (∃ n', n' < n ∧ Back H.length (fun F2 H2 => ∃ t185, F2 = zq12_fr29 t1 t5 t6 t7 t11 t12 t175 t176 t177 t183 t184 t185 ∧ Inv n' t185 H2) F'' H'') → Kb29 F'' H'') → zq12_b29 t1 t5 t6 t7 t11 t12 t175 t176 t177 t183 t184 t185 H' K Kb26 Kb29) : zq12_l29 t1 t5 t6 t7 t11 t12 t175 t176 t177 t183 t184 t185 H K Kb26 :=
 aloop (M := zq12_M) zq12_m29 (fun n F H => ∃ t185, F = zq12_fr29 t1 t5 t6 t7 t11 t12 t175 t176 t177 t183 t184 t185 ∧ Inv n t185 H) n (fun hs _ => ⟨t185, rfl, h0 hs⟩) (fun n F H' ⟨t185, hF, hI⟩ h1 h2 h3 => by subst hF; rw [zq12_b29_eq]; exact round n t185 H' hI h1 h2 h3 _ (fun _ _ h => h))
theorem zq12_b78_eq (t1 t324 t325 t326 : AV) (H : Heap) (K : Kt) (Kb78 : Lt) : awp tP zq12_M zq12_c78 (roundQ zq12_m78 Kb78 (zq12_Q78 K)) (zq12_fr78 t1 t324 t325 t326) H = zq12_b78 t1 t324 t325 t326 H K Kb78 := by kernel_rfl
theorem zq12_loop78 {t1 t324 t325 t326 : AV} {H : Heap} {K : Kt} (Inv : Nat → AV → Heap → Prop) (n : Nat) (h0 : HSc H → Inv n t326 H)
   (round : ∀ n t326 H', Inv n t326 H' → HSc H' → H.length ≤ H'.length → (zq12_fr78 t1 t324 t325 t326).all (AV.sc H'.length) = true → ∀ Kb78 : Lt, (∀ F'' H'', (∃ n', n' < n ∧ Back H.length (fun F2 H2 => ∃ t326, F2 = zq12_fr78 t1 t324 t325 t326 ∧ Inv n' t326 H2) F'' H'') → Kb78 F'' H'') → zq12_b78 t1 t324 t325 t326 H' K Kb78) : zq12_l78 t1 t324 t325 t326 H K :=
 aloop (M := zq12_M) zq12_m78 (fun n F H => ∃ t326, F = zq12_fr78 t1 t324 t325 t326 ∧ Inv n t326 H) n (fun hs _ => ⟨t326, rfl, h0 hs⟩) (fun n F H' ⟨t326, hF, hI⟩ h1 h2 h3 => by subst hF; rw [zq12_b78_eq]; exact round n t326 H' hI h1 h2 h3 _ (fun _ _ h => h))
theorem zq12_b72_eq (t1 t310 t311 : AV) (H : Heap) (K : Kt) (Kb72 : Lt) : awp tP zq12_M zq12_c72 (roundQ zq12_m72 Kb72 (zq12_Q72 K)) (zq12_fr72 t1 t310 t311) H = zq12_b72 t1 t310 t311 H K Kb72 := by kernel_rfl
theorem zq12_loop72 {t1 t310 t311 : AV} {H : Heap} {K : Kt} (Inv : Nat → AV → Heap → Prop) (n : Nat) (h0 : HSc H → Inv n t311 H)
   (round : ∀ n t311 H', Inv n t311 H' → HSc H' → H.length ≤ H'.length → (zq12_fr72 t1 t310 t311).all (AV.sc H'.length) = true → ∀ Kb72 : Lt, (∀ F'' H'', (∃ n', n' < n ∧ Back H.length (fun F2 H2 => ∃ t311, F2 = zq12_fr72 t1 t310 t311 ∧ Inv n' t311 H2) F'' H'') → Kb72 F'' H'') → zq12_b72 t1 t310 t311 H' K Kb72) : zq12_l72 t1 t310 t311 H K :=
 aloop (M := zq12_M) zq12_m72 (fun n F H => ∃ t311, F = zq12_fr72 t1 t310 t311 ∧ Inv n t311 H) n (fun hs _ => ⟨t311, rfl, h0 hs⟩) (fun n F H' ⟨t311, hF, hI⟩ h1 h2 h3 => by subst hF; rw [zq12_b72_eq]; exact round n t311 H' hI h1 h2 h3 _ (fun _ _ h => h))
theorem zq12_b66_eq (t1 t276 t277 t278 : AV) (H : Heap) (K : Kt) (Kb66 : Lt) : awp tP zq12_M zq12_c66 (roundQ zq12_m66 Kb66 (zq12_Q66 K)) (zq12_fr66 t1 t276 t277 t278) H = zq12_b66 t1 t276 t277 t278 H K Kb66 := by kernel_rfl
theorem zq12_loop66 {t1 t276 t277 t278 : AV} {H : Heap} {K : Kt} (Inv : Nat → AV → Heap → Prop) (n : Nat) (h0 : HSc H → Inv n t278 H)
   (round : ∀ n t278 H', Inv n t278 H' → HSc H' → H.length ≤ H'.length → (zq12_fr66 t1 t276 t277 t278).all (AV.sc H'.length) = true → ∀ Kb66 : Lt, (∀ F'' H'', (∃ n', n' < n ∧ Back H.length (fun F2 H2 => ∃ t278, F2 = zq12_fr66 t1 t276 t277 t278 ∧ Inv n' t278 H2) F'' H'') → Kb66 F'' H'') → zq12_b66 t1 t276 t277 t278 H' K Kb66) : zq12_l66 t1 t276 t277 t278 H K :=
 aloop (M := zq12_M) zq12_m66 (fun n F H => ∃ t278, F = zq12_fr66 t1 t276 t277 t278 ∧ Inv n t278 H) n (fun hs _ => ⟨t278, rfl, h0 hs⟩) (fun n F H' ⟨t278, hF, hI⟩ h1 h2 h3 => by subst hF; rw [zq12_b66_eq]; exact round n t278 H' hI h1 h2 h3 _ (fun _ _ h => h))
theorem zq12_b60_eq (t1 t7 t267 t268 t269 : AV) (H : Heap) (K : Kt) (Kb60 : Lt) : awp tP zq12_M zq12_c60 (roundQ zq12_m60 Kb60 (zq12_Q60 K)) (zq12_fr60 t1 t7 t267 t268 t269) H = zq12_b60 t1 t7 t267 t268 t269 H K Kb60 := by kernel_rfl
theorem zq12_loop60 {t1 t7 t267 t268 t269 : AV} {H : Heap} {K : Kt} (Inv : Nat → AV → Heap → Prop) (n : Nat) (h0 : HSc H → Inv n t269 H)
   (round : ∀ n t269 H', Inv n t269 H' → HSc H' → H.length ≤ H'.length → (zq12_fr60 t1 t7 t267 t268 t269).all (AV.sc H'.length) = true → ∀ Kb60 : Lt, (∀ F'' H'', (∃ n', n' < n ∧ Back H.length (fun F2 H2 => ∃ t269, F2 = zq12_fr60 t1 t7 t267 t268 t269 ∧ Inv n' t269 H2) F'' H'') → Kb60 F'' H'') → zq12_b60 t1 t7 t267 t268 t269 H' K Kb60) : zq12_l60 t1 t7 t267 t268 t269 H K :=
 aloop (M := zq12_M) zq12_m60 (fun n F H => ∃ t269, F = zq12_fr60 t1 t7 t267 t268 t269 ∧ Inv n t269 H) n (fun hs _ => ⟨t269, rfl, h0 hs⟩) (fun n F H' ⟨t269, hF, hI⟩ h1 h2 h3 => by subst hF; rw [zq12_b60_eq]; exact round n t269 H' hI h1 h2 h3 _ (fun _ _ h => h))
theorem zq12_b54_eq (t1 t6 t7 t258 t259 t260 : AV) (H : Heap) (K : Kt) (Kb54 : Lt) : awp tP zq12_M zq12_c54 (roundQ zq12_m54 Kb54 (zq12_Q54 K)) (zq12_fr54 t1 t6 t7 t258 t259 t260) H = zq12_b54 t1 t6 t7 t258 t259 t260 H K Kb54 := by kernel_rfl
theorem zq12_loop54 {t1 t6 t7 t258 t259 t260 : AV} {H : Heap} {K : Kt} (Inv : Nat → AV → Heap → Prop) (n : Nat) (h0 : HSc H → Inv n t260 H)
   (round : ∀ n t260 H', Inv n t260 H' → HSc H' → H.length ≤ H'.length → (zq12_fr54 t1 t6 t7 t258 t259 t260).all (AV.sc H'.length) = true → ∀ Kb54 : Lt, (∀ F'' H'', (∃ n', n' < n ∧ Back H.length (fun F2 H2 => ∃ t260, F2 = zq12_fr54 t1 t6 t7 t258 t259 t260 ∧ Inv n' t260 H2) F'' H'') → Kb54 F'' H'') → zq12_b54 t1 t6 t7 t258 t259 t260 H' K Kb54) : zq12_l54 t1 t6 t7 t258 t259 t260 H K :=
 aloop (M := zq12_M) zq12_m54 (fun n F H => ∃ t260, F = zq12_fr54 t1 t6 t7 t258 t259 t260 ∧ Inv n t260 H) n (fun hs _ => ⟨t260, rfl, h0 hs⟩) (fun n F H' ⟨t260, hF, hI⟩ h1 h2 h3 => by subst hF; rw [zq12_b54_eq]; exact round n t260 H' hI h1 h2 h3 _ (fun _ _ h => h))
theorem zq12_b26_eq (t1 t5 t6 t7 t175 t176 t177 : AV) (H : Heap) (K : Kt) (Kb26 : Lt) : awp tP zq12_M zq12_c26 (roundQ zq12_m26 Kb26 (zq12_Q26 K)) (zq12_fr26 t1 t5 t6 t7 t175 t176 t177) H = zq12_b26 t1 t5 t6 t7 t175 t176 t177 H K Kb26 := by kernel_rfl
theorem zq12_loop26 {t1 t5 t6 t7 t175 t176 t177 : AV} {H : Heap} {K : Kt} (Inv : Nat → AV → Heap → Prop) (n : Nat) (h0 : HSc H → Inv n t177 H)
   (round : ∀ n t177 H', Inv n t177 H' → HSc H' → H.length ≤ H'.length → (zq12_fr26 t1 t5 t6 t7 t175 t176 t177).all (AV.sc H'.length) = true → ∀ Kb26 : Lt, (∀ F'' H'', (∃ n', n' < n ∧ Back H.length (fun F2 H2 => ∃ t177, F2 = zq12_fr26 t1 t5 t6 t7 t175 t176 t177 ∧ Inv n' t177 H2) F'' H'') → Kb26 F'' H'') → zq12_b26 t1 t5 t6 t7 t175 t176 t177 H' K Kb26) : zq12_l26 t1 t5 t6 t7 t175 t176 t177 H K :=
 aloop (M := zq12_M) zq12_m26 (fun n F H => ∃ t177, F = zq12_fr26 t1 t5 t6 t7 t175 t176 t177 ∧ Inv n t177 H) n (fun hs _ => ⟨t177, rfl, h0 hs⟩) (fun n F H' ⟨t177, hF, hI⟩ h1 h2 h3 => by subst hF; rw [zq12_b26_eq]; exact round n t177 H' hI h1 h2 h3 _ (fun _ _ h => h))
theorem zq12_j4_eq (t1 t5 t6 t7 t8 : AV) (H : Heap) (K : Kt) : awp tP zq12_M zq12_j4_c (zq12_j4_Q K) (ux 1 (t1 :: ux 3 (t5 :: t6 :: t7 :: t8 :: ux 340 []))) H = zq12_j4b t1 t5 t6 t7 t8 H K := by kernel_rfl
theorem zq12_j4_ok {t1 t5 t6 t7 t8 : AV} {H : Heap} {K : Kt} (h : HSc H → zq12_j4b t1 t5 t6 t7 t8 H K) : zq12_j4 t1 t5 t6 t7 t8 H K :=
 fun B w G a hH hF hd => awp_sound (M := zq12_M) _ _ _ _ ((zq12_j4_eq t1 t5 t6 t7 t8 H K).mpr (h hH.sc)) B w G a hH hF hd
theorem zq12_b14_eq (t1 t5 t6 t7 t8 t77 t78 t79 : AV) (H : Heap) (K : Kt) (Kb14 : Lt) : awp tP zq12_M zq12_c14 (roundQ zq12_m14 Kb14 (zq12_Q14 K)) (zq12_fr14 t1 t5 t6 t7 t8 t77 t78 t79) H = zq12_b14 t1 t5 t6 t7 t8 t77 t78 t79 H K Kb14 := by kernel_rfl
theorem zq12_loop14 {t1 t5 t6 t7 t8 t77 t78 t79 : AV} {H : Heap} {K : Kt} (Inv : Nat → AV → AV → Heap → Prop) (n : Nat) (h0 : HSc H → Inv n t8 t79 H)
   (round : ∀ n t8 t79 H', Inv n t8 t79 H' → HSc H' → H.length ≤ H'.length → (zq12_fr14 t1 t5 t6 t7 t8 t77 t78 t79).all (AV.sc H'.length) = true → ∀ Kb14 : Lt, (∀ F'' H'', (∃ n', n' < n ∧ Back H.length (fun F2 H2 => ∃ t8 t79, F2 = zq12_fr14 t1 t5 t6 t7 t8 t77 t78 t79 ∧ Inv n' t8 t79 H2) F'' H'') → Kb14 F'' H'') → zq12_b14 t1 t5 t6 t7 t8 t77 t78 t79 H' K Kb14) : zq12_l14 t1 t5 t6 t7 t8 t77 t78 t79 H K :=
 aloop (M := zq12_M) zq12_m14 (fun n F H => ∃ t8 t79, F = zq12_fr14 t1 t5 t6 t7 t8 t77 t78 t79 ∧ Inv n t8 t79 H) n (fun hs _ => ⟨t8, t79, rfl, h0 hs⟩) (fun n F H' ⟨t8, t79, hF, hI⟩ h1 h2 h3 => by subst hF; rw [zq12_b14_eq]; exact round n t8 t79 H' hI h1 h2 h3 _ (fun _ _ h => h))
theorem zq12_j2_eq (t1 t5 t6 : AV) (H : Heap) (K : Kt) : awp tP zq12_M zq12_j2_c (zq12_j2_Q K) (ux 1 (t1 :: ux 3 (t5 :: t6 :: ux 342 []))) H = zq12_j2b t1 t5 t6 H K := by kernel_rfl
theorem zq12_j2_ok {t1 t5 t6 : AV} {H : Heap} {K : Kt} (h : HSc H → zq12_j2b t1 t5 t6 H K) : zq12_j2 t1 t5 t6 H K :=
 fun B w G a hH hF hd => awp_sound (M := zq12_M) _ _ _ _ ((zq12_j2_eq t1 t5 t6 H K).mpr (h hH.sc)) B w G a hH hF hd
theorem zq12_b4_eq (t1 t52 t53 t54 : AV) (H : Heap) (K : Kt) (Kb4 : Lt) : awp tP zq12_M zq12_c4 (roundQ zq12_m4 Kb4 (zq12_Q4 K)) (zq12_fr4 t1 t52 t53 t54) H = zq12_b4 t1 t52 t53 t54 H K Kb4 := by kernel_rfl
theorem zq12_loop4 {t1 t52 t53 t54 : AV} {H : Heap} {K : Kt} (Inv : Nat → AV → Heap → Prop) (n : Nat) (h0 : HSc H → Inv n t54 H)
   (round : ∀ n t54 H', Inv n t54 H' → HSc H' → H.length ≤ H'.length → (zq12_fr4 t1 t52 t53 t54).all (AV.sc H'.length) = true → ∀ Kb4 : Lt, (∀ F'' H'', (∃ n', n' < n ∧ Back H.length (fun F2 H2 => ∃ t54, F2 = zq12_fr4 t1 t52 t53 t54 ∧ Inv n' t54 H2) F'' H'') → Kb4 F'' H'') → zq12_b4 t1 t52 t53 t54 H' K Kb4) : zq12_l4 t1 t52 t53 t54 H K :=
 aloop (M := zq12_M) zq12_m4 (fun n F H => ∃ t54, F = zq12_fr4 t1 t52 t53 t54 ∧ Inv n t54 H) n (fun hs _ => ⟨t54, rfl, h0 hs⟩) (fun n F H' ⟨t54, hF, hI⟩ h1 h2 h3 => by subst hF; rw [zq12_b4_eq]; exact round n t54 H' hI h1 h2 h3 _ (fun _ _ h => h))
theorem zq12_j1_eq (t1 : AV) (H : Heap) (K : Kt) : awp tP zq12_M zq12_j1_c (zq12_j1_Q K) (ux 1 (t1 :: ux 347 [])) H = zq12_j1b t1 H K := by kernel_rfl
theorem zq12_j1_ok {t1 : AV} {H : Heap} {K : Kt} (h : HSc H → zq12_j1b t1 H K) : zq12_j1 t1 H K :=
 fun B w G a hH hF hd => awp_sound (M := zq12_M) _ _ _ _ ((zq12_j1_eq t1 H K).mpr (h hH.sc)) B w G a hH hF hd
theorem zq12_eq (t0 : AV) (H : Heap) (K : Kt) : awp tP zq12_M zq12_c (retQ tP zq12_r K) (t0 :: List.replicate 348 .unk) H = zq12 t0 H K := by kernel_rfl
theorem zq12_ok {t0 : AV} {H : Heap} {K : Kt} (h : HSc H → zq12 t0 H K) : ACalls tP n_zq12 [t0] H K :=
 acalls_body (M := zq12_M) Try.func14 (c := zq12_c) (by kernel_rfl) (fun hs => (zq12_eq t0 H K).mpr (h hs))
def zq46_M : Nat → List Bool
 | 5 => rl false [0,1,2,3,115]
 | 12 => rl false [0,1,2,5,113]
 | 18 => rl false [0,1,2,5,85,3,25]
 | _ => []
noncomputable def zq46_c : Code := Try.f48.body.getD .skip
noncomputable def zq46_r : List ResultVar := Try.f48.results.toList
def zq46_fr5 (t0 t3 t4 t5 : AV) : List AV := t0 :: ux 2 (t3 :: t4 :: t5 :: ux 115 [])
def zq46_m5 : List Bool := zq46_M 5
noncomputable def zq46_c5 : Code := codeAt [1, 1, 1, 0, 1, 0, 0] zq46_c
def zq46_Q5 (K : Kt) : AExit → List AV → Heap → Prop := contAt tP zq46_M [1, 1, 1, 0, 1, 0] zq46_c (retQ tP zq46_r K)
def zq46_l5 (t0 t3 t4 t5 : AV) (H : Heap) (K : Kt) : Prop := ALoop tP zq46_c5 (zq46_Q5 K) (zq46_fr5 t0 t3 t4 t5) H
def zq46_fr12 (t0 t3 t4 t5 t6 t7 : AV) : List AV := t0 :: ux 2 (t3 :: t4 :: t5 :: t6 :: t7 :: ux 113 [])
def zq46_m12 : List Bool := zq46_M 12
noncomputable def zq46_c12 : Code := codeAt [1, 0, 0, 1, 1, 1, 1, 0, 0] zq46_c5
def zq46_Q12 (K : Kt) (Kb5 : Lt) : AExit → List AV → Heap → Prop := contAt tP zq46_M [1, 0, 0, 1, 1, 1, 1, 0] zq46_c5 (roundQ zq46_m5 Kb5 (zq46_Q5 K))
def zq46_l12 (t0 t3 t4 t5 t6 t7 : AV) (H : Heap) (K : Kt) (Kb5 : Lt) : Prop := ALoop tP zq46_c12 (zq46_Q12 K Kb5) (zq46_fr12 t0 t3 t4 t5 t6 t7) H
def zq46_fr18 (t0 t3 t4 t5 t6 t7 t93 t94 t95 : AV) : List AV := t0 :: ux 2 (t3 :: t4 :: t5 :: t6 :: t7 :: ux 85 (t93 :: t94 :: t95 :: ux 25 []))
def zq46_m18 : List Bool := zq46_M 18
noncomputable def zq46_c18 : Code := codeAt [1, 0, 0, 1, 1, 1, 0, 0] zq46_c12
def zq46_Q18 (K : Kt) (Kb5 : Lt) (Kb12 : Lt) : AExit → List AV → Heap → Prop := contAt tP zq46_M [1, 0, 0, 1, 1, 1, 0] zq46_c12 (roundQ zq46_m12 Kb12 (zq46_Q12 K Kb5))
def zq46_l18 (t0 t3 t4 t5 t6 t7 t93 t94 t95 : AV) (H : Heap) (K : Kt) (Kb5 : Lt) (Kb12 : Lt) : Prop := ALoop tP zq46_c18 (zq46_Q18 K Kb5 Kb12) (zq46_fr18 t0 t3 t4 t5 t6 t7 t93 t94 t95) H
def zq46_j2 (t0 t3 t4 t5 t6 t7 t93 t94 t95 : AV) (H : Heap) (K : Kt) (Kb5 : Lt) (Kb12 : Lt) (Kb18 : Lt) : Prop :=
 aBin .add false t95 (.int .i64 1) fun t112 =>
 Kb18 (zq46_fr18 t0 t3 t4 t5 t6 t7 t93 t94 t112) H
def zq46_j1 (t0 t3 t4 t5 t6 t7 t93 t94 t95 : AV) (H : Heap) (K : Kt) (Kb5 : Lt) (Kb12 : Lt) (Kb18 : Lt) : Prop :=
 zq46_j2 t0 t3 t4 t5 t6 t7 t93 t94 t95 H K Kb5 Kb12 Kb18
def zq46_b18 (t0 t3 t4 t5 t6 t7 t93 t94 t95 : AV) (H : Heap) (K : Kt) (Kb5 : Lt) (Kb12 : Lt) (Kb18 : Lt) : Prop :=
 aBin .lss false t95 t94 fun t96 =>
 aTest t96
 (aIdxA 3 t93 t95 fun t97 =>
 aLoad true 3 t97 H fun t98 =>
 aNew [(.int .i64 0), (.int .i64 0), .snil] H fun t9 H =>
 aStore 3 t9 t98 H fun H =>
 aLoad true 3 t9 H fun t99 =>
 aFld 1 t6 fun t101 =>
 aLoad false 1 t101 H fun t102 =>
 ACalls tP n_zq76 [t99, t5, t102] H fun t103 H =>
 aTest t103
 (zq46_j1 t0 t3 t4 t5 t6 t7 t93 t94 t95 H K Kb5 Kb12 Kb18)
 (aPure H (fun k => k t0 H) fun t104 =>
 aPure H (fun k => k t5 H) fun t105 =>
 aPure H (fun k => aSlice 1 3 t104 none (some t105) (k · H)) fun t106 =>
 aPure H (fun k => aLoad true 3 t9 H (k · H)) fun t107 =>
 aPure H (fun k => aFld 1 t6 (k · H)) fun t108 =>
 aPure H (fun k => aLoad false 1 t108 H (k · H)) fun t109 =>
 aPureX H (fun H k => ACalls tP n_zq47 [t106, t107, t109] H k) fun t110 =>
 aPure H (fun k => aUn .not t110 (k · H)) fun t111 =>
 aTest t111
 (K (.bool false) H)
 (zq46_j1 t0 t3 t4 t5 t6 t7 t93 t94 t95 H K Kb5 Kb12 Kb18)))
 (aBin .add false t7 (.int .i64 1) fun t60 =>
 Kb12 (zq46_fr12 t0 t3 t4 t5 t6 t60) H)
def zq46_b12 (t0 t3 t4 t5 t6 t7 : AV) (H : Heap) (K : Kt) (Kb5 : Lt) (Kb12 : Lt) : Prop :=
 aFld 2 t6 fun t55 =>
 aLoad false 1 t55 H fun t56 =>
 aLen 1 t56 fun t57 =>
 aBin .lss false t7 t57 fun t58 =>
 aTest t58
 (aFld 2 t6 fun t61 =>
 aLoad false 1 t61 H fun t62 =>
 aIdxA 2 t62 t7 fun t64 =>
 aFld 0 t64 fun t65 =>
 aLoad false 1 t65 H fun t66 =>
 ACalls tP n_zq75 [t66] H fun t67 H =>
 aUn .not t67 fun t68 =>
 aGuardJ t68 false H (fun k => aFld 2 t6 (k · H)) fun t70 H =>
 aGuardJ t68 false H (fun k => aLoad false 1 t70 H (k · H)) fun t71 H =>
 aGuardJ t68 false H (fun k => k t7 H) fun t72 H =>
 aGuardJ t68 false H (fun k => aIdxA 2 t71 t72 (k · H)) fun t73 H =>
 aGuardJ t68 false H (fun k => aFld 1 t73 (k · H)) fun t74 H =>
 aGuardJ t68 false H (fun k => aLoad false 1 t74 H (k · H)) fun t75 H =>
 aGuardJ t68 false H (fun k => aLen 1 t75 (k · H)) fun t76 H =>
 aGuardJ t68 false H (fun k => aBin .gtr false t76 (.int .i64 6) (k · H)) fun t77 H =>
 aPick t68 (.bool true) t77 fun t78 =>
 aTest t78
 (K (.bool false) H)
 (aFld 2 t6 fun t80 =>
 aLoad false 1 t80 H fun t81 =>
 aIdxA 2 t81 t7 fun t83 =>
 aFld 0 t83 fun t84 =>
 aLoad false 1 t84 H fun t85 =>
 aBuildS 1 [(.str [])] 1 [(0, t85)] fun t86 =>
 aAppend e_string 1 16 t4 t86 H fun t87 H =>
 aFld 2 t6 fun t88 =>
 aLoad false 1 t88 H fun t89 =>
 aIdxA 2 t89 t7 fun t91 =>
 aFld 1 t91 fun t92 =>
 aLoad false 1 t92 H fun t93 =>
 aLen 1 t93 fun t94 =>
 zq46_l18 t0 t3 t87 t5 t6 t7 t93 t94 (.int .i64 0) H K Kb5 Kb12))
 (aBin .add false t5 (.int .i64 1) fun t18 =>
 Kb5 (zq46_fr5 t0 t3 t4 t18) H)
def zq46_b5 (t0 t3 t4 t5 : AV) (H : Heap) (K : Kt) (Kb5 : Lt) : Prop :=
 aLen 1 t0 fun t15 =>
 aBin .lss false t5 t15 fun t16 =>
 aTest t16
 (aIdxA 3 t0 t5 fun t21 =>
 aLoad true 3 t21 H fun t22 =>
 aNew [(.str []), (.int .i64 0), .snil] H fun t6 H =>
 aStore 3 t6 t22 H fun H =>
 aFld 1 t6 fun t23 =>
 aLoad false 1 t23 H fun t24 =>
 aBin .lss false t24 (.int .i64 0) fun t25 =>
 aGuardJ t25 false H (fun k => aFld 1 t6 (k · H)) fun t27 H =>
 aGuardJ t25 false H (fun k => aLoad false 1 t27 H (k · H)) fun t28 H =>
 aGuardJ t25 false H (fun k => aBin .gtr false t28 (.int .i64 6) (k · H)) fun t29 H =>
 aPick t25 (.bool true) t29 fun t30 =>
 aGuardJ t30 false H (fun k => aFld 2 t6 (k · H)) fun t32 H =>
 aGuardJ t30 false H (fun k => aLoad false 1 t32 H (k · H)) fun t33 H =>
 aGuardJ t30 false H (fun k => aLen 1 t33 (k · H)) fun t34 H =>
 aGuardJ t30 false H (fun k => aBin .lss false t34 (.int .i64 1) (k · H)) fun t35 H =>
 aPick t30 (.bool true) t35 fun t36 =>
 aGuardJ t36 false H (fun k => aFld 2 t6 (k · H)) fun t38 H =>
 aGuardJ t36 false H (fun k => aLoad false 1 t38 H (k · H)) fun t39 H =>
 aGuardJ t36 false H (fun k => aLen 1 t39 (k · H)) fun t40 H =>
 aGuardJ t36 false H (fun k => aBin .gtr false t40 (.int .i64 8) (k · H)) fun t41 H =>
 aPick t36 (.bool true) t41 fun t42 =>
 aGuardJ t42 false H (fun k => aFld 0 t6 (k · H)) fun t44 H =>
 aGuardJ t42 false H (fun k => aLoad false 1 t44 H (k · H)) fun t45 H =>
 aGuardJ t42 false H (fun k => ACalls tP n_zq75 [t45] H k) fun t46 H =>
 aGuardJ t42 false H (fun k => aUn .not t46 (k · H)) fun t47 H =>
 aPick t42 (.bool true) t47 fun t48 =>
 aTest t48
 (K (.bool false) H)
 (aFld 0 t6 fun t50 =>
 aLoad false 1 t50 H fun t51 =>
 aBuildS 1 [(.str [])] 1 [(0, t51)] fun t52 =>
 aAppend e_string 1 16 t3 t52 H fun t53 H =>
 zq46_l12 t0 t53 t4 t5 t6 (.int .i64 0) H K Kb5))
 (ACalls tP n_zq50 [t3] H fun t114 H =>
 aUn .not t114 fun t115 =>
 aGuardJ t115 true H (fun k => k t4 H) fun t117 H =>
 aGuardJ t115 true H (fun k => ACalls tP n_zq50 [t117] H k) fun t118 H =>
 aGuardJ t115 true H (fun k => aUn .not t118 (k · H)) fun t119 H =>
 aPick t115 t119 (.bool false) fun t120 =>
 K t120 H)
def zq46 (t0 : AV) (H : Heap) (K : Kt) : Prop :=
 aLen 1 t0 fun t11 =>
 aBin .gtr false t11 (.int .i64 12) fun t12 =>
 aTest t12
 (K (.bool false) H)
 (zq46_l5 t0 .snil .snil (.int .i64 0) H K)
theorem zq46_b18_eq (t0 t3 t4 t5 t6 t7 t93 t94 t95 : AV) (H : Heap) (K : Kt) (Kb5 : Lt) (Kb12 : Lt) (Kb18 : Lt) : awp tP zq46_M zq46_c18 (roundQ zq46_m18 Kb18 (zq46_Q18 K Kb5 Kb12)) (zq46_fr18 t0 t3 t4 t5 t6 t7 t93 t94 t95) H = zq46_b18 t0 t3 t4 t5 t6 t7 t93 t94 t95 H K Kb5 Kb12 Kb18 := by kernel_rfl
theorem zq46_loop18 {t0 t3 t4 t5 t6 t7 t93 t94 t95 : AV} {H : Heap} {K : Kt} {Kb5 : Lt} {Kb12 : Lt} (Inv : Nat → AV → Heap → Prop) (n : Nat) (h0 : HSc H → Inv n t95 H)
   (round : ∀ n t95 H', Inv n t95 H' → HSc H' → H.length ≤ H'.length → (zq46_fr18 t0 t3 t4 t5 t6 t7 t93 t94 t95).all (AV.sc H'.length) = true → ∀ Kb18 : Lt, (∀ F'' H'', (∃ n', n' < n ∧ Back H.length (fun F2 H2 => ∃ t95, F2 = zq46_fr18 t0 t3 t4 t5 t6 t7 t93 t94 t95 ∧ Inv n' t95 H2) F'' H'') → Kb18 F'' H'') → zq46_b18 t0 t3 t4 t5 t6 t7 t93 t94 t95 H' K Kb5 Kb12 Kb18) : zq46_l18 t0 t3 t4 t5 t6 t7 t93 t94 t95 H K Kb5 Kb12 :=
 aloop (M := zq46_M) zq46_m18 (fun n F H => ∃ t95, F = zq46_fr18 t0 t3 t4 t5 t6 t7 t93 t94 t95 ∧ Inv n t95 H) n (fun hs _ => ⟨t95, rfl, h0 hs⟩) (fun n F H' ⟨t95, hF, hI⟩ h1 h2 h3 => by subst hF; rw [zq46_b18_eq]; exact round n t95 H' hI h1 h2 h3 _ (fun _ _ h => h))
theorem zq46_b12_eq (t0 t3 t4 t5 t6 t7 : AV) (H : Heap) (K : Kt) (Kb5 : Lt) (Kb12 : Lt) : awp tP zq46_M zq46_c12 (roundQ zq46_m12 Kb12 (zq46_Q12 K Kb5)) (zq46_fr12 t0 t3 t4 t5 t6 t7) H = zq46_b12 t0 t3 t4 t5 t6 t7 H K Kb5 Kb12 := by kernel_rfl
theorem zq46_loop12 {t0 t3 t4 t5 t6 t7 : AV} {H : Heap} {K : Kt} {Kb5 : Lt} (Inv : Nat → AV → AV → Heap → Prop) (n : Nat) (h0 : HSc H → Inv n t4 t7 H)
   (round : ∀ n t4 t7 H', Inv n t4 t7 H' → HSc H' → H.length ≤ H'.length → (zq46_fr12 t0 t3 t4 t5 t6 t7).all (AV.sc H'.length) = true → ∀ Kb12 : Lt, (∀ F'' H'', (∃ n', n' < n ∧ Back H.length (fun F2 H2 => ∃ t4 t7, F2 = zq46_fr12 t0 t3 t4 t5 t6 t7 ∧ Inv n' t4 t7 H2) F'' H'') → Kb12 F'' H'') → zq46_b12 t0 t3 t4 t5 t6 t7 H' K Kb5 Kb12) : zq46_l12 t0 t3 t4 t5 t6 t7 H K Kb5 :=
 aloop (M := zq46_M) zq46_m12 (fun n F H => ∃ t4 t7, F = zq46_fr12 t0 t3 t4 t5 t6 t7 ∧ Inv n t4 t7 H) n (fun hs _ => ⟨t4, t7, rfl, h0 hs⟩) (fun n F H' ⟨t4, t7, hF, hI⟩ h1 h2 h3 => by subst hF; rw [zq46_b12_eq]; exact round n t4 t7 H' hI h1 h2 h3 _ (fun _ _ h => h))
theorem zq46_b5_eq (t0 t3 t4 t5 : AV) (H : Heap) (K : Kt) (Kb5 : Lt) : awp tP zq46_M zq46_c5 (roundQ zq46_m5 Kb5 (zq46_Q5 K)) (zq46_fr5 t0 t3 t4 t5) H = zq46_b5 t0 t3 t4 t5 H K Kb5 := by kernel_rfl
theorem zq46_loop5 {t0 t3 t4 t5 : AV} {H : Heap} {K : Kt} (Inv : Nat → AV → AV → AV → Heap → Prop) (n : Nat) (h0 : HSc H → Inv n t3 t4 t5 H)
   (round : ∀ n t3 t4 t5 H', Inv n t3 t4 t5 H' → HSc H' → H.length ≤ H'.length → (zq46_fr5 t0 t3 t4 t5).all (AV.sc H'.length) = true → ∀ Kb5 : Lt, (∀ F'' H'', (∃ n', n' < n ∧ Back H.length (fun F2 H2 => ∃ t3 t4 t5, F2 = zq46_fr5 t0 t3 t4 t5 ∧ Inv n' t3 t4 t5 H2) F'' H'') → Kb5 F'' H'') → zq46_b5 t0 t3 t4 t5 H' K Kb5) : zq46_l5 t0 t3 t4 t5 H K :=
 aloop (M := zq46_M) zq46_m5 (fun n F H => ∃ t3 t4 t5, F = zq46_fr5 t0 t3 t4 t5 ∧ Inv n t3 t4 t5 H) n (fun hs _ => ⟨t3, t4, t5, rfl, h0 hs⟩) (fun n F H' ⟨t3, t4, t5, hF, hI⟩ h1 h2 h3 => by subst hF; rw [zq46_b5_eq]; exact round n t3 t4 t5 H' hI h1 h2 h3 _ (fun _ _ h => h))
theorem zq46_eq (t0 : AV) (H : Heap) (K : Kt) : awp tP zq46_M zq46_c (retQ tP zq46_r K) (t0 :: List.replicate 120 .unk) H = zq46 t0 H K := by kernel_rfl
theorem zq46_ok {t0 : AV} {H : Heap} {K : Kt} (h : HSc H → zq46 t0 H K) : ACalls tP n_zq46 [t0] H K :=
 acalls_body (M := zq46_M) Try.func48 (c := zq46_c) (by kernel_rfl) (fun hs => (zq46_eq t0 H K).mpr (h hs))
def zq48_M : Nat → List Bool
 | 2 => rl false [0,1,6,3,18]
 | _ => []
noncomputable def zq48_c : Code := Try.f50.body.getD .skip
noncomputable def zq48_r : List ResultVar := Try.f50.results.toList
def zq48_fr2 (t0 t7 t8 t9 : AV) : List AV := t0 :: ux 6 (t7 :: t8 :: t9 :: ux 18 [])
def zq48_m2 : List Bool := zq48_M 2
noncomputable def zq48_c2 : Code := codeAt [1, 0, 1, 0, 0] zq48_c
def zq48_Q2 (K : Kt) : AExit → List AV → Heap → Prop := contAt tP zq48_M [1, 0, 1, 0] zq48_c (retQ tP zq48_r K)
def zq48_l2 (t0 t7 t8 t9 : AV) (H : Heap) (K : Kt) : Prop := ALoop tP zq48_c2 (zq48_Q2 K) (zq48_fr2 t0 t7 t8 t9) H
def zq48_b2 (t0 t7 t8 t9 : AV) (H : Heap) (K : Kt) (Kb2 : Lt) : Prop :=
 aBin .lss false t9 t8 fun t10 =>
 aTest t10
 (aIdxA 1 t7 t9 fun t11 =>
 aLoad false 1 t11 H fun t12 =>
 aBin .lss false t12 (.int .i64 0) fun t14 =>
 aGuardJ t14 false H (fun k => k t12 H) fun t16 H =>
 aGuardJ t14 false H (fun k => k t0 H) fun t17 H =>
 aGuardJ t14 false H (fun k => aLen 1 t17 (k · H)) fun t18 H =>
 aGuardJ t14 false H (fun k => aBin .geq false t16 t18 (k · H)) fun t19 H =>
 aPick t14 (.bool true) t19 fun t20 =>
 aTest t20
 (K (.bool false) H)
 (aIdxA 1 t0 t12 fun t23 =>
 aLoad false 1 t23 H fun t24 =>
 aBin .add false t24 (.int .i64 1) fun t25 =>
 aIdxA 1 t0 t12 fun t26 =>
 aStore 1 t26 t25 H fun H =>
 aBin .add false t9 (.int .i64 1) fun t27 =>
 Kb2 (zq48_fr2 t0 t7 t8 t27) H))
 (K (.bool true) H)
def zq48 (t0 t1 : AV) (H : Heap) (K : Kt) : Prop :=
 aLen 1 t1 fun t8 =>
 zq48_l2 t0 t1 t8 (.int .i64 0) H K
theorem zq48_b2_eq (t0 t7 t8 t9 : AV) (H : Heap) (K : Kt) (Kb2 : Lt) : awp tP zq48_M zq48_c2 (roundQ zq48_m2 Kb2 (zq48_Q2 K)) (zq48_fr2 t0 t7 t8 t9) H = zq48_b2 t0 t7 t8 t9 H K Kb2 := by kernel_rfl
theorem zq48_loop2 {t0 t7 t8 t9 : AV} {H : Heap} {K : Kt} (Inv : Nat → AV → Heap → Prop) (n : Nat) (h0 : HSc H → Inv n t9 H)
   (round : ∀ n t9 H', Inv n t9 H' → HSc H' → H.length ≤ H'.length → (zq48_fr2 t0 t7 t8 t9).all (AV.sc H'.length) = true → ∀ Kb2 : Lt, (∀ F'' H'', (∃ n', n' < n ∧ Back H.length (fun F2 H2 => ∃ t9, F2 = zq48_fr2 t0 t7 t8 t9 ∧ Inv n' t9 H2) F'' H'') → Kb2 F'' H'') → zq48_b2 t0 t7 t8 t9 H' K Kb2) : zq48_l2 t0 t7 t8 t9 H K :=
 aloop (M := zq48_M) zq48_m2 (fun n F H => ∃ t9, F = zq48_fr2 t0 t7 t8 t9 ∧ Inv n t9 H) n (fun hs _ => ⟨t9, rfl, h0 hs⟩) (fun n F H' ⟨t9, hF, hI⟩ h1 h2 h3 => by subst hF; rw [zq48_b2_eq]; exact round n t9 H' hI h1 h2 h3 _ (fun _ _ h => h))
theorem zq48_eq (t0 t1 : AV) (H : Heap) (K : Kt) : awp tP zq48_M zq48_c (retQ tP zq48_r K) (t0 :: t1 :: List.replicate 26 .unk) H = zq48 t0 t1 H K := by kernel_rfl
theorem zq48_ok {t0 t1 : AV} {H : Heap} {K : Kt} (h : HSc H → zq48 t0 t1 H K) : ACalls tP n_zq48 [t0, t1] H K :=
 acalls_body (M := zq48_M) Try.func50 (c := zq48_c) (by kernel_rfl) (fun hs => (zq48_eq t0 t1 H K).mpr (h hs))
def zq50_M : Nat → List Bool
 | 2 => rl false [0,1,2,1,21]
 | 5 => rl false [0,1,2,2,20]
 | _ => []
noncomputable def zq50_c : Code := Try.f52.body.getD .skip
noncomputable def zq50_r : List ResultVar := Try.f52.results.toList
def zq50_fr2 (t0 t3 : AV) : List AV := t0 :: ux 2 (t3 :: ux 21 [])
def zq50_m2 : List Bool := zq50_M 2
noncomputable def zq50_c2 : Code := codeAt [1, 0, 1, 0, 0] zq50_c
def zq50_Q2 (K : Kt) : AExit → List AV → Heap → Prop := contAt tP zq50_M [1, 0, 1, 0] zq50_c (retQ tP zq50_r K)
def zq50_l2 (t0 t3 : AV) (H : Heap) (K : Kt) : Prop := ALoop tP zq50_c2 (zq50_Q2 K) (zq50_fr2 t0 t3) H
def zq50_fr5 (t0 t3 t4 : AV) : List AV := t0 :: ux 2 (t3 :: t4 :: ux 20 [])
def zq50_m5 : List Bool := zq50_M 5
noncomputable def zq50_c5 : Code := codeAt [1, 0, 0, 1, 0, 0] zq50_c2
def zq50_Q5 (K : Kt) (Kb2 : Lt) : AExit → List AV → Heap → Prop := contAt tP zq50_M [1, 0, 0, 1, 0] zq50_c2 (roundQ zq50_m2 Kb2 (zq50_Q2 K))
def zq50_l5 (t0 t3 t4 : AV) (H : Heap) (K : Kt) (Kb2 : Lt) : Prop := ALoop tP zq50_c5 (zq50_Q5 K Kb2) (zq50_fr5 t0 t3 t4) H
def zq50_b5 (t0 t3 t4 : AV) (H : Heap) (K : Kt) (Kb2 : Lt) (Kb5 : Lt) : Prop :=
 aBin .lss false t4 t3 fun t13 =>
 aTest t13
 (aPure H (fun k => k t0 H) fun t16 =>
 aPure H (fun k => k t3 H) fun t17 =>
 aPure H (fun k => aIdxA 1 t16 t17 (k · H)) fun t18 =>
 aPure H (fun k => aLoad false 1 t18 H (k · H)) fun t19 =>
 aPure H (fun k => k t0 H) fun t20 =>
 aPure H (fun k => k t4 H) fun t21 =>
 aPure H (fun k => aIdxA 1 t20 t21 (k · H)) fun t22 =>
 aPure H (fun k => aLoad false 1 t22 H (k · H)) fun t23 =>
 aPure H (fun k => aBin .eql false t19 t23 (k · H)) fun t24 =>
 aTest t24
 (K (.bool true) H)
 (aBin .add false t4 (.int .i64 1) fun t15 =>
 Kb5 (zq50_fr5 t0 t3 t15) H))
 (aBin .add false t3 (.int .i64 1) fun t10 =>
 Kb2 (zq50_fr2 t0 t10) H)
def zq50_b2 (t0 t3 : AV) (H : Heap) (K : Kt) (Kb2 : Lt) : Prop :=
 aLen 1 t0 fun t7 =>
 aBin .lss false t3 t7 fun t8 =>
 aTest t8
 (zq50_l5 t0 t3 (.int .i64 0) H K Kb2)
 (K (.bool false) H)
def zq50 (t0 : AV) (H : Heap) (K : Kt) : Prop :=
 zq50_l2 t0 (.int .i64 0) H K
theorem zq50_b5_eq (t0 t3 t4 : AV) (H : Heap) (K : Kt) (Kb2 : Lt) (Kb5 : Lt) : awp tP zq50_M zq50_c5 (roundQ zq50_m5 Kb5 (zq50_Q5 K Kb2)) (zq50_fr5 t0 t3 t4) H = zq50_b5 t0 t3 t4 H K Kb2 Kb5 := by kernel_rfl
theorem zq50_loop5 {t0 t3 t4 : AV} {H : Heap} {K : Kt} {Kb2 : Lt} (Inv : Nat → AV → Heap → Prop) (n : Nat) (h0 : HSc H → Inv n t4 H)
   (round : ∀ n t4 H', Inv n t4 H' → HSc H' → H.length ≤ H'.length → (zq50_fr5 t0 t3 t4).all (AV.sc H'.length) = true → ∀ Kb5 : Lt, (∀ F'' H'', (∃ n', n' < n ∧ Back H.length (fun F2 H2 => ∃ t4, F2 = zq50_fr5 t0 t3 t4 ∧ Inv n' t4 H2) F'' H'') → Kb5 F'' H'') → zq50_b5 t0 t3 t4 H' K Kb2 Kb5) : zq50_l5 t0 t3 t4 H K Kb2 :=
 aloop (M := zq50_M) zq50_m5 (fun n F H => ∃ t4, F = zq50_fr5 t0 t3 t4 ∧ Inv n t4 H) n (fun hs _ => ⟨t4, rfl, h0 hs⟩) (fun n F H' ⟨t4, hF, hI⟩ h1 h2 h3 => by subst hF; rw [zq50_b5_eq]; exact round n t4 H' hI h1 h2 h3 _ (fun _ _ h => h))
theorem zq50_b2_eq (t0 t3 : AV) (H : Heap) (K : Kt) (Kb2 : Lt) : awp tP zq50_M zq50_c2 (roundQ zq50_m2 Kb2 (zq50_Q2 K)) (zq50_fr2 t0 t3) H = zq50_b2 t0 t3 H K Kb2 := by kernel_rfl
theorem zq50_loop2 {t0 t3 : AV} {H : Heap} {K : Kt} (Inv : Nat → AV → Heap → Prop) (n : Nat) (h0 : HSc H → Inv n t3 H)
   (round : ∀ n t3 H', Inv n t3 H' → HSc H' → H.length ≤ H'.length → (zq50_fr2 t0 t3).all (AV.sc H'.length) = true → ∀ Kb2 : Lt, (∀ F'' H'', (∃ n', n' < n ∧ Back H.length (fun F2 H2 => ∃ t3, F2 = zq50_fr2 t0 t3 ∧ Inv n' t3 H2) F'' H'') → Kb2 F'' H'') → zq50_b2 t0 t3 H' K Kb2) : zq50_l2 t0 t3 H K :=
 aloop (M := zq50_M) zq50_m2 (fun n F H => ∃ t3, F = zq50_fr2 t0 t3 ∧ Inv n t3 H) n (fun hs _ => ⟨t3, rfl, h0 hs⟩) (fun n F H' ⟨t3, hF, hI⟩ h1 h2 h3 => by subst hF; rw [zq50_b2_eq]; exact round n t3 H' hI h1 h2 h3 _ (fun _ _ h => h))
theorem zq50_eq (t0 : AV) (H : Heap) (K : Kt) : awp tP zq50_M zq50_c (retQ tP zq50_r K) (t0 :: List.replicate 24 .unk) H = zq50 t0 H K := by kernel_rfl
theorem zq50_ok {t0 : AV} {H : Heap} {K : Kt} (h : HSc H → zq50 t0 H K) : ACalls tP n_zq50 [t0] H K :=
 acalls_body (M := zq50_M) Try.func52 (c := zq50_c) (by kernel_rfl) (fun hs => (zq50_eq t0 H K).mpr (h hs))
def zq52_M : Nat → List Bool
 | 1 => rl false [0,1,1,1,5,3,8]
 | _ => []
noncomputable def zq52_c : Code := Try.f54.body.getD .skip
noncomputable def zq52_r : List ResultVar := Try.f54.results.toList
def zq52_fr1 (t0 t2 t8 t9 t10 : AV) : List AV := t0 :: ux 1 (t2 :: ux 5 (t8 :: t9 :: t10 :: ux 8 []))
def zq52_m1 : List Bool := zq52_M 1
noncomputable def zq52_c1 : Code := codeAt [1, 0, 0] zq52_c
def zq52_Q1 (K : Kt) : AExit → List AV → Heap → Prop := contAt tP zq52_M [1, 0] zq52_c (retQ tP zq52_r K)
def zq52_l1 (t0 t2 t8 t9 t10 : AV) (H : Heap) (K : Kt) : Prop := ALoop tP zq52_c1 (zq52_Q1 K) (zq52_fr1 t0 t2 t8 t9 t10) H
def zq52_b1 (t0 t2 t8 t9 t10 : AV) (H : Heap) (K : Kt) (Kb1 : Lt) : Prop :=
 aBin .lss false t10 t9 fun t11 =>
 aTest t11
 (aIdxA 1 t8 t10 fun t12 =>
 aLoad false 1 t12 H fun t13 =>
 aIdxA 1 t0 t13 fun t17 =>
 aStore 1 t17 t2 H fun H =>
 aBin .add false t10 (.int .i64 1) fun t18 =>
 Kb1 (zq52_fr1 t0 t2 t8 t9 t18) H)
 (aRet [] (K · H))
def zq52 (t0 t1 t2 : AV) (H : Heap) (K : Kt) : Prop :=
 aLen 1 t1 fun t9 =>
 zq52_l1 t0 t2 t1 t9 (.int .i64 0) H K
theorem zq52_b1_eq (t0 t2 t8 t9 t10 : AV) (H : Heap) (K : Kt) (Kb1 : Lt) : awp tP zq52_M zq52_c1 (roundQ zq52_m1 Kb1 (zq52_Q1 K)) (zq52_fr1 t0 t2 t8 t9 t10) H = zq52_b1 t0 t2 t8 t9 t10 H K Kb1 := by kernel_rfl
theorem zq52_loop1 {t0 t2 t8 t9 t10 : AV} {H : Heap} {K : Kt} (Inv : Nat → AV → Heap → Prop) (n : Nat) (h0 : HSc H → Inv n t10 H)
   (round : ∀ n t10 H', Inv n t10 H' → HSc H' → H.length ≤ H'.length → (zq52_fr1 t0 t2 t8 t9 t10).all (AV.sc H'.length) = true → ∀ Kb1 : Lt, (∀ F'' H'', (∃ n', n' < n ∧ Back H.length (fun F2 H2 => ∃ t10, F2 = zq52_fr1 t0 t2 t8 t9 t10 ∧ Inv n' t10 H2) F'' H'') → Kb1 F'' H'') → zq52_b1 t0 t2 t8 t9 t10 H' K Kb1) : zq52_l1 t0 t2 t8 t9 t10 H K :=
 aloop (M := zq52_M) zq52_m1 (fun n F H => ∃ t10, F = zq52_fr1 t0 t2 t8 t9 t10 ∧ Inv n t10 H) n (fun hs _ => ⟨t10, rfl, h0 hs⟩) (fun n F H' ⟨t10, hF, hI⟩ h1 h2 h3 => by subst hF; rw [zq52_b1_eq]; exact round n t10 H' hI h1 h2 h3 _ (fun _ _ h => h))
theorem zq52_eq (t0 t1 t2 : AV) (H : Heap) (K : Kt) : awp tP zq52_M zq52_c (retQ tP zq52_r K) (t0 :: t1 :: t2 :: List.replicate 16 .unk) H = zq52 t0 t1 t2 H K := by kernel_rfl
theorem zq52_ok {t0 t1 t2 : AV} {H : Heap} {K : Kt} (h : HSc H → zq52 t0 t1 t2 H K) : ACalls tP n_zq52 [t0, t1, t2] H K :=
 acalls_body (M := zq52_M) Try.func54 (c := zq52_c) (by kernel_rfl) (fun hs => (zq52_eq t0 t1 t2 H K).mpr (h hs))
def zq53_M : Nat → List Bool
 | 3 => rl false [2,2,3,1,10,3,40]
 | 9 => rl false [2,2,3,1,24,2,27]
 | 200012 => rl false [0,1]
 | _ => []
noncomputable def zq53_c : Code := Try.f55.body.getD .skip
noncomputable def zq53_r : List ResultVar := Try.f55.results.toList
def zq53_fr3 (t2 t3 t7 t18 t19 t20 : AV) : List AV := ux 2 (t2 :: t3 :: ux 3 (t7 :: ux 10 (t18 :: t19 :: t20 :: ux 40 [])))
def zq53_m3 : List Bool := zq53_M 3
noncomputable def zq53_c3 : Code := codeAt [1, 1, 0, 1, 0, 0] zq53_c
def zq53_Q3 (K : Kt) : AExit → List AV → Heap → Prop := contAt tP zq53_M [1, 1, 0, 1, 0] zq53_c (retQ tP zq53_r K)
def zq53_l3 (t2 t3 t7 t18 t19 t20 : AV) (H : Heap) (K : Kt) : Prop := ALoop tP zq53_c3 (zq53_Q3 K) (zq53_fr3 t2 t3 t7 t18 t19 t20) H
def zq53_fr9 (t2 t3 t7 t32 t33 : AV) : List AV := ux 2 (t2 :: t3 :: ux 3 (t7 :: ux 24 (t32 :: t33 :: ux 27 [])))
def zq53_m9 : List Bool := zq53_M 9
noncomputable def zq53_c9 : Code := codeAt [1, 1, 1, 0, 1, 0, 0] zq53_c
def zq53_Q9 (K : Kt) : AExit → List AV → Heap → Prop := contAt tP zq53_M [1, 1, 1, 0, 1, 0] zq53_c (retQ tP zq53_r K)
def zq53_l9 (t2 t3 t7 t32 t33 : AV) (H : Heap) (K : Kt) : Prop := ALoop tP zq53_c9 (zq53_Q9 K) (zq53_fr9 t2 t3 t7 t32 t33) H
def zq53_b9 (t2 t3 t7 t32 t33 : AV) (H : Heap) (K : Kt) (Kb9 : Lt) : Prop :=
 aBin .lss false t33 t32 fun t34 =>
 aTest t34
 (aFld 3 t7 fun t37 =>
 aLoad false 1 t37 H fun t38 =>
 aIdxA 1 t38 t33 fun t40 =>
 aLoad false 1 t40 H fun t41 =>
 ACalls tP n_zq52 [t2, t41, (.bool true)] H fun t42 H =>
 aPure H (fun k => aLoad true 4 t3 H (k · H)) fun t43 =>
 aPure H (fun k => aFld 4 t7 (k · H)) fun t44 =>
 aPure H (fun k => aLoad false 1 t44 H (k · H)) fun t45 =>
 aPure H (fun k => k t33 H) fun t46 =>
 aPure H (fun k => aIdxA 1 t45 t46 (k · H)) fun t47 =>
 aPure H (fun k => aLoad false 1 t47 H (k · H)) fun t48 =>
 aPure H (fun k => k t2 H) fun t49 =>
 aDet .w false H (fun k => ACalls tP n_zq53 [t43, t48, t49] H k) fun t50 H =>
 aPure H (fun k => k t50 H) fun t11 =>
 aFld 3 t7 fun t52 =>
 aLoad false 1 t52 H fun t53 =>
 aIdxA 1 t53 t33 fun t55 =>
 aLoad false 1 t55 H fun t56 =>
 ACalls tP n_zq52 [t2, t56, (.bool false)] H fun t57 H =>
 aUn .not t11 fun t59 =>
 aTest t59
 (K (.bool false) H)
 (aBin .add false t33 (.int .i64 1) fun t60 =>
 Kb9 (zq53_fr9 t2 t3 t7 t32 t60) H))
 (K (.bool true) H)
def zq53_b3 (t2 t3 t7 t18 t19 t20 : AV) (H : Heap) (K : Kt) (Kb3 : Lt) : Prop :=
 aBin .lss false t20 t19 fun t21 =>
 aTest t21
 (aIdxA 1 t18 t20 fun t22 =>
 aLoad false 1 t22 H fun t23 =>
 aIdxA 1 t2 t23 fun t26 =>
 aLoad false 1 t26 H fun t27 =>
 aUn .not t27 fun t28 =>
 aTest t28
 (K (.bool false) H)
 (aBin .add false t20 (.int .i64 1) fun t29 =>
 Kb3 (zq53_fr3 t2 t3 t7 t18 t19 t29) H))
 (aFld 4 t7 fun t30 =>
 aLoad false 1 t30 H fun t31 =>
 aLen 1 t31 fun t32 =>
 zq53_l9 t2 t3 t7 t32 (.int .i64 0) H K)
def zq53 (t0 t1 t2 : AV) (H : Heap) (K : Kt) : Prop :=
 aBox t0 H fun t3 H =>
 aFld 3 t3 fun t12 =>
 aLoad false 1 t12 H fun t13 =>
 aIdxA 8 t13 t1 fun t15 =>
 aLoad true 8 t15 H fun t16 =>
 aNew [(.int .i64 0), (.int .i64 0), .snil, .snil, .snil, (.int .i64 0), (.int .i64 0), .snil] H fun t7 H =>
 aStore 8 t7 t16 H fun H =>
 aFld 2 t7 fun t17 =>
 aLoad false 1 t17 H fun t18 =>
 aLen 1 t18 fun t19 =>
 zq53_l3 t2 t3 t7 t18 t19 (.int .i64 0) H K
theorem zq53_b9_eq (t2 t3 t7 t32 t33 : AV) (H : Heap) (K : Kt) (Kb9 : Lt) : awp tP zq53_M zq53_c9 (roundQ zq53_m9 Kb9 (zq53_Q9 K)) (zq53_fr9 t2 t3 t7 t32 t33) H = zq53_b9 t2 t3 t7 t32 t33 H K Kb9 := by kernel_rfl
theorem zq53_loop9 {t2 t3 t7 t32 t33 : AV} {H : Heap} {K : Kt} (Inv : Nat → AV → Heap → Prop) (n : Nat) (h0 : HSc H → Inv n t33 H)
   (round : ∀ n t33 H', Inv n t33 H' → HSc H' → H.length ≤ H'.length → (zq53_fr9 t2 t3 t7 t32 t33).all (AV.sc H'.length) = true → ∀ Kb9 : Lt, (∀ F'' H'', (∃ n', n' < n ∧ Back H.length (fun F2 H2 => ∃ t33, F2 = zq53_fr9 t2 t3 t7 t32 t33 ∧ Inv n' t33 H2) F'' H'') → Kb9 F'' H'') → zq53_b9 t2 t3 t7 t32 t33 H' K Kb9) : zq53_l9 t2 t3 t7 t32 t33 H K :=
 aloop (M := zq53_M) zq53_m9 (fun n F H => ∃ t33, F = zq53_fr9 t2 t3 t7 t32 t33 ∧ Inv n t33 H) n (fun hs _ => ⟨t33, rfl, h0 hs⟩) (fun n F H' ⟨t33, hF, hI⟩ h1 h2 h3 => by subst hF; rw [zq53_b9_eq]; exact round n t33 H' hI h1 h2 h3 _ (fun _ _ h => h))
theorem zq53_b3_eq (t2 t3 t7 t18 t19 t20 : AV) (H : Heap) (K : Kt) (Kb3 : Lt) : awp tP zq53_M zq53_c3 (roundQ zq53_m3 Kb3 (zq53_Q3 K)) (zq53_fr3 t2 t3 t7 t18 t19 t20) H = zq53_b3 t2 t3 t7 t18 t19 t20 H K Kb3 := by kernel_rfl
theorem zq53_loop3 {t2 t3 t7 t18 t19 t20 : AV} {H : Heap} {K : Kt} (Inv : Nat → AV → Heap → Prop) (n : Nat) (h0 : HSc H → Inv n t20 H)
   (round : ∀ n t20 H', Inv n t20 H' → HSc H' → H.length ≤ H'.length → (zq53_fr3 t2 t3 t7 t18 t19 t20).all (AV.sc H'.length) = true → ∀ Kb3 : Lt, (∀ F'' H'', (∃ n', n' < n ∧ Back H.length (fun F2 H2 => ∃ t20, F2 = zq53_fr3 t2 t3 t7 t18 t19 t20 ∧ Inv n' t20 H2) F'' H'') → Kb3 F'' H'') → zq53_b3 t2 t3 t7 t18 t19 t20 H' K Kb3) : zq53_l3 t2 t3 t7 t18 t19 t20 H K :=
 aloop (M := zq53_M) zq53_m3 (fun n F H => ∃ t20, F = zq53_fr3 t2 t3 t7 t18 t19 t20 ∧ Inv n t20 H) n (fun hs _ => ⟨t20, rfl, h0 hs⟩) (fun n F H' ⟨t20, hF, hI⟩ h1 h2 h3 => by subst hF; rw [zq53_b3_eq]; exact round n t20 H' hI h1 h2 h3 _ (fun _ _ h => h))
theorem zq53_eq (t0 t1 t2 : AV) (H : Heap) (K : Kt) : awp tP zq53_M zq53_c (retQ tP zq53_r K) (t0 :: t1 :: t2 :: List.replicate 58 .unk) H = zq53 t0 t1 t2 H K := by kernel_rfl
theorem zq53_ok {t0 t1 t2 : AV} {H : Heap} {K : Kt} (h : HSc H → zq53 t0 t1 t2 H K) : ACalls tP n_zq53 [t0, t1, t2] H K :=
 acalls_body (M := zq53_M) Try.func55 (c := zq53_c) (by kernel_rfl) (fun hs => (zq53_eq t0 t1 t2 H K).mpr (h hs))
def zq79_M (_ : Nat) : List Bool := []
noncomputable def zq79_c : Code := Try.f81.body.getD .skip
noncomputable def zq79_r : List ResultVar := Try.f81.results.toList
def zq79 (t0 t1 : AV) (H : Heap) (K : Kt) : Prop :=
 ACalls tP n_zq80 [t0, t1] H fun t7 H =>
 K t7 H
theorem zq79_eq (t0 t1 : AV) (H : Heap) (K : Kt) : awp tP zq79_M zq79_c (retQ tP zq79_r K) (t0 :: t1 :: List.replicate 6 .unk) H = zq79 t0 t1 H K := by kernel_rfl
theorem zq79_ok {t0 t1 : AV} {H : Heap} {K : Kt} (h : HSc H → zq79 t0 t1 H K) : ACalls tP n_zq79 [t0, t1] H K :=
 acalls_body (M := zq79_M) Try.func81 (c := zq79_c) (by kernel_rfl) (fun hs => (zq79_eq t0 t1 H K).mpr (h hs))
def zq10_M : Nat → List Bool
 | 4 => rl false [1,1,30,3,67]
 | 10 => rl false [62,3,37]
 | 15 => rl false [62,3,26,3,8]
 | _ => []
noncomputable def zq10_c : Code := Try.f12.body.getD .skip
noncomputable def zq10_r : List ResultVar := Try.f12.results.toList
def zq10_fr4 (t1 t32 t33 t34 : AV) : List AV := ux 1 (t1 :: ux 30 (t32 :: t33 :: t34 :: ux 67 []))
def zq10_m4 : List Bool := zq10_M 4
noncomputable def zq10_c4 : Code := codeAt [1, 1, 0, 1, 0, 0] zq10_c
def zq10_Q4 (K : Kt) : AExit → List AV → Heap → Prop := contAt tP zq10_M [1, 1, 0, 1, 0] zq10_c (retQ tP zq10_r K)
def zq10_l4 (t1 t32 t33 t34 : AV) (H : Heap) (K : Kt) : Prop := ALoop tP zq10_c4 (zq10_Q4 K) (zq10_fr4 t1 t32 t33 t34) H
def zq10_fr10 (t62 t63 t64 : AV) : List AV := ux 62 (t62 :: t63 :: t64 :: ux 37 [])
def zq10_m10 : List Bool := zq10_M 10
noncomputable def zq10_c10 : Code := codeAt [1, 1, 1, 0, 1, 0, 0] zq10_c
def zq10_Q10 (K : Kt) : AExit → List AV → Heap → Prop := contAt tP zq10_M [1, 1, 1, 0, 1, 0] zq10_c (retQ tP zq10_r K)
def zq10_l10 (t62 t63 t64 : AV) (H : Heap) (K : Kt) : Prop := ALoop tP zq10_c10 (zq10_Q10 K) (zq10_fr10 t62 t63 t64) H
def zq10_fr15 (t62 t63 t64 t91 t92 t93 : AV) : List AV := ux 62 (t62 :: t63 :: t64 :: ux 26 (t91 :: t92 :: t93 :: ux 8 []))
def zq10_m15 : List Bool := zq10_M 15
noncomputable def zq10_c15 : Code := codeAt [1, 1, 0, 0, 1, 1, 1, 0, 0] zq10_c10
def zq10_Q15 (K : Kt) (Kb10 : Lt) : AExit → List AV → Heap → Prop := contAt tP zq10_M [1, 1, 0, 0, 1, 1, 1, 0] zq10_c10 (roundQ zq10_m10 Kb10 (zq10_Q10 K))
def zq10_l15 (t62 t63 t64 t91 t92 t93 : AV) (H : Heap) (K : Kt) (Kb10 : Lt) : Prop := ALoop tP zq10_c15 (zq10_Q15 K Kb10) (zq10_fr15 t62 t63 t64 t91 t92 t93) H
def zq10_b15 (t62 t63 t64 t91 t92 t93 : AV) (H : Heap) (K : Kt) (Kb10 : Lt) (Kb15 : Lt) : Prop :=
 aBin .lss false t93 t92 fun t94 =>
 aTest t94
 (aIdxA 1 t91 t93 fun t95 =>
 aLoad false 1 t95 H fun t96 =>
 aLen 1 t96 fun t98 =>
 aBin .gtr false t98 (.int .i64 10) fun t99 =>
 aTest t99
 (K (.bool false) H)
 (aBin .add false t93 (.int .i64 1) fun t100 =>
 Kb15 (zq10_fr15 t62 t63 t64 t91 t92 t100) H))
 (aBin .add false t64 (.int .i64 1) fun t101 =>
 Kb10 (zq10_fr10 t62 t63 t101) H)
def zq10_b10 (t62 t63 t64 : AV) (H : Heap) (K : Kt) (Kb10 : Lt) : Prop :=
 aBin .lss false t64 t63 fun t65 =>
 aTest t65
 (aIdxA 8 t62 t64 fun t66 =>
 aLoad true 8 t66 H fun t67 =>
 aNew [(.int .i64 0), (.int .i64 0), .snil, .snil, .snil, (.int .i64 0), (.int .i64 0), .snil] H fun t6 H =>
 aStore 8 t6 t67 H fun H =>
 aFld 2 t6 fun t68 =>
 aLoad false 1 t68 H fun t69 =>
 aLen 1 t69 fun t70 =>
 aBin .gtr false t70 (.int .i64 40) fun t71 =>
 aGuardJ t71 false H (fun k => aFld 3 t6 (k · H)) fun t73 H =>
 aGuardJ t71 false H (fun k => aLoad false 1 t73 H (k · H)) fun t74 H =>
 aGuardJ t71 false H (fun k => aLen 1 t74 (k · H)) fun t75 H =>
 aGuardJ t71 false H (fun k => aBin .gtr false t75 (.int .i64 10) (k · H)) fun t76 H =>
 aPick t71 (.bool true) t76 fun t77 =>
 aGuardJ t77 false H (fun k => aFld 4 t6 (k · H)) fun t79 H =>
 aGuardJ t77 false H (fun k => aLoad false 1 t79 H (k · H)) fun t80 H =>
 aGuardJ t77 false H (fun k => aLen 1 t80 (k · H)) fun t81 H =>
 aGuardJ t77 false H (fun k => aBin .gtr false t81 (.int .i64 10) (k · H)) fun t82 H =>
 aPick t77 (.bool true) t82 fun t83 =>
 aGuardJ t83 false H (fun k => aFld 5 t6 (k · H)) fun t85 H =>
 aGuardJ t83 false H (fun k => aLoad true 3 t85 H (k · H)) fun t86 H =>
 aGuardJ t83 false H (fun k => ACalls tP n_zq38 [t86] H k) fun t87 H =>
 aGuardJ t83 false H (fun k => aUn .not t87 (k · H)) fun t88 H =>
 aPick t83 (.bool true) t88 fun t89 =>
 aTest t89
 (K (.bool false) H)
 (aFld 3 t6 fun t90 =>
 aLoad false 1 t90 H fun t91 =>
 aLen 1 t91 fun t92 =>
 zq10_l15 t62 t63 t64 t91 t92 (.int .i64 0) H K Kb10))
 (K (.bool true) H)
def zq10_b4 (t1 t32 t33 t34 : AV) (H : Heap) (K : Kt) (Kb4 : Lt) : Prop :=
 aBin .lss false t34 t33 fun t35 =>
 aTest t35
 (aIdxA 7 t32 t34 fun t36 =>
 aLoad true 7 t36 H fun t37 =>
 aNew [(.str []), .snil, .snil, (.int .i64 0), (.int .i64 0), .snil, (.int .i64 0)] H fun t4 H =>
 aStore 7 t4 t37 H fun H =>
 aFld 0 t4 fun t38 =>
 aLoad false 1 t38 H fun t39 =>
 aLen 0 t39 fun t40 =>
 aBin .gtr false t40 (.int .i64 400) fun t41 =>
 aGuardJ t41 false H (fun k => aFld 1 t4 (k · H)) fun t43 H =>
 aGuardJ t41 false H (fun k => aLoad false 1 t43 H (k · H)) fun t44 H =>
 aGuardJ t41 false H (fun k => aLen 1 t44 (k · H)) fun t45 H =>
 aGuardJ t41 false H (fun k => aBin .gtr false t45 (.int .i64 10) (k · H)) fun t46 H =>
 aPick t41 (.bool true) t46 fun t47 =>
 aGuardJ t47 false H (fun k => aFld 2 t4 (k · H)) fun t49 H =>
 aGuardJ t47 false H (fun k => aLoad false 1 t49 H (k · H)) fun t50 H =>
 aGuardJ t47 false H (fun k => aLen 1 t50 (k · H)) fun t51 H =>
 aGuardJ t47 false H (fun k => aBin .gtr false t51 (.int .i64 40) (k · H)) fun t52 H =>
 aPick t47 (.bool true) t52 fun t53 =>
 aGuardJ t53 false H (fun k => aFld 3 t4 (k · H)) fun t55 H =>
 aGuardJ t53 false H (fun k => aLoad true 3 t55 H (k · H)) fun t56 H =>
 aGuardJ t53 false H (fun k => ACalls tP n_zq38 [t56] H k) fun t57 H =>
 aGuardJ t53 false H (fun k => aUn .not t57 (k · H)) fun t58 H =>
 aPick t53 (.bool true) t58 fun t59 =>
 aTest t59
 (K (.bool false) H)
 (aBin .add false t34 (.int .i64 1) fun t60 =>
 Kb4 (zq10_fr4 t1 t32 t33 t60) H))
 (aFld 3 t1 fun t61 =>
 aLoad false 1 t61 H fun t62 =>
 aLen 1 t62 fun t63 =>
 zq10_l10 t62 t63 (.int .i64 0) H K)
def zq10 (t0 : AV) (H : Heap) (K : Kt) : Prop :=
 aBox t0 H fun t1 H =>
 aFld 0 t1 fun t9 =>
 aLoad false 1 t9 H fun t10 =>
 ACalls tP n_zq36 [t10] H fun t11 H =>
 aUn .not t11 fun t12 =>
 aGuardJ t12 false H (fun k => aFld 1 t1 (k · H)) fun t14 H =>
 aGuardJ t12 false H (fun k => aLoad false 1 t14 H (k · H)) fun t15 H =>
 aGuardJ t12 false H (fun k => aLen 1 t15 (k · H)) fun t16 H =>
 aGuardJ t12 false H (fun k => aBin .gtr false t16 (.int .i64 24) (k · H)) fun t17 H =>
 aPick t12 (.bool true) t17 fun t18 =>
 aGuardJ t18 false H (fun k => aFld 3 t1 (k · H)) fun t20 H =>
 aGuardJ t18 false H (fun k => aLoad false 1 t20 H (k · H)) fun t21 H =>
 aGuardJ t18 false H (fun k => aLen 1 t21 (k · H)) fun t22 H =>
 aGuardJ t18 false H (fun k => aBin .gtr false t22 (.int .i64 160) (k · H)) fun t23 H =>
 aPick t18 (.bool true) t23 fun t24 =>
 aGuardJ t24 false H (fun k => aFld 2 t1 (k · H)) fun t26 H =>
 aGuardJ t24 false H (fun k => aLoad false 1 t26 H (k · H)) fun t27 H =>
 aGuardJ t24 false H (fun k => ACalls tP n_zq37 [t27, (.int .i64 160)] H k) fun t28 H =>
 aGuardJ t24 false H (fun k => aUn .not t28 (k · H)) fun t29 H =>
 aPick t24 (.bool true) t29 fun t30 =>
 aTest t30
 (K (.bool false) H)
 (aFld 1 t1 fun t31 =>
 aLoad false 1 t31 H fun t32 =>
 aLen 1 t32 fun t33 =>
 zq10_l4 t1 t32 t33 (.int .i64 0) H K)
theorem zq10_b15_eq (t62 t63 t64 t91 t92 t93 : AV) (H : Heap) (K : Kt) (Kb10 : Lt) (Kb15 : Lt) : awp tP zq10_M zq10_c15 (roundQ zq10_m15 Kb15 (zq10_Q15 K Kb10)) (zq10_fr15 t62 t63 t64 t91 t92 t93) H = zq10_b15 t62 t63 t64 t91 t92 t93 H K Kb10 Kb15 := by kernel_rfl
theorem zq10_loop15 {t62 t63 t64 t91 t92 t93 : AV} {H : Heap} {K : Kt} {Kb10 : Lt} (Inv : Nat → AV → Heap → Prop) (n : Nat) (h0 : HSc H → Inv n t93 H)
   (round : ∀ n t93 H', Inv n t93 H' → HSc H' → H.length ≤ H'.length → (zq10_fr15 t62 t63 t64 t91 t92 t93).all (AV.sc H'.length) = true → ∀ Kb15 : Lt, (∀ F'' H'', (∃ n', n' < n ∧ Back H.length (fun F2 H2 => ∃ t93, F2 = zq10_fr15 t62 t63 t64 t91 t92 t93 ∧ Inv n' t93 H2) F'' H'') → Kb15 F'' H'') → zq10_b15 t62 t63 t64 t91 t92 t93 H' K Kb10 Kb15) : zq10_l15 t62 t63 t64 t91 t92 t93 H K Kb10 :=
 aloop (M := zq10_M) zq10_m15 (fun n F H => ∃ t93, F = zq10_fr15 t62 t63 t64 t91 t92 t93 ∧ Inv n t93 H) n (fun hs _ => ⟨t93, rfl, h0 hs⟩) (fun n F H' ⟨t93, hF, hI⟩ h1 h2 h3 => by subst hF; rw [zq10_b15_eq]; exact round n t93 H' hI h1 h2 h3 _ (fun _ _ h => h))
theorem zq10_b10_eq (t62 t63 t64 : AV) (H : Heap) (K : Kt) (Kb10 : Lt) : awp tP zq10_M zq10_c10 (roundQ zq10_m10 Kb10 (zq10_Q10 K)) (zq10_fr10 t62 t63 t64) H = zq10_b10 t62 t63 t64 H K Kb10 := by kernel_rfl
theorem zq10_loop10 {t62 t63 t64 : AV} {H : Heap} {K : Kt} (Inv : Nat → AV → Heap → Prop) (n : Nat) (h0 : HSc H → Inv n t64 H)
   (round : ∀ n t64 H', Inv n t64 H' → HSc H' → H.length ≤ H'.length → (zq10_fr10 t62 t63 t64).all (AV.sc H'.length) = true → ∀ Kb10 : Lt, (∀ F'' H'', (∃ n', n' < n ∧ Back H.length (fun F2 H2 => ∃ t64, F2 = zq10_fr10 t62 t63 t64 ∧ Inv n' t64 H2) F'' H'') → Kb10 F'' H'') → zq10_b10 t62 t63 t64 H' K Kb10) : zq10_l10 t62 t63 t64 H K :=
 aloop (M := zq10_M) zq10_m10 (fun n F H => ∃ t64, F = zq10_fr10 t62 t63 t64 ∧ Inv n t64 H) n (fun hs _ => ⟨t64, rfl, h0 hs⟩) (fun n F H' ⟨t64, hF, hI⟩ h1 h2 h3 => by subst hF; rw [zq10_b10_eq]; exact round n t64 H' hI h1 h2 h3 _ (fun _ _ h => h))
theorem zq10_b4_eq (t1 t32 t33 t34 : AV) (H : Heap) (K : Kt) (Kb4 : Lt) : awp tP zq10_M zq10_c4 (roundQ zq10_m4 Kb4 (zq10_Q4 K)) (zq10_fr4 t1 t32 t33 t34) H = zq10_b4 t1 t32 t33 t34 H K Kb4 := by kernel_rfl
theorem zq10_loop4 {t1 t32 t33 t34 : AV} {H : Heap} {K : Kt} (Inv : Nat → AV → Heap → Prop) (n : Nat) (h0 : HSc H → Inv n t34 H)
   (round : ∀ n t34 H', Inv n t34 H' → HSc H' → H.length ≤ H'.length → (zq10_fr4 t1 t32 t33 t34).all (AV.sc H'.length) = true → ∀ Kb4 : Lt, (∀ F'' H'', (∃ n', n' < n ∧ Back H.length (fun F2 H2 => ∃ t34, F2 = zq10_fr4 t1 t32 t33 t34 ∧ Inv n' t34 H2) F'' H'') → Kb4 F'' H'') → zq10_b4 t1 t32 t33 t34 H' K Kb4) : zq10_l4 t1 t32 t33 t34 H K :=
 aloop (M := zq10_M) zq10_m4 (fun n F H => ∃ t34, F = zq10_fr4 t1 t32 t33 t34 ∧ Inv n t34 H) n (fun hs _ => ⟨t34, rfl, h0 hs⟩) (fun n F H' ⟨t34, hF, hI⟩ h1 h2 h3 => by subst hF; rw [zq10_b4_eq]; exact round n t34 H' hI h1 h2 h3 _ (fun _ _ h => h))
theorem zq10_eq (t0 : AV) (H : Heap) (K : Kt) : awp tP zq10_M zq10_c (retQ tP zq10_r K) (t0 :: List.replicate 101 .unk) H = zq10 t0 H K := by kernel_rfl
theorem zq10_ok {t0 : AV} {H : Heap} {K : Kt} (h : HSc H → zq10 t0 H K) : ACalls tP n_zq10 [t0] H K :=
 acalls_body (M := zq10_M) Try.func12 (c := zq10_c) (by kernel_rfl) (fun hs => (zq10_eq t0 H K).mpr (h hs))
end Go.Proofs.Ytkdmpbhbmmhijaa

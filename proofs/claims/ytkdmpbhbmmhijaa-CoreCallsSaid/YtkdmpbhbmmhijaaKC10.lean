import Derived.Test.YtkdmpbhbmmhijaaKC4
set_option linter.unusedSimpArgs false
set_option linter.unusedVariables false
namespace Go.Proofs.Ytkdmpbhbmmhijaa
open Go Go.Abs
set_option maxRecDepth 8000
theorem sameL_len : ∀ {x y : List VT},VT.sameL x y = true → x.length = y.length
 | [],[],_=>rfl
 | a :: x,b :: y,h=>by
  rw [VT.sameL,Bool.and_eq_true] at h
  simp [sameL_len h.2]
 | [],_ :: _,h=>by simp [VT.sameL] at h
 | _ :: _,[],h=>by simp [VT.sameL] at h
theorem zCp {c : Cor} {e : CEx} {vs ks : List VT} {bs : List (List VT)} (hr : RIn c e vs ks bs) (nz lf : Bool) (tv tk tb : Tok) {H : zaa} (hs : HSc H) (P1 P2 P3 : AB) (K : AV → zaa → Prop) (hb : ∀ b,refR9 c e nz lf vs ks bs = b → ∀ J,Out H.length K (.bool b) (H ++ J)) :
  zqv (.ptr (H.length + 1) 0) (.sl (VT.css vs) tv) (.sl (VT.css ks) tk) (.sl (bsV bs) tb) (.ptr (H.length + 5) 0) (.ptr (H.length + 7) 0) (.int .i64 e.ty.kind) (.bool nz) (.bool lf) (.int .i64 e.op) (.bool (e.op == 19)) (zap H c e P1 P2 P3) (Out H.length K):=by
 have hR:=refR9.eq_1 c e nz lf vs ks bs
 generalize refR9 c e nz lf vs ks bs = R at hR hb
 have sm1 : AV.agg [.int .i64 1,.int .i64 0,.sl [] .none] = .agg (sm 1).cs:=rfl
 have sm2 : AV.agg [.int .i64 2,.int .i64 0,.sl [] .none] = .agg (sm 2).cs:=rfl
 have sm3 : AV.agg [.int .i64 3,.int .i64 0,.sl [] .none] = .agg (sm 3).cs:=rfl
 refine zKt fun hs1=>?_
 unfold zxn
 by_cases hop19 : e.op = 19
 ·rw [if_pos hop19] at hR
  cases hq1 : nz with
  | false=>
   rw [hq1,Bool.false_and] at hR
   simp [zap,zal,hop19,hq1]
   exact hb _ hR _
  | true=>
  rw [hq1,Bool.true_and] at hR
  cases hq2 : lf with
  | false=>
   rw [hq2,Bool.false_and] at hR
   simp [zap,zal,hop19,hq1,hq2]
   exact hb _ hR _
  | true=>
  rw [hq2,Bool.true_and] at hR
  cases hq3 : ((vs.length : Int) == 1) with
  | false=>
   rw [hq3,Bool.false_and] at hR
   simp [zap,zal,hop19,hq1,hq2,hq3]
   exact hb _ hR _
  | true=>
  rw [hq3,Bool.true_and] at hR
  obtain ⟨a,rfl⟩:=zcB hq3
  obtain ⟨ha,han⟩:=hr.vsP a (by simp)
  cases hq4 : (e.ty.kind == 8) with
  | false=>
   rw [hq4,Bool.false_and] at hR
   simp [zap,zal,hop19,hq1,hq2,VT.css,zat a,hq4]
   exact hb _ hR _
  | true=>
  rw [hq4,Bool.true_and] at hR
  obtain ⟨el,hel,hk0⟩:=zfk hr.ety (.inr hq4)
  have heln:=ze8 hel hr.en
  rw [hk0] at hR
  simp [zap,zal,hop19,hq1,hq2,VT.css,zat a,hq4,hel,zat el]
  rw [← zat a,← zat el]
  refine zay (.bool (a.same el)) (fun J=>zdA (v:=a) (u:=el) (by omega) _ _ ⟨rfl,rfl⟩) ?_
  exact hb _ hR _
 rw [if_neg hop19] at hR
 by_cases hop20 : e.op = 20
 ·rw [if_pos hop20] at hR
  cases hq6 : nz with
  | false=>
   rw [hq6,Bool.false_and] at hR
   simp [zap,zal,hop20,hq6]
   exact hb _ hR _
  | true=>
  rw [hq6,Bool.true_and] at hR
  cases hq7 : lf with
  | false=>
   rw [hq7,Bool.false_and] at hR
   simp [zap,zal,hop20,hq6,hq7]
   exact hb _ hR _
  | true=>
  rw [hq7,Bool.true_and] at hR
  cases hq8 : ((vs.length : Int) == 1) with
  | false=>
   rw [hq8,Bool.false_and] at hR
   simp [zap,zal,hop20,hq6,hq7,hq8]
   exact hb _ hR _
  | true=>
  rw [hq8,Bool.true_and] at hR
  obtain ⟨a,rfl⟩:=zcB hq8
  obtain ⟨ha,han⟩:=hr.vsP a (by simp)
  cases hq9 : ((hd0 [a]).kind == 8) with
  | false=>
   rw [hq9,Bool.false_and] at hR
   have hk : (a.kind == 8) = false:=hq9
   simp [zap,zal,hop20,hq6,hq7,VT.css,zat a,hk]
   exact hb _ hR _
  | true=>
  rw [hq9,Bool.true_and] at hR
  have hk : (a.kind == 8) = true:=hq9
  obtain ⟨el,hel,hk0⟩:=zfk ha (.inr hk)
  have heln:=ze8 hel han
  rw [show zb9 (hd0 [a]) = el from hk0] at hR
  simp [zap,zal,hop20,hq6,hq7,VT.css,zat a,hk,hel,zat el]
  rw [← zat el,← zat e.ty]
  refine zay (.bool (el.same e.ty)) (fun J=>zdA (v:=el) (u:=e.ty) (by omega) _ _ ⟨rfl,rfl⟩) ?_
  exact hb _ hR _
 rw [if_neg hop20] at hR
 by_cases hop21 : e.op = 21
 ·rw [if_pos hop21] at hR
  cases hq11 : nz with
  | false=>
   rw [hq11,Bool.false_and] at hR
   simp [zap,zal,hop21,hq11]
   exact hb _ hR _
  | true=>
  rw [hq11,Bool.true_and] at hR
  cases hq12 : lf with
  | false=>
   rw [hq12,Bool.false_and] at hR
   simp [zap,zal,hop21,hq11,hq12]
   exact hb _ hR _
  | true=>
  rw [hq12,Bool.true_and] at hR
  cases hq13 : ((vs.length : Int) == 2) with
  | false=>
   rw [hq13,Bool.false_and] at hR
   simp [zap,zal,hop21,hq11,hq12,hq13]
   exact hb _ hR _
  | true=>
  rw [hq13,Bool.true_and] at hR
  obtain ⟨a,b,rfl⟩:=zcC hq13
  obtain ⟨ha,han⟩:=hr.vsP a (by simp)
  obtain ⟨hb2,hbn⟩:=hr.vsP b (by simp)
  try rw [show hd1 [a,b] = b from rfl] at hR
  cases hq14 : ((hd0 [a,b]).kind == 8) with
  | false=>
   rw [hq14,Bool.false_and] at hR
   have hk : (a.kind == 8) = false:=hq14
   simp [zap,zal,hop21,hq11,hq12,VT.css,zat a,zat b,hk]
   exact hb _ hR _
  | true=>
  rw [hq14,Bool.true_and] at hR
  have hk : (a.kind == 8) = true:=hq14
  obtain ⟨el,hel,hk0⟩:=zfk ha (.inr hk)
  have heln:=ze8 hel han
  rw [show zb9 (hd0 [a,b]) = el from hk0] at hR
  simp [zap,zal,hop21,hq11,hq12,VT.css,zat a,zat b,hk,hel,zat el]
  rw [← zat el,← zat b]
  refine zay (.bool (el.same b)) (fun J=>zdA (v:=el) (u:=b) (by omega) _ _ ⟨rfl,rfl⟩) ?_
  cases hq15 : el.same b with
  | false=>
   rw [hq15,Bool.false_and] at hR
   simp
   exact hb _ hR _
  | true=>
  rw [hq15,Bool.true_and] at hR
  simp [zap,zal,hop21,hq11,hq12,VT.css,zat a,zat b,hk,hel,zat el]
  rw [sm3,← zat e.ty]
  refine zay (.bool (e.ty.same (sm 3))) (fun J=>zdA (v:=e.ty) (u:=sm 3) (by have:=hr.en; omega) _ _ ⟨rfl,rfl⟩) ?_
  exact hb _ hR _
 rw [if_neg hop21] at hR
 by_cases hop22 : e.op = 22
 ·rw [if_pos hop22] at hR
  cases hq17 : (decide (-1000 ≤ e.num)) with
  | false=>
   rw [hq17,Bool.false_and] at hR
   have hn1 : ¬ -1000 ≤ e.num:=of_decide_eq_false hq17
   simp [zap,zal,hop22,hn1]
   exact hb _ hR _
  | true=>
  rw [hq17,Bool.true_and] at hR
  have hn1 : -1000 ≤ e.num:=of_decide_eq_true hq17
  cases hq18 : (decide (e.num ≤ 1000)) with
  | false=>
   rw [hq18,Bool.false_and] at hR
   have hn2 : ¬ e.num ≤ 1000:=of_decide_eq_false hq18
   simp [zap,zal,hop22,hn1,hn2]
   exact hb _ hR _
  | true=>
  rw [hq18,Bool.true_and] at hR
  have hn2 : e.num ≤ 1000:=of_decide_eq_true hq18
  cases hq19 : lf with
  | false=>
   rw [hq19,Bool.false_and] at hR
   simp [zap,zal,hop22,hn1,hn2,hq19]
   exact hb _ hR _
  | true=>
  rw [hq19,Bool.true_and] at hR
  cases hq20 : ((vs.length : Int) == 0) with
  | false=>
   rw [hq20,Bool.false_and] at hR
   simp [zap,zal,hop22,hn1,hn2,hq19,hq20]
   exact hb _ hR _
  | true=>
  rw [hq20,Bool.true_and] at hR
  simp [zap,zal,hop22,hn1,hn2,hq19,hq20]
  exact hb _ hR _
 rw [if_neg hop22] at hR
 by_cases hop23 : e.op = 23
 ·rw [if_pos hop23] at hR
  cases hq22 : nz with
  | false=>
   rw [hq22,Bool.false_and] at hR
   simp [zap,zal,hop23,hq22]
   exact hb _ hR _
  | true=>
  rw [hq22,Bool.true_and] at hR
  cases hq23 : lf with
  | false=>
   rw [hq23,Bool.false_and] at hR
   simp [zap,zal,hop23,hq22,hq23]
   exact hb _ hR _
  | true=>
  rw [hq23,Bool.true_and] at hR
  simp [zap,zal,hop23,hq22,hq23]
  rw [sm1,zbP]
  refine zdC vs [sm 1] (fun v hv=>(hr.vsP v hv).2) (by have:=hr.vl; omega) rfl rfl _ _ ?_
  exact hb _ hR _
 rw [if_neg hop23] at hR
 by_cases hop24 : e.op = 24
 ·rw [if_pos hop24] at hR
  cases hq25 : nz with
  | false=>
   rw [hq25,Bool.false_and] at hR
   simp [zap,zal,hop24,hq25]
   exact hb _ hR _
  | true=>
  rw [hq25,Bool.true_and] at hR
  cases hq26 : ((vs.length : Int) == 0) with
  | false=>
   rw [hq26,Bool.false_and] at hR
   simp [zap,zal,hop24,hq25,hq26]
   exact hb _ hR _
  | true=>
  rw [hq26,Bool.true_and] at hR
  simp [zap,zal,hop24,hq25,hq26]
  rw [← zat e.ty,zd9]
  refine zay (.bool (VT.sameL ks [e.ty,e.ty])) (fun J=>zdC ks [e.ty,e.ty] hr.ksP (by have:=hr.kl; omega) rfl rfl _ _ ⟨rfl,rfl⟩) ?_
  cases hq27 : VT.sameL ks [e.ty,e.ty] with
  | false=>
   rw [hq27,Bool.false_and] at hR
   simp
   exact hb _ hR _
  | true=>
  rw [hq27,Bool.true_and] at hR
  obtain ⟨b0,b1,rfl⟩:=zcC (l:=bs) (by have:=sameL_len hq27; rw [hr.bl,this]; rfl)
  obtain ⟨hb0,hb0n⟩:=hr.bsP b0 (by simp)
  obtain ⟨hb1,hb1n⟩:=hr.bsP b1 (by simp)
  try rw [show bAt [b0,b1] 1 = b1 from rfl] at hR
  cases hq28 : (((bAt [b0,b1] 0).length : Int) == 0) with
  | false=>
   rw [hq28,Bool.false_and] at hR
   have hq0 : ((b0.length : Int) == 0) = false:=hq28
   simp [zap,zal,hop24,hq25,hq26,bsV,zat e.ty,hq0]
   exact hb _ hR _
  | true=>
  rw [hq28,Bool.true_and] at hR
  have hq0 : ((b0.length : Int) == 0) = true:=hq28
  simp [zap,zal,hop24,hq25,hq26,bsV,zat e.ty,hq0]
  rw [sm1,zbP]
  refine zay (.bool (VT.sameL b1 [sm 1])) (fun J=>zdC b1 [sm 1] hb1n (by omega) rfl rfl _ _ ⟨rfl,rfl⟩) ?_
  exact hb _ hR _
 rw [if_neg hop24] at hR
 simp [zap,zal,nb hop19,nb hop20,nb hop21,nb hop22,nb hop23,nb hop24]
 exact hb _ hR _
theorem zug {c : Cor} {e : CEx} {vs ks : List VT} {bs : List (List VT)} (hr : RIn c e vs ks bs) (lf : Bool) (tv : Tok) {H : zaa} (hs : HSc H) (P1 P2 P3 : AB) (w : Int) (K : AV → zaa → Prop) (hb : ∀ b,(decide (1 ≤ e.num) && (decide (e.num ≤ 8) && (lf && (VT.sameL vs [sm 1,sm 1] && (e.ty.kind == w))))) = b → ∀ J,Out H.length K (.bool b) (H ++ J)) :
  zk5 (.ptr (H.length + 1) 0) (.sl (VT.css vs) tv) (.ptr (H.length + 5) 0) (.int .i64 e.ty.kind) (.bool lf) (.int .i64 w) (zap H c e P1 P2 P3) (Out H.length K):=by
 refine zKq fun hs1=>?_
 unfold zxm
 have sm1 : AV.agg [.int .i64 1,.int .i64 0,.sl [] .none] = .agg (sm 1).cs:=rfl
 generalize hR : (decide (1 ≤ e.num) && (decide (e.num ≤ 8) && (lf && (VT.sameL vs [sm 1,sm 1] && (e.ty.kind == w))))) = R at hb
 have hR:=hR.symm
 have hop0 : True:=trivial
 cases hq1 : (decide (1 ≤ e.num)) with
 | false=>
  rw [hq1,Bool.false_and] at hR
  have hn1 : ¬ 1 ≤ e.num:=of_decide_eq_false hq1
  simp [zap,zal,hop0,hn1]
  exact hb _ hR _
 | true=>
 rw [hq1,Bool.true_and] at hR
 have hn1 : 1 ≤ e.num:=of_decide_eq_true hq1
 cases hq2 : (decide (e.num ≤ 8)) with
 | false=>
  rw [hq2,Bool.false_and] at hR
  have hn2 : ¬ e.num ≤ 8:=of_decide_eq_false hq2
  simp [zap,zal,hop0,hn1,hn2]
  exact hb _ hR _
 | true=>
 rw [hq2,Bool.true_and] at hR
 have hn2 : e.num ≤ 8:=of_decide_eq_true hq2
 cases hq3 : lf with
 | false=>
  rw [hq3,Bool.false_and] at hR
  simp [zap,zal,hop0,hn1,hn2,hq3]
  exact hb _ hR _
 | true=>
 rw [hq3,Bool.true_and] at hR
 simp [zap,zal,hop0,hn1,hn2,hq3]
 rw [sm1,zd9]
 refine zdC vs [sm 1,sm 1] (fun v hv=>(hr.vsP v hv).2) (by have:=hr.vl; omega) rfl rfl _ _ ?_
 cases hq4 : VT.sameL vs [sm 1,sm 1] with
 | false=>
  rw [hq4,Bool.false_and] at hR
  simp
  exact hb _ hR _
 | true=>
 rw [hq4,Bool.true_and] at hR
 simp [zap,zal,hop0,hn1,hn2,hq3]
 exact hb _ hR _
theorem zCo {c : Cor} {e : CEx} {vs ks : List VT} {bs : List (List VT)} (hr : RIn c e vs ks bs) (nz lf : Bool) (tv tk tb : Tok) {H : zaa} (hs : HSc H) (P1 P2 P3 : AB) (K : AV → zaa → Prop) (hb : ∀ b,refR7 c e nz lf vs ks bs = b → ∀ J,Out H.length K (.bool b) (H ++ J)) :
  zqu (.ptr (H.length + 1) 0) (.sl (VT.css vs) tv) (.sl (VT.css ks) tk) (.sl (bsV bs) tb) (.ptr (H.length + 5) 0) (.ptr (H.length + 7) 0) (.int .i64 e.ty.kind) (.bool nz) (.bool lf) (.int .i64 e.op) (.bool (e.op == 14)) (zap H c e P1 P2 P3) (Out H.length K):=by
 have hR:=refR7.eq_1 c e nz lf vs ks bs
 generalize refR7 c e nz lf vs ks bs = R at hR hb
 have sm1 : AV.agg [.int .i64 1,.int .i64 0,.sl [] .none] = .agg (sm 1).cs:=rfl
 have sm2 : AV.agg [.int .i64 2,.int .i64 0,.sl [] .none] = .agg (sm 2).cs:=rfl
 have sm3 : AV.agg [.int .i64 3,.int .i64 0,.sl [] .none] = .agg (sm 3).cs:=rfl
 refine zKn fun hs1=>?_
 unfold zxl
 by_cases hop14 : e.op = 14
 ·rw [if_pos hop14] at hR
  by_cases hn6 : 6 ≤ e.num
  ·rw [if_pos hn6] at hR
   have:=zug hr lf tv hs P1 P2 P3 2 K (fun b h J=>hb b (hR.trans h) J)
   simp [zap,zal,hop14,hn6] at this ⊢
   exact this
  ·rw [if_neg hn6] at hR
   have:=zug hr lf tv hs P1 P2 P3 1 K (fun b h J=>hb b (hR.trans h) J)
   simp [zap,zal,hop14,hn6] at this ⊢
   exact this
 rw [if_neg hop14] at hR
 by_cases hop15 : e.op = 15
 ·rw [if_pos hop15] at hR
  cases hq1 : nz with
  | false=>
   rw [hq1,Bool.false_and] at hR
   simp [zap,zal,hop15,nb hop14,hq1]
   exact hb _ hR _
  | true=>
  rw [hq1,Bool.true_and] at hR
  cases hq2 : lf with
  | false=>
   rw [hq2,Bool.false_and] at hR
   simp [zap,zal,hop15,nb hop14,hq1,hq2]
   exact hb _ hR _
  | true=>
  rw [hq2,Bool.true_and] at hR
  cases hq3 : ((vs.length : Int) == 2) with
  | false=>
   rw [hq3,Bool.false_and] at hR
   simp [zap,zal,hop15,nb hop14,hq1,hq2,hq3]
   exact hb _ hR _
  | true=>
  rw [hq3,Bool.true_and] at hR
  obtain ⟨a,b,rfl⟩:=zcC hq3
  obtain ⟨ha,han⟩:=hr.vsP a (by simp)
  obtain ⟨hb2,hbn⟩:=hr.vsP b (by simp)
  try rw [show hd1 [a,b] = b from rfl] at hR
  cases hq4 : (e.ty.kind == 7) with
  | false=>
   rw [hq4,Bool.false_and] at hR
   simp [zap,zal,hop15,nb hop14,hq1,hq2,VT.css,zat a,zat b,hq4]
   exact hb _ hR _
  | true=>
  rw [hq4,Bool.true_and] at hR
  obtain ⟨el,hel,hk0⟩:=zfk hr.ety (.inl hq4)
  have heln:=ze8 hel hr.en
  rw [hk0] at hR
  simp [zap,zal,hop15,nb hop14,hq1,hq2,VT.css,zat a,zat b,hq4,hel,zat el]
  rw [sm1,← zat el,← zat a,← zat b,zd9]
  refine zay (.bool (VT.sameL [a,b] [sm 1,el])) (fun J=>zdC [a,b] [sm 1,el] (fun v hv=>(hr.vsP v hv).2) (by simp) rfl rfl _ _ ⟨rfl,rfl⟩) ?_
  exact hb _ hR _
 rw [if_neg hop15] at hR
 by_cases hop16 : e.op = 16
 ·rw [if_pos hop16] at hR
  cases hq6 : nz with
  | false=>
   rw [hq6,Bool.false_and] at hR
   simp [zap,zal,hop16,nb hop14,nb hop15,hq6]
   exact hb _ hR _
  | true=>
  rw [hq6,Bool.true_and] at hR
  cases hq7 : lf with
  | false=>
   rw [hq7,Bool.false_and] at hR
   simp [zap,zal,hop16,nb hop14,nb hop15,hq6,hq7]
   exact hb _ hR _
  | true=>
  rw [hq7,Bool.true_and] at hR
  cases hq8 : ((vs.length : Int) == 2) with
  | false=>
   rw [hq8,Bool.false_and] at hR
   simp [zap,zal,hop16,nb hop14,nb hop15,hq6,hq7,hq8]
   exact hb _ hR _
  | true=>
  rw [hq8,Bool.true_and] at hR
  obtain ⟨a,b,rfl⟩:=zcC hq8
  obtain ⟨ha,han⟩:=hr.vsP a (by simp)
  obtain ⟨hb2,hbn⟩:=hr.vsP b (by simp)
  try rw [show hd1 [a,b] = b from rfl] at hR
  cases hq9 : ((hd0 [a,b]).kind == 7) with
  | false=>
   rw [hq9,Bool.false_and] at hR
   have hk : (a.kind == 7) = false:=hq9
   simp [zap,zal,hop16,nb hop14,nb hop15,hq6,hq7,VT.css,zat a,zat b,hk]
   exact hb _ hR _
  | true=>
  rw [hq9,Bool.true_and] at hR
  have hk : (a.kind == 7) = true:=hq9
  obtain ⟨el,hel,hk0⟩:=zfk ha (.inl hk)
  have heln:=ze8 hel han
  try rw [show zb9 (hd0 [a,b]) = el from hk0] at hR
  simp [zap,zal,hop16,nb hop14,nb hop15,hq6,hq7,VT.css,zat a,zat b,hk,hel,zat el]
  rw [sm1,← zat b,zbP]
  refine zay (.bool (VT.sameL ([a,b].drop 1) [sm 1])) (fun J=>zdC [b] [sm 1] (fun v hv=>(hr.vsP v (by simp at hv; simp [hv])).2) (by simp) rfl rfl _ _ ⟨rfl,rfl⟩) ?_
  cases hq10 : VT.sameL ([a,b].drop 1) [sm 1] with
  | false=>
   rw [hq10,Bool.false_and] at hR
   simp
   exact hb _ hR _
  | true=>
  rw [hq10,Bool.true_and] at hR
  simp [zap,zal,hop16,nb hop14,nb hop15,hq6,hq7,VT.css,zat a,zat b,hk,hel,zat el]
  rw [← zat el,← zat e.ty]
  refine zay (.bool (el.same e.ty)) (fun J=>zdA (v:=el) (u:=e.ty) (by omega) _ _ ⟨rfl,rfl⟩) ?_
  exact hb _ hR _
 rw [if_neg hop16] at hR
 by_cases hop17 : e.op = 17
 ·rw [if_pos hop17] at hR
  cases hq12 : nz with
  | false=>
   rw [hq12,Bool.false_and] at hR
   simp [zap,zal,hop17,nb hop14,nb hop15,nb hop16,hq12]
   exact hb _ hR _
  | true=>
  rw [hq12,Bool.true_and] at hR
  cases hq13 : lf with
  | false=>
   rw [hq13,Bool.false_and] at hR
   simp [zap,zal,hop17,nb hop14,nb hop15,nb hop16,hq12,hq13]
   exact hb _ hR _
  | true=>
  rw [hq13,Bool.true_and] at hR
  cases hq14 : ((vs.length : Int) == 3) with
  | false=>
   rw [hq14,Bool.false_and] at hR
   simp [zap,zal,hop17,nb hop14,nb hop15,nb hop16,hq12,hq13,hq14]
   exact hb _ hR _
  | true=>
  rw [hq14,Bool.true_and] at hR
  obtain ⟨a,b,d,rfl⟩:=ztm hq14
  obtain ⟨ha,han⟩:=hr.vsP a (by simp)
  cases hq15 : ((hd0 [a,b,d]).kind == 7) with
  | false=>
   rw [hq15,Bool.false_and] at hR
   have hk : (a.kind == 7) = false:=hq15
   simp [zap,zal,hop17,nb hop14,nb hop15,nb hop16,hq12,hq13,VT.css,zat a,zat b,zat d,hk]
   exact hb _ hR _
  | true=>
  rw [hq15,Bool.true_and] at hR
  have hk : (a.kind == 7) = true:=hq15
  obtain ⟨el,hel,hk0⟩:=zfk ha (.inl hk)
  have heln:=ze8 hel han
  try rw [show zb9 (hd0 [a,b,d]) = el from hk0] at hR
  simp [zap,zal,hop17,nb hop14,nb hop15,nb hop16,hq12,hq13,VT.css,zat a,zat b,zat d,hk,hel,zat el]
  rw [sm1,← zat el,← zat b,← zat d,zd9]
  refine zay (.bool (VT.sameL ([a,b,d].drop 1) [sm 1,el])) (fun J=>zdC [b,d] [sm 1,el] (fun v hv=>(hr.vsP v (by simp at hv; rcases hv with rfl | rfl <;> simp)).2) (by simp) rfl rfl _ _ ⟨rfl,rfl⟩) ?_
  cases hq16 : VT.sameL ([a,b,d].drop 1) [sm 1,el] with
  | false=>
   rw [hq16,Bool.false_and] at hR
   simp
   exact hb _ hR _
  | true=>
  rw [hq16,Bool.true_and] at hR
  simp [zap,zal,hop17,nb hop14,nb hop15,nb hop16,hq12,hq13,VT.css,zat a,zat b,zat d,hk,hel,zat el]
  rw [sm3,← zat e.ty]
  refine zay (.bool (e.ty.same (sm 3))) (fun J=>zdA (v:=e.ty) (u:=sm 3) (by have:=hr.en; omega) _ _ ⟨rfl,rfl⟩) ?_
  exact hb _ hR _
 rw [if_neg hop17] at hR
 by_cases hop18 : e.op = 18
 ·rw [if_pos hop18] at hR
  cases hq18 : nz with
  | false=>
   rw [hq18,Bool.false_and] at hR
   simp [zap,zal,hop18,nb hop14,nb hop15,nb hop16,nb hop17,hq18]
   exact hb _ hR _
  | true=>
  rw [hq18,Bool.true_and] at hR
  cases hq19 : lf with
  | false=>
   rw [hq19,Bool.false_and] at hR
   simp [zap,zal,hop18,nb hop14,nb hop15,nb hop16,nb hop17,hq18,hq19]
   exact hb _ hR _
  | true=>
  rw [hq19,Bool.true_and] at hR
  cases hq20 : ((vs.length : Int) == 1) with
  | false=>
   rw [hq20,Bool.false_and] at hR
   simp [zap,zal,hop18,nb hop14,nb hop15,nb hop16,nb hop17,hq18,hq19,hq20]
   exact hb _ hR _
  | true=>
  rw [hq20,Bool.true_and] at hR
  obtain ⟨a,rfl⟩:=zcB hq20
  obtain ⟨ha,han⟩:=hr.vsP a (by simp)
  cases hq21 : ((hd0 [a]).kind == 7) with
  | false=>
   rw [hq21,Bool.false_and] at hR
   have hk : (a.kind == 7) = false:=hq21
   simp [zap,zal,hop18,nb hop14,nb hop15,nb hop16,nb hop17,hq18,hq19,VT.css,zat a,hk]
   exact hb _ hR _
  | true=>
  rw [hq21,Bool.true_and] at hR
  have hk : (a.kind == 7) = true:=hq21
  obtain ⟨el,hel,hk0⟩:=zfk ha (.inl hk)
  have heln:=ze8 hel han
  try rw [show zb9 (hd0 [a]) = el from hk0] at hR
  simp [zap,zal,hop18,nb hop14,nb hop15,nb hop16,nb hop17,hq18,hq19,VT.css,zat a,hk,hel,zat el]
  exact hb _ hR _
 rw [if_neg hop18] at hR
 simp [zap,zal,nb hop14,nb hop15,nb hop16,nb hop17,nb hop18]
 exact zCp hr nz lf tv tk tb hs P1 P2 P3 K fun b h J=>hb b (hR.trans h) J
def zaJ (c : Cor) : List AV:=[.sl (c.data.map Dat.cs) .none,.sl (c.codes.map Cod.cs) .none,.sl (VT.css c.vars) .none,.sl (c.exprs.map CEx.cs) .none]
def zbl (f : Cod) : List AV:=[.str f.name,.sl (ints f.params) .none,.sl (ints f.capt) .none,.int .i64 f.res.kind,.int .i64 f.res.num,.sl (VT.css f.res.kids) .none,.int .i64 f.body]
theorem zfR (f : Cod) : f.cs = zbl f:=by rw [Cod.cs,zat f.res]; rfl
theorem HSc.permN {B : zaa} {e s n : Nat} (h : HSc (B ++ [.perm e s n])) (m : Nat) : HSc (B ++ [.perm e s m]):=by
 intro x hx
 rcases List.mem_append.1 hx with h1 | h1
 ·have:=h x (List.mem_append_left _ h1); simpa using this
 ·simp at h1; subst h1; rfl
theorem zhj {c : Cor} {B : zaa} {N i2 i : Nat} {l : List Int} (hN : N = B.length) (h2 : B[i2]? = some (.cells (zaJ c))) (hr : inV c l) (hlt : i < l.length) (hl : l.length ≤ 1000) {K : AV → zaa → Prop}
  (hK : K (.sl (VT.css (zam c (l.take (i + 1)))) (.own N)) (B ++ [.perm zaB 3 (i + 1)])) :
  zai 1 (.sl (ints l) .none) (.int .i64 i) fun a=>zae false 1 a (B ++ [.perm zaB 3 i]) fun v=>zaf 2 (.ptr i2 0) fun p=>zae false 1 p (B ++ [.perm zaB 3 i]) fun s=>zai 3 s v fun q=>zae true 3 q (B ++ [.perm zaB 3 i]) fun t=>
   zav 3 [.int .i64 0,.int .i64 0,.snil] 1 [(0,t)] fun y=>zaC zaB 3 40 (.sl (VT.css (zam c (l.take i))) (.own N)) y (B ++ [.perm zaB 3 i]) K:=by
 subst hN
 have hrr:=hr _ (List.getElem_mem hlt)
 obtain ⟨e,he⟩ : ∃ e : Nat,l[i] = e:=⟨(l[i]).toNat,by omega⟩
 have hen : e < c.vars.length:=by omega
 have hts:=zuM (c:=c) hlt
 rw [he,zfl hen] at hts
 have hg : ∀ J,(B ++ J)[i2]? = some (.cells (zaJ c)):=fun J=>zaO h2
 have hll : (zam c (l.take i)).length = i:=by simp [zam]; omega
 simp [hlt,he,hg,zaJ,hen,zat c.vars[e]]
 rw [← zat,zbP]
 simp [zaC,zbq,za8,hll]
 refine ⟨⟨by omega,by omega⟩,?_⟩
 rw [← hts]
 exact hK
theorem zAV {t v : VT} (h : v ∈ t.kids) : v.nodes ≤ t.nodes:=by
 obtain ⟨k,n,ks⟩:=t
 exact zio (k:=k) (n:=n) v h
theorem zAU (t : VT) : t.kids.length ≤ t.nodes:=by
 obtain ⟨k,n,ks⟩:=t
 have:=VT.len_le ks
 simp [VT.kids,VT.nodes]
 omega
theorem zCq {c : Cor} {e : CEx} {vs ks : List VT} {bs : List (List VT)} (hr : RIn c e vs ks bs) (lf : Bool) (tv : Tok) {H B : zaa} (hB : ∃ J,B = H ++ J) (f : Cod) (hf : f ∈ c.codes) {i2 i3 i28 : Nat} (h2 : B[i2]? = some (.cells (zaJ c))) (h3 : B[i3]? = some (.cells (zal e))) (h28 : B[i28]? = some (.cells (zbl f)))
  (K : AV → zaa → Prop) (hb : ∀ b,(lf && ((e.ty.kind == 9) && (VT.sameL vs (zam c f.capt) && VT.sameL e.ty.kids (zam c f.params ++ [f.res])))) = b → ∀ J,Out H.length K (.bool b) (H ++ J)) :
  zhK (.ptr i2 0) (.ptr i3 0) (.sl (VT.css vs) tv) (.int .i64 e.ty.kind) (.bool lf) (.ptr i28 0) .snil .snil (.sl (ints f.params) .none) (.int .i64 f.params.length) (.int .i64 0) B (Out H.length K):=by
 generalize hR : (lf && ((e.ty.kind == 9) && (VT.sameL vs (zam c f.capt) && VT.sameL e.ty.kids (zam c f.params ++ [f.res])))) = R at hb
 have hR:=hR.symm
 obtain ⟨J0,hB⟩:=hB
 have hbJ : ∀ b J,R = b → Out H.length K (.bool b) (B ++ J):=fun b J h=>by rw [hB,List.append_assoc]; exact hb b h _
 obtain ⟨hcp,hcc⟩:=hr.codes _ hf
 obtain ⟨_,kp,kc,kr⟩:=hr.kcore.2.2.2.2.1 _ hf
 have hi2:=zb0 h2
 have hi3:=zb0 h3
 have hi28:=zb0 h28
 have hvl:=hr.vl
 have hen:=hr.en
 have g2 : ∀ J,(B ++ J)[i2]? = some (.cells (zaJ c)):=fun J=>zaO h2
 have g3 : ∀ J,(B ++ J)[i3]? = some (.cells (zal e)):=fun J=>zaO h3
 have g28 : ∀ J,(B ++ J)[i28]? = some (.cells (zbl f)):=fun J=>zaO h28
 unfold zhK
 refine ALoop.own 29 zaB 3 rfl ?_
 show zhK (.ptr i2 0) (.ptr i3 0) (.sl (VT.css vs) tv) (.int .i64 e.ty.kind) (.bool lf) (.ptr i28 0) (.sl [] (.own B.length)) .snil (.sl (ints f.params) .none) (.int .i64 f.params.length) (.int .i64 0) (B ++ [.perm zaB 3 0]) (Out H.length K)
 refine zKz (Inv:=fun q t29 t426 H'=>∃ i : Nat,i ≤ f.params.length ∧ q = f.params.length - i ∧ t426 = .int .i64 i ∧ t29 = .sl (VT.css (zam c (f.params.take i))) (.own B.length) ∧ H' = B ++ [.perm zaB 3 i]) f.params.length ?_ ?_
 ·intro _; exact ⟨0,by omega,by omega,rfl,by simp [zam,VT.css],rfl⟩
 ·rintro q t29 t426 H' ⟨i,hi,rfl,rfl,rfl,rfl⟩ hsc hlen hsF Kb hKb
  by_cases hlt : i < f.params.length
  ·simp only [zqp,zfM,decide_eq_true (show (i : Int) < f.params.length by omega),zfO]
   refine zhj rfl h2 hcp hlt (by omega) ?_
   simp
   rw [zaq (by omega) (by omega)]
   refine hKb _ _ ⟨f.params.length - (i + 1),by omega,Back.here (by simp) ?_ ?_ ⟨_,_,rfl,i + 1,by omega,rfl,by simp,rfl,rfl⟩⟩
   ·exact HSc.permN hsc _
   ·have h9:=hsF
    simp [zk1,AV.sc,AV.scV,AV.scA,AV.scB] at h9 ⊢
    exact h9
  ·obtain rfl : i = f.params.length:=by omega
   rw [List.take_length] at *
   simp [zqp,g28,zbl]
   unfold zk9
   refine ALoop.own 30 zaB 3 rfl ?_
   have hBl : (B ++ [AB.perm zaB 3 f.params.length]).length = B.length + 1:=by simp
   rw [hBl]
   show zk9 (.ptr i2 0) (.ptr i3 0) (.sl (VT.css vs) tv) (.int .i64 e.ty.kind) (.bool lf) (.ptr i28 0) (.sl (VT.css (zam c f.params)) (.own B.length)) (.sl [] (.own (B.length + 1))) (.sl (ints f.capt) .none) (.int .i64 f.capt.length) (.int .i64 0) (B ++ [.perm zaB 3 f.params.length] ++ [.perm zaB 3 0]) (Out H.length K)
   refine zKA (Inv:=fun q t30 t442 H'=>∃ i : Nat,i ≤ f.capt.length ∧ q = f.capt.length - i ∧ t442 = .int .i64 i ∧ t30 = .sl (VT.css (zam c (f.capt.take i))) (.own (B.length + 1)) ∧ H' = B ++ [.perm zaB 3 f.params.length] ++ [.perm zaB 3 i]) f.capt.length ?_ ?_
   ·intro _; exact ⟨0,by omega,by omega,rfl,by simp [zam,VT.css],rfl⟩
   ·rintro q t30 t442 H' ⟨i,hi,rfl,rfl,rfl,rfl⟩ hsc1 hlen1 hsF1 Kb1 hKb1
    by_cases hlt : i < f.capt.length
    ·simp only [zhI,zfM,decide_eq_true (show (i : Int) < f.capt.length by omega),zfO]
     refine zhj (by simp) (g2 _) hcc hlt (by omega) ?_
     simp only [zh5]
     rw [zaq (by omega) (by omega)]
     refine hKb1 _ _ ⟨f.capt.length - (i + 1),by omega,Back.here (by simp) (HSc.permN hsc1 _) ?_ ⟨_,_,rfl,i + 1,by omega,rfl,by simp,rfl,rfl⟩⟩
     have h9:=hsF1
     simp [zk2,AV.sc,AV.scV,AV.scA,AV.scB] at h9 ⊢
     exact h9
    ·obtain rfl : i = f.capt.length:=by omega
     rw [List.take_length] at *
     have hll : (zam c f.params).length = f.params.length:=by simp [zam]
     cases hlf : lf with
     | false=>
      rw [hlf,Bool.false_and] at hR
      simp [zhI]
      exact hbJ _ _ hR
     | true=>
     rw [hlf,Bool.true_and] at hR
     cases hk9 : (e.ty.kind == 9) with
     | false=>
      rw [hk9,Bool.false_and] at hR
      simp [zhI,hk9]
      exact hbJ _ _ hR
     | true=>
     rw [hk9,Bool.true_and] at hR
     simp [zhI,hk9]
     refine zay (.bool (VT.sameL vs (zam c f.capt))) (fun J=>zek vs _ (fun v hv=>(hr.vsP v hv).2) (by omega) rfl rfl _ _ ⟨rfl,rfl⟩) ?_
     cases hsl : VT.sameL vs (zam c f.capt) with
     | false=>
      rw [hsl,Bool.false_and] at hR
      simp
      exact hbJ _ _ hR
     | true=>
     rw [hsl,Bool.true_and] at hR
     simp [g3,g28,zal,zbl]
     rw [← zat f.res,zbP]
     simp [zaC,zbq,za8,hll]
     refine ⟨by omega,?_⟩
     refine zay (.bool (VT.sameL e.ty.kids (zam c f.params ++ [f.res]))) (fun J=>zek e.ty.kids (zam c f.params ++ [f.res]) (fun v hv=>by have:=zAV hv; omega) (by have:=zAU e.ty; omega) rfl (by simp [VT.css_map]) _ _ ⟨rfl,rfl⟩) ?_
     exact hbJ _ _ hR
theorem zCk {c : Cor} {e : CEx} {vs ks : List VT} {bs : List (List VT)} (hr : RIn c e vs ks bs) (lf : Bool) (tv : Tok) {H B : zaa} (hB : ∃ J,B = H ++ J) (f : Cod) (hf : f ∈ c.codes) {i2 i3 i35 : Nat} (h2 : B[i2]? = some (.cells (zaJ c))) (h3 : B[i3]? = some (.cells (zal e))) (h28 : B[i35]? = some (.cells (zbl f)))
  (K : AV → zaa → Prop) (hb : ∀ b,(lf && (VT.sameL vs (zam c f.params) && e.ty.same f.res)) = b → ∀ J,Out H.length K (.bool b) (H ++ J)) :
  zhL (.ptr i2 0) (.ptr i3 0) (.sl (VT.css vs) tv) (.bool lf) (.ptr i35 0) .snil (.sl (ints f.params) .none) (.int .i64 f.params.length) (.int .i64 0) B (Out H.length K):=by
 generalize hR : (lf && (VT.sameL vs (zam c f.params) && e.ty.same f.res)) = R at hb
 have hR:=hR.symm
 obtain ⟨J0,hB⟩:=hB
 have hbJ : ∀ b J,R = b → Out H.length K (.bool b) (B ++ J):=fun b J h=>by rw [hB,List.append_assoc]; exact hb b h _
 obtain ⟨hcp,hcc⟩:=hr.codes _ hf
 obtain ⟨_,kp,kc,kr⟩:=hr.kcore.2.2.2.2.1 _ hf
 have hvl:=hr.vl
 have hen:=hr.en
 have g2 : ∀ J,(B ++ J)[i2]? = some (.cells (zaJ c)):=fun J=>zaO h2
 have g3 : ∀ J,(B ++ J)[i3]? = some (.cells (zal e)):=fun J=>zaO h3
 have g28 : ∀ J,(B ++ J)[i35]? = some (.cells (zbl f)):=fun J=>zaO h28
 unfold zhL
 refine ALoop.own 36 zaB 3 rfl ?_
 show zhL (.ptr i2 0) (.ptr i3 0) (.sl (VT.css vs) tv) (.bool lf) (.ptr i35 0) (.sl [] (.own B.length)) (.sl (ints f.params) .none) (.int .i64 f.params.length) (.int .i64 0) (B ++ [.perm zaB 3 0]) (Out H.length K)
 refine zKB (Inv:=fun q t36 t508 H'=>∃ i : Nat,i ≤ f.params.length ∧ q = f.params.length - i ∧ t508 = .int .i64 i ∧ t36 = .sl (VT.css (zam c (f.params.take i))) (.own B.length) ∧ H' = B ++ [.perm zaB 3 i]) f.params.length ?_ ?_
 ·intro _; exact ⟨0,by omega,by omega,rfl,by simp [zam,VT.css],rfl⟩
 ·rintro q t36 t508 H' ⟨i,hi,rfl,rfl,rfl,rfl⟩ hsc hlen hsF Kb hKb
  by_cases hlt : i < f.params.length
  ·simp only [zkV,zfM,decide_eq_true (show (i : Int) < f.params.length by omega),zfO]
   refine zhj rfl h2 hcp hlt (by omega) ?_
   simp
   rw [zaq (by omega) (by omega)]
   refine hKb _ _ ⟨f.params.length - (i + 1),by omega,Back.here (by simp) (HSc.permN hsc _) ?_ ⟨_,_,rfl,i + 1,by omega,rfl,by simp,rfl,rfl⟩⟩
   have h9:=hsF
   simp [zk3,AV.sc,AV.scV,AV.scA,AV.scB] at h9 ⊢
   exact h9
  ·obtain rfl : i = f.params.length:=by omega
   rw [List.take_length] at *
   cases hlf : lf with
   | false=>
    rw [hlf,Bool.false_and] at hR
    simp [zkV]
    exact hbJ _ _ hR
   | true=>
   rw [hlf,Bool.true_and] at hR
   simp [zkV]
   refine zek vs _ (fun v hv=>(hr.vsP v hv).2) (by omega) rfl rfl _ _ ?_
   cases hsl : VT.sameL vs (zam c f.params) with
   | false=>
    rw [hsl,Bool.false_and] at hR
    simp
    exact hbJ _ _ hR
   | true=>
   rw [hsl,Bool.true_and] at hR
   simp [g3,g28,zal,zbl]
   rw [← zat e.ty,← zat f.res]
   refine zdA (by omega) _ _ ?_
   exact hbJ _ _ hR
@[simp] theorem zR1 (bs : List (List VT)) : (bsV bs).length = bs.length:=by simp [bsV]
@[simp] theorem zR0 {bs : List (List VT)} {i : Nat} (h : i < (bsV bs).length) : (bsV bs)[i] = [.sl (VT.css (bs[i]'(by simpa using h))) .none]:=by simp [bsV]
theorem zCn {c : Cor} {e : CEx} {vs ks : List VT} {bs : List (List VT)} (hr : RIn c e vs ks bs) (nz lf : Bool) (tv tk tb : Tok) {H : zaa} (hs : HSc H) (P1 P2 P3 : AB) (K : AV → zaa → Prop) (hb : ∀ b,refR6 c e nz lf vs ks bs = b → ∀ J,Out H.length K (.bool b) (H ++ J)) :
  zqt (.ptr H.length 0) (.ptr (H.length + 1) 0) (.sl (VT.css vs) tv) (.sl (VT.css ks) tk) (.sl (bsV bs) tb) (.ptr (H.length + 5) 0) (.ptr (H.length + 6) 0) (.ptr (H.length + 7) 0) (.int .i64 e.ty.kind) (.bool nz) (.bool lf) (.int .i64 e.op) (.bool (e.op == 9)) (zap H c e P1 P2 P3) (Out H.length K):=by
 have hR:=refR6.eq_1 c e nz lf vs ks bs
 generalize refR6 c e nz lf vs ks bs = R at hR hb
 have sm1 : AV.agg [.int .i64 1,.int .i64 0,.sl [] .none] = .agg (sm 1).cs:=rfl
 have sm2 : AV.agg [.int .i64 2,.int .i64 0,.sl [] .none] = .agg (sm 2).cs:=rfl
 have sm3 : AV.agg [.int .i64 3,.int .i64 0,.sl [] .none] = .agg (sm 3).cs:=rfl
 refine zKk fun hs1=>?_
 unfold zxk
 by_cases hop9 : e.op = 9
 ·rw [if_pos hop9] at hR
  cases hq1 : nz with
  | false=>
   rw [hq1,Bool.false_and] at hR
   simp [zap,zal,hop9,hq1]
   exact hb _ hR _
  | true=>
  rw [hq1,Bool.true_and] at hR
  simp [zap,zal,hop9,hq1]
  rw [sm2,zbP]
  refine zdC vs [sm 2] (fun v hv=>(hr.vsP v hv).2) (by have:=hr.vl; omega) rfl rfl _ _ ?_
  cases hq2 : VT.sameL vs [sm 2] with
  | false=>
   rw [hq2,Bool.false_and] at hR
   simp
   exact hb _ hR _
  | true=>
  rw [hq2,Bool.true_and] at hR
  simp [zap,zal,hop9,hq1]
  rw [← zat e.ty,zd9]
  refine zdC ks [e.ty,e.ty] hr.ksP (by have:=hr.kl; omega) rfl rfl _ _ ?_
  cases hq3 : VT.sameL ks [e.ty,e.ty] with
  | false=>
   rw [hq3,Bool.false_and] at hR
   simp
   exact hb _ hR _
  | true=>
  rw [hq3,Bool.true_and] at hR
  obtain ⟨b0,b1,rfl⟩:=zcC (l:=bs) (by have:=sameL_len hq3; rw [hr.bl,this]; rfl)
  obtain ⟨hb0,hb0n⟩:=hr.bsP b0 (by simp)
  obtain ⟨hb1,hb1n⟩:=hr.bsP b1 (by simp)
  try rw [show bAt [b0,b1] 1 = b1 from rfl] at hR
  cases hq4 : (((bAt [b0,b1] 0).length : Int) == 0) with
  | false=>
   rw [hq4,Bool.false_and] at hR
   have hq0 : ((b0.length : Int) == 0) = false:=hq4
   simp [zap,zal,hop9,hq1,bsV,zat e.ty,hq0]
   exact hb _ hR _
  | true=>
  rw [hq4,Bool.true_and] at hR
  have hq0 : ((b0.length : Int) == 0) = true:=hq4
  simp [zap,zal,hop9,hq1,bsV,zat e.ty,hq0]
  exact hb _ hR _
 rw [if_neg hop9] at hR
 by_cases hop10 : e.op = 10
 ·rw [if_pos hop10] at hR
  cases hn : nz with
  | false=>
   rw [hn,Bool.false_and] at hR
   simp [zap,zal,hop10]
   exact hb _ hR _
  | true=>
  rw [hn,Bool.true_and] at hR
  cases hl1 : ((vs.length : Int) == 1) with
  | false=>
   rw [hl1,Bool.false_and] at hR
   have hl1' : ((vs.length : Int) != 1) = true:=by simp [bne,hl1]
   simp [zap,zal,hop10,hl1']
   exact hb _ hR _
  | true=>
  rw [hl1,Bool.true_and] at hR
  obtain ⟨a,rfl⟩:=zcB hl1
  obtain ⟨ha,han⟩:=hr.vsP a (by simp)
  rw [show hd0 [a] = a from rfl] at hR
  by_cases hk5 : a.kind ≠ 5
  ·rw [nb hk5,Bool.false_and] at hR
   simp [zap,zal,hop10,VT.css,zat a,nbt hk5]
   exact hb _ hR _
  have hk5' : a.kind = 5:=by simpa using hk5
  obtain ⟨d,hd,hdl⟩:=zuV ha hk5'
  have hcl : zfP c a = (c.data[d]).cons.length:=by simp [zfP,hd,hdl]
  rw [hcl,hk5'] at hR
  have ha5 : a.cs = [.int .i64 5,.int .i64 d,.sl (VT.css a.kids) .none]:=by rw [zat,hk5',hd]
  by_cases hkn : ks.length ≠ (c.data[d]).cons.length
  ·rw [nb (show (ks.length : Int) ≠ (c.data[d]).cons.length by omega)] at hR
   have h4 : ((ks.length : Int) != (c.data[d]).cons.length) = true:=nbt (by omega)
   simp [zap,zal,hop10,VT.css,ha5,hdl,Dat.cs,h4]
   exact hb _ hR _
  have hkn' : ks.length = (c.data[d]).cons.length:=by omega
  have h4 : ((ks.length : Int) != (c.data[d]).cons.length) = false:=by simp [hkn']
  have h5 : ((ks.length : Int) == (c.data[d]).cons.length) = true:=by simp [hkn']
  rw [h5] at hR
  simp only [beq_self_eq_true,Bool.true_and] at hR
  simp [zap,zal,hop10,VT.css,ha5,hdl,Dat.cs,h4]
  have hbl:=hr.bl
  have hkl:=hr.kl
  refine zKy (Inv:=fun q t380 H'=>∃ i : Nat,i ≤ ks.length ∧ q = ks.length - i ∧ t380 = .int .i64 i ∧ (∀ k,k < i → caseR c a e.ty ks bs k = true) ∧ H' = zap H c e P1 P2 P3) ks.length ?_ ?_
  ·intro _; exact ⟨0,by omega,by omega,rfl,by omega,by simp [zap,zal,hop10]⟩
  ·rintro q t380 H' ⟨i,hi,rfl,rfl,hok,rfl⟩ hsc hlen hsF Kb hKb
   by_cases hlt : i < ks.length
   ·have hib : i < bs.length:=by omega
    have hbg : bAt bs i = bs[i]:=by rw [bAt,List.getD_eq_getElem?_getD,List.getElem?_eq_getElem hib]; rfl
    have hkg : ks.getD i (.mk 0 0 []) = ks[i]:=by rw [List.getD_eq_getElem?_getD,List.getElem?_eq_getElem hlt]; rfl
    have hbad : caseR c a e.ty ks bs i = false → R = false:=fun h=>by
     rw [hR,List.all_eq_false]
     exact ⟨i,by simp; omega,by simp [h]⟩
    have hco:=caseR.eq_1 c a e.ty ks bs i
    rw [hbg,hkg] at hco
    obtain ⟨hbi,hbin⟩:=hr.bsP _ (List.getElem_mem hib)
    have hki:=hr.ksP _ (List.getElem_mem hlt)
    simp [zqo,hlt,zap,zal,ha5]
    rw [← ha5]
    refine zay (zcA (zbx c.data a i)) (fun J=>zt6 hr.kcore (by omega) _ _ _ ⟨rfl,rfl⟩) ?_
    cases hf : zbx c.data a i with
    | none=>
     rw [hf] at hco
     simp [zcA]
     exact hb _ (hbad hco) _
    | some fs=>
     rw [hf] at hco
     simp only [] at hco
     simp [zcA,hib]
     refine zay (.bool (VT.sameL bs[i] fs)) (fun J=>zek _ _ hbin (by omega) rfl rfl _ _ ⟨rfl,rfl⟩) ?_
     cases hsl : VT.sameL bs[i] fs with
     | false=>
      rw [hsl,Bool.false_and] at hco
      simp
      exact hb _ (hbad hco) _
     | true=>
      rw [hsl,Bool.true_and] at hco
      simp [hlt,zat ks[i]]
      rw [← zat ks[i],← zat e.ty]
      refine zay (.bool ((ks[i]).same e.ty)) (fun J=>zdA (by omega) _ _ ⟨rfl,rfl⟩) ?_
      cases hse : (ks[i]).same e.ty with
      | false=>
       rw [hse] at hco
       simp
       exact hb _ (hbad hco) _
      | true=>
       rw [hse] at hco
       simp
       rw [zaq (by omega) (by omega)]
       refine hKb _ _ ⟨ks.length - (i + 1),by omega,Back.here (by simp) ?_ ?_ ⟨.int .i64 ((i : Int) + 1),by rw [ha5],i + 1,by omega,rfl,by simp,fun k hk=>?_,by rw [zap,zal,zat e.ty]⟩⟩
       ·rw [zat e.ty]; exact hsc
       ·have h9:=hsF
        rw [ha5]
        simp only [zap,List.length_append,List.length_cons,List.length_nil] at h9
        simp [zk0,AV.sc,AV.scV,AV.scA,AV.scB] at h9 ⊢
        exact h9
       ·by_cases hki : k = i
        ·subst hki; exact hco
        ·exact hok k (by omega)
   ·obtain rfl : i = ks.length:=by omega
    have hall : (List.range ks.length).all (caseR c a e.ty ks bs) = true:=by
     rw [List.all_eq_true]
     intro k hk
     exact hok k (by simpa using hk)
    rw [hall] at hR
    simp [zqo,zap]
    exact hb _ hR _
 rw [if_neg hop10] at hR

 by_cases hop11 : e.op = 11
 ·rw [if_pos hop11] at hR
  obtain ⟨n,hn,hnl⟩:=hr.lam hop11
  have hcd : zdh c e.num = c.codes[n]:=by simp [zdh,hn,hnl]
  rw [hcd] at hR
  have hcat : (c.codes[n]).cs = zbl c.codes[n]:=zfR _
  have:=zCq hr lf tv (H:=H) (B:=zap H c e P1 P2 P3 ++ [.cells (zbl c.codes[n])]) ⟨_,by rw [zap,List.append_assoc]⟩ c.codes[n] (List.getElem_mem hnl) (i2:=H.length) (i3:=H.length + 1) (i28:=H.length + 8) (by simp [zap,zaJ]) (by simp [zap]) (by simp [zap]) K (fun b h J=>hb b (hR.trans h) J)
  simp [zap,zal,hop11,hn,hnl,hcat,zbl] at this ⊢
  exact this
 rw [if_neg hop11] at hR
 by_cases hop12 : e.op = 12
 ·rw [if_pos hop12] at hR
  by_cases hn0 : 0 ≤ e.num
  ·by_cases hnc : e.num < c.codes.length
   ·obtain ⟨n,hn⟩ : ∃ n : Nat,e.num = n:=⟨e.num.toNat,by omega⟩
    have hnl : n < c.codes.length:=by omega
    have hcd : zdh c e.num = c.codes[n]:=by simp [zdh,hn,hnl]
    rw [hcd] at hR
    simp only [hn0,hnc,decide_true,Bool.true_and] at hR
    have hcat : (c.codes[n]).cs = zbl c.codes[n]:=zfR _
    have hn0' : ¬ (n : Int) < 0:=by omega
    have hnc' : ¬ c.codes.length ≤ n:=by omega
    cases hnm : (c.codes[n]).name.isEmpty with
    | true=>
     rw [hnm] at hR
     simp only [Bool.not_true,Bool.false_and] at hR
     simp [zap,zal,hop12,hn,hnl,hcat,zbl,hn0',hnc',hnm]
     exact hb _ hR _
    | false=>
     rw [hnm] at hR
     simp only [Bool.not_false,Bool.true_and] at hR
     have:=zCk hr lf tv (H:=H) (B:=zap H c e P1 P2 P3 ++ [.cells (zbl c.codes[n])]) ⟨_,by rw [zap,List.append_assoc]⟩ c.codes[n] (List.getElem_mem hnl) (i2:=H.length) (i3:=H.length + 1) (i35:=H.length + 8) (by simp [zap,zaJ]) (by simp [zap]) (by simp [zap]) K (fun b h J=>hb b (hR.trans h) J)
     simp [zap,zal,hop12,hn,hnl,hcat,zbl,hn0',hnc',hnm] at this ⊢
     exact this
   ·simp only [hn0,hnc,decide_true,decide_false,Bool.true_and,Bool.false_and] at hR
    have hn0' : ¬ e.num < 0:=by omega
    have hnc' : (c.codes.length : Int) ≤ e.num:=by omega
    simp [zap,zal,hop12,hn0',hnc']
    exact hb _ hR _
  ·simp only [hn0,decide_false,Bool.false_and] at hR
   have hn0' : e.num < 0:=by omega
   simp [zap,zal,hop12,hn0']
   exact hb _ hR _
 rw [if_neg hop12] at hR
 by_cases hop13 : e.op = 13
 ·rw [if_pos hop13] at hR
  cases hn : nz with
  | false=>
   rw [hn,Bool.false_and] at hR
   simp [zap,zal,hop13]
   exact hb _ hR _
  | true=>
  rw [hn,Bool.true_and] at hR
  cases hl : lf with
  | false=>
   rw [hl,Bool.false_and] at hR
   simp [zap,zal,hop13]
   exact hb _ hR _
  | true=>
  rw [hl,Bool.true_and] at hR
  have hvn:=hr.vl
  cases vs with
  | nil=>
   simp at hR
   simp [zap,zal,hop13,VT.css]
   exact hb _ hR _
  | cons a l=>
  have h1 : (1 : Int) ≤ ((a :: l).length : Nat):=by simp; omega
  have h1' : (1 : Int) ≤ (l.length : Int) + 1:=by omega
  simp only [h1,decide_true,Bool.true_and,show hd0 (a :: l) = a from rfl,List.drop_succ_cons,List.drop_zero] at hR
  obtain ⟨ha,han⟩:=hr.vsP a (by simp)
  cases hk9 : (a.kind == 9) with
  | false=>
   rw [hk9,Bool.false_and] at hR
   simp [zap,zal,hop13,VT.css,zat a,hk9,h1']
   exact hb _ hR _
  | true=>
  rw [hk9,Bool.true_and] at hR
  simp [zap,zal,hop13,VT.css,zat a,hk9,h1']
  simp [zaC,zbq,za8]
  have hcs3 : ∀ v ∈ VT.css l,v.length = 3:=by
   intro v hv
   rw [VT.css_map] at hv
   obtain ⟨w,_,rfl⟩:=List.mem_map.1 hv
   rw [zat]; rfl
  have htk : (VT.css l).take l.length = VT.css l:=List.take_of_length_le (by simp)
  have hll : l.length + 1 ≤ 40:=by simpa using hvn
  rw [htk]
  refine ⟨hcs3,hcs3,⟨by omega,by omega⟩,?_⟩
  rw [← zat e.ty,zbP]
  simp
  refine ⟨by omega,?_⟩
  refine zay (.bool (VT.sameL (l ++ [e.ty]) a.kids)) (fun J=>zek (l ++ [e.ty]) a.kids (fun v hv=>by
   rcases List.mem_append.1 hv with h | h
   ·exact (hr.vsP v (by simp [h])).2
   ·simp at h; subst h; exact hr.en) (by simp; omega) (by simp [VT.css_map]) rfl _ _ ⟨rfl,rfl⟩) ?_
  exact hb _ hR _
 rw [if_neg hop13] at hR
 simp [zap,zal,nb hop9,nb hop10,nb hop11,nb hop12,nb hop13]
 exact zCo hr nz lf tv tk tb hs P1 P2 P3 K fun b h J=>hb b (hR.trans h) J
theorem zCm {c : Cor} {e : CEx} {vs ks : List VT} {bs : List (List VT)} (hr : RIn c e vs ks bs) (nz lf : Bool) (tv tk tb : Tok) {H : zaa} (hs : HSc H) (P1 P2 P3 : AB) (K : AV → zaa → Prop) (hb : ∀ b,refR5 c e nz lf vs ks bs = b → ∀ J,Out H.length K (.bool b) (H ++ J)) :
  zqs (.ptr H.length 0) (.ptr (H.length + 1) 0) (.sl (VT.css vs) tv) (.sl (VT.css ks) tk) (.sl (bsV bs) tb) (.ptr (H.length + 5) 0) (.ptr (H.length + 6) 0) (.ptr (H.length + 7) 0) (.int .i64 e.ty.kind) (.bool nz) (.bool lf) (.int .i64 e.op) (.bool (e.op == 4)) (zap H c e P1 P2 P3) (Out H.length K):=by
 have hR:=refR5.eq_1 c e nz lf vs ks bs
 generalize refR5 c e nz lf vs ks bs = R at hR hb
 have sm1 : AV.agg [.int .i64 1,.int .i64 0,.sl [] .none] = .agg (sm 1).cs:=rfl
 have sm2 : AV.agg [.int .i64 2,.int .i64 0,.sl [] .none] = .agg (sm 2).cs:=rfl
 have sm3 : AV.agg [.int .i64 3,.int .i64 0,.sl [] .none] = .agg (sm 3).cs:=rfl
 refine zKh fun hs1=>?_
 unfold zxj
 by_cases hop4 : e.op = 4
 ·rw [if_pos hop4] at hR
  cases hq1 : nz with
  | false=>
   rw [hq1,Bool.false_and] at hR
   simp [zap,zal,hop4,hq1]
   exact hb _ hR _
  | true=>
  rw [hq1,Bool.true_and] at hR
  cases hq2 : lf with
  | false=>
   rw [hq2,Bool.false_and] at hR
   simp [zap,zal,hop4,hq1,hq2]
   exact hb _ hR _
  | true=>
  rw [hq2,Bool.true_and] at hR
  simp [zap,zal,hop4,hq1,hq2]
  rw [← zat e.ty,zbP]
  refine zdC vs [e.ty] (fun v hv=>(hr.vsP v hv).2) (by have:=hr.vl; omega) rfl rfl _ _ ?_
  exact hb _ hR _
 rw [if_neg hop4] at hR
 by_cases hop5 : e.op = 5
 ·rw [if_pos hop5] at hR
  cases hq4 : nz with
  | false=>
   rw [hq4,Bool.false_and] at hR
   simp [zap,zal,hop5,hq4]
   exact hb _ hR _
  | true=>
  rw [hq4,Bool.true_and] at hR
  cases hq5 : lf with
  | false=>
   rw [hq5,Bool.false_and] at hR
   simp [zap,zal,hop5,hq4,hq5]
   exact hb _ hR _
  | true=>
  rw [hq5,Bool.true_and] at hR
  cases hq6 : (e.ty.kind == 6) with
  | false=>
   rw [hq6,Bool.false_and] at hR
   simp [zap,zal,hop5,hq4,hq5,hq6]
   exact hb _ hR _
  | true=>
  rw [hq6,Bool.true_and] at hR
  simp [zap,zal,hop5,hq4,hq5,hq6]
  refine zek vs e.ty.kids (fun v hv=>(hr.vsP v hv).2) (by have:=hr.vl; omega) rfl rfl _ _ ?_
  exact hb _ hR _
 rw [if_neg hop5] at hR
 by_cases hop6 : e.op = 6
 ·rw [if_pos hop6] at hR
  by_cases hn0 : 0 ≤ e.num
  ·by_cases hnc : e.num < 8
   ·simp only [hn0,hnc,decide_true,Bool.true_and] at hR
    have hn0' : ¬ e.num < 0:=by omega
    have hnc' : ¬ 8 ≤ e.num:=by omega
    simp [zap,zal,hop6,hn0',hnc']
    rw [← zat e.ty]
    refine zt6 hr.kcore (by have:=hr.en; omega) _ _ _ ?_
    cases hl : lf with
    | false=>
     rw [hl,Bool.false_and] at hR
     cases hf : zbx c.data e.ty e.num <;> simp [zcA] <;> exact hb _ hR _
    | true=>
     rw [hl,Bool.true_and] at hR
     cases hf : zbx c.data e.ty e.num with
     | none=>
      rw [hf] at hR
      simp [zcA]
      exact hb _ hR _
     | some fs=>
      rw [hf] at hR
      simp [zcA]
      refine zek vs fs (fun v hv=>(hr.vsP v hv).2) (by have:=hr.vl; omega) rfl rfl _ _ ?_
      exact hb _ hR _
   ·simp only [hn0,hnc,decide_true,decide_false,Bool.true_and,Bool.false_and] at hR
    have hn0' : ¬ e.num < 0:=by omega
    have hnc' : 8 ≤ e.num:=by omega
    simp [zap,zal,hop6,hn0',hnc']
    exact hb _ hR _
  ·simp only [hn0,decide_false,Bool.false_and] at hR
   have hn0' : e.num < 0:=by omega
   simp [zap,zal,hop6,hn0']
   exact hb _ hR _
 rw [if_neg hop6] at hR
 by_cases hop7 : e.op = 7
 ·rw [if_pos hop7] at hR
  cases hq8 : nz with
  | false=>
   rw [hq8,Bool.false_and] at hR
   simp [zap,zal,hop7,hq8]
   exact hb _ hR _
  | true=>
  rw [hq8,Bool.true_and] at hR
  cases hq9 : ((vs.length : Int) == 0) with
  | false=>
   rw [hq9,Bool.false_and] at hR
   simp [zap,zal,hop7,hq8,hq9]
   exact hb _ hR _
  | true=>
  rw [hq9,Bool.true_and] at hR
  cases hq10 : ((ks.length : Int) == 2) with
  | false=>
   rw [hq10,Bool.false_and] at hR
   simp [zap,zal,hop7,hq8,hq9,hq10]
   exact hb _ hR _
  | true=>
  rw [hq10,Bool.true_and] at hR
  obtain ⟨b0,b1,rfl⟩:=zcC (l:=bs) (by rw [hr.bl]; exact hq10)
  obtain ⟨ka,kb,rfl⟩:=zcC hq10
  obtain ⟨hb0,hb0n⟩:=hr.bsP b0 (by simp)
  obtain ⟨hb1,hb1n⟩:=hr.bsP b1 (by simp)
  have hkan:=hr.ksP ka (by simp)
  have hkbn:=hr.ksP kb (by simp)
  rw [show hd0 [ka,kb] = ka from rfl,show hd1 [ka,kb] = kb from rfl] at hR
  cases hq11 : (((bAt [b0,b1] 0).length : Int) == 0) with
  | false=>
   rw [hq11,Bool.false_and] at hR
   have hq0 : ((b0.length : Int) == 0) = false:=hq11
   simp [zap,zal,hop7,hq8,hq9,VT.css,zat ka,zat kb,bsV,hq0]
   exact hb _ hR _
  | true=>
  rw [hq11,Bool.true_and] at hR
  have hq0 : ((b0.length : Int) == 0) = true:=hq11
  try rw [show bAt [b0,b1] 1 = b1 from rfl] at hR
  simp [zap,zal,hop7,hq8,hq9,VT.css,zat ka,zat kb,bsV,hq0]
  rw [← zat ka,zbP]
  refine zay (.bool (VT.sameL b1 [ka])) (fun J=>zdC b1 [ka] hb1n (by omega) rfl rfl _ _ ⟨rfl,rfl⟩) ?_
  cases hq12 : VT.sameL b1 [ka] with
  | false=>
   rw [hq12,Bool.false_and] at hR
   simp
   exact hb _ hR _
  | true=>
  rw [hq12,Bool.true_and] at hR
  simp [zap,zal,hop7,hq8,hq9,VT.css,zat ka,zat kb,bsV,hq0]
  rw [← zat kb,← zat e.ty]
  refine zay (.bool (kb.same e.ty)) (fun J=>zdA (v:=kb) (u:=e.ty) (by omega) _ _ ⟨rfl,rfl⟩) ?_
  exact hb _ hR _
 rw [if_neg hop7] at hR
 by_cases hop8 : e.op = 8
 ·rw [if_pos hop8] at hR
  cases hq14 : nz with
  | false=>
   rw [hq14,Bool.false_and] at hR
   simp [zap,zal,hop8,hq14]
   exact hb _ hR _
  | true=>
  rw [hq14,Bool.true_and] at hR
  cases hq15 : ((vs.length : Int) == 1) with
  | false=>
   rw [hq15,Bool.false_and] at hR
   simp [zap,zal,hop8,hq14,hq15]
   exact hb _ hR _
  | true=>
  rw [hq15,Bool.true_and] at hR
  obtain ⟨a,rfl⟩:=zcB hq15
  obtain ⟨ha,han⟩:=hr.vsP a (by simp)
  cases hq16 : ((hd0 [a]).kind == 6) with
  | false=>
   rw [hq16,Bool.false_and] at hR
   have hk : (a.kind == 6) = false:=hq16
   simp [zap,zal,hop8,hq14,VT.css,zat a,hk]
   exact hb _ hR _
  | true=>
  rw [hq16,Bool.true_and] at hR
  have hk : (a.kind == 6) = true:=hq16
  rw [show hd0 [a] = a from rfl] at hR
  cases hq17 : ((ks.length : Int) == 1) with
  | false=>
   rw [hq17,Bool.false_and] at hR
   simp [zap,zal,hop8,hq14,VT.css,zat a,hk,hq17]
   exact hb _ hR _
  | true=>
  rw [hq17,Bool.true_and] at hR
  obtain ⟨b0,rfl⟩:=zcB (l:=bs) (by rw [hr.bl]; exact hq17)
  obtain ⟨ka,rfl⟩:=zcB hq17
  obtain ⟨hb0,hb0n⟩:=hr.bsP b0 (by simp)
  have hkan:=hr.ksP ka (by simp)
  rw [show hd0 [ka] = ka from rfl,show bAt [b0] 0 = b0 from rfl] at hR
  simp [zap,zal,hop8,hq14,VT.css,zat a,hk,VT.css,zat ka,bsV]
  refine zay (.bool (VT.sameL b0 a.kids)) (fun J=>zek b0 a.kids hb0n (by omega) rfl rfl _ _ ⟨rfl,rfl⟩) ?_
  cases hq18 : VT.sameL b0 a.kids with
  | false=>
   rw [hq18,Bool.false_and] at hR
   simp
   exact hb _ hR _
  | true=>
  rw [hq18,Bool.true_and] at hR
  simp [zap,zal,hop8,hq14,VT.css,zat a,hk,VT.css,zat ka,bsV]
  rw [← zat ka,← zat e.ty]
  refine zay (.bool (ka.same e.ty)) (fun J=>zdA (v:=ka) (u:=e.ty) (by omega) _ _ ⟨rfl,rfl⟩) ?_
  exact hb _ hR _
 rw [if_neg hop8] at hR
 simp [zap,zal,nb hop4,nb hop5,nb hop6,nb hop7,nb hop8]
 exact zCn hr nz lf tv tk tb hs P1 P2 P3 K fun b h J=>hb b (hR.trans h) J
theorem zCl {c : Cor} {e : CEx} {vs ks : List VT} {bs : List (List VT)} (hr : RIn c e vs ks bs) (nz lf : Bool) (tv tk tb : Tok) {H : zaa} (hs : HSc H) (P1 P2 P3 : AB) (K : AV → zaa → Prop) (hb : ∀ b,refR4 c e nz lf vs ks bs = b → ∀ J,Out H.length K (.bool b) (H ++ J)) :
  zqr (.ptr H.length 0) (.ptr (H.length + 1) 0) (.sl (VT.css vs) tv) (.sl (VT.css ks) tk) (.sl (bsV bs) tb) (.ptr (H.length + 5) 0) (.ptr (H.length + 6) 0) (.ptr (H.length + 7) 0) (.int .i64 e.ty.kind) (.bool nz) (.bool lf) (zap H c e P1 P2 P3) (Out H.length K):=by
 have hR:=refR4.eq_1 c e nz lf vs ks bs
 generalize refR4 c e nz lf vs ks bs = R at hR hb
 have sm1 : AV.agg [.int .i64 1,.int .i64 0,.sl [] .none] = .agg (sm 1).cs:=rfl
 have sm2 : AV.agg [.int .i64 2,.int .i64 0,.sl [] .none] = .agg (sm 2).cs:=rfl
 have sm3 : AV.agg [.int .i64 3,.int .i64 0,.sl [] .none] = .agg (sm 3).cs:=rfl
 refine zKe fun hs1=>?_
 unfold zxi
 by_cases hop1 : e.op = 1
 ·rw [if_pos hop1] at hR
  cases hq1 : nz with
  | false=>
   rw [hq1,Bool.false_and] at hR
   simp [zap,zal,hop1,hq1]
   exact hb _ hR _
  | true=>
  rw [hq1,Bool.true_and] at hR
  cases hq2 : lf with
  | false=>
   rw [hq2,Bool.false_and] at hR
   simp [zap,zal,hop1,hq1,hq2]
   exact hb _ hR _
  | true=>
  rw [hq2,Bool.true_and] at hR
  cases hq3 : ((vs.length : Int) == 0) with
  | false=>
   rw [hq3,Bool.false_and] at hR
   simp [zap,zal,hop1,hq1,hq2,hq3]
   exact hb _ hR _
  | true=>
  rw [hq3,Bool.true_and] at hR
  simp [zap,zal,hop1,hq1,hq2,hq3]
  exact hb _ hR _
 rw [if_neg hop1] at hR
 by_cases hop2 : e.op = 2
 ·rw [if_pos hop2] at hR
  have key : ∀ b : Bool,(e.num == 0 || e.num == 1) = b → R = (b && (lf && (((vs.length : Int) == 0) && (e.ty.kind == 2)))):=fun b h=>by rw [hR,h]
  cases hn0 : (e.num == 0) with
  | true=>
   have hR:=key true (by simp [hn0])
   rw [Bool.true_and] at hR
   cases hl : lf with
   | false=>rw [hl,Bool.false_and] at hR; simp [zap,zal,hop2,hn0]; exact hb _ hR _
   | true=>
   rw [hl,Bool.true_and] at hR
   cases hv : ((vs.length : Int) == 0) with
   | false=>rw [hv,Bool.false_and] at hR; simp [zap,zal,hop2,hn0,hv]; exact hb _ hR _
   | true=>rw [hv,Bool.true_and] at hR; simp [zap,zal,hop2,hn0,hv]; exact hb _ hR _
  | false=>
  cases hn1 : (e.num == 1) with
  | true=>
   have hR:=key true (by simp [hn1])
   rw [Bool.true_and] at hR
   cases hl : lf with
   | false=>rw [hl,Bool.false_and] at hR; simp [zap,zal,hop2,hn0,hn1]; exact hb _ hR _
   | true=>
   rw [hl,Bool.true_and] at hR
   cases hv : ((vs.length : Int) == 0) with
   | false=>rw [hv,Bool.false_and] at hR; simp [zap,zal,hop2,hn0,hn1,hv]; exact hb _ hR _
   | true=>rw [hv,Bool.true_and] at hR; simp [zap,zal,hop2,hn0,hn1,hv]; exact hb _ hR _
  | false=>
   have hR:=key false (by simp [hn0,hn1])
   rw [Bool.false_and] at hR
   simp [zap,zal,hop2,hn0,hn1]
   exact hb _ hR _
 rw [if_neg hop2] at hR
 by_cases hop3 : e.op = 3
 ·rw [if_pos hop3] at hR
  cases hq5 : (decide (-1000000 ≤ e.num)) with
  | false=>
   rw [hq5,Bool.false_and] at hR
   have hn1 : ¬ -1000000 ≤ e.num:=of_decide_eq_false hq5
   simp [zap,zal,hop3,hn1]
   exact hb _ hR _
  | true=>
  rw [hq5,Bool.true_and] at hR
  have hn1 : -1000000 ≤ e.num:=of_decide_eq_true hq5
  cases hq6 : (decide (e.num ≤ 1000000)) with
  | false=>
   rw [hq6,Bool.false_and] at hR
   have hn2 : ¬ e.num ≤ 1000000:=of_decide_eq_false hq6
   simp [zap,zal,hop3,hn1,hn2]
   exact hb _ hR _
  | true=>
  rw [hq6,Bool.true_and] at hR
  have hn2 : e.num ≤ 1000000:=of_decide_eq_true hq6
  cases hq7 : lf with
  | false=>
   rw [hq7,Bool.false_and] at hR
   simp [zap,zal,hop3,hn1,hn2,hq7]
   exact hb _ hR _
  | true=>
  rw [hq7,Bool.true_and] at hR
  cases hq8 : ((vs.length : Int) == 0) with
  | false=>
   rw [hq8,Bool.false_and] at hR
   simp [zap,zal,hop3,hn1,hn2,hq7,hq8]
   exact hb _ hR _
  | true=>
  rw [hq8,Bool.true_and] at hR
  simp [zap,zal,hop3,hn1,hn2,hq7,hq8]
  exact hb _ hR _
 rw [if_neg hop3] at hR
 simp [zap,zal,nb hop1,nb hop2,nb hop3]
 exact zCm hr nz lf tv tk tb hs P1 P2 P3 K fun b h J=>hb b (hR.trans h) J
theorem AWp.reCell {P : Program} {c : Code} {Q : AExit → List AV → zaa → Prop} {F : List AV} {H : zaa} {id : Nat} {cs : List AV} (cs' : List AV) (hid : H[id]? = some (.cells cs)) (hw : All2 WkA cs cs') (h : AWp P c Q F (H.set id (.cells cs'))) : AWp P c Q F H:=by
 intro B w G a hH hF hd
 refine h B w G a (hH.reCell hid fun vs hv=>?_) hF hd
 clear h hid hH hF
 induction cs generalizing cs' vs with
 | nil=>cases cs' with
  | nil=>exact hv
  | cons _ _=>exact hw.elim
 | cons x cs ih=>cases cs' with
  | nil=>exact hw.elim
  | cons x' cs'=>cases vs with
   | nil=>exact hv.elim
   | cons v vs=>exact ⟨hw.1.arel hv.1,ih cs' hw.2 vs hv.2⟩
def zaE (c : Cor) (l : List Int) : List VT:=l.map (ety c)
theorem zAz {c : Cor} {B : zaa} {N i2 i : Nat} {l : List Int} (hN : N = B.length) (h2 : B[i2]? = some (.cells (zaJ c))) (hr : inE c l) (hlt : i < l.length) (hl : l.length ≤ 1000) {K : AV → zaa → Prop}
  (hK : K (.sl (VT.css (zaE c (l.take (i + 1)))) (.own N)) (B ++ [.perm zaB 3 (i + 1)])) :
  zai 1 (.sl (ints l) .none) (.int .i64 i) fun a=>zae false 1 a (B ++ [.perm zaB 3 i]) fun v=>zaf 3 (.ptr i2 0) fun p=>zae false 1 p (B ++ [.perm zaB 3 i]) fun s=>zai 8 s v fun q=>zaf 5 q fun q=>zae true 3 q (B ++ [.perm zaB 3 i]) fun t=>
   zav 3 [.int .i64 0,.int .i64 0,.snil] 1 [(0,t)] fun y=>zaC zaB 3 40 (.sl (VT.css (zaE c (l.take i))) (.own N)) y (B ++ [.perm zaB 3 i]) K:=by
 subst hN
 have hrr:=hr _ (List.getElem_mem hlt)
 obtain ⟨e,he⟩ : ∃ e : Nat,l[i] = e:=⟨(l[i]).toNat,by omega⟩
 have hen : e < c.exprs.length:=by omega
 have hts : VT.css (zaE c (l.take (i + 1))) = VT.css (zaE c (l.take i)) ++ [(c.exprs[e]).ty.cs]:=by
  rw [zaE,zbX hlt,List.map_append,VT.css_map,VT.css_map,List.map_append,he]
  simp [zaE,zmW hen]
 have hg : ∀ J,(B ++ J)[i2]? = some (.cells (zaJ c)):=fun J=>zaO h2
 have hll : (zaE c (l.take i)).length = i:=by simp [zaE]; omega
 have hce : (c.exprs[e]).cs = zal c.exprs[e]:=by rw [CEx.cs,zat]; rfl
 simp [hlt,he,hg,zaJ,hen,hce,zal]
 rw [← zat,zbP]
 simp [zaC,zbq,za8,hll]
 refine ⟨⟨by omega,by omega⟩,?_⟩
 rw [← hts]
 exact hK
theorem zzJ {es : List (List AV)} {t : Tok} {k : AV → Prop} : zav 1 [.snil] 1 [(0,.sl es t)] k = k (.sl [[.sl es .none]] .full):=by
 cases t <;> exact propext Iff.rfl
theorem zzG {bs : List (List VT)} {i : Nat} (h : i < bs.length) : bsV (bs.take (i + 1)) = bsV (bs.take i) ++ [[.sl (VT.css bs[i]) .none]]:=by
 rw [bsV,zbX h,List.map_append]; rfl
def zdB (c : Cor) (e : CEx) : Bool:=zaz c.data 0 e.ty && refR4 c e (e.num == 0) ((e.kids.length : Int) == 0) (zam c e.vars) (zaE c e.kids) (e.binds.map (zam c))
theorem zBJ {c : Cor} {e : CEx} (hx : ExIn c e) (hty : zaz c.data 0 e.ty = true) (hlam : e.op = 11 → ∃ n : Nat,e.num = n ∧ n < c.codes.length) : RIn c e (zam c e.vars) (zaE c e.kids) (e.binds.map (zam c)) where
 kcore:=hx.kcore
 ety:=hty
 en:=hx.kex.2.2.2.1
 vsP:=fun v hv=>by
  obtain ⟨n,hn,rfl⟩:=List.mem_map.1 hv
  have:=hx.vars n hn
  refine ⟨?_,zox hx.kcore n⟩
  obtain ⟨k,rfl⟩ : ∃ k : Nat,n = k:=⟨n.toNat,by omega⟩
  rw [zfl (by omega)]
  exact hx.vtys _ (List.getElem_mem _)
 vl:=by rw [zaR]; exact hx.kex.1
 ksP:=fun v hv=>by
  obtain ⟨n,hn,rfl⟩:=List.mem_map.1 hv
  exact zsU hx.kcore n
 kl:=by simp [zaE]; exact hx.kex.2.2.1
 bl:=by simp [zaE]; exact hx.bk
 bsP:=fun b hb=>by
  obtain ⟨l,hl,rfl⟩:=List.mem_map.1 hb
  refine ⟨by rw [zaR]; exact hx.kex.2.2.2.2 l hl,fun v hv=>?_⟩
  obtain ⟨n,hn,rfl⟩:=List.mem_map.1 hv
  exact zox hx.kcore n
 codes:=hx.codes
 lam:=hlam
theorem zCr {c : Cor} {e : CEx} (hx : ExIn c e) (hlam : e.op = 11 → ∃ n : Nat,e.num = n ∧ n < c.codes.length) (H : zaa) (K : AV → zaa → Prop) (hK : K (.bool (zdB c e)) H) : ACalls tP znA [.agg c.cs,.agg e.cs] H K:=by
 refine ACalls.out (zKJ fun hs=>?_)
 have hx0:=hx
 obtain ⟨hc,⟨kv,kb,kk,kt,kbl⟩,hvr,hkr,hbk,hbr,hcr,hvt⟩:=hx
 have hO : ∀ b,zdB c e = b → ∀ J,Out H.length K (.bool b) (H ++ J):=fun b h J=>h ▸ Out.bool rfl (Nat.le_refl _) hs hK
 have hce : e.cs = zal e:=by rw [CEx.cs,zat]; rfl
 have hcc : c.cs = zaJ c:=rfl
 simp [zxb,hce,hcc,zaJ,zal]
 rw [← zat e.ty]
 refine zgo c.data (by obtain ⟨⟨k1,_⟩,_⟩:=hc; omega) 0 e.ty (by omega) _ _ ?_
 cases hty : zaz c.data 0 e.ty with
 | false=>
  simp
  exact hO _ (by simp [zdB,hty]) _
 | true=>
 have hr:=zBJ hx0 hty hlam
 have hO' : ∀ b,refR4 c e (e.num == 0) ((e.kids.length : Int) == 0) (zam c e.vars) (zaE c e.kids) (e.binds.map (zam c)) = b → ∀ J,Out H.length K (.bool b) (H ++ J):=fun b h J=>hO b (by simp [zdB,hty,h]) J
 simp
 refine zJ5 fun hs1=>?_
 unfold zxe
 simp
 rw [zat e.ty]
 obtain ⟨B,hB⟩ : ∃ B,B = H ++ [.cells (zaJ c),.cells (zal e)]:=⟨_,rfl⟩
 have hBl : B.length = H.length + 2:=by rw [hB]; simp
 have hB2 : B[H.length]? = some (.cells (zaJ c)):=by rw [hB]; simp
 have hB3 : B[H.length + 1]? = some (.cells (zal e)):=by rw [hB]; simp
 show zhJ (.ptr H.length 0) (.ptr (H.length + 1) 0) .snil .snil (.sl (ints e.vars) .none) (.int .i64 e.vars.length) (.int .i64 0) (H ++ [.cells (zaJ c),.cells (zal e)]) (Out H.length K)
 rw [← hB]
 unfold zhJ
 refine ALoop.own 5 zaB 3 rfl ?_
 show zhJ (.ptr H.length 0) (.ptr (H.length + 1) 0) (.sl [] (.own B.length)) .snil (.sl (ints e.vars) .none) (.int .i64 e.vars.length) (.int .i64 0) (B ++ [.perm zaB 3 0]) (Out H.length K)
 refine zKx (Inv:=fun q t5 t49 H'=>∃ i : Nat,i ≤ e.vars.length ∧ q = e.vars.length - i ∧ t49 = .int .i64 i ∧ t5 = .sl (VT.css (zam c (e.vars.take i))) (.own B.length) ∧ H' = B ++ [.perm zaB 3 i]) e.vars.length ?_ ?_
 ·intro _; exact ⟨0,by omega,by omega,rfl,by simp [zam,VT.css],rfl⟩
 rintro q t5 t49 H' ⟨i,hi,rfl,rfl,rfl,rfl⟩ hsc hlen hsF Kb hKb
 by_cases hlt : i < e.vars.length
 ·simp only [zqn,zfM,decide_eq_true (show (i : Int) < e.vars.length by omega),zfO]
  refine zhj rfl hB2 hvr hlt (by omega) ?_
  simp only [zh5]
  rw [zaq (by omega) (by omega)]
  refine hKb _ _ ⟨e.vars.length - (i + 1),by omega,Back.here (by simp) (HSc.permN hsc _) ?_ ⟨_,_,rfl,i + 1,by omega,rfl,by simp,rfl,rfl⟩⟩
  simp [zkZ,AV.sc,AV.scV,AV.scA,AV.scB]; omega
 obtain rfl : i = e.vars.length:=by omega
 rw [List.take_length] at *
 have g3 : ∀ J,(B ++ J)[H.length + 1]? = some (.cells (zal e)):=fun J=>zaO hB3
 have g2 : ∀ J,(B ++ J)[H.length]? = some (.cells (zaJ c)):=fun J=>zaO hB2
 simp [zqn,g3,zal]
 obtain ⟨B1,hB1⟩ : ∃ B1,B1 = B ++ [.perm zaB 3 e.vars.length]:=⟨_,rfl⟩
 have hB1l : B1.length = H.length + 3:=by rw [hB1]; simp; omega
 have hB12 : B1[H.length]? = some (.cells (zaJ c)):=by rw [hB1]; exact g2 _
 have hB13 : B1[H.length + 1]? = some (.cells (zal e)):=by rw [hB1]; exact g3 _
 rw [← hB1]
 unfold zk6
 refine ALoop.own 6 zaB 3 rfl ?_
 show zk6 (.ptr H.length 0) (.ptr (H.length + 1) 0) (.sl (VT.css (zam c e.vars)) (.own B.length)) (.sl [] (.own B1.length)) (.sl (ints e.kids) .none) (.int .i64 e.kids.length) (.int .i64 0) (B1 ++ [.perm zaB 3 0]) (Out H.length K)
 refine zKu (Inv:=fun q t6 t65 H'=>∃ i : Nat,i ≤ e.kids.length ∧ q = e.kids.length - i ∧ t65 = .int .i64 i ∧ t6 = .sl (VT.css (zaE c (e.kids.take i))) (.own B1.length) ∧ H' = B1 ++ [.perm zaB 3 i]) e.kids.length ?_ ?_
 ·intro _; exact ⟨0,by omega,by omega,rfl,by simp [zaE,VT.css],rfl⟩
 rintro q t6 t65 H' ⟨i,hi,rfl,rfl,rfl,rfl⟩ hsc1 hlen1 hsF1 Kb1 hKb1
 by_cases hlt : i < e.kids.length
 ·simp only [zqk,zfM,decide_eq_true (show (i : Int) < e.kids.length by omega),zfO]
  refine zAz rfl hB12 hkr hlt (by omega) ?_
  simp only [zh5]
  rw [zaq (by omega) (by omega)]
  refine hKb1 _ _ ⟨e.kids.length - (i + 1),by omega,Back.here (by simp) (HSc.permN hsc1 _) ?_ ⟨_,_,rfl,i + 1,by omega,rfl,by simp,rfl,rfl⟩⟩
  simp [zkW,AV.sc,AV.scV,AV.scA,AV.scB]; omega
 obtain rfl : i = e.kids.length:=by omega
 rw [List.take_length] at *
 simp [zqk]
 refine zJ8 fun hs2=>?_
 unfold zxg
 obtain ⟨B2,hB2'⟩ : ∃ B2,B2 = B1 ++ [.perm zaB 3 e.kids.length]:=⟨_,rfl⟩
 have hB2l : B2.length = H.length + 4:=by rw [hB2']; simp; omega
 have hB22 : B2[H.length]? = some (.cells (zaJ c)):=by rw [hB2']; exact zaO hB12
 have hB23 : B2[H.length + 1]? = some (.cells (zal e)):=by rw [hB2']; exact zaO hB13
 rw [← hB2']
 simp [hB23,zal]
 unfold zk7
 refine ALoop.own 11 zdL 1 rfl ?_
 show zk7 (.ptr H.length 0) (.ptr (H.length + 1) 0) (.sl (VT.css (zam c e.vars)) (.own B.length)) (.sl (VT.css (zaE c e.kids)) (.own B1.length)) (.sl [] (.own B2.length)) (.sl (rows e.binds) .none) (.int .i64 e.binds.length) (.int .i64 0) (B2 ++ [.perm zdL 1 0]) (Out H.length K)
 refine zKv (Inv:=fun q t11 t82 H'=>∃ i : Nat,i ≤ e.binds.length ∧ q = e.binds.length - i ∧ t82 = .int .i64 i ∧ t11 = .sl (bsV ((e.binds.map (zam c)).take i)) (.own B2.length) ∧ H' = B2 ++ [.perm zdL 1 i]) e.binds.length ?_ ?_
 ·intro _; exact ⟨0,by omega,by omega,rfl,by simp [bsV],rfl⟩
 rintro q t11 t82 H' ⟨i,hi,rfl,rfl,rfl,rfl⟩ hsc2 hlen2 hsF2 Kb2 hKb2
 by_cases hlt : i < e.binds.length
 ·have hbi:=hbr _ (List.getElem_mem hlt)
  have hbl:=kbl _ (List.getElem_mem hlt)
  have hsn:=zzG (bs:=e.binds.map (zam c)) (i:=i) (by simpa using hlt)
  have hbt : (bsV ((e.binds.map (zam c)).take i)).length = i:=by simp [bsV]; omega
  rw [List.getElem_map] at hsn
  generalize hl : e.binds[i] = l at *
  simp [zql,hlt,hl]
  obtain ⟨B3,hB3'⟩ : ∃ B3,B3 = B2 ++ [.perm zdL 1 i]:=⟨_,rfl⟩
  have hB3l : B3.length = H.length + 5:=by rw [hB3']; simp; omega
  have hB32 : B3[H.length]? = some (.cells (zaJ c)):=by rw [hB3']; exact zaO hB22
  rw [← hB3']
  rw [← hB3'] at hsc2
  unfold zk8
  refine ALoop.own 14 zaB 3 rfl ?_
  generalize hbv : bsV ((e.binds.map (zam c)).take i) = bv at *
  show zk8 (.ptr H.length 0) (.ptr (H.length + 1) 0) (.sl (VT.css (zam c e.vars)) (.own B.length)) (.sl (VT.css (zaE c e.kids)) (.own B1.length)) (.sl bv (.own B2.length)) (.sl [] (.own B3.length)) (.sl (rows e.binds) .none) (.int .i64 e.binds.length) (.int .i64 i) (.sl (ints l) .none) (.int .i64 l.length) (.int .i64 0) (B3 ++ [.perm zaB 3 0]) (Out H.length K) Kb2
  refine zKw (Inv:=fun q t14 t88 H'=>∃ j : Nat,j ≤ l.length ∧ q = l.length - j ∧ t88 = .int .i64 j ∧ t14 = .sl (VT.css (zam c (l.take j))) (.own B3.length) ∧ H' = B3 ++ [.perm zaB 3 j]) l.length ?_ ?_
  ·intro _; exact ⟨0,by omega,by omega,rfl,by simp [zam,VT.css],rfl⟩
  rintro q t14 t88 H' ⟨j,hj,rfl,rfl,rfl,rfl⟩ hsc3 hlen3 hsF3 Kb3 hKb3
  by_cases hjl : j < l.length
  ·simp only [zqm,zfM,decide_eq_true (show (j : Int) < l.length by omega),zfO]
   refine zhj rfl hB32 hbi hjl (by omega) ?_
   simp only [zh5]
   rw [zaq (by omega) (by omega)]
   refine hKb3 _ _ ⟨l.length - (j + 1),by omega,Back.here (by simp) (HSc.permN hsc3 _) ?_ ⟨_,_,rfl,j + 1,by omega,rfl,by simp,rfl,rfl⟩⟩
   simp [zkY,AV.sc,AV.scV,AV.scA,AV.scB]; omega
  obtain rfl : j = l.length:=by omega
  rw [List.take_length] at *
  simp [zqm,zzJ]
  simp [zaC,zbq,za8,hbt,hB3']
  refine ⟨by omega,?_⟩
  rw [zaq (by omega) (by omega),← hsn]
  refine hKb2 _ _ ⟨e.binds.length - (i + 1),by omega,Back.at (J:=[_]) (H2:=B2 ++ [.perm zdL 1 (i + 1)]) (by simp; rfl) (by simp) (HSc.permN (hB3' ▸ hsc2) _) ?_ ⟨_,_,rfl,i + 1,by omega,rfl,by simp,rfl,rfl⟩⟩
  simp [zkX,AV.sc,AV.scV,AV.scA,AV.scB]; omega
 obtain rfl : i = e.binds.length:=by omega
 rw [List.take_of_length_le (by simp)] at *
 simp [zql,zaL,zbD,hB2l]
 have hHH : B2 ++ [.perm zdL 1 e.binds.length,.cells [.int .i64 1,.int .i64 0,.snil],.cells [.int .i64 2,.int .i64 0,.snil],.cells [.int .i64 3,.int .i64 0,.snil]] = H ++ [.cells (zaJ c),.cells (zal e),.perm zaB 3 e.vars.length,.perm zaB 3 e.kids.length,.perm zdL 1 e.binds.length,.cells [.int .i64 1,.int .i64 0,.snil],.cells [.int .i64 2,.int .i64 0,.snil],.cells [.int .i64 3,.int .i64 0,.snil]]:=by rw [hB2',hB1,hB]; simp
 rw [hHH]
 simp only [Nat.add_assoc,Nat.reduceAdd]
 unfold zk4
 refine AWp.reCell (id:=H.length + 5) (cs:=[.int .i64 1,.int .i64 0,.snil]) [.int .i64 1,.int .i64 0,.sl [] .none] (by simp) ⟨.refl _,.refl _,.snil,trivial⟩ ?_
 refine AWp.reCell (id:=H.length + 6) (cs:=[.int .i64 2,.int .i64 0,.snil]) [.int .i64 2,.int .i64 0,.sl [] .none] (by simp) ⟨.refl _,.refl _,.snil,trivial⟩ ?_
 refine AWp.reCell (id:=H.length + 7) (cs:=[.int .i64 3,.int .i64 0,.snil]) [.int .i64 3,.int .i64 0,.sl [] .none] (by simp) ⟨.refl _,.refl _,.snil,trivial⟩ ?_
 simp only [zoe,List.set_cons_succ,List.set_cons_zero]
 show zk4 (.ptr H.length 0) (.ptr (H.length + 1) 0) (.sl (VT.css (zam c e.vars)) (.own B.length)) (.sl (VT.css (zaE c e.kids)) (.own B1.length)) (.sl (bsV (e.binds.map (zam c))) (.own (H.length + 4))) (.ptr (H.length + 5) 0) (.ptr (H.length + 6) 0) (.ptr (H.length + 7) 0) (zap H c e (.perm zaB 3 e.vars.length) (.perm zaB 3 e.kids.length) (.perm zdL 1 e.binds.length)) (Out H.length K)
 refine zKb fun hs3=>?_
 unfold zxh
 have:=zCl hr (e.num == 0) ((e.kids.length : Int) == 0) (.own B.length) (.own B1.length) (.own (H.length + 4)) hs (.perm zaB 3 e.vars.length) (.perm zaB 3 e.kids.length) (.perm zdL 1 e.binds.length) K hO'
 simp [zap,zal] at this ⊢
 exact this
def inR (n : Nat) (x : Int) : Bool:=decide (0 ≤ x ∧ x < (n : Int))
theorem zuB {p : Int → Bool} : ∀ (l : List Int) (j : Nat) (h : j < l.length),(∀ x ∈ l.take j,p x = true) → p l[j] = false → l.takeWhile p = l.take j
 | [],j,h,_,_=>by simp at h
 | a :: l,0,h,_,h2=>by simp at h2; simp [h2]
 | a :: l,j + 1,h,h1,h2=>by
  have:=zuB l j (by simpa using h) (fun x hx=>h1 x (by simp [hx])) (by simpa using h2)
  have ha:=h1 a (by simp)
  simp [ha,this]
theorem zeA {H : zaa} {id n : Nat} {l S : List Int} (hid : H[id]? = some (usB (cnt n S))) (hl : S.length + l.length ≤ 1000000) {tok : Tok} (K : AV → zaa → Prop)
  (hT : (∀ x ∈ l,0 ≤ x ∧ x < n) → K (.bool true) (H.set id (usB (cnt n (S ++ l))))) (hF : ¬ (∀ x ∈ l,0 ≤ x ∧ x < (n : Int)) → K (.bool false) (H.set id (usB (cnt n (S ++ l.takeWhile (inR n)))))) :
  ACalls tP zfb [.ms id 0 n n,.sl (ints l) tok] H K:=by
 refine ACalls.wk (args':=[.ms id 0 n n,.sl (ints l) .none]) ?_ ⟨.rfl',.atom (.sl _ _),trivial⟩
 refine zJz fun hs=>?_
 have hil:=zb0 hid
 simp [zw2]
 have scU : ∀ us : List Int,(usB us).sc H.length = true:=fun us=>by simp [usB,AB.sc,AV.scA,AV.scB]
 refine zJx (Inv:=fun q t9 H'=>∃ j : Nat,j ≤ l.length ∧ q = l.length - j ∧ t9 = .int .i64 j ∧ (∀ x ∈ l.take j,0 ≤ x ∧ x < (n : Int)) ∧ H' = H.set id (usB (cnt n (S ++ l.take j)))) l.length ?_ ?_
 ·intro _; exact ⟨0,by omega,by omega,rfl,by simp,by simp [zel hid]⟩
 ·rintro q t9 H' ⟨j,hj,rfl,rfl,hr,rfl⟩ hsc hlen hsF Kb hKb
  have hg : ∀ us,(H.set id (usB us))[id]? = some (.cells (us.map fun n=>.int .i64 n)):=fun us=>by rw [zc8 _ hid]; rfl
  by_cases hjl : j < l.length
  ·have tw : ¬ (0 ≤ l[j] ∧ l[j] < (n : Int)) → l.takeWhile (inR n) = l.take j:=fun h=>zuB l j hjl (fun x hx=>decide_eq_true (hr x hx)) (decide_eq_false h)
   by_cases h0 : l[j] < 0
   ·simp [zhG,hjl,h0]
    rw [← tw (by omega)]
    exact hF (fun h=>by have:=h _ (List.getElem_mem hjl); omega)
   by_cases hge : (n : Int) ≤ l[j]
   ·simp [zhG,hjl,h0,hge]
    rw [← tw (by omega)]
    exact hF (fun h=>by have:=h _ (List.getElem_mem hjl); omega)
   obtain ⟨e,he⟩ : ∃ e : Nat,l[j] = e:=⟨(l[j]).toNat,by omega⟩
   have hen : e < n:=by omega
   have hen' : ¬ n ≤ e:=by omega
   have he0 : ¬ (e : Int) < 0:=by omega
   have hnx : S ++ l.take (j + 1) = (S ++ l.take j) ++ [(e : Int)]:=by rw [zbX hjl,he,List.append_assoc]
   have hcl : (S ++ l.take j).length ≤ 1000000:=by rw [List.length_append,List.length_take]; omega
   clear tw
   generalize hS1 : S ++ l.take j = S1 at *
   have hce:=List.count_le_length (a:=(e : Int)) (l:=S1)
   have hel : e < (cnt n S1).length:=by simpa using hen
   have hu1 : ∀ k : AV → Prop,zaS false 1 e ((cnt n S1).map fun n=>AV.int .i64 n) k = k (.int .i64 ((S1.count (e : Int) : Nat) : Int)):=fun k=>by rw [zaK 1 (zeN hel),zea]
   simp [zhG,hjl,he,he0,hen,hen',hg,hu1]
   rw [zaq (by omega) (by omega),zaq (by omega) (by omega),zfj hel,zmN S1 hen]
   refine ⟨by omega,hKb _ _ ⟨l.length - (j + 1),by omega,Back.here (by simp) (hs.set (scU _)) ?_ ⟨_,rfl,j + 1,by omega,rfl,by simp,?_,?_⟩⟩⟩
   ·simp [zkQ,AV.sc,AV.scV,AV.scA,AV.scB]; omega
   ·exact zcn hjl hr (by rw [he]; omega)
   ·rw [hnx]; rfl
  ·obtain rfl : j = l.length:=by omega
   rw [List.take_length] at *
   simp [zhG]
   exact hT hr
structure RCode (c : Cor) (i : Nat) (f : Cod) : Prop where
 order : f.name = [] → ∀ h : i + 1 < c.codes.length,(c.codes[i + 1]).name = []
 capt : f.name ≠ [] → f.capt = []
 pars : f.params.length ≤ 6
 res : zaz c.data 0 f.res = true
 rp : inV c f.params
 rc : inV c f.capt
 body : ∃ b : Nat,f.body = b ∧ ∃ hb : b < c.exprs.length,(c.exprs[b]).ty.same f.res = true
structure RExpr (c : Cor) (i : Nat) (e : CEx) : Prop where
 kids : ∀ k ∈ e.kids,(i : Int) < k
 range : inE c e.kids
 bk : e.binds.length = e.kids.length
 binds : ∀ l ∈ e.binds,inV c l
 vars : inV c e.vars
 lam : e.op = 11 → 0 ≤ e.num ∧ e.num < c.codes.length
def nms (l : List Cod) : List (List UInt8):=(l.map Cod.name).filter fun s=>!s.isEmpty
def zce (l : List CEx) : List Int:=(l.filter fun e=>e.op == 11).map CEx.num
def zdp (c : Cor) (f : Cod) : List Bool:=zaG (zaG (List.replicate c.vars.length false) f.params true) f.capt true
structure RefV (c : Cor) : Prop where
 data : RData c.data
 vars : ∀ v ∈ c.vars,zaz c.data 0 v = true
 codes : ∀ i (h : i < c.codes.length),RCode c i c.codes[i]
 names : (nms c.codes).Nodup
 exprs : ∀ i (h : i < c.exprs.length),RExpr c i c.exprs[i]
 bound : ∀ v : Nat,v < c.vars.length → (zb4 c).count (v : Int) = 1
 placed : ∀ v : Nat,v < c.exprs.length → (zcj c).count (v : Int) = 1
 made : ∀ i (h : i < c.codes.length),(zce c.exprs).count (i : Int) = if (c.codes[i]).name = [] then 1 else 0
 rules : ∀ i (h : i < c.exprs.length),zdB c c.exprs[i] = true
 scopes : ∀ i (h : i < c.codes.length),(zbF c c.exprs.length (c.codes[i]).body.toNat (zdp c c.codes[i])).1 = true
def vH (H : zaa) (c : Cor) (S T M : List Int) (m : Nat) : zaa:=H ++ [.cells (zaJ c),usB (cnt c.vars.length S),usB (cnt c.exprs.length T),usB (cnt c.codes.length M),.perm zbJ 1 m]
theorem zeq {H : zaa} (hs : HSc H) (c : Cor) (S T M : List Int) (m : Nat) : HSc (vH H c S T M m):=hs.append (by simp [AB.sc,zaJ,usB,AV.scA,AV.scB])
@[simp] theorem zS1 (H : zaa) (c : Cor) (S T M : List Int) (m : Nat) : (vH H c S T M m).length = H.length + 5:=by simp [vH]
theorem vH0 (H : zaa) (c : Cor) (S T M : List Int) (m : Nat) (J : zaa) : (vH H c S T M m ++ J)[H.length]? = some (.cells (zaJ c)):=by simp [vH]
theorem vH1 (H : zaa) (c : Cor) (S T M : List Int) (m : Nat) (J : zaa) : (vH H c S T M m ++ J)[H.length + 1]? = some (usB (cnt c.vars.length S)):=by simp [vH]
theorem vH2 (H : zaa) (c : Cor) (S T M : List Int) (m : Nat) (J : zaa) : (vH H c S T M m ++ J)[H.length + 2]? = some (usB (cnt c.exprs.length T)):=by simp [vH]
theorem vH3 (H : zaa) (c : Cor) (S T M : List Int) (m : Nat) (J : zaa) : (vH H c S T M m ++ J)[H.length + 3]? = some (usB (cnt c.codes.length M)):=by simp [vH]
theorem zgb (H : zaa) (c : Cor) (S T M S' : List Int) (m : Nat) (J : zaa) : (vH H c S T M m ++ J).set (H.length + 1) (usB (cnt c.vars.length S')) = vH H c S' T M m ++ J:=by simp [vH]
theorem zjh (H : zaa) (c : Cor) (S T M S' : List Int) (m : Nat) (J : zaa) : (vH H c S T M m ++ J).set (H.length + 2) (usB (cnt c.exprs.length S')) = vH H c S S' M m ++ J:=by simp [vH]
theorem vH5 (H : zaa) (c : Cor) (S T M : List Int) (m k : Nat) (J : zaa) : (vH H c S T M m ++ J)[H.length + 5 + k]? = J[k]?:=by
 have : H.length + 5 + k = (vH H c S T M m).length + k:=by simp
 rw [this,zij]
end Go.Proofs.Ytkdmpbhbmmhijaa

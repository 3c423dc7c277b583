import Derived.Test.YtjkkonpjecoieaaGreatAbsL
import Derived.Test.YtjkkonpjecoieaaGreatKNum
import Derived.Test.YtjkkonpjecoieaaGreatProg
import Derived.KernelRfl
import Derived.Test.YtjkkonpjecoieaaGreatKUQ
import Derived.Test.YtjkkonpjecoieaaGreatAbsQ1
import Derived.Test.YtjkkonpjecoieaaGreatKY11
import Derived.Test.YtjkkonpjecoieaaGreatIT
set_option linter.unusedSimpArgs false
set_option linter.unusedVariables false
namespace Go.Abs
open Go Go.RowKit
variable {P:Program}
def zwH:Code→Array Oper
 | .region _ ops _=>ops
 | .seq a _=>zwH a
 | _=>#[]
def opS:Op→Bool
 | .move _=>true
 | .fieldAddr _ _ _=>true
 | _=>false
def opT:Op→Bool
 | .move _=>true
 | .assign _=>true
 | .fieldAddr _ _ _=>true
 | .indexAddr _ _ _=>true
 | .load _ _=>true
 | .store _ _ _=>true
 | .buildSlice _ _ _=>true
 | .slice _ _ _ _ none=>true
 | .call c=>(match c.callee with
  | .builtin .append=>true
  | .value (.func _)=>true
  | _=>false)
 | _=>false
theorem ACalls.monoZ {H:zaa} {f:FuncId} {args:List AV} {K K':AV→zaa→Prop} (h:ACalls P f args H K) (hk:∀ r H',K r H'→K' r H'):ACalls P f args H K':=
 fun B w G vs hH hv=>(h B w G vs hH hv).mono fun _ _ ⟨v,r,H',G',h1,h2,h3,h4,h5⟩=>⟨v,r,H',G',h1,h2,h3,h4,hk _ _ h5⟩
theorem zdS {x:Option AV} {d:Nat} {K K':Nat→Prop} (hk:∀ n,K n→K' n) (h:zbA x d K):zbA x d K':=by
 unfold zbA at h ⊢
 split at h
 ·exact hk _ h
 ·exact⟨h.1,hk _ h.2⟩
 ·exact h
theorem zuY {u esz:Nat} {x:AV} {lo hi:Option AV} {K K':AV→Prop} (hk:∀ v,K v→K' v) (h:zaJ u esz x lo hi K):zaJ u esz x lo hi K':=by
 unfold zaJ at h ⊢
 split at h
 ·exact zdS (fun _=>zdS fun _ h=>⟨h.1,hk _ h.2⟩) h
 ·exact zdS (fun _=>zdS fun _ h=>⟨h.1,hk _ h.2⟩) h
 ·exact zdS (fun _=>zdS fun _ h=>⟨h.1,hk _ h.2⟩) h
 ·exact zdS (fun _=>zdS fun _ h=>⟨h.1,hk _ h.2⟩) h
 ·exact zdS (fun _=>zdS fun _ h=>⟨h.1,hk _ h.2⟩) h
 ·exact h
theorem zol {o:Oper} {F:List AV} {H:zaa} {K K':AV→zaa→Prop} (hT:opT o.op=true) (hk:∀ v H',K v H'→K' v H') (h:aop P o F H K):aop P o F H K':=by
 obtain⟨dst,op,type,pos,after,guard⟩:=o
 cases op <;> simp only[opT]at hT <;> first | exact absurd hT (by decide) | skip
 case move x=>exact hk _ _ h
 case assign x=>exact hk _ _ h
 case fieldAddr s x i=>
  simp only[aop,isM,zb7]at h ⊢
  split at h
  ·split at h
   ·unfold zaf at h ⊢
    split at h
    ·exact hk _ _ h
    ·exact h
   ·exact h
  ·exact h
 case slice t x lo hi m=>
  cases m with
  | some m=>exact absurd hT (by simp)
  | none=>
   simp only[aop,isM,zb7]at h ⊢
   split at h
   ·exact zuY (fun v=>hk v _) h
   ·split at h
    ·exact zuY (fun v=>hk v _) h
    ·exact h
   ·exact h
 case indexAddr t x i=>
  simp only[aop,isM,zb7]at h ⊢
  split at h
  ·unfold zai at h ⊢
   split at h
   ·exact hk _ _ h
   ·exact h
  ·exact h
 case load t a=>
  simp only[aop,isM,zb7]at h ⊢
  split at h
  ·unfold zae at h ⊢
   split at h
   ·unfold zbi at h ⊢
    split at h
    ·exact⟨h.1,hk _ _ h.2⟩
    ·split at h
     ·exact hk _ _ h
     ·exact h
   ·exact h
  ·exact h
 case store t a x=>
  simp only[aop,isM,zb7]at h ⊢
  split at h
  ·unfold zam at h ⊢
   split at h
   ·exact hk _ _ h
   ·exact h
  ·exact h
 case buildSlice t n ps=>
  simp only[aop,isM,zb7]at h ⊢
  split at h
  ·split at h
   ·unfold zaB at h ⊢
    split at h
    ·split at h
     ·exact hk _ _ h
     ·exact h
    ·exact h
   ·exact h
  ·exact h
 case call c=>
  obtain⟨callee,args,ats⟩:=c
  simp only[aop,isM,zb7]at h ⊢
  cases callee with
  | invoke _ _=>exact absurd hT (by simp)
  | value f=>
   cases f with
   | func g=>
    simp only[ev,aCallV]at h ⊢
    split at h
    ·exact ACalls.monoZ h hk
    ·exact h
   | _=>exact absurd hT (by simp)
  | builtin b=>
   cases b <;> (try (simp at hT;done))
   case append=>
    simp only[zee]at h ⊢
    split at h
    ·split at h
     ·split at h
      ·exact zuO hk h
      ·exact h
     ·exact h
    ·exact h
theorem sil {o:Oper} {F:List AV} {H:zaa} {K:AV→zaa→Prop} (hS:opS o.op=true) (h:aop P o F H K) :
  ∃ v,K v H∧∀ (F':List AV) (H':zaa) (K':AV→zaa→Prop),(∀ x∈o.op.operands,ev F x=ev F' x)→K' v H'→aop P o F' H' K':=by
 have hc:=fun (F':List AV) (H':zaa) (K':AV→zaa→Prop) (hx:∀ x∈o.op.operands,ev F x=ev F' x)=>(zok (P:=P) (H:=H') (K:=K') hx)
 obtain⟨dst,op,type,pos,after,guard⟩:=o
 cases op <;> simp only[opS]at hS <;> first | exact absurd hS (by decide) | skip
 case move x=>
  refine⟨ev F x,h,fun F' H' K' hx hk=>?_⟩
  rw[←hc F' H' K' hx]
  exact hk
 case fieldAddr s x i=>
  simp only[aop,isM,zb7]at h
  split at h
  ·rename_i f hf
   split at h
   ·rename_i n hn
    unfold zaf at h
    split at h
    ·rename_i v hv
     refine⟨v,h,fun F' H' K' hx hk=>?_⟩
     rw[←hc F' H' K' hx]
     simp only[aop,isM,zb7,hf,hn,zaf,hv]
     exact hk
    ·exact h.elim
   ·exact h.elim
  ·exact h.elim
def zqq (ops:Array Oper) (i:Nat):Bool:=match ops[i]? with
 | some o=>opS o.op
 | none=>false
def zgx (P:Program) (ops:Array Oper) (K:List AV→zaa→Prop):Nat→Array Bool→List AV→zaa→Prop
 | 0,listed,F,H=>(match Region.ready .any ops listed with
  | []=>K F H
  | _=>False)
 | n+1,listed,F,H=>(match Region.ready .any ops listed with
  | []=>K F H
  | i::is=>(match (i::is).find? (zqq ops) with
   | some j=>(match ops[j]? with
    | some o=>aop P o F H fun v H'=>zgx P ops K n (listed.setIfInBounds j true) (zbh F o.dst v) H'
    | none=>False)
   | none=>zg2 (i::is) fun i=>(match ops[i]? with
    | some o=>aop P o F H fun v H'=>zgx P ops K n (listed.setIfInBounds i true) (zbh F o.dst v) H'
    | none=>False)))
theorem ziR {α:Type} {p:α→Prop}:∀ {l:List α},(∀ i∈l,p i)→zg2 l p
 | [],_=>trivial
 | [i],h=>h i (by simp)
 | i::j::l,h=>⟨h i (by simp),ziR fun k hk=>h k (by simp[List.mem_cons.1 hk])⟩
theorem zqb {ops:Array Oper} {listed:Array Bool} {i j:Nat} (hj:j∈Region.ready .any ops listed) (hne:j≠i):j∈Region.ready .any ops (listed.setIfInBounds i true):=by
 obtain⟨h1,o,ho,he⟩:=mem_ready.1 hj
 refine mem_ready.2 ⟨?_,o,ho,fun e hem hb=>?_⟩
 ·have:(listed.setIfInBounds i true)[j]?=listed[j]?:=by rw[Array.getElem?_setIfInBounds];rw[if_neg (fun h=>hne h.symm)]
  rw[Array.getD_eq_getD_getElem?]at h1 ⊢
  rw[this]
  exact h1
 ·have h2:=he e hem hb
  rw[Array.getD_eq_getD_getElem?]at h2 ⊢
  rw[Array.getElem?_setIfInBounds]
  split
  ·rename_i h
   have hl:e.on<listed.size:=by
    by_cases hl:e.on<listed.size
    ·exact hl
    ·rw[Array.getElem?_eq_none (by omega)]at h2
     cases h2
   subst h
   simp[hl]
  ·exact h2
theorem zwA {ops:Array Oper} {listed:Array Bool} {i j:Nat} {o:Oper} (hi:i∈Region.ready .any ops listed) (hj:j∈Region.ready .any ops listed) (ho:ops[i]?=some o):¬ ∃ e∈o.after,Region.binds .any e=true∧e.on=j:=by
 rintro⟨e,he,hb,rfl⟩
 obtain⟨_,o',ho',h1⟩:=mem_ready.1 hi
 obtain⟨h2,_⟩:=mem_ready.1 hj
 rw[ho]at ho'
 obtain rfl:=Option.some.inj ho'
 have h3:=h1 e he hb
 rw[Array.getD_eq_getD_getElem?]at h2 h3
 cases hx:listed[e.on]? with
 | none=>rw[hx]at h3;cases h3
 | some b=>rw[hx]at h2 h3;simp at h2 h3;rw[h2]at h3;cases h3
theorem zvI {ops:Array Oper} {listed:Array Bool} {i j:Nat} {oi oj:Oper} (hO:Ord ops) (hi:i∈Region.ready .any ops listed) (hj:j∈Region.ready .any ops listed) (hne:i≠j) (hoi:ops[i]?=some oi) (hoj:ops[j]?=some oj) (F:List AV) (v:AV) :
  ∀ x∈oi.op.operands,ev F x=ev (zbh F oj.dst v) x:=by
 intro x hx
 cases x with
 | tmp t=>
  cases hd:oj.dst with
  | none=>rfl
  | some d=>
   by_cases htd:t=d
   ·exfalso
    subst htd
    have hr:t∈zdI ops oi:=by
     simp only[zdI,List.mem_append,List.mem_filterMap]
     exact .inl ⟨.tmp t,by simpa using hx,rfl⟩
    by_cases hlt:j<i
    ·exact zwA hi hj hoi (hO.before i j oi oj t hoi hoj hlt hd hr)
    ·exact zwA hj hi hoj (hO.behind i j oi oj t hoi hoj (by omega) hd hr)
   ·simp only[ev,zbh,List.getD_eq_getElem?_getD,List.getElem?_set]
    rw[if_neg (fun h=>htd h.symm)]
 | _=>rfl
theorem zFg {ops:Array Oper} {i j:Nat} {oi oj:Oper} (hO:Ord ops) (hne:i≠j) (hoi:ops[i]?=some oi) (hoj:ops[j]?=some oj) (F:List AV) (v u:AV):zbh (zbh F oi.dst v) oj.dst u=zbh (zbh F oj.dst u) oi.dst v:=by
 cases h1:oi.dst with
 | none=>rfl
 | some d=>
  cases h2:oj.dst with
  | none=>rfl
  | some e=>
   have hde:d≠e:=fun h=>hO.dst i j oi oj e hoi hoj hne h2 (by rw[h1,h])
   exact List.set_comm _ _ hde
theorem zFB {ops:Array Oper} {K:List AV→zaa→Prop} (hO:Ord ops) (hN:∀ (i:Nat) o,ops[i]?=some o→o.guard=none) (hT:∀ (i:Nat) o,ops[i]?=some o→opT o.op=true) :
  ∀ (n:Nat) (listed:Array Bool) (F:List AV) (H:zaa) (i:Nat) (o:Oper),i∈Region.ready .any ops listed→ops[i]?=some o→opS o.op=true →
   aop P o F H (fun v H'=>runT P ops K n (listed.setIfInBounds i true) (zbh F o.dst v) H')→runT P ops K (n+1) listed F H:=by
 intro n
 induction n with
 | zero=>
  intro listed F H i o hi ho hS h
  obtain⟨v,hv,_⟩:=sil hS h
  have key:∀ j∈Region.ready .any ops listed,j=i:=fun j hj=>by
   by_cases hne:j=i
   ·exact hne
   ·exfalso
    have hr:=zqb hj hne
    unfold runT at hv
    split at hv
    ·rename_i hnil;rw[hnil]at hr;cases hr
    ·exact hv
  unfold runT
  split
  ·rename_i hnil;rw[hnil]at hi;cases hi
  ·rename_i i0 is hr
   refine ziR fun j hj=>?_
   obtain rfl:=key j (by rw[hr];exact hj)
   simp only[ho,hN _ _ ho]
   exact h
 | succ n ih=>
  intro listed F H i o hi ho hS h
  obtain⟨v,hv,hsil⟩:=sil hS h
  unfold runT
  split
  ·rename_i hnil;rw[hnil]at hi;cases hi
  ·rename_i i0 is hr
   refine ziR fun j hj=>?_
   have hj:j∈Region.ready .any ops listed:=by rw[hr];exact hj
   by_cases hne:j=i
   ·subst hne
    simp only[ho,hN _ _ ho]
    exact h
   ·obtain⟨_,oj,hoj,_⟩:=mem_ready.1 hj
    simp only[hoj,hN _ _ hoj]
    have hr2:=zqb hj hne
    unfold runT at hv
    split at hv
    ·rename_i hnil;rw[hnil]at hr2;cases hr2
    ·rename_i k0 ks hk
     have h1:=ziQ hv j (by rw[←hk];exact hr2)
     simp only[hoj,hN _ _ hoj]at h1
     rw[←zok (zvI hO hj hi hne hoj ho F v)]at h1
     refine zol (hT _ _ hoj) (fun u H' h2=>?_) h1
     refine ih _ _ _ i o (zqb hi (fun h=>hne h.symm)) ho hS ?_
     refine hsil _ _ _ (zvI hO hi hj (fun h=>hne h.symm) ho hoj F u) ?_
     rw[zFg hO (fun h=>hne h.symm) ho hoj F v u]at h2
     have e2:(listed.setIfInBounds i true).setIfInBounds j true=(listed.setIfInBounds j true).setIfInBounds i true:=Array.setIfInBounds_comm _ _ (fun h=>hne h.symm)
     rw[e2]at h2
     exact h2
theorem zFz {ops:Array Oper} {K:List AV→zaa→Prop} (hO:Ord ops) (hN:∀ (i:Nat) o,ops[i]?=some o→o.guard=none) (hT:∀ (i:Nat) o,ops[i]?=some o→opT o.op=true) :
  ∀ (n:Nat) (listed:Array Bool) (F:List AV) (H:zaa),zgx P ops K n listed F H→runT P ops K n listed F H:=by
 intro n
 induction n with
 | zero=>intro listed F H h;exact h
 | succ n ih=>
  intro listed F H h
  unfold zgx at h
  split at h
  ·rename_i hr
   unfold runT
   split
   ·exact h
   ·rename_i hr2;rw[hr]at hr2;cases hr2
  ·rename_i i0 is hr
   split at h
   ·rename_i j hj
    have hjm:j∈Region.ready .any ops listed:=by rw[hr];exact List.mem_of_find?_eq_some hj
    have hjs:zqq ops j=true:=List.find?_some hj
    split at h
    ·rename_i o ho
     unfold zqq at hjs
     rw[ho]at hjs
     exact zFB hO hN hT n listed F H j o hjm ho hjs (zol (hT _ _ ho) (fun v H' h=>ih _ _ _ h) h)
    ·exact h.elim
   ·unfold runT
    split
    ·rename_i hr2;rw[hr]at hr2;cases hr2
    ·rename_i k0 ks hr2
     rw[hr]at hr2
     obtain⟨rfl,rfl⟩:=List.cons.inj hr2
     refine ziR fun j hj=>?_
     have h1:=ziQ h j hj
     split at h1
     ·rename_i o ho
      simp only[ho,hN _ _ ho]
      exact zol (hT _ _ ho) (fun v H' h=>ih _ _ _ h) h1
     ·exact h1.elim
def okS (ops:Array Oper):Bool:=zd0 ops && ops.toList.all fun o=>o.guard.isNone && opT o.op
theorem zFA {ops:Array Oper} {K:List AV→zaa→Prop} (h:okS ops=true) {n:Nat} {listed:Array Bool} {F:List AV} {H:zaa} (hs:zgx P ops K n listed F H):runT P ops K n listed F H:=by
 unfold okS at h
 rw[Bool.and_eq_true,List.all_eq_true]at h
 have mem:∀ (i:Nat) o,ops[i]?=some o→o∈ops.toList:=fun i o ho=>List.mem_iff_getElem?.2 ⟨i,by simpa using ho⟩
 have h2:∀ (i:Nat) o,ops[i]?=some o→o.guard.isNone=true∧opT o.op=true:=fun i o ho=>by
  have:=h.2 o (mem i o ho)
  simpa using this
 exact zFz (zjZ h.1) (fun i o ho=>by simpa using (h2 i o ho).1) (fun i o ho=>(h2 i o ho).2) n listed F H hs
end Go.Abs
namespace Go.Proofs.YtjkkonpjecoieaaGreat
open Go Go.Abs
set_option maxRecDepth 100000
def zdl:Nat→List Bool
 | 13=>rl false [0,1,1,1,4,1,2,1,1,2,1,1,49,3,85]
 | 20=>rl false [7,1,5,1,1,1,2,1,83,3,48]
 | 27=>rl false [18,1,112,3,19]
 | 30=>rl false [18,1,3,1,108,3,4,2,13]
 | _=>[]
noncomputable def zfK:Code:=Tryz.f17.body.getD .skip
noncomputable def zr0:List ResultVar:=Tryz.f17.results.toList
def zlu (t0 t2 t7 t10 t12 t13 t15 t65 t66 t67:AV):List AV:=t0::ux 1 (t2::ux 4 (t7::ux 2 (t10::ux 1 (t12::t13::ux 1 (t15::ux 49 (t65::t66::t67::ux 85 []))))))
def zKU:List Bool:=zdl 13
noncomputable def zKN:Code:=zap [1,1,1,1,1,1,1,1,0,1,0,0] zfK
def zKK (K:Kt):AExit→List AV→zaa→Prop:=zaq tP zdl [1,1,1,1,1,1,1,1,0,1,0] zfK (zaA tP zr0 K)
def zlx (t0 t2 t7 t10 t12 t13 t15 t65 t66 t67:AV) (H:zaa) (K:Kt):Prop:=ALoop tP zKN (zKK K) (zlu t0 t2 t7 t10 t12 t13 t15 t65 t66 t67) H
def zlv (t7 t13 t15 t18 t102 t103 t104:AV):List AV:=ux 7 (t7::ux 5 (t13::ux 1 (t15::ux 2 (t18::ux 83 (t102::t103::t104::ux 48 [])))))
def zKV:List Bool:=zdl 20
noncomputable def zKO:Code:=zap [1,1,1,1,1,1,1,1,1,1,0,1,0,0,1,0,0] zfK
def zKL (K:Kt):AExit→List AV→zaa→Prop:=zaq tP zdl [1,1,1,1,1,1,1,1,1,1,0,1,0,0,1,0] zfK (zaA tP zr0 K)
def zzO (t7 t13 t15 t18 t102 t103 t104:AV) (H:zaa) (K:Kt):Prop:=ALoop tP zKO (zKL K) (zlv t7 t13 t15 t18 t102 t103 t104) H
def zij (t18 t131 t132 t133:AV):List AV:=ux 18 (t18::ux 112 (t131::t132::t133::ux 19 []))
def zzR:List Bool:=zdl 27
noncomputable def zrZ:Code:=zap [1,1,1,1,1,1,1,1,1,1,1,1,0,1,0,0] zfK
def zzN (K:Kt):AExit→List AV→zaa→Prop:=zaq tP zdl [1,1,1,1,1,1,1,1,1,1,1,1,0,1,0] zfK (zaA tP zr0 K)
def zzP (t18 t131 t132 t133:AV) (H:zaa) (K:Kt):Prop:=ALoop tP zrZ (zzN K) (zij t18 t131 t132 t133) H
def zlw (t18 t22 t131 t132 t133 t138 t139:AV):List AV:=ux 18 (t18::ux 3 (t22::ux 108 (t131::t132::t133::ux 4 (t138::t139::ux 13 []))))
def zKW:List Bool:=zdl 30
noncomputable def zKP:Code:=zap [1,1,0,0,1,1,0,0] zrZ
def zKM (K:Kt) (Kb27:Lt):AExit→List AV→zaa→Prop:=zaq tP zdl [1,1,0,0,1,1,0] zrZ (zbD zzR Kb27 (zzN K))
def zzQ (t18 t22 t131 t132 t133 t138 t139:AV) (H:zaa) (K:Kt) (Kb27:Lt):Prop:=ALoop tP zKP (zKM K Kb27) (zlw t18 t22 t131 t132 t133 t138 t139) H
def zrY (t18 t22 t131 t132 t133 t138 t139:AV) (H:zaa) (K:Kt) (Kb27:Lt) (Kb30:Lt):Prop:=
 zac .lss false t139 t138 fun t140=>
 zag t140
 (zai 2 t22 t139 fun t146=>
 zae true 2 t146 H fun t147=>
 ACalls tP zjE [t147] H fun t148 H=>
 zai 2 t22 t139 fun t149=>
 zam 2 t149 t148 H fun H=>
 zac .add false t139 (.int .i64 1) fun t150=>
 Kb30 (zlw t18 t22 t131 t132 t133 t138 t150) H)
 (zac .add false t133 (.int .i64 1) fun t151=>
 Kb27 (zij t18 t131 t132 t151) H)
def zrX (t18 t131 t132 t133:AV) (H:zaa) (K:Kt) (Kb27:Lt):Prop:=
 zac .lss false t133 t132 fun t134=>
 zag t134
 (zai 1 t131 t133 fun t135=>
 zae false 1 t135 H fun t136=>
 zah 1 t136 fun t138=>
 zzQ t18 t136 t131 t132 t133 t138 (.int .i64 0) H K Kb27)
 (zaI [t18,(.int .i64 0)] (K · H))
def zik (t18:AV) (H:zaa) (K:Kt):Prop:=
 ACalls tP zEK [t18,(.fn zpJ [])] H fun t130 H=>
 zah 1 t18 fun t132=>
 zzP t18 t18 t132 (.int .i64 0) H K
def zrW (t7 t13 t15 t18 t102 t103 t104:AV) (H:zaa) (K:Kt) (Kb20:Lt):Prop:=
 zac .lss false t104 t103 fun t105=>
 zag t105
 (zai 1 t102 t104 fun t107=>
 zae false 1 t107 H fun t108=>
 zaf 1 t7 fun t111=>
 zae false 1 t111 H fun t112=>
 zai 2 t112 (.int .i64 0) fun t113=>
 zaf 1 t113 fun t114=>
 zae false 1 t114 H fun t115=>
 zai 2 t115 t104 fun t117=>
 zae true 2 t117 H fun t118=>
 zai 2 t15 t108 fun t119=>
 zam 2 t119 t118 H fun H=>
 zac .add false t104 (.int .i64 1) fun t120=>
 Kb20 (zlv t7 t13 t15 t18 t102 t103 t120) H)
 (zaf 1 t7 fun t124=>
 zae false 1 t124 H fun t125=>
 zaJ 1 2 t125 (some (.int .i64 1)) none fun t126=>
 ACalls tP zfu [t15,t13,t126] H fun t127 H=>
 zax zb0 1 24 t18 t127 H fun t128 H=>
 zik t128 H K)
def zrV (t0 t2 t7 t10 t12 t13 t15 t65 t66 t67:AV) (H:zaa) (K:Kt) (Kb13:Lt):Prop:=
 zac .lss false t67 t66 fun t68=>
 zag t68
 (zai 1 t65 t67 fun t69=>
 zae false 1 t69 H fun t70=>
 zai 3 t10 t70 fun t77=>
 zae true 3 t77 H fun t78=>
 ACalls tP zpE [t0,t78] H fun t79 H=>
 zay t79 0 fun t80=>
 zay t79 1 fun t81=>
 zai 2 t15 t70 fun t82=>
 zam 2 t82 t80 H fun H=>
 zac .add false t67 (.int .i64 1) fun t83=>
 Kb13 (zlu t0 t2 t7 t10 t12 t13 t15 t65 t66 t83) H)
 (zaf 1 t7 fun t86=>
 zae false 1 t86 H fun t87=>
 ACalls tP zfu [t15,t13,t87] H fun t88 H=>
 zaf 1 t7 fun t89=>
 zae false 1 t89 H fun t90=>
 zah 1 t90 fun t91=>
 zac .gtr false t91 (.int .i64 0) fun t92=>
 zab t92 true H (fun K'=>zaf 1 t7 (K' · H)) fun t94 H=>
 zab t92 true H (fun K'=>zae false 1 t94 H (K' · H)) fun t95 H=>
 zab t92 true H (fun K'=>zai 2 t95 (.int .i64 0) (K' · H)) fun t96 H=>
 zab t92 true H (fun K'=>zaf 0 t96 (K' · H)) fun t97 H=>
 zab t92 true H (fun K'=>zae false 1 t97 H (K' · H)) fun t98 H=>
 zab t92 true H (fun K'=>K' t2 H) fun t99 H=>
 zab t92 true H (fun K'=>zac .eql false t98 t99 (K' · H)) fun t100 H=>
 zaj t92 t100 (.bool false) fun t101=>
 zag t101
 (zah 1 t12 fun t103=>
 zzO t7 t13 t15 t88 t12 t103 (.int .i64 0) H K)
 (zik t88 H K))
def zzu (t0 t1 t2 t3:AV) (H:zaa) (K:Kt):Prop:=
 zao t1 H fun t5 H=>
 zao t3 H fun t7 H=>
 zae true 3 t5 H fun t25=>
 zae true 2 t7 H fun t26=>
 ACalls tP zpH [t0,t25,t26] H fun t27 H=>
 aUn .not t27 fun t28=>
 zag t28
 (zaI [.snil,(.int .i64 1)] (K · H))
 (zaf 0 t5 fun t29=>
 zae false 1 t29 H fun t30=>
 zac .neq false t30 (.int .i64 5) fun t31=>
 zag t31
 (zaI [.snil,(.int .i64 6)] (K · H))
 (zac .lss false t2 (.int .i64 0) fun t33=>
 zab t33 false H (fun K'=>K' t2 H) fun t35 H=>
 zab t33 false H (fun K'=>K' t0 H) fun t36 H=>
 zab t33 false H (fun K'=>zaf 1 t5 (K' · H)) fun t37 H=>
 zab t33 false H (fun K'=>zae false 1 t37 H (K' · H)) fun t38 H=>
 zab t33 false H (fun K'=>zai 3 t36 t38 (K' · H)) fun t39 H=>
 zab t33 false H (fun K'=>zaf 2 t39 (K' · H)) fun t40 H=>
 zab t33 false H (fun K'=>zae false 1 t40 H (K' · H)) fun t41 H=>
 zab t33 false H (fun K'=>zah 1 t41 (K' · H)) fun t42 H=>
 zab t33 false H (fun K'=>zac .geq false t35 t42 (K' · H)) fun t43 H=>
 zaj t33 (.bool true) t43 fun t44=>
 zag t44
 (zaI [.snil,(.int .i64 8)] (K · H))
 (zae true 3 t5 H fun t47=>
 ACalls tP zgn [t0,t47,t2] H fun t49 H=>
 zay t49 0 fun t50=>
 zay t49 1 fun t51=>
 aUn .not t51 fun t53=>
 zag t53
 (zaI [.snil,(.int .i64 0)] (K · H))
 (zae true 3 t5 H fun t56=>
 ACalls tP zpI [t0,t56,t2] H fun t58 H=>
 zay t58 0 fun t59=>
 zay t58 1 fun t60=>
 zay t58 2 fun t61=>
 zah 1 t50 fun t63=>
 zbr 32 [(.int .i64 0),.snil] t63 t63 H fun t64 H=>
 zah 1 t59 fun t66=>
 zlx t0 t2 t7 t50 t59 t60 t64 t59 t66 (.int .i64 0) H K))))
theorem zKT {t18 t22 t131 t132 t133 t138 t139:AV} {H:zaa} {K:Kt} {Kb27:Lt} (Inv:Nat→AV→zaa→Prop) (n:Nat) (h0:HSc H→Inv n t139 H)
  (round:Rd1 (fun t139=>zlw t18 t22 t131 t132 t133 t138 t139) (fun t139=>fun H Kb30=>zrY t18 t22 t131 t132 t133 t138 t139 H K Kb27 Kb30) H Inv):zzQ t18 t22 t131 t132 t133 t138 t139 H K Kb27:=
 lp1 (M:=zdl) zKW t139 (by kernel_rfl) Inv n h0 round
theorem zKS {t18 t131 t132 t133:AV} {H:zaa} {K:Kt} (Inv:Nat→AV→zaa→Prop) (n:Nat) (h0:HSc H→Inv n t133 H)
  (round:Rd1 (fun t133=>zij t18 t131 t132 t133) (fun t133=>fun H Kb27=>zrX t18 t131 t132 t133 H K Kb27) H Inv):zzP t18 t131 t132 t133 H K:=
 lp1 (M:=zdl) zzR t133 (by kernel_rfl) Inv n h0 round
theorem zKR {t7 t13 t15 t18 t102 t103 t104:AV} {H:zaa} {K:Kt} (Inv:Nat→AV→zaa→Prop) (n:Nat) (h0:HSc H→Inv n t104 H)
  (round:Rd1 (fun t104=>zlv t7 t13 t15 t18 t102 t103 t104) (fun t104=>fun H Kb20=>zrW t7 t13 t15 t18 t102 t103 t104 H K Kb20) H Inv):zzO t7 t13 t15 t18 t102 t103 t104 H K:=
 lp1 (M:=zdl) zKV t104 (by kernel_rfl) Inv n h0 round
theorem zKQ {t0 t2 t7 t10 t12 t13 t15 t65 t66 t67:AV} {H:zaa} {K:Kt} (Inv:Nat→AV→zaa→Prop) (n:Nat) (h0:HSc H→Inv n t67 H)
  (round:Rd1 (fun t67=>zlu t0 t2 t7 t10 t12 t13 t15 t65 t66 t67) (fun t67=>fun H Kb13=>zrV t0 t2 t7 t10 t12 t13 t15 t65 t66 t67 H K Kb13) H Inv):zlx t0 t2 t7 t10 t12 t13 t15 t65 t66 t67 H K:=
 lp1 (M:=zdl) zKU t67 (by kernel_rfl) Inv n h0 round
theorem zKX {t0 t1 t2 t3:AV} {H:zaa} {K:Kt} (h:HSc H→zzu t0 t1 t2 t3 H K):ACalls tP zhB [t0,t1,t2,t3] H K:=
 zan (M:=zdl) Tryz.func17 (c:=zfK) (by kernel_rfl) (fun hs=>Eq.mpr (by kernel_rfl) (h hs))
def zfR:Nat→List Bool
 | 300004=>rl false [0,1]
 | 7=>rl false [0,3,4,1,13,2,24]
 | 200011=>rl false [0,14]
 | 100012=>rl false [0,3,4,1,13,2,24]
 | _=>[]
noncomputable def ztl:Code:=Tryz.f47.body.getD .skip
noncomputable def zPU:List ResultVar:=Tryz.f47.results.toList
def zmH (t0 t1 t2 t7 t21 t22:AV):List AV:=t0::t1::t2::ux 4 (t7::ux 13 (t21::t22::ux 24 []))
def zBH:List Bool:=zfR 7
noncomputable def zmG:Code:=zap [1,1,1,0,1,0,0] ztl
def zBE (K:Kt):AExit→List AV→zaa→Prop:=zaq tP zfR [1,1,1,0,1,0] ztl (zaA tP zPU K)
def zmI (t0 t1 t2 t7 t21 t22:AV) (H:zaa) (K:Kt):Prop:=ALoop tP zmG (zBE K) (zmH t0 t1 t2 t7 t21 t22) H
noncomputable def zBG:Code:=zap [1,1,1] zmG
def zBF (K:Kt) (Kb7:Lt):AExit→List AV→zaa→Prop:=zaq tP zfR [1,1,1] zmG (zbD zBH Kb7 (zBE K))
def zPR (t0 t1 t2 t7 t21 t22:AV) (H:zaa) (K:Kt) (Kb7:Lt):Prop:=AWp tP zBG (zBF K Kb7) (t0::t1::t2::ux 4 (t7::ux 13 (t21::t22::ux 24 []))) H
def ztm (t0 t1 t2 t7 t21 t22:AV) (H:zaa) (K:Kt) (Kb7:Lt):Prop:=
 zac .add false t22 (.int .i64 1) fun t45=>
 Kb7 (zmH t0 t1 t2 t7 t21 t45) H
noncomputable def ztn:Array Oper:=zwH (zap [1,1,0,0,1,1,1] zmG)
def ztk (t0 t1 t2 t7 t21 t22:AV) (H:zaa) (K:Kt) (Kb7:Lt):Prop:=
 zac .lss false t22 t21 fun t23=>
 zag t23
 (ACalls tP zjS [t0] H fun t26 H=>
 zad H (fun K'=>K' t26 H) fun t27=>
 zad H (fun K'=>K' t1 H) fun t28=>
 zad H (fun K'=>zai 1 t28 (.int .i64 0) (K' · H)) fun t29=>
 zad H (fun K'=>zal false 1 t29 H (K' · H)) fun t30=>
 zad H (fun K'=>K' t2 H) fun t31=>
 zad H (fun K'=>K' t22 H) fun t32=>
 zad H (fun K'=>zaJ 1 2 t31 none (some t32) (K' · H)) fun t33=>
 zad H (fun K'=>zaz [(.int .i64 0),.snil] [(0,1),(1,1)] [(1,t33)] (K' · H)) fun t34=>
 zad H (fun K'=>zai 2 t27 t30 (K' · H)) fun t35=>
 zam 2 t35 t34 H fun H=>
 Go.Abs.runT tP ztn (fun F H=>AWp tP zBG (zBF K Kb7) (zeM (zfR 100012) F) H) 10 (zeY 0 10) (t0::t1::t2::ux 4 (t7::t22::t26::ux 11 (t21::t22::t23::t22::t0::t26::t27::t28::t29::t30::t31::t32::t33::t34::t35::ux 11 []))) H)
 (K t7 H)
def zmF (t0 t1 t2:AV) (H:zaa) (K:Kt):Prop:=
 zah 1 t1 fun t11=>
 zac .eql false t11 (.int .i64 0) fun t12=>
 zag t12
 (zah 1 t2 fun t14=>
 zac .gtr false t14 (.int .i64 0) fun t15=>
 zag t15
 (K .snil H)
 (ACalls tP zjS [t0] H fun t17 H=>
 zfZ zb0 1 1 [(0,t17)] H fun t18 H=>
 K t18 H))
 (zah 1 t2 fun t20=>
 zac .add false t20 (.int .i64 1) fun t21=>
 zmI t0 t1 t2 .snil t21 (.int .i64 0) H K)
theorem zPS {t0 t1 t2 t7 t21 t22:AV} {H:zaa} {K:Kt} {Kb7:Lt} (h:HSc H→ztm t0 t1 t2 t7 t21 t22 H K Kb7):zPR t0 t1 t2 t7 t21 t22 H K Kb7:=
 fun B w G a hH hF hd=>zfe (M:=zfR) _ _ _ _ (Eq.mpr (by kernel_rfl) (h hH.sc)) B w G a hH hF hd
theorem zPV (t0 t1 t2 t7 t22 t26 t21 t23 t27 t28 t29 t30 t31 t32 t33 t34 t35:AV) (H:zaa) (KF:List AV→zaa→Prop):zgx tP ztn KF 10 (zeY 0 10) (t0::t1::t2::ux 4 (t7::t22::t26::ux 11 (t21::t22::t23::t22::t0::t26::t27::t28::t29::t30::t31::t32::t33::t34::t35::ux 11 []))) H=(
 (zaJ 1 1 t1 (some (.int .i64 1)) none fun t39=>
 zaJ 1 2 t2 (some t22) none fun t42=>
 ACalls tP zfu [t26,t39,t42] H fun t43 H=>
 zax zb0 1 24 t7 t43 H fun t44 H=>
 KF (t0::t1::t2::ux 4 (t44::t22::t26::ux 11 (t21::t22::t23::t22::t0::t26::t27::t28::t29::t30::t31::t32::t33::t34::t35::t7::t26::t1::t39::t2::t22::t42::t43::t44::ux 2 []))) H)∧(zaJ 1 2 t2 (some t22) none fun t42=>
 zaJ 1 1 t1 (some (.int .i64 1)) none fun t39=>
 ACalls tP zfu [t26,t39,t42] H fun t43 H=>
 zax zb0 1 24 t7 t43 H fun t44 H=>
 KF (t0::t1::t2::ux 4 (t44::t22::t26::ux 11 (t21::t22::t23::t22::t0::t26::t27::t28::t29::t30::t31::t32::t33::t34::t35::t7::t26::t1::t39::t2::t22::t42::t43::t44::ux 2 []))) H)):=by kernel_rfl
theorem zPW:okS ztn=true:=by kernel_rfl
theorem zPT {t0 t1 t2 t7 t21 t22:AV} {H:zaa} {K:Kt} (Inv:Nat→AV→AV→zaa→Prop) (n:Nat) (h0:HSc H→Inv n t7 t22 H)
  (round:Rd2 (fun t7=>fun t22=>zmH t0 t1 t2 t7 t21 t22) (fun t7=>fun t22=>fun H Kb7=>ztk t0 t1 t2 t7 t21 t22 H K Kb7) H Inv):zmI t0 t1 t2 t7 t21 t22 H K:=
 lp2 (M:=zfR) zBH t7 t22 (by kernel_rfl) Inv n h0 round
theorem zBI {t0 t1 t2:AV} {H:zaa} {K:Kt} (h:HSc H→zmF t0 t1 t2 H K):ACalls tP zfu [t0,t1,t2] H K:=
 zan (M:=zfR) Tryz.func47 (c:=ztl) (by kernel_rfl) (fun hs=>Eq.mpr (by kernel_rfl) (h hs))
def zTf:Nat→List Bool
 | 300001=>rl false [0,1]
 | _=>[]
noncomputable def zTg:Code:=Tryz.f92.body.getD .skip
def znS (t0:AV) (H:zaa) (K:Kt):Prop:=
 zf5 true .eql t0 fun t4=>
 zag t4
 (K .snil H)
 (zaB 2 [(.int .i64 0),.snil] 0 [] fun t5=>
 zax zbl 2 32 t5 t0 H fun t7 H=>
 K t7 H)
theorem zTh {t0:AV} {H:zaa} {K:Kt} (h:HSc H→znS t0 H K):ACalls tP zjS [t0] H K:=
 zan (M:=zTf) Tryz.func92 (c:=zTg) (by kernel_rfl) (fun hs=>Eq.mpr (by kernel_rfl) (h hs))
end Go.Proofs.YtjkkonpjecoieaaGreat
namespace Go.Proofs.YtjkkonpjecoieaaGreat
open Go Go.Abs
set_option maxRecDepth 8000
def RowA (H:zaa) (a:AV) (n:Nat) (ds:List AV):Prop:=
 ds.length=n*2∧ds.all AV.known=true∧((∃ id,a=.ms id 0 n n∧H[id]?=some (.cells ds))∨(0<n∧∃ id e,a=.ov id n∧H[id]?=some (.vec e 2 n ds)))
theorem RowA.app {H J:zaa} {a:AV} {n:Nat} {ds:List AV} (h:RowA H a n ds):RowA (H++J) a n ds:=by
 obtain⟨h1,h2,h3⟩:=h
 refine⟨h1,h2,?_⟩
 rcases h3 with ⟨id,rfl,h⟩ | ⟨h0,id,e,rfl,h⟩
 ·exact .inl ⟨id,rfl,by rw[List.getElem?_append_left (List.getElem?_eq_some_iff.1 h).1];exact h⟩
 ·exact .inr ⟨h0,id,e,rfl,by rw[List.getElem?_append_left (List.getElem?_eq_some_iff.1 h).1];exact h⟩
theorem zxF {H:zaa} {a:AV} {n:Nat} {ds:List AV} (hr:RowA H a n ds) (hn:n≤1000000) (K:Kt) (h0:n=0→K (.sl [] .none) H) (h1:0<n→K (.ov H.length n) (H++[.vec zbl 2 n ds])) :
  ACalls tP zjS [a] H K:=by
 refine zTh fun hs=>?_
 obtain⟨hl,hk,hr⟩:=hr
 cases n with
 | zero=>
  rcases hr with ⟨id,rfl,h⟩ | ⟨h,_⟩
  ·have hds:ds=[]:=by cases ds <;> simp_all
   subst hds
   simp[znS,zf5,zfl,zaB,zbf,zaF,AV.pd,zax,zcC,h]
   exact h0 rfl
  ·omega
 | succ n=>
  have hkk:=h1 (by omega)
  rcases hr with ⟨id,rfl,h⟩ | ⟨_,id,e,rfl,h⟩
  ·simp[znS,zf5,zfl,zaB,zbf,zaF,AV.pd,zax,zcC,h]
   have ht:List.take ((n+1)*2) ds=ds:=List.take_of_length_le (by omega)
   rw[ht]
   refine⟨by omega,⟨by simpa using hk,by omega,by omega,by omega⟩,hkk⟩
  ·simp[znS,zf5,zfl,zaB,zbf,zaF,AV.pd,zax,zcC,h]
   refine⟨⟨by simpa using hk,by omega,by omega,by omega⟩,hkk⟩
end Go.Proofs.YtjkkonpjecoieaaGreat
namespace Go.Proofs.YtjkkonpjecoieaaGreat
open Go Go.Abs
set_option maxRecDepth 100000
def znt:Nat→List Bool
 | 4=>rl false [2,2,6,3,12]
 | _=>[]
noncomputable def zt3:Code:=Tryz.f74.body.getD .skip
noncomputable def zRX:List ResultVar:=Tryz.f74.results.toList
def znu (t2 t3 t10 t11 t12:AV):List AV:=ux 2 (t2::t3::ux 6 (t10::t11::t12::ux 12 []))
def zRV:List Bool:=znt 4
noncomputable def zRT:Code:=zap [1,1,0,1,0,1,0,0] zt3
def zRS (K:Kt):AExit→List AV→zaa→Prop:=zaq tP znt [1,1,0,1,0,1,0] zt3 (zaA tP zRX K)
def znw (t2 t3 t10 t11 t12:AV) (H:zaa) (K:Kt):Prop:=ALoop tP zRT (zRS K) (znu t2 t3 t10 t11 t12) H
def znv (t2 t3:AV) (H:zaa) (K:Kt):Prop:=
 zae true 2 t3 H fun t24=>
 zam 2 t2 t24 H fun H=>
 zae true 2 t2 H fun r0=>
 K r0 H
def zt2 (t2 t3 t10 t11 t12:AV) (H:zaa) (K:Kt) (Kb4:Lt):Prop:=
 zac .lss false t12 t11 fun t13=>
 zag t13
 (zai 3 t10 t12 fun t14=>
 zae true 3 t14 H fun t15=>
 zaw [(.int .i64 0),(.int .i64 0),.snil] H fun t5 H=>
 zam 3 t5 t15 H fun H=>
 zad H (fun K'=>zaf 1 t3 (K' · H)) fun t16=>
 zad H (fun K'=>zal false 1 t16 H (K' · H)) fun t17=>
 zad H (fun K'=>zal true 3 t5 H (K' · H)) fun t18=>
 zaE H (fun H K'=>ACalls tP zjJ [t18] H K') fun t19=>
 zad H (fun K'=>zaB 2 [(.int .i64 0),.snil] 1 [(0,t19)] (K' · H)) fun t20=>
 zax zbl 2 32 t17 t20 H fun t21 H=>
 zad H (fun K'=>zaf 1 t3 (K' · H)) fun t22=>
 zam 1 t22 t21 H fun H=>
 zac .add false t12 (.int .i64 1) fun t23=>
 Kb4 (znu t2 t3 t10 t11 t23) H)
 (znv t2 t3 H K)
def zCn (t0:AV) (H:zaa) (K:Kt):Prop:=
 zao t0 H fun t1 H=>
 zaw [(.int .i64 0),.snil] H fun t2 H=>
 zaw [(.int .i64 0),.snil] H fun t3 H=>
 zaf 0 t1 fun t6=>
 zae false 1 t6 H fun t7=>
 zac .eql false t7 (.int .i64 6) fun t8=>
 zag t8
 (zaf 2 t1 fun t9=>
 zae false 1 t9 H fun t10=>
 zah 1 t10 fun t11=>
 znw t2 t3 t10 t11 (.int .i64 0) H K)
 (znv t2 t3 H K)
theorem zRU {t2 t3 t10 t11 t12:AV} {H:zaa} {K:Kt} (Inv:Nat→AV→zaa→Prop) (n:Nat) (h0:HSc H→Inv n t12 H)
  (round:Rd1 (fun t12=>znu t2 t3 t10 t11 t12) (fun t12=>fun H Kb4=>zt2 t2 t3 t10 t11 t12 H K Kb4) H Inv):znw t2 t3 t10 t11 t12 H K:=
 lp1 (M:=znt) zRV t12 (by kernel_rfl) Inv n h0 round
theorem zRW {t0:AV} {H:zaa} {K:Kt} (h:HSc H→zCn t0 H K):ACalls tP zjJ [t0] H K:=
 zan (M:=znt) Tryz.func74 (c:=zt3) (by kernel_rfl) (fun hs=>Eq.mpr (by kernel_rfl) (h hs))
def zll:Nat→List Bool
 | 3=>rl false [2,2,6,3,12]
 | _=>[]
noncomputable def zrI:Code:=Tryz.f148.body.getD .skip
noncomputable def zJ1:List ResultVar:=Tryz.f148.results.toList
def zlm (t2 t3 t10 t11 t12:AV):List AV:=ux 2 (t2::t3::ux 6 (t10::t11::t12::ux 12 []))
def zJZ:List Bool:=zll 3
noncomputable def zJX:Code:=zap [1,1,0,1,0,0] zrI
def zJW (K:Kt):AExit→List AV→zaa→Prop:=zaq tP zll [1,1,0,1,0] zrI (zaA tP zJ1 K)
def zln (t2 t3 t10 t11 t12:AV) (H:zaa) (K:Kt):Prop:=ALoop tP zJX (zJW K) (zlm t2 t3 t10 t11 t12) H
def zrH (t2 t3 t10 t11 t12:AV) (H:zaa) (K:Kt) (Kb3:Lt):Prop:=
 zac .lss false t12 t11 fun t13=>
 zag t13
 (zai 2 t10 t12 fun t14=>
 zae true 2 t14 H fun t15=>
 zaw [(.int .i64 0),.snil] H fun t5 H=>
 zam 2 t5 t15 H fun H=>
 zad H (fun K'=>zaf 1 t3 (K' · H)) fun t16=>
 zad H (fun K'=>zal false 1 t16 H (K' · H)) fun t17=>
 zad H (fun K'=>zal true 2 t5 H (K' · H)) fun t18=>
 zaE H (fun H K'=>ACalls tP zhz [t18] H K') fun t19=>
 zad H (fun K'=>zaB 2 [(.int .i64 0),.snil] 1 [(0,t19)] (K' · H)) fun t20=>
 zax zbl 2 32 t17 t20 H fun t21 H=>
 zad H (fun K'=>zaf 1 t3 (K' · H)) fun t22=>
 zam 1 t22 t21 H fun H=>
 zac .add false t12 (.int .i64 1) fun t23=>
 Kb3 (zlm t2 t3 t10 t11 t23) H)
 (zae true 2 t3 H fun t24=>
 zam 2 t2 t24 H fun H=>
 zae true 2 t2 H fun r0=>
 K r0 H)
def zzp (t0:AV) (H:zaa) (K:Kt):Prop:=
 zao t0 H fun t1 H=>
 zaw [(.int .i64 0),.snil] H fun t2 H=>
 zaf 0 t1 fun t6=>
 zae false 1 t6 H fun t7=>
 zaz [(.int .i64 0),.snil] [(0,1),(1,1)] [(0,t7)] fun t8=>
 zaw [(.int .i64 0),.snil] H fun t3 H=>
 zam 2 t3 t8 H fun H=>
 zaf 1 t1 fun t9=>
 zae false 1 t9 H fun t10=>
 zah 1 t10 fun t11=>
 zln t2 t3 t10 t11 (.int .i64 0) H K
theorem zJY {t2 t3 t10 t11 t12:AV} {H:zaa} {K:Kt} (Inv:Nat→AV→zaa→Prop) (n:Nat) (h0:HSc H→Inv n t12 H)
  (round:Rd1 (fun t12=>zlm t2 t3 t10 t11 t12) (fun t12=>fun H Kb3=>zrH t2 t3 t10 t11 t12 H K Kb3) H Inv):zln t2 t3 t10 t11 t12 H K:=
 lp1 (M:=zll) zJZ t12 (by kernel_rfl) Inv n h0 round
theorem zJ0 {t0:AV} {H:zaa} {K:Kt} (h:HSc H→zzp t0 H K):ACalls tP zhz [t0] H K:=
 zan (M:=zll) Tryz.func148 (c:=zrI) (by kernel_rfl) (fun hs=>Eq.mpr (by kernel_rfl) (h hs))
def zmL:Nat→List Bool
 | 3=>rl false [2,2,6,3,12]
 | _=>[]
noncomputable def zts:Code:=Tryz.f52.body.getD .skip
noncomputable def zQe:List ResultVar:=Tryz.f52.results.toList
def zmM (t2 t3 t10 t11 t12:AV):List AV:=ux 2 (t2::t3::ux 6 (t10::t11::t12::ux 12 []))
def zQc:List Bool:=zmL 3
noncomputable def zQa:Code:=zap [1,1,0,1,0,0] zts
def zP9 (K:Kt):AExit→List AV→zaa→Prop:=zaq tP zmL [1,1,0,1,0] zts (zaA tP zQe K)
def zmN (t2 t3 t10 t11 t12:AV) (H:zaa) (K:Kt):Prop:=ALoop tP zQa (zP9 K) (zmM t2 t3 t10 t11 t12) H
def ztr (t2 t3 t10 t11 t12:AV) (H:zaa) (K:Kt) (Kb3:Lt):Prop:=
 zac .lss false t12 t11 fun t13=>
 zag t13
 (zai 2 t10 t12 fun t14=>
 zae true 2 t14 H fun t15=>
 zaw [(.int .i64 0),.snil] H fun t5 H=>
 zam 2 t5 t15 H fun H=>
 zad H (fun K'=>zaf 1 t3 (K' · H)) fun t16=>
 zad H (fun K'=>zal false 1 t16 H (K' · H)) fun t17=>
 zad H (fun K'=>zal true 2 t5 H (K' · H)) fun t18=>
 zaE H (fun H K'=>ACalls tP zjE [t18] H K') fun t19=>
 zad H (fun K'=>zaB 2 [(.int .i64 0),.snil] 1 [(0,t19)] (K' · H)) fun t20=>
 zax zbl 2 32 t17 t20 H fun t21 H=>
 zad H (fun K'=>zaf 1 t3 (K' · H)) fun t22=>
 zam 1 t22 t21 H fun H=>
 zac .add false t12 (.int .i64 1) fun t23=>
 Kb3 (zmM t2 t3 t10 t11 t23) H)
 (zae true 2 t3 H fun t24=>
 zam 2 t2 t24 H fun H=>
 zae true 2 t2 H fun r0=>
 K r0 H)
def zBN (t0:AV) (H:zaa) (K:Kt):Prop:=
 zao t0 H fun t1 H=>
 zaw [(.int .i64 0),.snil] H fun t2 H=>
 zaf 0 t1 fun t6=>
 zae false 1 t6 H fun t7=>
 zaz [(.int .i64 0),.snil] [(0,1),(1,1)] [(0,t7)] fun t8=>
 zaw [(.int .i64 0),.snil] H fun t3 H=>
 zam 2 t3 t8 H fun H=>
 zaf 1 t1 fun t9=>
 zae false 1 t9 H fun t10=>
 zah 1 t10 fun t11=>
 zmN t2 t3 t10 t11 (.int .i64 0) H K
theorem zQb {t2 t3 t10 t11 t12:AV} {H:zaa} {K:Kt} (Inv:Nat→AV→zaa→Prop) (n:Nat) (h0:HSc H→Inv n t12 H)
  (round:Rd1 (fun t12=>zmM t2 t3 t10 t11 t12) (fun t12=>fun H Kb3=>ztr t2 t3 t10 t11 t12 H K Kb3) H Inv):zmN t2 t3 t10 t11 t12 H K:=
 lp1 (M:=zmL) zQc t12 (by kernel_rfl) Inv n h0 round
theorem zQd {t0:AV} {H:zaa} {K:Kt} (h:HSc H→zBN t0 H K):ACalls tP zjE [t0] H K:=
 zan (M:=zmL) Tryz.func52 (c:=zts) (by kernel_rfl) (fun hs=>Eq.mpr (by kernel_rfl) (h hs))
def zTp (_:Nat):List Bool:=[]
noncomputable def zTq:Code:=Tryz.f96.body.getD .skip
def zCM (t0 t1:AV) (H:zaa) (K:Kt):Prop:=
 ACalls tP zjk [t0] H fun t8 H=>
 ACalls tP zjk [t1] H fun t10 H=>
 zag t8
 (zag t10
 (K (.int .i64 0) H)
 (K (.int .i64 (-1)) H))
 (zag t10
 (K (.int .i64 1) H)
 (zac .lss false t0 t1 fun t16=>
 zag t16
 (K (.int .i64 (-1)) H)
 (zac .gtr false t0 t1 fun t19=>
 zag t19
 (K (.int .i64 1) H)
 (K (.int .i64 0) H))))
theorem zTr {t0 t1:AV} {H:zaa} {K:Kt} (h:HSc H→zCM t0 t1 H K):ACalls tP zjT [t0,t1] H K:=
 zan (M:=zTp) Tryz.func96 (c:=zTq) (by kernel_rfl) (fun hs=>Eq.mpr (by kernel_rfl) (h hs))
def znT:Nat→List Bool
 | 3=>rl false [3,1,2,3,9]
 | _=>[]
noncomputable def zuy:Code:=Tryz.f95.body.getD .skip
noncomputable def zTo:List ResultVar:=Tryz.f95.results.toList
def znV (t3 t6 t7 t8:AV):List AV:=ux 3 (t3::ux 2 (t6::t7::t8::ux 9 []))
def zTl:List Bool:=znT 3
noncomputable def zTj:Code:=zap [1,1,0,1,0,0] zuy
def zTi (K:Kt):AExit→List AV→zaa→Prop:=zaq tP znT [1,1,0,1,0] zuy (zaA tP zTo K)
def zCL (t3 t6 t7 t8:AV) (H:zaa) (K:Kt):Prop:=ALoop tP zTj (zTi K) (znV t3 t6 t7 t8) H
def znU (t3 t6 t7 t8:AV) (H:zaa) (K:Kt) (Kb3:Lt):Prop:=
 zac .lss false t8 t7 fun t9=>
 zag t9
 (zai 1 t6 t8 fun t10=>
 zae false 1 t10 H fun t11=>
 zac .neq false t11 t3 fun t14=>
 zag t14
 (K t11 H)
 (zac .add false t8 (.int .i64 1) fun t16=>
 Kb3 (znV t3 t6 t7 t16) H))
 (K t3 H)
def zCK (t0:AV) (H:zaa) (K:Kt):Prop:=
 zah 1 t0 fun t7=>
 zCL (.int .i64 0) t0 t7 (.int .i64 0) H K
theorem zTk {t3 t6 t7 t8:AV} {H:zaa} {K:Kt} (Inv:Nat→AV→zaa→Prop) (n:Nat) (h0:HSc H→Inv n t8 H)
  (round:Rd1 (fun t8=>znV t3 t6 t7 t8) (fun t8=>fun H Kb3=>znU t3 t6 t7 t8 H K Kb3) H Inv):zCL t3 t6 t7 t8 H K:=
 lp1 (M:=znT) zTl t8 (by kernel_rfl) Inv n h0 round
theorem zTn {t0:AV} {H:zaa} {K:Kt} (h:HSc H→zCK t0 H K):ACalls tP zpO [t0] H K:=
 zan (M:=znT) Tryz.func95 (c:=zuy) (by kernel_rfl) (fun hs=>Eq.mpr (by kernel_rfl) (h hs))
def zJw (_:Nat):List Bool:=[]
noncomputable def zJx:Code:=Tryz.f142.body.getD .skip
def zzh (t0:AV) (H:zaa) (K:Kt):Prop:=
 zac .neq false t0 t0 fun t5=>
 K t5 H
theorem zJy {t0:AV} {H:zaa} {K:Kt} (h:HSc H→zzh t0 H K):ACalls tP zjk [t0] H K:=
 zan (M:=zJw) Tryz.func142 (c:=zJx) (by kernel_rfl) (fun hs=>Eq.mpr (by kernel_rfl) (h hs))
def zP6 (_:Nat):List Bool:=[]
noncomputable def zP7:Code:=Tryz.f51.body.getD .skip
def zBM (t0 t1:AV) (H:zaa) (K:Kt):Prop:=
 zao t0 H fun t2 H=>
 zao t1 H fun t3 H=>
 zad H (fun K'=>zaf 0 t2 (K' · H)) fun t6=>
 zad H (fun K'=>zal false 1 t6 H (K' · H)) fun t7=>
 zad H (fun K'=>zaf 0 t3 (K' · H)) fun t8=>
 zad H (fun K'=>zal false 1 t8 H (K' · H)) fun t9=>
 zaE H (fun H K'=>ACalls tP zjT [t7,t9] H K') fun t10=>
 zad H (fun K'=>zaf 1 t2 (K' · H)) fun t11=>
 zad H (fun K'=>zal false 1 t11 H (K' · H)) fun t12=>
 zad H (fun K'=>zah 1 t12 (K' · H)) fun t13=>
 zad H (fun K'=>zaf 1 t3 (K' · H)) fun t14=>
 zad H (fun K'=>zal false 1 t14 H (K' · H)) fun t15=>
 zad H (fun K'=>zah 1 t15 (K' · H)) fun t16=>
 zaE H (fun H K'=>ACalls tP zjT [t13,t16] H K') fun t17=>
 zad H (fun K'=>zaB 1 [(.int .i64 0)] 2 [(0,t10),(1,t17)] (K' · H)) fun t18=>
 zaE H (fun H K'=>ACalls tP zpO [t18] H K') fun t19=>
 zad H (fun K'=>K' t19 H) fun t5=>
 zac .neq false t5 (.int .i64 0) fun t21=>
 zag t21
 (K t5 H)
 (zaf 1 t2 fun t23=>
 zae false 1 t23 H fun t24=>
 zaf 1 t3 fun t25=>
 zae false 1 t25 H fun t26=>
 ACalls tP zjD [t24,t26,(.fn zgo [])] H fun t27 H=>
 K t27 H)
theorem zP8 {t0 t1:AV} {H:zaa} {K:Kt} (h:HSc H→zBM t0 t1 H K):ACalls tP zgo [t0,t1] H K:=
 zan (M:=zP6) Tryz.func51 (c:=zP7) (by kernel_rfl) (fun hs=>Eq.mpr (by kernel_rfl) (h hs))
def zJT (_:Nat):List Bool:=[]
noncomputable def zJU:Code:=Tryz.f147.body.getD .skip
def zrG (t0 t1:AV) (H:zaa) (K:Kt):Prop:=
 zao t0 H fun t2 H=>
 zao t1 H fun t3 H=>
 zaf 0 t2 fun t5=>
 zae false 1 t5 H fun t6=>
 zaf 0 t3 fun t7=>
 zae false 1 t7 H fun t8=>
 zac .neq false t6 t8 fun t9=>
 zag t9
 (zaf 0 t2 fun t10=>
 zae false 1 t10 H fun t11=>
 zaf 0 t3 fun t12=>
 zae false 1 t12 H fun t13=>
 zac .lss false t11 t13 fun t14=>
 ACalls tP zjr [t14] H fun t15 H=>
 K t15 H)
 (zaf 1 t2 fun t16=>
 zae false 1 t16 H fun t17=>
 zaf 1 t3 fun t18=>
 zae false 1 t18 H fun t19=>
 ACalls tP zps [t17,t19] H fun t20 H=>
 K t20 H)
theorem zJV {t0 t1:AV} {H:zaa} {K:Kt} (h:HSc H→zrG t0 t1 H K):ACalls tP zgi [t0,t1] H K:=
 zan (M:=zJT) Tryz.func147 (c:=zJU) (by kernel_rfl) (fun hs=>Eq.mpr (by kernel_rfl) (h hs))
def zlY:Nat→List Bool
 | 4=>rl false [0,2,17,2,15]
 | _=>[]
noncomputable def zsv:Code:=Tryz.f185.body.getD .skip
noncomputable def zMJ:List ResultVar:=Tryz.f185.results.toList
def zlZ (t0 t1 t19 t20:AV):List AV:=t0::t1::ux 17 (t19::t20::ux 15 [])
def zMH:List Bool:=zlY 4
noncomputable def zMF:Code:=zap [1,1,0,1,0,0] zsv
def zME (K:Kt):AExit→List AV→zaa→Prop:=zaq tP zlY [1,1,0,1,0] zsv (zaA tP zMJ K)
def zAx (t0 t1 t19 t20:AV) (H:zaa) (K:Kt):Prop:=ALoop tP zMF (zME K) (zlZ t0 t1 t19 t20) H
def zsu (t0 t1 t19 t20:AV) (H:zaa) (K:Kt) (Kb4:Lt):Prop:=
 zac .lss false t20 t19 fun t21=>
 zag t21
 (zad H (fun K'=>K' t0 H) fun t23=>
 zad H (fun K'=>K' t20 H) fun t24=>
 zad H (fun K'=>zai 2 t23 t24 (K' · H)) fun t25=>
 zad H (fun K'=>zal true 2 t25 H (K' · H)) fun t26=>
 zad H (fun K'=>K' t1 H) fun t27=>
 zad H (fun K'=>K' t20 H) fun t28=>
 zad H (fun K'=>zai 2 t27 t28 (K' · H)) fun t29=>
 zad H (fun K'=>zal true 2 t29 H (K' · H)) fun t30=>
 zaE H (fun H K'=>ACalls tP zgi [t26,t30] H K') fun t31=>
 zad H (fun K'=>K' t31 H) fun t6=>
 zac .neq false t6 (.int .i64 0) fun t33=>
 zag t33
 (K t6 H)
 (zac .add false t20 (.int .i64 1) fun t35=>
 Kb4 (zlZ t0 t1 t19 t35) H))
 (K (.int .i64 0) H)
def zst (t0 t1:AV) (H:zaa) (K:Kt):Prop:=
 zah 1 t0 fun t8=>
 zah 1 t1 fun t10=>
 zac .neq false t8 t10 fun t11=>
 zag t11
 (zah 1 t0 fun t13=>
 zah 1 t1 fun t15=>
 zac .lss false t13 t15 fun t16=>
 ACalls tP zjr [t16] H fun t17 H=>
 K t17 H)
 (zah 1 t0 fun t19=>
 zAx t0 t1 t19 (.int .i64 0) H K)
theorem zMG {t0 t1 t19 t20:AV} {H:zaa} {K:Kt} (Inv:Nat→AV→zaa→Prop) (n:Nat) (h0:HSc H→Inv n t20 H)
  (round:Rd1 (fun t20=>zlZ t0 t1 t19 t20) (fun t20=>fun H Kb4=>zsu t0 t1 t19 t20 H K Kb4) H Inv):zAx t0 t1 t19 t20 H K:=
 lp1 (M:=zlY) zMH t20 (by kernel_rfl) Inv n h0 round
theorem zMI {t0 t1:AV} {H:zaa} {K:Kt} (h:HSc H→zst t0 t1 H K):ACalls tP zps [t0,t1] H K:=
 zan (M:=zlY) Tryz.func185 (c:=zsv) (by kernel_rfl) (fun hs=>Eq.mpr (by kernel_rfl) (h hs))
def zMB (_:Nat):List Bool:=[]
noncomputable def zMC:Code:=Tryz.f184.body.getD .skip
def zAw (t0:AV) (H:zaa) (K:Kt):Prop:=
 zag t0
 (K (.int .i64 (-1)) H)
 (K (.int .i64 1) H)
theorem zMD {t0:AV} {H:zaa} {K:Kt} (h:HSc H→zAw t0 H K):ACalls tP zjr [t0] H K:=
 zan (M:=zMB) Tryz.func184 (c:=zMC) (by kernel_rfl) (fun hs=>Eq.mpr (by kernel_rfl) (h hs))
def zmJ:Nat→List Bool
 | 2=>rl false [0,3,8,3,25]
 | _=>[]
noncomputable def ztq:Code:=Tryz.f50.body.getD .skip
noncomputable def zP5:List ResultVar:=Tryz.f50.results.toList
def zmK (t0 t1 t2 t11 t12 t13:AV):List AV:=t0::t1::t2::ux 8 (t11::t12::t13::ux 25 [])
def zP3:List Bool:=zmJ 2
noncomputable def zP1:Code:=zap [1,0,1,0,0] ztq
def zP0 (K:Kt):AExit→List AV→zaa→Prop:=zaq tP zmJ [1,0,1,0] ztq (zaA tP zP5 K)
def zBL (t0 t1 t2 t11 t12 t13:AV) (H:zaa) (K:Kt):Prop:=ALoop tP zP1 (zP0 K) (zmK t0 t1 t2 t11 t12 t13) H
def ztp (t0 t1 t2 t11 t12 t13:AV) (H:zaa) (K:Kt) (Kb2:Lt):Prop:=
 zac .lss false t13 t12 fun t14=>
 zag t14
 (zai 2 t11 t13 fun t16=>
 zae true 2 t16 H fun t17=>
 zaw [(.int .i64 0),.snil] H fun t8 H=>
 zam 2 t8 t17 H fun H=>
 zah 1 t1 fun t20=>
 zac .geq false t13 t20 fun t21=>
 zag t21
 (K (.int .i64 1) H)
 (zai 2 t1 t13 fun t24=>
 zae true 2 t24 H fun t25=>
 zaw [(.int .i64 0),.snil] H fun t9 H=>
 zam 2 t9 t25 H fun H=>
 zae true 2 t8 H fun t27=>
 zae true 2 t9 H fun t28=>
 aCallV tP t2 [t27,t28] H fun t29 H=>
 zac .neq false t29 (.int .i64 0) fun t31=>
 zag t31
 (K t29 H)
 (zac .add false t13 (.int .i64 1) fun t33=>
 Kb2 (zmK t0 t1 t2 t11 t12 t33) H)))
 (zah 1 t0 fun t35=>
 zah 1 t1 fun t37=>
 zac .lss false t35 t37 fun t38=>
 zag t38
 (K (.int .i64 (-1)) H)
 (K (.int .i64 0) H))
def zBK (t0 t1 t2:AV) (H:zaa) (K:Kt):Prop:=
 zah 1 t0 fun t12=>
 zBL t0 t1 t2 t0 t12 (.int .i64 0) H K
theorem zP2 {t0 t1 t2 t11 t12 t13:AV} {H:zaa} {K:Kt} (Inv:Nat→AV→zaa→Prop) (n:Nat) (h0:HSc H→Inv n t13 H)
  (round:Rd1 (fun t13=>zmK t0 t1 t2 t11 t12 t13) (fun t13=>fun H Kb2=>ztp t0 t1 t2 t11 t12 t13 H K Kb2) H Inv):zBL t0 t1 t2 t11 t12 t13 H K:=
 lp1 (M:=zmJ) zP3 t13 (by kernel_rfl) Inv n h0 round
theorem zP4 {t0 t1 t2:AV} {H:zaa} {K:Kt} (h:HSc H→zBK t0 t1 t2 H K):ACalls tP zjD [t0,t1,t2] H K:=
 zan (M:=zmJ) Tryz.func50 (c:=ztq) (by kernel_rfl) (fun hs=>Eq.mpr (by kernel_rfl) (h hs))
def zmA:Nat→List Bool
 | 7=>rl false [6,2,22,3,16]
 | _=>[]
noncomputable def ztj:Code:=Tryz.f46.body.getD .skip
noncomputable def zPP:List ResultVar:=Tryz.f46.results.toList
def zmC (t6 t7 t30 t31 t32:AV):List AV:=ux 6 (t6::t7::ux 22 (t30::t31::t32::ux 16 []))
def zPN:List Bool:=zmA 7
noncomputable def zPL:Code:=zap [1,1,1,0,1,0,0] ztj
def zPK (K:Kt):AExit→List AV→zaa→Prop:=zaq tP zmA [1,1,1,0,1,0] ztj (zaA tP zPP K)
def zmE (t6 t7 t30 t31 t32:AV) (H:zaa) (K:Kt):Prop:=ALoop tP zPL (zPK K) (zmC t6 t7 t30 t31 t32) H
def zBD (t6 t7 t30 t31 t32:AV) (H:zaa) (K:Kt) (Kb7:Lt):Prop:=
 zac .add false t32 (.int .i64 1) fun t46=>
 Kb7 (zmC t6 t7 t30 t31 t46) H
def zmD (t6 t7 t30 t31 t32:AV) (H:zaa) (K:Kt) (Kb7:Lt):Prop:=
 zBD t6 t7 t30 t31 t32 H K Kb7
def zmB (t6 t7 t30 t31 t32:AV) (H:zaa) (K:Kt) (Kb7:Lt):Prop:=
 zac .lss false t32 t31 fun t33=>
 zag t33
 (zai 1 t30 t32 fun t35=>
 zae false 1 t35 H fun t36=>
 zag t36
 (zaB 1 [(.int .i64 0)] 1 [(0,t32)] fun t40=>
 zax zbt 1 8 t7 t40 H fun t41 H=>
 zmD t6 t41 t30 t31 t32 H K Kb7)
 (zaB 1 [(.int .i64 0)] 1 [(0,t32)] fun t44=>
 zax zbt 1 8 t6 t44 H fun t45 H=>
 zmD t45 t7 t30 t31 t32 H K Kb7))
 (zaI [t6,t7,(.bool true)] (K · H))
def zBC (t0 t1 t2:AV) (H:zaa) (K:Kt):Prop:=
 zao t1 H fun t4 H=>
 zae true 3 t4 H fun t14=>
 ACalls tP zhO [t0,t14] H fun t15 H=>
 aUn .not t15 fun t16=>
 zag t16
 (zaI [.snil,.snil,(.bool false)] (K · H))
 (zae true 3 t4 H fun t19=>
 ACalls tP zgn [t0,t19,t2] H fun t21 H=>
 zay t21 0 fun t22=>
 zay t21 1 fun t23=>
 aUn .not t23 fun t25=>
 zag t25
 (zaI [.snil,.snil,(.bool false)] (K · H))
 (zaf 1 t4 fun t27=>
 zae false 1 t27 H fun t28=>
 ACalls tP zek [t0,t28,t2] H fun t30 H=>
 zah 1 t30 fun t31=>
 zmE .snil .snil t30 t31 (.int .i64 0) H K))
theorem zPM {t6 t7 t30 t31 t32:AV} {H:zaa} {K:Kt} (Inv:Nat→AV→AV→AV→zaa→Prop) (n:Nat) (h0:HSc H→Inv n t6 t7 t32 H)
  (round:Rd3 (fun t6=>fun t7=>fun t32=>zmC t6 t7 t30 t31 t32) (fun t6=>fun t7=>fun t32=>fun H Kb7=>zmB t6 t7 t30 t31 t32 H K Kb7) H Inv):zmE t6 t7 t30 t31 t32 H K:=
 lp3 (M:=zmA) zPN t6 t7 t32 (by kernel_rfl) Inv n h0 round
theorem zPO {t0 t1 t2:AV} {H:zaa} {K:Kt} (h:HSc H→zBC t0 t1 t2 H K):ACalls tP zpI [t0,t1,t2] H K:=
 zan (M:=zmA) Tryz.func46 (c:=ztj) (by kernel_rfl) (fun hs=>Eq.mpr (by kernel_rfl) (h hs))
def zOz (_:Nat):List Bool:=[]
noncomputable def zOA:Code:=Tryz.f31.body.getD .skip
def zBf (t0 t1:AV) (H:zaa) (K:Kt):Prop:=
 zao t1 H fun t3 H=>
 zaw [(.int .i64 0),.snil] H fun t4 H=>
 zae true 3 t3 H fun t7=>
 ACalls tP zhO [t0,t7] H fun t8 H=>
 aUn .not t8 fun t9=>
 zag t9
 (zaz [(.int .i64 0),.snil] [(0,1),(1,1)] [] fun t10=>
 zam 2 t4 t10 H fun H=>
 zae true 2 t4 H fun r0=>
 zaI [r0,(.bool false)] (K · H))
 (zae true 3 t3 H fun t11=>
 ACalls tP zjJ [t11] H fun t12 H=>
 zam 2 t4 t12 H fun H=>
 zae true 2 t4 H fun r0=>
 zaI [r0,(.bool true)] (K · H))
theorem zOB {t0 t1:AV} {H:zaa} {K:Kt} (h:HSc H→zBf t0 t1 H K):ACalls tP zpE [t0,t1] H K:=
 zan (M:=zOz) Tryz.func31 (c:=zOA) (by kernel_rfl) (fun hs=>Eq.mpr (by kernel_rfl) (h hs))
def zTM (_:Nat):List Bool:=[]
noncomputable def zTN:Code:=Tryz.f101.body.getD .skip
def zCT (t0 t1 t2:AV) (H:zaa) (K:Kt):Prop:=
 zao t1 H fun t4 H=>
 zae true 3 t4 H fun t13=>
 ACalls tP zjl [t0,t13,t2] H fun t15 H=>
 zay t15 0 fun t16=>
 zay t15 1 fun t17=>
 zay t15 2 fun t18=>
 zaI [t16,t17] (K · H)
theorem zTO {t0 t1 t2:AV} {H:zaa} {K:Kt} (h:HSc H→zCT t0 t1 t2 H K):ACalls tP zpR [t0,t1,t2] H K:=
 zan (M:=zTM) Tryz.func101 (c:=zTN) (by kernel_rfl) (fun hs=>Eq.mpr (by kernel_rfl) (h hs))
def zPX (_:Nat):List Bool:=[]
noncomputable def zPY:Code:=Tryz.f49.body.getD .skip
def zBJ (t0 t1:AV) (H:zaa) (K:Kt):Prop:=
 ACalls tP zjD [t0,t1,(.fn zgo [])] H fun t7 H=>
 K t7 H
theorem zPZ {t0 t1:AV} {H:zaa} {K:Kt} (h:HSc H→zBJ t0 t1 H K):ACalls tP zpJ [t0,t1] H K:=
 zan (M:=zPX) Tryz.func49 (c:=zPY) (by kernel_rfl) (fun hs=>Eq.mpr (by kernel_rfl) (h hs))
def zN0 (_:Nat):List Bool:=[]
noncomputable def zN1:Code:=Tryz.f24.body.getD .skip
def zAQ (H:zaa) (K:Kt):Prop:=
 zaz [(.str []),.snil] [(0,1),(1,1)] [(0,(.str [67]))] fun t4=>
 zaB 2 [(.str []),.snil] 1 [(0,t4)] fun t5=>
 zaz [(.str []),(.int .i64 0),.snil] [(0,1),(1,1),(2,1)] [(0,(.str [68])),(2,t5)] fun t6=>
 zaB 3 [(.str []),(.int .i64 0),.snil] 1 [(0,t6)] fun t7=>
 zaz [(.int .i64 0),(.int .i64 0),.snil] [(0,1),(1,1),(2,1)] [(0,(.int .i64 5))] fun t10=>
 zaz [(.int .i64 0),.snil] [(0,1),(1,1)] [] fun t11=>
 zaB 2 [(.int .i64 0),.snil] 1 [(0,t11)] fun t12=>
 zaz [(.int .i64 0),.snil] [(0,1),(1,1)] [(1,t12)] fun t13=>
 ACalls tP zhB [t7,t10,(.int .i64 0),t13] H fun t14 H=>
 zay t14 0 fun t15=>
 zay t14 1 fun t16=>
 zac .eql false t16 (.int .i64 0) fun t18=>
 zab t18 true H (fun K'=>K' t15 H) fun t20 H=>
 zab t18 true H (fun K'=>zah 1 t20 (K' · H)) fun t21 H=>
 zab t18 true H (fun K'=>zac .eql false t21 (.int .i64 1) (K' · H)) fun t22 H=>
 zaj t18 t22 (.bool false) fun t23=>
 zab t23 true H (fun K'=>K' t15 H) fun t25 H=>
 zab t23 true H (fun K'=>zai 1 t25 (.int .i64 0) (K' · H)) fun t26 H=>
 zab t23 true H (fun K'=>zae false 1 t26 H (K' · H)) fun t27 H=>
 zab t23 true H (fun K'=>zah 1 t27 (K' · H)) fun t28 H=>
 zab t23 true H (fun K'=>zac .eql false t28 (.int .i64 0) (K' · H)) fun t29 H=>
 zaj t23 t29 (.bool false) fun t30=>
 K t30 H
theorem zN2 {H:zaa} {K:Kt} (h:HSc H→zAQ H K):ACalls tP zjw [] H K:=
 zan (M:=zN0) Tryz.func24 (c:=zN1) (by kernel_rfl) (fun hs=>Eq.mpr (by kernel_rfl) (h hs))
def zTQ (_:Nat):List Bool:=[]
noncomputable def zTR:Code:=Tryz.f11.body.getD .skip
def zq9 (t0 t1:AV) (H:zaa) (K:Kt):Prop:=
 zao t1 H fun t3 H=>
 ACalls tP zpC [t0] H fun t6 H=>
 zab t6 true H (fun K'=>zae true 3 t3 H (K' · H)) fun t8 H=>
 zab t6 true H (fun K'=>ACalls tP zpD [t8] H K') fun t9 H=>
 zaj t6 t9 (.bool false) fun t10=>
 K t10 H
theorem zTS {t0 t1:AV} {H:zaa} {K:Kt} (h:HSc H→zq9 t0 t1 H K):ACalls tP zpN [t0,t1] H K:=
 zan (M:=zTQ) Tryz.func11 (c:=zTR) (by kernel_rfl) (fun hs=>Eq.mpr (by kernel_rfl) (h hs))
end Go.Proofs.YtjkkonpjecoieaaGreat
namespace Go.Proofs.YtjkkonpjecoieaaGreat
open Go Go.Abs
set_option maxRecDepth 8000
theorem zb2 (v:IT):∃ a b,v.cs=[a,b]∧a.known=true∧b.known=true:=by
 obtain⟨n,ks⟩:=v;exact⟨_,_,rfl,rfl,rfl⟩
theorem zor {v:IT} {k:AV→Prop}:zaB 2 [.int .i64 0,.snil] 1 [(0,.agg v.cs)] k=k (.sl [v.cs] .full):=by
 cases v
 exact propext Iff.rfl
theorem zv5 {l:List IT} {i:Nat} (h:i<l.length):IT.css (l.take (i+1))=IT.css (l.take i)++[(l[i]).cs]:=by
 rw[IT.css_map,IT.css_map,List.take_succ_eq_append_getElem h,List.map_append]
 rfl
theorem zQf:∀ (m:Nat) (v:IT),v.nodes≤m→v.nodes≤1000000→∀ (H:zaa) (K:Kt),K (.agg v.cs) H→ACalls tP zjE [.agg v.cs] H K:=by
 intro m
 induction m with
 | zero=>intro v h;have:=v.nodes_pos;omega
 | succ m ih=>
  intro v hm hb H K hK
  obtain⟨n,ks⟩:=v
  have hll:=IT.len_le ks
  have hnn:(IT.mk n ks).nodes=IT.nodesL ks+1:=by simp[IT.nodes]
  refine ACalls.out (zQd fun hs=>?_)
  simp[zBN,IT.cs,zaz,zaV,AV.known,Nat.add_assoc]
  unfold zmN
  refine ALoop.ownC (H.length+2) 1 zbl 2 (cs:=[.int .i64 n,.snil]) (by simp) rfl ?_
  have hset:(H++[AB.cells [.int .i64 n,.sl (IT.css ks) .none],.cells [.int .i64 0,.snil],.cells [.int .i64 n,.snil]]).set (H.length+2) (.cells ([AV.int .i64 n,.snil].set 1 (.sl [] (.own (H++[AB.cells [.int .i64 n,.sl (IT.css ks) .none],.cells [.int .i64 0,.snil],.cells [.int .i64 n,.snil]]).length))))++[.perm zbl 2 0] =
    H++[.cells [.int .i64 n,.sl (IT.css ks) .none],.cells [.int .i64 0,.snil],.cells [.int .i64 n,.sl [] (.own (H.length+3))],.perm zbl 2 0]:=by simp[List.set_append_right]
  rw[hset]
  show zmN (.ptr (H.length+1) 0) (.ptr (H.length+2) 0) (.sl (IT.css ks) .none) (.int .i64 ks.length) (.int .i64 0) _ (Out H.length K)
  have hsc:∀ i,HSc (H++[.cells [.int .i64 n,.sl (IT.css ks) .none],.cells [.int .i64 0,.snil],.cells [.int .i64 n,.sl (IT.css (ks.take i)) (.own (H.length+3))],.perm zbl 2 i]):=fun i=>hs.append (by simp[AB.sc,AV.scA,AV.scB])
  refine zQb (Inv:=fun q t12 H'=>∃ i:Nat,i≤ks.length∧q=ks.length-i∧t12=.int .i64 i ∧
   H'=H++[.cells [.int .i64 n,.sl (IT.css ks) .none],.cells [.int .i64 0,.snil],.cells [.int .i64 n,.sl (IT.css (ks.take i)) (.own (H.length+3))],.perm zbl 2 i]) ks.length ?_ ?_
  ·intro _;exact⟨0,by omega,by omega,rfl,by simp[IT.css]⟩
  ·rintro q t12 H' ⟨i,hi,rfl,rfl,rfl⟩ hsc' hlen hsF Kb hKb
   by_cases hlt:i<ks.length
   ·obtain⟨x,y,hvx,hx,hy⟩:=zb2 ks[i]
    have hkn:=IT.kid_lt (n:=n) hlt
    simp[ztr,hlt,hvx,hx,hy]
    rw[←hvx]
    refine zaH (.agg (ks[i]).cs) (fun J=>ih ks[i] (by omega) (by omega) _ _ ⟨rfl,rfl⟩) ?_
    rw[zor]
    simp[zax,zaY,zaM,Nat.min_eq_left hi,AV.known,List.set_append_right]
    refine⟨⟨by omega,by omega⟩,?_⟩
    rw[zau (by omega) (by omega)]
    rw[←zv5 hlt]
    refine hKb _ _ ⟨ks.length-(i+1),by omega,Back.at (J:=[.cells (ks[i]).cs]) (H2:=H++[.cells [.int .i64 n,.sl (IT.css ks) .none],.cells [.int .i64 0,.snil],.cells [.int .i64 n,.sl (IT.css (ks.take (i+1))) (.own (H.length+3))],.perm zbl 2 (i+1)]) (by simp) (by simp) (hsc _) ?_ ⟨_,rfl,i+1,by omega,rfl,by simp,rfl⟩⟩
    simp[zmM,AV.sc,AV.scV,AV.scA,AV.scB]
   ·obtain rfl:i=ks.length:=by omega
    rw[List.take_length]at *
    simp[ztr,AV.known,List.set_append_right]
    exact Out.at rfl (Nat.le_refl _) hs (WkV.agg (ds:=[.int .i64 n,.sl (IT.css ks) .none]) ⟨.refl _,.sl _ _,trivial⟩) rfl (by simp[AV.scV,AV.scA,AV.scB]) (by simpa[IT.cs]using hK)
theorem zJ2:∀ (m:Nat) (v:IT),v.nodes≤m→v.nodes≤1000000→∀ (H:zaa) (K:Kt),K (.agg v.cs) H→ACalls tP zhz [.agg v.cs] H K:=by
 intro m
 induction m with
 | zero=>intro v h;have:=v.nodes_pos;omega
 | succ m ih=>
  intro v hm hb H K hK
  obtain⟨n,ks⟩:=v
  have hll:=IT.len_le ks
  have hnn:(IT.mk n ks).nodes=IT.nodesL ks+1:=by simp[IT.nodes]
  refine ACalls.out (zJ0 fun hs=>?_)
  simp[zzp,IT.cs,zaz,zaV,AV.known,Nat.add_assoc]
  unfold zln
  refine ALoop.ownC (H.length+2) 1 zbl 2 (cs:=[.int .i64 n,.snil]) (by simp) rfl ?_
  have hset:(H++[AB.cells [.int .i64 n,.sl (IT.css ks) .none],.cells [.int .i64 0,.snil],.cells [.int .i64 n,.snil]]).set (H.length+2) (.cells ([AV.int .i64 n,.snil].set 1 (.sl [] (.own (H++[AB.cells [.int .i64 n,.sl (IT.css ks) .none],.cells [.int .i64 0,.snil],.cells [.int .i64 n,.snil]]).length))))++[.perm zbl 2 0] =
    H++[.cells [.int .i64 n,.sl (IT.css ks) .none],.cells [.int .i64 0,.snil],.cells [.int .i64 n,.sl [] (.own (H.length+3))],.perm zbl 2 0]:=by simp[List.set_append_right]
  rw[hset]
  show zln (.ptr (H.length+1) 0) (.ptr (H.length+2) 0) (.sl (IT.css ks) .none) (.int .i64 ks.length) (.int .i64 0) _ (Out H.length K)
  have hsc:∀ i,HSc (H++[.cells [.int .i64 n,.sl (IT.css ks) .none],.cells [.int .i64 0,.snil],.cells [.int .i64 n,.sl (IT.css (ks.take i)) (.own (H.length+3))],.perm zbl 2 i]):=fun i=>hs.append (by simp[AB.sc,AV.scA,AV.scB])
  refine zJY (Inv:=fun q t12 H'=>∃ i:Nat,i≤ks.length∧q=ks.length-i∧t12=.int .i64 i ∧
   H'=H++[.cells [.int .i64 n,.sl (IT.css ks) .none],.cells [.int .i64 0,.snil],.cells [.int .i64 n,.sl (IT.css (ks.take i)) (.own (H.length+3))],.perm zbl 2 i]) ks.length ?_ ?_
  ·intro _;exact⟨0,by omega,by omega,rfl,by simp[IT.css]⟩
  ·rintro q t12 H' ⟨i,hi,rfl,rfl,rfl⟩ hsc' hlen hsF Kb hKb
   by_cases hlt:i<ks.length
   ·obtain⟨x,y,hvx,hx,hy⟩:=zb2 ks[i]
    have hkn:=IT.kid_lt (n:=n) hlt
    simp[zrH,hlt,hvx,hx,hy]
    rw[←hvx]
    refine zaH (.agg (ks[i]).cs) (fun J=>ih ks[i] (by omega) (by omega) _ _ ⟨rfl,rfl⟩) ?_
    rw[zor]
    simp[zax,zaY,zaM,Nat.min_eq_left hi,AV.known,List.set_append_right]
    refine⟨⟨by omega,by omega⟩,?_⟩
    rw[zau (by omega) (by omega)]
    rw[←zv5 hlt]
    refine hKb _ _ ⟨ks.length-(i+1),by omega,Back.at (J:=[.cells (ks[i]).cs]) (H2:=H++[.cells [.int .i64 n,.sl (IT.css ks) .none],.cells [.int .i64 0,.snil],.cells [.int .i64 n,.sl (IT.css (ks.take (i+1))) (.own (H.length+3))],.perm zbl 2 (i+1)]) (by simp) (by simp) (hsc _) ?_ ⟨_,rfl,i+1,by omega,rfl,by simp,rfl⟩⟩
    simp[zlm,AV.sc,AV.scV,AV.scA,AV.scB]
   ·obtain rfl:i=ks.length:=by omega
    rw[List.take_length]at *
    simp[zrH,AV.known,List.set_append_right]
    exact Out.at rfl (Nat.le_refl _) hs (WkV.agg (ds:=[.int .i64 n,.sl (IT.css ks) .none]) ⟨.refl _,.sl _ _,trivial⟩) rfl (by simp[AV.scV,AV.scA,AV.scB]) (by simpa[IT.cs]using hK)
mutual
def zbn:VT→IT
 | .mk k _ ks=>.mk 0 (if k=6 then zbN ks else [])
def zbN:List VT→List IT
 | []=>[]
 | t::ts=>zbn t::zbN ts
end
theorem zie:∀ ts:List VT,zbN ts=ts.map zbn
 | []=>by simp[zbN]
 | t::ts=>by simp[zbN,zie ts]
theorem zRY:∀ (m:Nat) (v:VT),v.nodes≤m→v.nodes≤1000000→∀ (H:zaa) (K:Kt),K (.agg (zbn v).cs) H→ACalls tP zjJ [.agg v.cs] H K:=by
 intro m
 induction m with
 | zero=>intro v h;have:=v.nodes_pos;omega
 | succ m ih=>
  intro v hm hb H K hK
  obtain⟨k,n,ks⟩:=v
  have hll:=VT.len_le ks
  have hnn:(VT.mk k n ks).nodes=VT.nodesL ks+1:=by simp[VT.nodes]
  refine ACalls.out (zRW fun hs=>?_)
  simp[zCn,VT.cs,zaz,zaV,AV.known,Nat.add_assoc]
  by_cases hk6:k=6
  ·have hK:K (.agg [.int .i64 0,.sl (IT.css (zbN ks)) .none]) H:=by simpa[zbn,hk6,IT.cs]using hK
   simp[hk6]
   subst hk6
   unfold znw
   refine ALoop.ownC (H.length+2) 1 zbl 2 (cs:=[.int .i64 0,.snil]) (by simp) rfl ?_
   have hset:(H++[AB.cells [.int .i64 6,.int .i64 n,.sl (VT.css ks) .none],.cells [.int .i64 0,.snil],.cells [.int .i64 0,.snil]]).set (H.length+2) (.cells ([AV.int .i64 0,.snil].set 1 (.sl [] (.own (H++[AB.cells [.int .i64 6,.int .i64 n,.sl (VT.css ks) .none],.cells [.int .i64 0,.snil],.cells [.int .i64 0,.snil]]).length))))++[.perm zbl 2 0] =
     H++[.cells [.int .i64 6,.int .i64 n,.sl (VT.css ks) .none],.cells [.int .i64 0,.snil],.cells [.int .i64 0,.sl [] (.own (H.length+3))],.perm zbl 2 0]:=by simp[List.set_append_right]
   rw[hset]
   show znw (.ptr (H.length+1) 0) (.ptr (H.length+2) 0) (.sl (VT.css ks) .none) (.int .i64 ks.length) (.int .i64 0) _ (Out H.length K)
   have hsc:∀ i,HSc (H++[.cells [.int .i64 6,.int .i64 n,.sl (VT.css ks) .none],.cells [.int .i64 0,.snil],.cells [.int .i64 0,.sl (IT.css (zbN (ks.take i))) (.own (H.length+3))],.perm zbl 2 i]):=fun i=>hs.append (by simp[AB.sc,AV.scA,AV.scB])
   refine zRU (Inv:=fun q t12 H'=>∃ i:Nat,i≤ks.length∧q=ks.length-i∧t12=.int .i64 i ∧
    H'=H++[.cells [.int .i64 6,.int .i64 n,.sl (VT.css ks) .none],.cells [.int .i64 0,.snil],.cells [.int .i64 0,.sl (IT.css (zbN (ks.take i))) (.own (H.length+3))],.perm zbl 2 i]) ks.length ?_ ?_
   ·intro _;exact⟨0,by omega,by omega,rfl,by simp[zbN,IT.css]⟩
   ·rintro q t12 H' ⟨i,hi,rfl,rfl,rfl⟩ hsc' hlen hsF Kb hKb
    by_cases hlt:i<ks.length
    ·obtain⟨x,y,z,hvx,hx,hy,hz⟩:=zaO ks[i]
     have hkn:=VT.kid_lt (k:=6) (n:=n) hlt
     have hzl:(zbN (ks.take i)).length=i:=by simp[zie,Nat.min_eq_left hi]
     simp[zt2,hlt,hvx,hx,hy,hz]
     rw[←hvx]
     refine zaH (.agg (zbn ks[i]).cs) (fun J=>ih ks[i] (by omega) (by omega) _ _ ⟨rfl,rfl⟩) ?_
     rw[zor]
     simp[zax,zaY,zaM,hzl,AV.known,List.set_append_right]
     refine⟨⟨by omega,by omega⟩,?_⟩
     rw[zau (by omega) (by omega)]
     have hst:IT.css (zbN (ks.take i))++[(zbn ks[i]).cs]=IT.css (zbN (ks.take (i+1))):=by
      rw[zie,zie,List.take_succ_eq_append_getElem hlt,IT.css_map,IT.css_map,List.map_append,List.map_append]
      rfl
     rw[hst]
     refine hKb _ _ ⟨ks.length-(i+1),by omega,Back.at (J:=[.cells (ks[i]).cs]) (H2:=H++[.cells [.int .i64 6,.int .i64 n,.sl (VT.css ks) .none],.cells [.int .i64 0,.snil],.cells [.int .i64 0,.sl (IT.css (zbN (ks.take (i+1)))) (.own (H.length+3))],.perm zbl 2 (i+1)]) (by simp) (by simp) (hsc _) ?_ ⟨_,rfl,i+1,by omega,rfl,by simp,rfl⟩⟩
     simp[znu,AV.sc,AV.scV,AV.scA,AV.scB]
    ·obtain rfl:i=ks.length:=by omega
     rw[List.take_length]at *
     simp[zt2,znv,AV.known,List.set_append_right]
     exact Out.at rfl (Nat.le_refl _) hs (WkV.agg (ds:=[.int .i64 0,.sl (IT.css (zbN ks)) .none]) ⟨.refl _,.sl _ _,trivial⟩) rfl (by simp[AV.scV,AV.scA,AV.scB]) hK
  ·have hK:K (.agg [.int .i64 0,.sl [] .none]) H:=by simpa[zbn,hk6,IT.cs,IT.css]using hK
   have hb:(k == 6)=false:=by simpa using hk6
   simp[hb,znv,AV.known,List.set_append_right]
   exact Out.at rfl (Nat.le_refl _) hs (WkV.agg (ds:=[.int .i64 0,.sl [] .none]) ⟨.refl _,.snil,trivial⟩) rfl (by simp[AV.scV,AV.scA,AV.scB]) hK
end Go.Proofs.YtjkkonpjecoieaaGreat

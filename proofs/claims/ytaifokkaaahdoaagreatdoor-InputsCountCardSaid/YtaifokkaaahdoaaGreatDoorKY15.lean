import Derived.Test.YtaifokkaaahdoaaGreatDoorKY11
import Derived.Test.YtaifokkaaahdoaaGreatDoorAbsU
import Derived.Test.YtaifokkaaahdoaaGreatDoorKNum
import Derived.Test.YtaifokkaaahdoaaGreatDoorProg
import Derived.KernelRfl
import Derived.Test.YtaifokkaaahdoaaGreatDoorAbsQ1
set_option linter.unusedSimpArgs false
set_option linter.unusedVariables false
set_option maxRecDepth 8000
namespace Go.Proofs.YtaifokkaaahdoaaGreatDoor
open Go Go.Abs
def zuw(i:Nat):VT→Bool
 |.mk k n ks=>k == 4 && n == i && ks.length == 0
def zgf:List VT→Nat→Bool
 |[],_=>true
 |x::l,i=>zuw i x && zgf l (i+1)
def zc7(d vars:Int):VT→Bool
 |.mk k n ks=>k == 5 && n == d && (ks.length:Int) == vars && zgf ks 0
mutual
def zcn(d:Int):VT→Bool
 |.mk k n ks=>(k == 5 && n == d) || zeT d ks
def zeT(d:Int):List VT→Bool
 |[]=>false
 |t::ts=>zcn d t || zeT d ts
end
theorem zB4:zc5 tP zjs=true:=by kernel_rfl
theorem zuV(d:Int):∀ l:List VT,zeT d l=l.any (zcn d)
 |[]=>rfl
 |t::ts=>by simp[zeT,zuV d ts]
theorem zJ7(d:Int):∀(m:Nat) (v:VT),v.nodes≤m→v.nodes≤1000000→∀(H:zaa) (K:AV→zaa→Prop),K (.bool (zcn d v)) H→ACalls tP zjr [.agg v.cs,.int .i64 d] H K:=by
 intro m;induction m with
 |zero=>intro v h;have:=v.nodes_pos;omega
 |succ m ih=>
  intro v hv hb H K hK;obtain⟨k,n,ks⟩:=v;have hnl:VT.nodesL ks+1≤1000000:=by simpa[VT.nodes]using hb
  have hll:=VT.len_le ks;refine ACalls.out (zJ6 λhs=>?_);have hO:∀ J,Out H.length K (.bool ((k == 5 && n == d) || ks.any (zcn d))) (H++J):=λJ=>Out.bool rfl (Nat.le_refl _) hs (by simpa[zcn,zuV]using hK);have go:(k == 5 && n == d)=false→∀ KK:AV→zaa→Prop,(∀ b,Out H.length K (.bool b) (H++[.cells [.int .i64 k,.int .i64 n,.sl (VT.css ks) .none],.cells [.int .i64 d]])→KK (.bool b) (H++[.cells [.int .i64 k,.int .i64 n,.sl (VT.css ks) .none],.cells [.int .i64 d]])) →
    ACalls tP zdR [.sl (VT.css ks) .none,.fn zjs [.ptr (H.length+1) 0]] (H++[.cells [.int .i64 k,.int .i64 n,.sl (VT.css ks) .none],.cells [.int .i64 d]]) KK:=by
   intro hno KK hKK;rw[hno,Bool.false_or]at hO;refine ziN ks (by omega) _ _ _ (by simp[AV.sc,AV.scV,AV.scA,AV.scB]) (λi H'=>(ks.drop i).any (zcn d)=ks.any (zcn d)∧H'=H++[.cells [.int .i64 k,.int .i64 n,.sl (VT.css ks) .none],.cells [.int .i64 d]]) ⟨by simp,rfl⟩ ?_ ?_
   ·rintro i hi H' hle ⟨ho,rfl⟩;have hki:=VT.kid_lt (k:=k) (n:=n) hi;rw[List.drop_eq_getElem_cons hi,List.any_cons]at ho;simp only[aCallV,zB4,List.singleton_append];refine ACalls.out (zKv λhs1=>?_);obtain⟨x1,x2,x3,hvx,hx1,hx2,hx3⟩:=zaO ks[i];simp[zyL,hvx];rw[←hvx];refine ih ks[i] (by omega) (by omega) _ _ ?_;refine Out.bool (J:=[_]) (H2:=H++[.cells [.int .i64 k,.int .i64 n,.sl (VT.css ks) .none],.cells [.int .i64 d]]) (by simp;rfl) (by simp) hs1 ?_;cases hb:zcn d ks[i] with
    |false=>rw[hb,Bool.false_or]at ho;exact .inl ⟨rfl,ho,rfl⟩
    |true=>rw[hb,Bool.true_or]at ho;rw[←ho]at hO;exact .inr ⟨rfl,hKK _ (hO _)⟩
   ·rintro H' ⟨ho,rfl⟩;rw[List.drop_length,List.any_nil]at ho;rw[←ho]at hO;exact hKK _ (hO _)
  simp only[VT.cs,zyA];cases h5:(k == 5) with
  |false=>simp[h5,AV.isB];refine go (by rw[h5];rfl) _ λb hb=>?_;simpa using hb
  |true=>
   cases hn:(n == d) with
   |false=>simp[h5,hn,AV.isB];refine go (by rw[hn];simp) _ λb hb=>?_;simpa using hb
   |true=>rw[h5,hn]at hO;simp[h5,hn];exact hO _
def zaJ(l:List Bool):List AV:=l.map AV.bool
@[simp] theorem zTt(l:List Bool):(zaJ l).length=l.length:=by simp[zaJ]
theorem ztk(n:Nat):(List.replicate n [AV.bool false]).flatten=zaJ (List.replicate n false):=by
 induction n with
 |zero=>rfl
 |succ n ih=>simp[List.replicate_succ,ih,zaJ]
theorem znp{l:List Bool}{i:Nat}(h:i<l.length)(b:Bool):(zaJ l).take i++.bool b::(zaJ l).drop (i+1)=zaJ (l.set i b):=by simp[zaJ,List.set_eq_take_append_cons_drop,h]
theorem ziI(m:Nat)(l:List Bool):(zaJ l).all (AV.scA m)=true:=by simp[zaJ]
theorem zvs:∀ l:List Bool,plain (zaJ l)=some (l.map λb=>[AV.bool b]).flatten
 |[]=>rfl
 |b::l=>by have:=zvs l;simp[zaJ]at this ⊢;simp[plain,this,AV.pd]
end Go.Proofs.YtaifokkaaahdoaaGreatDoor
namespace Go.Abs
open Go
def zdk(b:UInt8):Bool:=decide (97≤(b.toNat:Int)) && decide ((b.toNat:Int)≤122)
def bUp(b:UInt8):Bool:=decide (65≤(b.toNat:Int)) && decide ((b.toNat:Int)≤90)
def zbq(b:UInt8):Bool:=decide (48≤(b.toNat:Int)) && decide ((b.toNat:Int)≤57)
def bIn(b:UInt8):Bool:=zdk b || bUp b || zbq b || b == 95
def zed(b:UInt8):Bool:=b == 9 || b == 10 || b == 13 || b == 32
def zdy:List UInt8→Int→Bool
 |[],_=>true
 | b::l,n=>let m:=n*10+((b.toNat:Int)-48)
  if m>1000000 then false else zdy l m
def ze1(r:List UInt8):Bool:=r.take 2 == [45,62] || r.take 2 == [60,61] || r.take 2 == [61,61]
def sgns:List UInt8:=[40,41,44,61,124,43,45,42,47,37,60,59,95]
def sgn(r:List UInt8):Nat:=
 if ze1 r=true then 2 else match r with
 |[]=>0
 |b::_=>if sgns.contains b=true then 1 else 0
structure Tk where
 kind:Int
 text:List UInt8
 pos:Nat
def tok(kw:List UInt8→Bool)(b:UInt8)(r:List UInt8):Except Int (Int×Nat):=
 if (zdk b || bUp b)=true then
  let n:=(r.takeWhile bIn).length+1
  if n>24 then .error 9 else .ok (if bUp b=true then 2 else if kw ((b::r).take n)=true then 4 else 1,n)
 else if zbq b=true then
  let n:=(r.takeWhile zbq).length+1
  if b == 48 && decide (n>1) then .error 2 else if zdy ((b::r).take n) 0=true then .ok (3,n) else .error 9
 else
  let n:=sgn (b::r)
  if n=0 then .error 2 else .ok (5,n)
theorem zwt{kw:List UInt8→Bool}{b:UInt8}{r:List UInt8}{k:Int}{n:Nat}(h:tok kw b r=.ok (k,n)):0<n:=by
 unfold tok at h;split at h
 ·simp only at h;split at h <;> simp at h;omega
 ·split at h
  ·simp only at h;split at h
   ·simp at h
   ·split at h <;> simp at h;omega
  ·simp only at h;split at h <;> simp at h;omega
def zbm(kw:List UInt8→Bool)(r:List UInt8)(pos:Nat):Except (Nat×Int) (List Tk):=
 match r with
 |[]=>.ok [⟨6,[],pos⟩]
 |b::r'=>
  if zed b=true then zbm kw r' (pos+1)
  else if b == 35 then zbm kw (r'.dropWhile (· != 10)) (pos+1+(r'.takeWhile (· != 10)).length)
  else match tok kw b r' with
   |.error e=>.error (pos,e)
   | .ok (k,n)=>match zbm kw (r'.drop (n-1)) (pos+n) with
    |.error e=>.error e
    |.ok l=>.ok (⟨k,(b::r').take n,pos⟩::l)
termination_by r.length
decreasing_by
 ·simp
 ·have:=(List.dropWhile_sublist (p:=(· != 10)) (l:=r')).length_le;simp;omega
 ·simp;omega
end Go.Abs
namespace Go.Proofs.YtaifokkaaahdoaaGreatDoor
open Go Go.Abs
set_option maxRecDepth 100000
def zfM:Nat→List Bool
 |5=>rl false [0,1,4,2,54]
 |9=>rl false [0,1,4,2,54]
 |_=>[]
noncomputable def zqT:Code:=Tryz.f188.body.getD .skip
noncomputable def zJV:List ResultVar:=Tryz.f188.results.toList
def zgD(t0 t5 t6:AV):List AV:=t0::ux 4 (t5::t6::ux 54 [])
def zyv:List Bool:=zfM 5
noncomputable def zqU:Code:=zat [1,0,1,1,1,1,0,0,0] zqT
def zys(K:Kt):AExit→List AV→zaa→Prop:=zau tP zfM [1,0,1,1,1,1,0,0] zqT (zaz tP zJV K)
def zln(t0 t5 t6:AV)(H:zaa)(K:Kt):Prop:=ALoop tP zqU (zys K) (zgD t0 t5 t6) H
def zgE(t0 t5 t6:AV)(H:zaa)(K:Kt)(Kb5:Lt):Prop:=
 Kb5 (zgD t0 t5 t6) H
def zll(t0 t5 t6:AV):List AV:=t0::ux 4 (t5::t6::ux 54 [])
def zJT:List Bool:=zfM 9
noncomputable def zJQ:Code:=zat [1,0,1,0,1,0,0,0,0] zqU
def zJP(K:Kt)(Kb5:Lt):AExit→List AV→zaa→Prop:=zau tP zfM [1,0,1,0,1,0,0,0] zqU (zb1 zyv Kb5 (zys K))
def zyu(t0 t5 t6:AV)(H:zaa)(K:Kt)(Kb5:Lt):Prop:=ALoop tP zJQ (zJP K Kb5) (zll t0 t5 t6) H
def zyt(t0 t5:AV)(H:zaa)(K:Kt):Prop:=
 zah 0 t0 λt57=>
 zaq [(.int .i64 0),(.str []),(.int .i64 0)] [(0,1),(1,1),(2,1)] [(0,(.int .i64 6)),(2,t57)] λt58=>
 zar 3 [(.int .i64 0),(.str []),(.int .i64 0)] 1 [(0,t58)] λt59=>
 zay zeM 3 32 t5 t59 H λt60 H=>
 zbf [t60,(.int .i64 0),(.int .i64 0)] (K · H)
def zlm(t0 t5:AV)(H:zaa)(K:Kt):Prop:=
 zyt t0 t5 H K
def zqS(t0 t5 t6:AV)(H:zaa)(K:Kt)(Kb5:Lt)(Kb9:Lt):Prop:=
 zah 0 t0 λt28=>
 zac .lss false t6 t28 λt29=>
 zag t29
 (zcj t0 t6 λt34=>
 zac .eql false t34 (.int .u8 10) λt35=>
 zag t35
 (zgE t0 t5 t6 H K Kb5)
 (zac .add false t6 (.int .i64 1) λt31=>
 Kb9 (zll t0 t5 t31) H))
 (zlm t0 t5 H K)
def zqR(t0 t5 t6:AV)(H:zaa)(K:Kt)(Kb5:Lt):Prop:=
 zah 0 t0 λt14=>
 zac .lss false t6 t14 λt15=>
 zag t15
 (zcj t0 t6 λt18=>
 ACalls tP zox [t18] H λt19 H=>
 zag t19
 (zac .add false t6 (.int .i64 1) λt21=>
 zgE t0 t5 t21 H K Kb5)
 (zcj t0 t6 λt24=>
 zac .eql false t24 (.int .u8 35) λt25=>
 zag t25
 (zyu t0 t5 t6 H K Kb5)
 (ACalls tP zoy [t0,t6] H λt39 H=>
 zaG t39 0 λt40=>
 zaG t39 1 λt41=>
 zaw [(.int .i64 0),(.str []),(.int .i64 0)] H λt7 H=>
 zak 3 t7 t40 H λH=>
 zac .neq false t41 (.int .i64 0) λt43=>
 zag t43
 (zbf [.snil,t6,t41] (K · H))
 (zae true 3 t7 H λt47=>
 zar 3 [(.int .i64 0),(.str []),(.int .i64 0)] 1 [(0,t47)] λt48=>
 zay zeM 3 32 t5 t48 H λt49 H=>
 zaf 1 t7 λt51=>
 zae false 1 t51 H λt52=>
 zah 0 t52 λt53=>
 zac .add false t6 t53 λt54=>
 zgE t0 t49 t54 H K Kb5))))
 (zlm t0 t5 H K)
def zqQ(t0:AV)(H:zaa)(K:Kt):Prop:=
 zah 0 t0 λt10=>
 zac .gtr false t10 (.int .i64 16384) λt11=>
 zag t11
 (zbf [.snil,(.int .i64 0),(.int .i64 9)] (K · H))
 (zln t0 .snil (.int .i64 0) H K)
theorem zJS{t0 t5 t6:AV}{H:zaa}{K:Kt}{Kb5:Lt}(Inv:Nat→AV→zaa→Prop)(n:Nat)(h0:HSc H→Inv n t6 H)(round:Rd1 (λt6=>zll t0 t5 t6) (λt6=>λH Kb9=>zqS t0 t5 t6 H K Kb5 Kb9) H Inv):zyu t0 t5 t6 H K Kb5:=
 lp1 (M:=zfM) zJT t6 (by kernel_rfl) Inv n h0 round
theorem zJR{t0 t5 t6:AV}{H:zaa}{K:Kt}(Inv:Nat→AV→AV→zaa→Prop)(n:Nat)(h0:HSc H→Inv n t5 t6 H)(round:Rd2 (λt5=>λt6=>zgD t0 t5 t6) (λt5=>λt6=>λH Kb5=>zqR t0 t5 t6 H K Kb5) H Inv):zln t0 t5 t6 H K:=
 lp2 (M:=zfM) zyv t5 t6 (by kernel_rfl) Inv n h0 round
theorem zJU{t0:AV}{H:zaa}{K:Kt}(h:HSc H→zqQ t0 H K):ACalls tP zot [t0] H K:=
 zap (M:=zfM) Tryz.func188 (c:=zqT) (by kernel_rfl) (λhs=>Eq.mpr (by kernel_rfl) (h hs))
def zKn(_:Nat):List Bool:=[]
noncomputable def zKo:Code:=Tryz.f204.body.getD .skip
def zyJ(t0:AV)(H:zaa)(K:Kt):Prop:=
 zac .eql false t0 (.int .u8 9) λt4=>
 zad t4 false H (λK'=>K' t0 H) λt6 H=>
 zad t4 false H (λK'=>zac .eql false t6 (.int .u8 10) (K' · H)) λt7 H=>
 zao t4 (.bool true) t7 λt8=>
 zad t8 false H (λK'=>K' t0 H) λt10 H=>
 zad t8 false H (λK'=>zac .eql false t10 (.int .u8 13) (K' · H)) λt11 H=>
 zao t8 (.bool true) t11 λt12=>
 zad t12 false H (λK'=>K' t0 H) λt14 H=>
 zad t12 false H (λK'=>zac .eql false t14 (.int .u8 32) (K' · H)) λt15 H=>
 zao t12 (.bool true) t15 λt16=>
 K t16 H
theorem zKp{t0:AV}{H:zaa}{K:Kt}(h:HSc H→zyJ t0 H K):ACalls tP zox [t0] H K:=
 zap (M:=zKn) Tryz.func204 (c:=zKo) (by kernel_rfl) (λhs=>Eq.mpr (by kernel_rfl) (h hs))
def zKq(_:Nat):List Bool:=[]
noncomputable def zKr:Code:=Tryz.f205.body.getD .skip
def zyK(t4 t6:AV)(H:zaa)(K:Kt):Prop:=
 zae true 3 t6 H λt74=>
 zak 3 t4 t74 H λH=>
 zae true 3 t4 H λr0=>
 zbf [r0,(.int .i64 0)] (K · H)
def zgI(t4 t6:AV)(H:zaa)(K:Kt):Prop:=
 zyK t4 t6 H K
def zgH(t4 t6:AV)(H:zaa)(K:Kt):Prop:=
 zgI t4 t6 H K
def zq1(t0 t1:AV)(H:zaa)(K:Kt):Prop:=
 zaw [(.int .i64 0),(.str []),(.int .i64 0)] H λt4 H=>
 zaq [(.int .i64 0),(.str []),(.int .i64 0)] [(0,1),(1,1),(2,1)] [(2,t1)] λt9=>
 zaw [(.int .i64 0),(.str []),(.int .i64 0)] H λt6 H=>
 zak 3 t6 t9 H λH=>
 zcj t0 t1 λt12=>
 ACalls tP zju [t12] H λt25 H=>
 zad t25 false H (λK'=>K' t12 H) λt27 H=>
 zad t25 false H (λK'=>ACalls tP zhw [t27] H K') λt28 H=>
 zao t25 (.bool true) t28 λt29=>
 zag t29
 (zbp 0 0 t0 (some t1) none λt32=>
 ACalls tP zjv [t32,(.fn zhx [])] H λt33 H=>
 zaf 1 t6 λt34=>
 zak 1 t34 t33 H λH=>
 zaf 1 t6 λt37=>
 zae false 1 t37 H λt38=>
 zah 0 t38 λt39=>
 zac .gtr false t39 (.int .i64 24) λt40=>
 zag t40
 (zaq [(.int .i64 0),(.str []),(.int .i64 0)] [(0,1),(1,1),(2,1)] [] λt41=>
 zak 3 t4 t41 H λH=>
 zae true 3 t4 H λr0=>
 zbf [r0,(.int .i64 9)] (K · H))
 (ACalls tP zhw [t12] H λt44 H=>
 zag t44
 (zaf 0 t6 λt45=>
 zak 1 t45 (.int .i64 2) H λH=>
 zgH t4 t6 H K)
 (zaf 1 t6 λt47=>
 zae false 1 t47 H λt48=>
 ACalls tP zoz [t48] H λt49 H=>
 zag t49
 (zaf 0 t6 λt50=>
 zak 1 t50 (.int .i64 4) H λH=>
 zgH t4 t6 H K)
 (zaf 0 t6 λt35=>
 zak 1 t35 (.int .i64 1) H λH=>
 zgH t4 t6 H K))))
 (ACalls tP zfx [t12] H λt53 H=>
 zag t53
 (zaf 0 t6 λt54=>
 zak 1 t54 (.int .i64 3) H λH=>
 zbp 0 0 t0 (some t1) none λt57=>
 ACalls tP zjv [t57,(.fn zfx [])] H λt58 H=>
 zaf 1 t6 λt59=>
 zak 1 t59 t58 H λH=>
 zac .eql false t12 (.int .u8 48) λt61=>
 zad t61 true H (λK'=>zaf 1 t6 (K' · H)) λt63 H=>
 zad t61 true H (λK'=>zae false 1 t63 H (K' · H)) λt64 H=>
 zad t61 true H (λK'=>zah 0 t64 (K' · H)) λt65 H=>
 zad t61 true H (λK'=>zac .gtr false t65 (.int .i64 1) (K' · H)) λt66 H=>
 zao t61 t66 (.bool false) λt67=>
 zag t67
 (zaq [(.int .i64 0),(.str []),(.int .i64 0)] [(0,1),(1,1),(2,1)] [] λt68=>
 zak 3 t4 t68 H λH=>
 zae true 3 t4 H λr0=>
 zbf [r0,(.int .i64 2)] (K · H))
 (zaf 1 t6 λt69=>
 zae false 1 t69 H λt70=>
 ACalls tP zhy [t70] H λt71 H=>
 aUn .not t71 λt72=>
 zag t72
 (zaq [(.int .i64 0),(.str []),(.int .i64 0)] [(0,1),(1,1),(2,1)] [] λt73=>
 zak 3 t4 t73 H λH=>
 zae true 3 t4 H λr0=>
 zbf [r0,(.int .i64 9)] (K · H))
 (zgI t4 t6 H K)))
 (zaf 0 t6 λt13=>
 zak 1 t13 (.int .i64 5) H λH=>
 zbp 0 0 t0 (some t1) none λt16=>
 ACalls tP zoA [t16] H λt17 H=>
 zaf 1 t6 λt18=>
 zak 1 t18 t17 H λH=>
 zaf 1 t6 λt19=>
 zae false 1 t19 H λt20=>
 zac .eql false t20 (.str []) λt21=>
 zag t21
 (zaq [(.int .i64 0),(.str []),(.int .i64 0)] [(0,1),(1,1),(2,1)] [] λt22=>
 zak 3 t4 t22 H λH=>
 zae true 3 t4 H λr0=>
 zbf [r0,(.int .i64 2)] (K · H))
 (zgI t4 t6 H K)))
theorem zKs{t0 t1:AV}{H:zaa}{K:Kt}(h:HSc H→zq1 t0 t1 H K):ACalls tP zoy [t0,t1] H K:=
 zap (M:=zKq) Tryz.func205 (c:=zKr) (by kernel_rfl) (λhs=>Eq.mpr (by kernel_rfl) (h hs))
def zKA(_:Nat):List Bool:=[]
noncomputable def zKB:Code:=Tryz.f216.body.getD .skip
def zyN(t0:AV)(H:zaa)(K:Kt):Prop:=
 zac .geq false t0 (.int .u8 97) λt4=>
 zad t4 true H (λK'=>K' t0 H) λt6 H=>
 zad t4 true H (λK'=>zac .leq false t6 (.int .u8 122) (K' · H)) λt7 H=>
 zao t4 t7 (.bool false) λt8=>
 K t8 H
theorem zKC{t0:AV}{H:zaa}{K:Kt}(h:HSc H→zyN t0 H K):ACalls tP zju [t0] H K:=
 zap (M:=zKA) Tryz.func216 (c:=zKB) (by kernel_rfl) (λhs=>Eq.mpr (by kernel_rfl) (h hs))
def zKD(_:Nat):List Bool:=[]
noncomputable def zKE:Code:=Tryz.f217.body.getD .skip
def zyO(t0:AV)(H:zaa)(K:Kt):Prop:=
 zac .geq false t0 (.int .u8 65) λt4=>
 zad t4 true H (λK'=>K' t0 H) λt6 H=>
 zad t4 true H (λK'=>zac .leq false t6 (.int .u8 90) (K' · H)) λt7 H=>
 zao t4 t7 (.bool false) λt8=>
 K t8 H
theorem zKF{t0:AV}{H:zaa}{K:Kt}(h:HSc H→zyO t0 H K):ACalls tP zhw [t0] H K:=
 zap (M:=zKD) Tryz.func217 (c:=zKE) (by kernel_rfl) (λhs=>Eq.mpr (by kernel_rfl) (h hs))
def zlu:Nat→List Bool
 |2=>rl false [0,2,3,1,16]
 |_=>[]
noncomputable def zq6:Code:=Tryz.f218.body.getD .skip
noncomputable def zKL:List ResultVar:=Tryz.f218.results.toList
def zlv(t0 t1 t5:AV):List AV:=t0::t1::ux 3 (t5::ux 16 [])
def zKJ:List Bool:=zlu 2
noncomputable def zKH:Code:=zat [1,1,0,0,0] zq6
def zKG(K:Kt):AExit→List AV→zaa→Prop:=zau tP zlu [1,1,0,0] zq6 (zaz tP zKL K)
def zyQ(t0 t1 t5:AV)(H:zaa)(K:Kt):Prop:=ALoop tP zKH (zKG K) (zlv t0 t1 t5) H
def zq2(t0 t1 t5:AV)(H:zaa)(K:Kt)(Kb2:Lt):Prop:=
 zah 0 t0 λt8=>
 zac .lss false t5 t8 λt9=>
 zad t9 true H (λK'=>K' t1 H) λt11 H=>
 zad t9 true H (λK'=>K' t0 H) λt12 H=>
 zad t9 true H (λK'=>K' t5 H) λt13 H=>
 zad t9 true H (λK'=>zcj t12 t13 (K' · H)) λt14 H=>
 zad t9 true H (λK'=>aCallV tP t11 [t14] H K') λt15 H=>
 zao t9 t15 (.bool false) λt16=>
 zag t16
 (zac .add false t5 (.int .i64 1) λt18=>
 Kb2 (zlv t0 t1 t18) H)
 (zbp 0 0 t0 none (some t5) λt21=>
 K t21 H)
def zyP(t0 t1:AV)(H:zaa)(K:Kt):Prop:=
 zyQ t0 t1 (.int .i64 0) H K
theorem zKI{t0 t1 t5:AV}{H:zaa}{K:Kt}(Inv:Nat→AV→zaa→Prop)(n:Nat)(h0:HSc H→Inv n t5 H)(round:Rd1 (λt5=>zlv t0 t1 t5) (λt5=>λH Kb2=>zq2 t0 t1 t5 H K Kb2) H Inv):zyQ t0 t1 t5 H K:=
 lp1 (M:=zlu) zKJ t5 (by kernel_rfl) Inv n h0 round
theorem zKK{t0 t1:AV}{H:zaa}{K:Kt}(h:HSc H→zyP t0 t1 H K):ACalls tP zjv [t0,t1] H K:=
 zap (M:=zlu) Tryz.func218 (c:=zq6) (by kernel_rfl) (λhs=>Eq.mpr (by kernel_rfl) (h hs))
def zKM(_:Nat):List Bool:=[]
noncomputable def zKN:Code:=Tryz.f219.body.getD .skip
def zyR(t0:AV)(H:zaa)(K:Kt):Prop:=
 ACalls tP zju [t0] H λt4 H=>
 zad t4 false H (λK'=>K' t0 H) λt6 H=>
 zad t4 false H (λK'=>ACalls tP zhw [t6] H K') λt7 H=>
 zao t4 (.bool true) t7 λt8=>
 zad t8 false H (λK'=>K' t0 H) λt10 H=>
 zad t8 false H (λK'=>ACalls tP zfx [t10] H K') λt11 H=>
 zao t8 (.bool true) t11 λt12=>
 zad t12 false H (λK'=>K' t0 H) λt14 H=>
 zad t12 false H (λK'=>zac .eql false t14 (.int .u8 95) (K' · H)) λt15 H=>
 zao t12 (.bool true) t15 λt16=>
 K t16 H
theorem zKO{t0:AV}{H:zaa}{K:Kt}(h:HSc H→zyR t0 H K):ACalls tP zhx [t0] H K:=
 zap (M:=zKM) Tryz.func219 (c:=zKN) (by kernel_rfl) (λhs=>Eq.mpr (by kernel_rfl) (h hs))
def zKP(_:Nat):List Bool:=[]
noncomputable def zKQ:Code:=Tryz.f220.body.getD .skip
def zbk(t4:AV)(H:zaa)(K:Kt):Prop:=
 zag t4
 (K (.bool true) H)
 (K (.bool false) H)
def zyS(t0:AV)(H:zaa)(K:Kt):Prop:=
 zac .eql false t0 (.str [97,114,114,97,121]) λt5=>
 zag t5
 (zbk t5 H K)
 (zac .eql false t0 (.str [98,111,111,108]) λt6=>
 zag t6
 (zbk t6 H K)
 (zac .eql false t0 (.str [99,97,116,99,104]) λt7=>
 zag t7
 (zbk t7 H K)
 (zac .eql false t0 (.str [100,97,116,97]) λt8=>
 zag t8
 (zbk t8 H K)
 (zac .eql false t0 (.str [101,108,115,101]) λt9=>
 zag t9
 (zbk t9 H K)
 (zac .eql false t0 (.str [101,110,100]) λt10=>
 zag t10
 (zbk t10 H K)
 (zac .eql false t0 (.str [102,97,108,115,101]) λt11=>
 zag t11
 (zbk t11 H K)
 (zac .eql false t0 (.str [102,110]) λt12=>
 zag t12
 (zbk t12 H K)
 (zac .eql false t0 (.str [102,117,110]) λt13=>
 zag t13
 (zbk t13 H K)
 (zac .eql false t0 (.str [103,101,116]) λt14=>
 zag t14
 (zbk t14 H K)
 (zac .eql false t0 (.str [105,102]) λt15=>
 zag t15
 (zbk t15 H K)
 (zac .eql false t0 (.str [105,110]) λt16=>
 zag t16
 (zbk t16 H K)
 (zac .eql false t0 (.str [105,110,116]) λt17=>
 zag t17
 (zbk t17 H K)
 (zac .eql false t0 (.str [108,101,110]) λt18=>
 zag t18
 (zbk t18 H K)
 (zac .eql false t0 (.str [108,101,116]) λt19=>
 zag t19
 (zbk t19 H K)
 (zac .eql false t0 (.str [109,97,116,99,104]) λt20=>
 zag t20
 (zbk t20 H K)
 (zac .eql false t0 (.str [110,101,119]) λt21=>
 zag t21
 (zbk t21 H K)
 (zac .eql false t0 (.str [114,97,105,115,101]) λt22=>
 zag t22
 (zbk t22 H K)
 (zac .eql false t0 (.str [114,101,97,100]) λt23=>
 zag t23
 (zbk t23 H K)
 (zac .eql false t0 (.str [114,101,102]) λt24=>
 zag t24
 (zbk t24 H K)
 (zac .eql false t0 (.str [115,101,116]) λt25=>
 zag t25
 (zbk t25 H K)
 (zac .eql false t0 (.str [116,104,101,110]) λt26=>
 zag t26
 (zbk t26 H K)
 (zac .eql false t0 (.str [116,105,99,107]) λt27=>
 zag t27
 (zbk t27 H K)
 (zac .eql false t0 (.str [116,114,117,101]) λt28=>
 zag t28
 (zbk t28 H K)
 (zac .eql false t0 (.str [116,114,121]) λt29=>
 zag t29
 (zbk t29 H K)
 (zac .eql false t0 (.str [117,110,105,116]) λt30=>
 zag t30
 (zbk t30 H K)
 (zac .eql false t0 (.str [119,105,116,104]) λt31=>
 zag t31
 (zbk t31 H K)
 (zac .eql false t0 (.str [119,114,105,116,101]) λt32=>
 zbk t32 H K)))))))))))))))))))))))))))
theorem zKR{t0:AV}{H:zaa}{K:Kt}(h:HSc H→zyS t0 H K):ACalls tP zoz [t0] H K:=
 zap (M:=zKP) Tryz.func220 (c:=zKQ) (by kernel_rfl) (λhs=>Eq.mpr (by kernel_rfl) (h hs))
def zKS(_:Nat):List Bool:=[]
noncomputable def zKT:Code:=Tryz.f221.body.getD .skip
def zyT(t0:AV)(H:zaa)(K:Kt):Prop:=
 zac .geq false t0 (.int .u8 48) λt4=>
 zad t4 true H (λK'=>K' t0 H) λt6 H=>
 zad t4 true H (λK'=>zac .leq false t6 (.int .u8 57) (K' · H)) λt7 H=>
 zao t4 t7 (.bool false) λt8=>
 K t8 H
theorem zKU{t0:AV}{H:zaa}{K:Kt}(h:HSc H→zyT t0 H K):ACalls tP zfx [t0] H K:=
 zap (M:=zKS) Tryz.func221 (c:=zKT) (by kernel_rfl) (λhs=>Eq.mpr (by kernel_rfl) (h hs))
def zlw:Nat→List Bool
 |3=>rl false [0,1,2,1,2,2,13]
 |_=>[]
noncomputable def zq9:Code:=Tryz.f222.body.getD .skip
noncomputable def zK0:List ResultVar:=Tryz.f222.results.toList
def zlx(t0 t3 t6 t7:AV):List AV:=t0::ux 2 (t3::ux 2 (t6::t7::ux 13 []))
def zKY:List Bool:=zlw 3
noncomputable def zKW:Code:=zat [1,1,0,1,0,0] zq9
def zKV(K:Kt):AExit→List AV→zaa→Prop:=zau tP zlw [1,1,0,1,0] zq9 (zaz tP zK0 K)
def zyV(t0 t3 t6 t7:AV)(H:zaa)(K:Kt):Prop:=ALoop tP zKW (zKV K) (zlx t0 t3 t6 t7) H
def zq8(t0 t3 t6 t7:AV)(H:zaa)(K:Kt)(Kb3:Lt):Prop:=
 zac .lss false t7 t6 λt8=>
 zag t8
 (zac .mul false t3 (.int .i64 10) λt11=>
 zcj t0 t7 λt14=>
 zac .sub false t14 (.int .u8 48) λt15=>
 za9 .i64 t15 λt16=>
 zac .add false t11 t16 λt17=>
 zac .gtr false t17 (.int .i64 1000000) λt19=>
 zag t19
 (K (.bool false) H)
 (zac .add false t7 (.int .i64 1) λt20=>
 Kb3 (zlx t0 t17 t6 t20) H))
 (K (.bool true) H)
def zyU(t0:AV)(H:zaa)(K:Kt):Prop:=
 zah 0 t0 λt6=>
 zyV t0 (.int .i64 0) t6 (.int .i64 0) H K
theorem zKX{t0 t3 t6 t7:AV}{H:zaa}{K:Kt}(Inv:Nat→AV→AV→zaa→Prop)(n:Nat)(h0:HSc H→Inv n t3 t7 H)(round:Rd2 (λt3=>λt7=>zlx t0 t3 t6 t7) (λt3=>λt7=>λH Kb3=>zq8 t0 t3 t6 t7 H K Kb3) H Inv):zyV t0 t3 t6 t7 H K:=
 lp2 (M:=zlw) zKY t3 t7 (by kernel_rfl) Inv n h0 round
theorem zKZ{t0:AV}{H:zaa}{K:Kt}(h:HSc H→zyU t0 H K):ACalls tP zhy [t0] H K:=
 zap (M:=zlw) Tryz.func222 (c:=zq9) (by kernel_rfl) (λhs=>Eq.mpr (by kernel_rfl) (h hs))
def zK1(_:Nat):List Bool:=[]
noncomputable def zK2:Code:=Tryz.f223.body.getD .skip
def zci(t0 t16:AV)(H:zaa)(K:Kt):Prop:=
 zag t16
 (zbp 0 0 t0 none (some (.int .i64 1)) λt31=>
 K t31 H)
 (K (.str []) H)
def zly(t0:AV)(H:zaa)(K:Kt):Prop:=
 zbp 0 0 t0 none (some (.int .i64 1)) λt15=>
 zac .eql false t15 (.str [40]) λt17=>
 zag t17
 (zci t0 t17 H K)
 (zac .eql false t15 (.str [41]) λt18=>
 zag t18
 (zci t0 t18 H K)
 (zac .eql false t15 (.str [44]) λt19=>
 zag t19
 (zci t0 t19 H K)
 (zac .eql false t15 (.str [61]) λt20=>
 zag t20
 (zci t0 t20 H K)
 (zac .eql false t15 (.str [124]) λt21=>
 zag t21
 (zci t0 t21 H K)
 (zac .eql false t15 (.str [43]) λt22=>
 zag t22
 (zci t0 t22 H K)
 (zac .eql false t15 (.str [45]) λt23=>
 zag t23
 (zci t0 t23 H K)
 (zac .eql false t15 (.str [42]) λt24=>
 zag t24
 (zci t0 t24 H K)
 (zac .eql false t15 (.str [47]) λt25=>
 zag t25
 (zci t0 t25 H K)
 (zac .eql false t15 (.str [37]) λt26=>
 zag t26
 (zci t0 t26 H K)
 (zac .eql false t15 (.str [60]) λt27=>
 zag t27
 (zci t0 t27 H K)
 (zac .eql false t15 (.str [59]) λt28=>
 zag t28
 (zci t0 t28 H K)
 (zac .eql false t15 (.str [95]) λt29=>
 zci t0 t29 H K))))))))))))
def zfP(t0 t8:AV)(H:zaa)(K:Kt):Prop:=
 zag t8
 (zbp 0 0 t0 none (some (.int .i64 2)) λt13=>
 K t13 H)
 (zly t0 H K)
def zgJ(t0:AV)(H:zaa)(K:Kt):Prop:=
 zah 0 t0 λt4=>
 zac .geq false t4 (.int .i64 2) λt5=>
 zag t5
 (zbp 0 0 t0 none (some (.int .i64 2)) λt7=>
 zac .eql false t7 (.str [45,62]) λt9=>
 zag t9
 (zfP t0 t9 H K)
 (zac .eql false t7 (.str [60,61]) λt10=>
 zag t10
 (zfP t0 t10 H K)
 (zac .eql false t7 (.str [61,61]) λt11=>
 zfP t0 t11 H K)))
 (zly t0 H K)
theorem zK3{t0:AV}{H:zaa}{K:Kt}(h:HSc H→zgJ t0 H K):ACalls tP zoA [t0] H K:=
 zap (M:=zK1) Tryz.func223 (c:=zK2) (by kernel_rfl) (λhs=>Eq.mpr (by kernel_rfl) (h hs))
def zJx(_:Nat):List Bool:=[]
noncomputable def zJy:Code:=Tryz.f169.body.getD .skip
def zyk(t0:AV)(H:zaa)(K:Kt):Prop:=
 ACalls tP zot [t0] H λt8 H=>
 zaG t8 0 λt9=>
 zaG t8 1 λt10=>
 zaG t8 2 λt11=>
 zac .eql false t11 (.int .i64 0) λt13=>
 zad t13 true H (λK'=>K' t9 H) λt15 H=>
 zad t13 true H (λK'=>zah 1 t15 (K' · H)) λt16 H=>
 zad t13 true H (λK'=>zac .eql false t16 (.int .i64 2) (K' · H)) λt17 H=>
 zao t13 t17 (.bool false) λt18=>
 zad t18 true H (λK'=>K' t9 H) λt20 H=>
 zad t18 true H (λK'=>zai 3 t20 (.int .i64 0) (K' · H)) λt21 H=>
 zad t18 true H (λK'=>zaf 0 t21 (K' · H)) λt22 H=>
 zad t18 true H (λK'=>zae false 1 t22 H (K' · H)) λt23 H=>
 zad t18 true H (λK'=>zac .eql false t23 (.int .i64 2) (K' · H)) λt24 H=>
 zao t18 t24 (.bool false) λt25=>
 zad t25 true H (λK'=>K' t9 H) λt27 H=>
 zad t25 true H (λK'=>zai 3 t27 (.int .i64 0) (K' · H)) λt28 H=>
 zad t25 true H (λK'=>zaf 1 t28 (K' · H)) λt29 H=>
 zad t25 true H (λK'=>zae false 1 t29 H (K' · H)) λt30 H=>
 zad t25 true H (λK'=>K' t0 H) λt31 H=>
 zad t25 true H (λK'=>zac .eql false t30 t31 (K' · H)) λt32 H=>
 zao t25 t32 (.bool false) λt33=>
 K t33 H
theorem zJz{t0:AV}{H:zaa}{K:Kt}(h:HSc H→zyk t0 H K):ACalls tP zjp [t0] H K:=
 zap (M:=zJx) Tryz.func169 (c:=zJy) (by kernel_rfl) (λhs=>Eq.mpr (by kernel_rfl) (h hs))
end Go.Proofs.YtaifokkaaahdoaaGreatDoor

namespace Go.Proofs.YtaifokkaaahdoaaGreatDoor
open Go Go.Abs
def zce:List (List UInt8):=[[97,114,114,97,121],[98,111,111,108],[99,97,116,99,104],[100,97,116,97],[101,108,115,101],[101,110,100],[102,97,108,115,101],[102,110],[102,117,110],[103,101,116],[105,102],[105,110],[105,110,116],[108,101,110],[108,101,116],[109,97,116,99,104],[110,101,119],[114,97,105,115,101],[114,101,97,100],[114,101,102],[115,101,116],[116,104,101,110],[116,105,99,107],[116,114,117,101],[116,114,121],[117,110,105,116],[119,105,116,104],[119,114,105,116,101]]
def kwF(ws:List (List UInt8))(s:List UInt8):Bool:=ws.any (s == ·)
theorem zbx{H:zaa}{K:AV→zaa→Prop}{r:AV}(hsc:HSc H)(hv:r.isV=true)(hr:r.scV H.length=true)(h:K r H):Out H.length K r H:=by have:=Out.same (J:=[]) rfl hsc hv hr h;simpa using this
theorem zfa(b c:UInt8):((b.toNat:Int) == (c.toNat:Int))=(b == c):=by
 rw[Bool.eq_iff_iff];simp only[beq_iff_eq];constructor
 ·intro h;exact UInt8.toNat_inj.mp (by omega)
 ·rintro rfl;rfl
theorem zn3(b:UInt8)(H:zaa)(K:AV→zaa→Prop)(hK:K (.bool (zdk b)) H):ACalls tP zju [.int .u8 b.toNat] H K:=by refine ACalls.out (zKC λhs=>?_);have hO:=zbx (K:=K) (H:=H) (r:=.bool (zdk b)) hs rfl rfl hK;unfold zdk at hO;cases h1:decide (97≤(b.toNat:Int)) <;> simp[zyN,h1] <;> simpa[h1]using hO
theorem zki(b:UInt8)(H:zaa)(K:AV→zaa→Prop)(hK:K (.bool (bUp b)) H):ACalls tP zhw [.int .u8 b.toNat] H K:=by refine ACalls.out (zKF λhs=>?_);have hO:=zbx (K:=K) (H:=H) (r:=.bool (bUp b)) hs rfl rfl hK;unfold bUp at hO;cases h1:decide (65≤(b.toNat:Int)) <;> simp[zyO,h1] <;> simpa[h1]using hO
theorem znD(b:UInt8)(H:zaa)(K:AV→zaa→Prop)(hK:K (.bool (zbq b)) H):ACalls tP zfx [.int .u8 b.toNat] H K:=by refine ACalls.out (zKU λhs=>?_);have hO:=zbx (K:=K) (H:=H) (r:=.bool (zbq b)) hs rfl rfl hK;unfold zbq at hO;cases h1:decide (48≤(b.toNat:Int)) <;> simp[zyT,h1] <;> simpa[h1]using hO
theorem zBU(b:UInt8)(H:zaa)(K:AV→zaa→Prop)(hK:K (.bool (zed b)) H):ACalls tP zox [.int .u8 b.toNat] H K:=by refine ACalls.out (zKp λhs=>?_);have hO:=zbx (K:=K) (H:=H) (r:=.bool (zed b)) hs rfl rfl hK;unfold zed at hO;have e1:((b.toNat:Int) == 9)=(b == 9):=zfa b 9;have e2:((b.toNat:Int) == 10)=(b == 10):=zfa b 10;have e3:((b.toNat:Int) == 13)=(b == 13):=zfa b 13;have e4:((b.toNat:Int) == 32)=(b == 32):=zfa b 32;cases h1:(b == 9) <;> cases h2:(b == 10) <;> cases h3:(b == 13) <;> simp[zyJ,e1,e2,e3,e4,h1,h2,h3] <;> simpa[h1,h2,h3]using hO
theorem zF4(b:UInt8)(H:zaa)(K:AV→zaa→Prop)(hK:K (.bool (bIn b)) H):ACalls tP zhx [.int .u8 b.toNat] H K:=by
 refine ACalls.out (zKO λhs=>?_);have hO:=zbx (K:=K) (H:=H) (r:=.bool (bIn b)) hs rfl rfl hK;unfold bIn at hO;have e1:((b.toNat:Int) == 95)=(b == 95):=zfa b 95;unfold zyR;refine zn3 b _ _ ?_;cases h1:zdk b with
 |true=>simp;simpa[h1]using hO
 |false=>
  simp;refine zki b _ _ ?_;cases h2:bUp b with
  |true=>simp;simpa[h1,h2]using hO
  |false=>
   simp;refine znD b _ _ ?_;cases h3:zbq b with
   |true=>simp;simpa[h1,h2,h3]using hO
   |false=>simp[e1];simpa[h1,h2,h3]using hO
theorem zC1(s:List UInt8)(H:zaa)(K:AV→zaa→Prop)(hK:K (.bool (kwF zce s)) H):ACalls tP zoz [.str s] H K:=by
 refine ACalls.out (zKR λhs=>?_);have hO:=zbx (K:=K) (H:=H) (r:=.bool (kwF zce s)) hs rfl rfl hK;have step:∀ (w:List UInt8) (ws:List (List UInt8)) (rest:Prop),(Out H.length K (.bool (kwF ws s)) H→rest)→Out H.length K (.bool (kwF (w::ws) s)) H →
   zac .eql false (.str s) (.str w) λt=>zag t (zbk t H (Out H.length K)) rest:=by
  intro w ws rest h h';simp only[kwF,List.any_cons]at h h';cases e:(s == w) with
  |true=>simpa[zbk,e]using h'
  |false=>rw[e,Bool.false_or]at h';simpa[zbk,e]using h h'
 unfold zyS
 revert hO
 unfold zce
 iterate 27 refine step _ _ _ ?_
 intro h';simp only[kwF,List.any_cons,List.any_nil,Bool.or_false]at h';cases e:(s == [119,114,105,116,101]) <;> rw[e]at h' <;> simpa[zbk,e]using h'
theorem zBP{b:UInt8}(h:zbq b=true):48≤(b.toNat:Int)∧(b.toNat:Int)≤57:=by simpa[zbq]using h
theorem zEF(s:List UInt8)(hd:∀b∈s,zbq b=true)(hl:s.length≤1000000)(H:zaa)(K:AV→zaa→Prop)(hK:K (.bool (zdy s 0)) H):ACalls tP zhy [.str s] H K:=by
 refine ACalls.out (zKZ λhs=>?_);have hO:=zbx (K:=K) (H:=H) (r:=.bool (zdy s 0)) hs rfl rfl hK;simp[zyU];refine zKX (Inv:=λq t3 t7 H'=>∃(i:Nat) (n:Int),i≤s.length∧q=s.length-i∧t7=.int .i64 i∧t3=.int .i64 n∧0≤n∧n≤1000000∧zdy (s.drop i) n=zdy s 0∧H'=H) s.length ?_ ?_
 ·intro _;exact⟨0,0,by omega,by omega,rfl,rfl,by omega,by omega,by simp,rfl⟩
 ·rintro q t3 t7 H' ⟨i,n,hi,rfl,rfl,rfl,hn0,hn1,ho,rfl⟩ hsc _ hsF Kb hKb;by_cases hlt:i<s.length
  ·have hb:=zBP (hd s[i] (List.getElem_mem hlt));rw[List.drop_eq_getElem_cons hlt,zdy]at ho;simp[zq8,hlt];rw[IntWalk.u8_in _ (by omega),zaB (n:=n*10) (by omega) (by omega),zaB (n:=(s[i].toNat:Int)-48) (by omega) (by omega),zaB (by omega) (by omega),zaB (by omega) (by omega)];by_cases hg:1000000<n*10+((s[i].toNat:Int)-48)
   ·rw[if_pos hg]at ho;have hg':decide (1000000<n*10+((s[i].toNat:Int)-48))=true:=by simpa using hg
    rw[←ho]at hO;rw[hg'];simpa using hO
   ·rw[if_neg hg]at ho;have hg':decide (1000000<n*10+((s[i].toNat:Int)-48))=false:=by simpa using hg
    rw[hg'];simp only[zBm,Bool.false_eq_true,if_false];refine hKb _ _ ⟨s.length-(i+1),by omega,Back.here (Nat.le_refl _) hs ?_ ⟨_,_,rfl,i+1,_,by omega,rfl,by simp,rfl,by omega,by omega,ho,rfl⟩⟩;simp[zlx,AV.sc,AV.scV,AV.scA,AV.scB]
  ·simp[zq8,hlt];obtain rfl:i=s.length:=by omega
   rw[List.drop_length,zdy]at ho;rw[←ho]at hO;exact hO
theorem zvx(cl:UInt8→Bool)(f:FuncId)(hcl:zc5 tP f=true)(hf:∀(b:UInt8) (H:zaa) (K:AV→zaa→Prop),K (.bool (cl b)) H→ACalls tP f [.int .u8 b.toNat] H K)(s:List UInt8)(hl:s.length≤1000000)(H:zaa)(K:AV→zaa→Prop)(hK:K (.str (s.takeWhile cl)) H):ACalls tP zjv [.str s,.fn f []] H K:=by
 refine ACalls.out (zKK λhs=>?_);have hO:=zbx (K:=K) (H:=H) (r:=.str (s.takeWhile cl)) hs rfl rfl hK;simp[zyP];refine zKI (Inv:=λq t5 H'=>∃i:Nat,i≤s.length∧q=s.length-i∧t5=.int .i64 i∧s.take i++(s.drop i).takeWhile cl=s.takeWhile cl∧H'=H) s.length ?_ ?_
 ·intro _;exact⟨0,by omega,by omega,rfl,by simp,rfl⟩
 ·rintro q t5 H' ⟨i,hi,rfl,rfl,ho,rfl⟩ hsc _ hsF Kb hKb;by_cases hlt:i<s.length
  ·rw[List.drop_eq_getElem_cons hlt,List.takeWhile_cons]at ho;simp[zq2,hlt];simp only[aCallV,hcl,List.append_nil];refine hf _ _ _ ?_;cases hc:cl s[i] with
   |true=>rw[hc,if_pos rfl,List.append_cons,←List.take_succ_eq_append_getElem hlt]at ho;simp;rw[zaB (by omega) (by omega)];refine hKb _ _ ⟨s.length-(i+1),by omega,Back.here (Nat.le_refl _) hs ?_ ⟨_,rfl,i+1,by omega,rfl,by simp,ho,rfl⟩⟩;simp[zlv,AV.sc,AV.scV,AV.scA,AV.scB]
   |false=>rw[hc,if_neg (by simp),List.append_nil]at ho;rw[←ho]at hO;simp[hi];exact hO
  ·simp[zq2,hlt];obtain rfl:i=s.length:=by omega
   rw[List.drop_length,List.takeWhile_nil,List.append_nil,List.take_length]at ho;rw[←ho]at hO;simpa using hO
theorem zFq(b:UInt8)(r:List UInt8):(b::r).take 1=[b]:=by simp
theorem zv0{s:List UInt8}(h:¬ 2≤s.length):ze1 s=false:=by
 match s,h with
 |[],_=>rfl
 |[b],_=>simp[ze1]
 |_::_::_,h=>simp at h
theorem zEp(b:UInt8)(r:List UInt8)(h:ze1 (b::r)=false):sgn (b::r)=if sgns.contains b=true then 1 else 0:=by simp[sgn,h]
theorem zEw(b:UInt8)(r:List UInt8)(H:zaa)(K:AV→zaa→Prop)(hK:K (.str ((b::r).take (sgn (b::r)))) H):ACalls tP zoA [.str (b::r)] H K:=by
 refine ACalls.out (zK3 λhs=>?_);have hO:=zbx (K:=K) (H:=H) (r:=.str ((b::r).take (sgn (b::r)))) hs rfl rfl hK;have one:ze1 (b::r)=false→zly (.str (b::r)) H (Out H.length K):=by
  intro h2;rw[zEp b r h2]at hO;have hO:Out H.length K (.str (if sgns.contains b=true then [b] else [])) H:=by cases hc:sgns.contains b <;> rw[hc]at hO <;> simpa using hO
  have step:∀ (c:UInt8) (cs:List UInt8) (rest:Prop),(Out H.length K (.str (if cs.contains b=true then [b] else [])) H→rest)→Out H.length K (.str (if (c::cs).contains b=true then [b] else [])) H →
    zac .eql false (.str [b]) (.str [c]) λt=>zag t (zci (.str (b::r)) t H (Out H.length K)) rest:=by
   intro c cs rest h h';rw[List.contains_cons]at h';cases e:(b == c) with
   |true=>rw[e]at h';simpa[zci,e]using h'
   |false=>rw[e,Bool.false_or]at h';simpa[zci,e]using h h'
  unfold zly;simp only[zBk,zBa,zA9,Int.toNat_one,zFq,List.drop_zero];refine⟨by decide,⟨by omega,by simp⟩,?_⟩
  revert hO
  unfold sgns
  iterate 12 refine step _ _ _ ?_
  intro h';rw[List.contains_cons]at h';cases e:(b == 95) <;> rw[e]at h' <;> simpa[zci,e]using h'
 by_cases hl:2≤(b::r).length
 ·have hl':(2:Int)≤r.length+1:=by simp only[List.length_cons]at hl;omega
  have hl2:1≤r.length:=by simp only[List.length_cons]at hl;omega
  cases h2:ze1 (b::r) with
  |true=>
   have h3:sgn (b::r)=2:=by simp[sgn,h2]
   rw[h3]at hO;unfold ze1 at h2;simp only[List.take_succ_cons]at h2 hO;cases e1:(b::List.take 1 r == [45,62]) with
   |true=>simpa[zgJ,hl',hl2,zfP,e1]using hO
   |false=>
    cases e2:(b::List.take 1 r == [60,61]) with
    |true=>simpa[zgJ,hl',hl2,zfP,e1,e2]using hO
    |false=>rw[e1,e2]at h2;simp only[Bool.false_or]at h2;simpa[zgJ,hl',hl2,zfP,e1,e2,h2]using hO
  |false=>have ho:=one h2;unfold ze1 at h2;simp only[List.take_succ_cons]at h2;rw[Bool.or_eq_false_iff,Bool.or_eq_false_iff]at h2;simpa[zgJ,hl',hl2,zfP,h2.1.1,h2.1.2,h2.2]using ho
 ·have ho:=one (zv0 hl);have:¬ ((2:Int)≤r.length+1):=by simp only[List.length_cons]at hl;omega
  simpa[zgJ,this]using ho
def Tk.cs(t:Tk):List AV:=[.int .i64 t.kind,.str t.text,.int .i64 t.pos]
def zj4(kw:List UInt8→Bool)(b:UInt8)(r:List UInt8)(i:Nat):AV:=
 match tok kw b r with
 |.error e=>.tup [.agg [.int .i64 0,.str [],.int .i64 0],.int .i64 e]
 |.ok (k,n)=>.tup [.agg (Tk.cs ⟨k,(b::r).take n,i⟩),.int .i64 0]
theorem zpu{p:UInt8→Bool}(b:UInt8)(r:List UInt8):(b::r).take ((r.takeWhile p).length+1)=b::r.takeWhile p:=by
 rw[List.take_succ_cons];congr 1;induction r with
 |nil=>simp
 |cons c r ih=>by_cases h:p c=true <;> simp[h,ih]
theorem zC2:zc5 tP zhx=true:=by kernel_rfl
theorem zC3:zc5 tP zfx=true:=by kernel_rfl
theorem zvm{H J:zaa}{K:AV→zaa→Prop}{k p e:Int}{t:List UInt8}(hs:HSc H)(h:K (.tup [.agg [.int .i64 k,.str t,.int .i64 p],.int .i64 e]) H):
  Out H.length K (.tup [.agg [.int .i64 k,.str t,.int .i64 p],.int .i64 e]) (H++J):=Out.tup hs h ⟨zcO rfl rfl,zcO rfl rfl,trivial⟩
def zlt(t4 t6:AV)(H:zaa)(K:AV→zaa→Prop):Prop:=
 zaf 1 t6 λt69=>
 zae false 1 t69 H λt70=>
 ACalls tP zhy [t70] H λt71 H=>
 aUn .not t71 λt72=>
 zag t72
 (zaq [(.int .i64 0),(.str []),(.int .i64 0)] [(0,1),(1,1),(2,1)] [] λt73=>
 zak 3 t4 t73 H λH=>
 zae true 3 t4 H λr0=>
 zbf [r0,(.int .i64 9)] (K · H))
 (zgI t4 t6 H K)
theorem zEk(s:List UInt8)(hl:s.length≤1000000)(i:Nat)(hi:i<s.length)(H:zaa)(K:AV→zaa→Prop)(hK:K (zj4 (kwF zce) s[i] (s.drop (i+1)) i) H):ACalls tP zoy [.str s,.int .i64 i] H K:=by
 refine ACalls.out (zKs λhs=>?_);have hdr:=List.drop_eq_getElem_cons hi;have hrl:(s.drop i).length≤1000000:=by simp;omega
 generalize hb:s[i]=b at *;generalize hr:s.drop (i+1)=r at *;have hb':s[i]?.getD 0=b:=by simp[hi,hb]
 have post:∀(k:Int) (n:Nat),tok (kwF zce) b r=.ok (k,n)→∀t,(b::r).take n=t→zgI (.ptr H.length 0) (.ptr (H.length+1) 0) (H++[.cells [.int .i64 0,.str [],.int .i64 0],.cells [.int .i64 k,.str t,.int .i64 i]]) (Out H.length K):=by intro k n ht t hte;subst hte;simp[zj4,ht,Tk.cs]at hK;simp[zgI,zyK,AV.known,AV.isV];exact zvm hs hK
 have bad:∀e:Int,tok (kwF zce) b r=.error e→∀J,Out H.length K (.tup [.agg [.int .i64 0,.str [],.int .i64 0],.int .i64 e]) (H++J):=by intro e ht J;simp[zj4,ht]at hK;exact zvm hs hK
 have hi':=Nat.le_of_lt hi;by_cases hLU:(zdk b || bUp b)=true
 ·have hin:bIn b=true:=by simp[bIn,hLU]
  simp[zq1,hi,hb,hi',zaq,zaN,AV.known];refine zn3 b _ _ ?_;have hc:zdk b=true∨(zdk b=false∧bUp b=true):=by cases hL:zdk b <;> simp[hL]at hLU ⊢;exact hLU
  have hpost:=λk=>post k ((r.takeWhile bIn).length+1);simp only[tok,hLU,if_true,zpu]at hpost;rcases hc with hL|⟨hL,hU⟩
  case' inl=>simp[hL]
  case' inr=>simp[hL];refine zki b _ _ ?_;simp[hU]
  all_goals
   rw[hdr];refine zvx bIn zhx zC2 zF4 (b::r) (by rw[←hdr];exact hrl) _ _ ?_;simp[hin,AV.known];by_cases hn:(r.takeWhile bIn).length+1>24
   ·have hn':(24:Int)<(r.takeWhile bIn).length+1:=by omega
    have:=bad 9 (by simp only[tok,hLU,if_true];rw[if_pos hn]);simp[hn',AV.known,AV.isV];exact this _
   ·have hn':¬ (24:Int)<(r.takeWhile bIn).length+1:=by omega
    simp[hn'];refine zki b _ _ ?_;rw[if_neg hn]at hpost;cases hU:bUp b with
    |true=>simp[AV.known,zgH];exact hpost 2 (by simp[hU]) _ rfl
    |false=>
     simp[AV.known];refine zC1 _ _ _ ?_;cases hkw:kwF zce (b::r.takeWhile bIn) with
     |true=>simp[AV.known,zgH];exact hpost 4 (by simp[hU,hkw]) _ rfl
     |false=>simp[AV.known,zgH];exact hpost 1 (by simp[hU,hkw]) _ rfl
 ·have hL:zdk b=false:=by simp at hLU;exact hLU.1
  have hU:bUp b=false:=by simp at hLU;exact hLU.2
  simp[zq1,hi,hb,zaq,zaN,AV.known];refine zn3 b _ _ ?_;simp[hL];refine zki b _ _ ?_;simp[hU];refine znD b _ _ ?_;cases hD:zbq b with
  |true=>
   simp[hi',AV.known];rw[hdr];refine zvx zbq zfx zC3 znD (b::r) (by rw[←hdr];exact hrl) _ _ ?_;have e1:((b.toNat:Int) == 48)=(b == 48):=zfa b 48;have htk:tok (kwF zce) b r=if (b == 48 && decide ((r.takeWhile zbq).length+1>1))=true then .error 2 else if zdy (b::r.takeWhile zbq) 0=true then .ok (3,(r.takeWhile zbq).length+1) else .error 9:=by simp only[tok,hLU,hD,if_true,zpu];rfl
   have hsm:∀J,ACalls tP zhy [.str (b::r.takeWhile zbq)] (H++J) λt H'=>t=.bool (zdy (b::r.takeWhile zbq) 0)∧H'=H++J:=by
    intro J;refine zEF _ ?_ ?_ _ _ ⟨rfl,rfl⟩
    ·intro c hc;rcases List.mem_cons.1 hc with rfl | hc
     ·exact hD
     ·exact List.all_eq_true.1 (List.all_takeWhile) c hc
    ·have h1:(r.takeWhile zbq).length≤r.length:=(List.takeWhile_sublist _).length_le;rw[hdr]at hrl;simp at hrl ⊢;omega
   simp[hD,AV.known,e1];have hpost:=post 3 ((r.takeWhile zbq).length+1);rw[zpu]at hpost;rw[htk]at hpost bad;have last:∀J,(¬(b == 48 && decide ((r.takeWhile zbq).length+1>1))=true)→J=[.cells [.int .i64 0,.str [],.int .i64 0],.cells [.int .i64 3,.str (b::r.takeWhile zbq),.int .i64 i]]→zlt (.ptr H.length 0) (.ptr (H.length+1) 0) (H++J) (Out H.length K):=by
    rintro J hne rfl;rw[if_neg hne]at hpost bad;simp[zlt];refine(hsm _).mono ?_;rintro _ _ ⟨rfl,rfl⟩;cases hv:zdy (b::r.takeWhile zbq) 0 with
    |true=>simp;exact hpost (by simp[hv]) _ rfl
    |false=>simp[AV.known,zaq,zaN,AV.isV];exact bad 9 (by simp[hv]) _
   cases hz:(b == 48) with
   |true=>
    simp[hz];by_cases hn:1<(r.takeWhile zbq).length+1
    ·have hn':(1:Int)<(r.takeWhile zbq).length+1:=by omega
     have hd:decide ((r.takeWhile zbq).length+1>1)=true:=decide_eq_true hn;have:=bad 2 (by rw[hz,hd];rfl);simp[hn',AV.known,AV.isV];exact this _
    ·have hn':¬ (1:Int)<(r.takeWhile zbq).length+1:=by omega
     have hd:decide ((r.takeWhile zbq).length+1>1)=false:=decide_eq_false hn;have:=last _ (by rw[hz,hd];decide) rfl;simp[zlt,zaq,zaN]at this;simp[hn'];exact this
   |false=>have:=last _ (by simp[hz]) rfl;simp[zlt,zaq,zaN]at this;simp[hz];exact this
  |false=>
   simp[hi',AV.known];rw[hdr];refine zEw b r _ _ ?_;simp[AV.known];have htk:tok (kwF zce) b r=if sgn (b::r)=0 then .error 2 else .ok (5,sgn (b::r)):=by simp only[tok,hLU,hD];rfl
   by_cases hz:sgn (b::r)=0
   ·have:=bad 2 (by rw[htk,if_pos hz]);simp[hz,AV.isV];exact this _
   ·have:=post 5 (sgn (b::r)) (by rw[htk,if_neg hz]) _ rfl;have he:(List.take (sgn (b::r)) (b::r)).isEmpty=false:=by
     cases h:sgn (b::r) with
     |zero=>exact absurd h hz
     |succ n=>simp
    simp[he];exact this
def cat(l:List Tk):Except (Nat × Int) (List Tk)→Except (Nat × Int) (List Tk)
 |.error e=>.error e
 |.ok m=>.ok (l++m)
theorem zB5(l m:List Tk)(r:Except (Nat×Int) (List Tk)):cat l (cat m r)=cat (l++m) r:=by cases r <;> simp[cat]
@[simp] theorem zTu(r:Except (Nat×Int) (List Tk)):cat [] r=r:=by cases r <;> rfl
def ze2(r:List UInt8):List UInt8:=r.dropWhile (· != 10)
def ze3(r:List UInt8):Nat:=(r.takeWhile (· != 10)).length
section
variable (kw:List UInt8→Bool)
theorem zwu(p:Nat):zbm kw [] p=.ok [⟨6,[],p⟩]:=by unfold zbm;rfl
theorem zFu{b:UInt8}(h:zed b=true)(r:List UInt8)(p:Nat):zbm kw (b::r) p=zbm kw r (p+1):=by
 conv=>lhs;unfold zbm
 simp[h]
theorem zFw{b:UInt8}(h0:zed b=false)(h:(b == 35)=true)(r:List UInt8)(p:Nat):zbm kw (b::r) p=zbm kw (ze2 r) (p+1+ze3 r):=by
 conv=>lhs;unfold zbm
 simp only[h0,h,Bool.false_eq_true,if_false,if_true];rfl
theorem zFv{b:UInt8}(h0:zed b=false)(h:(b == 35)=false){r:List UInt8}{p:Nat}{e:Int}(ht:tok kw b r=.error e):zbm kw (b::r) p=.error (p,e):=by
 conv=>lhs;unfold zbm
 simp only[h0,h,Bool.false_eq_true,if_false,ht]
theorem zFx{b:UInt8}(h0:zed b=false)(h:(b == 35)=false){r:List UInt8}{p:Nat}{k:Int}{n:Nat}(ht:tok kw b r=.ok (k,n)):
  zbm kw (b::r) p=cat [⟨k,(b::r).take n,p⟩] (zbm kw ((b::r).drop n) (p+n)):=by
 conv=>lhs;unfold zbm
 have hn:=zwt ht;obtain⟨m,rfl⟩:∃m,n=m+1:=⟨n-1,by omega⟩;simp only[h0,h,Bool.false_eq_true,if_false,ht,Nat.add_sub_cancel,List.drop_succ_cons];cases zbm kw (r.drop m) (p+(m+1)) <;> rfl
end
theorem zv4{b:UInt8}(h:(b == 10)=false)(r:List UInt8):ze2 (b::r)=ze2 r∧ze3 (b::r)=1+ze3 r:=by
 have hb:b≠10:=by simpa using h
 constructor
 ·simp[ze2,hb]
 ·simp[ze3,hb];omega
theorem zEz{b:UInt8}(h:(b == 10)=true)(r:List UInt8):ze2 (b::r)=b::r∧ze3 (b::r)=0:=by
 have hb:b=10:=by simpa using h
 constructor
 ·simp[ze2,hb]
 ·simp[ze3,hb]
theorem skipC_nil:ze2 []=[]∧ze3 []=0:=⟨rfl,rfl⟩
theorem zFt{kw:List UInt8→Bool}{b:UInt8}{r:List UInt8}{k:Int}{n:Nat}(h:tok kw b r=.ok (k,n)):n≤(b::r).length:=by
 have tw:∀p:UInt8→Bool,(r.takeWhile p).length≤r.length:=λp=>(List.takeWhile_sublist _).length_le;unfold tok at h;split at h
 ·simp only at h;split at h <;> simp at h;have:=tw bIn;simp;omega
 ·split at h
  ·simp only at h;split at h
   ·simp at h
   ·split at h <;> simp at h;have:=tw zbq;simp;omega
  ·simp only at h;split at h <;> simp at h
   obtain⟨_,rfl⟩:=h;unfold sgn;split
   ·rename_i h2;by_cases hl:2≤(b::r).length
    ·exact hl
    ·rw[zv0 hl]at h2;cases h2
   ·split
    ·simp
    ·split <;> simp
theorem zFs{kw:List UInt8→Bool}{b:UInt8}{r:List UInt8}{e:Int}(h:tok kw b r=.error e):e=2∨e=9:=by
 unfold tok at h;split at h
 ·simp only at h;split at h <;> simp at h;omega
 ·split at h
  ·simp only at h;split at h
   ·simp at h;omega
   ·split at h <;> simp at h;omega
  ·simp only at h;split at h <;> simp at h;omega
def zhW(s:List UInt8):AV:=
 if s.length>16384 then .tup [.sl [] .none,.int .i64 0,.int .i64 9] else
 match zbm (kwF zce) s 0 with
 |.error (p,e)=>.tup [.sl [] .none,.int .i64 p,.int .i64 e]
 |.ok l=>.tup [.sl (l.map Tk.cs) .none,.int .i64 0,.int .i64 0]
theorem two{H:zaa}{x y:AB}:H++[x,y]=(H++[x])++[y]:=by simp
theorem zDS{H J:zaa}{K:AV→zaa→Prop}{p e:Int}(hs:HSc H)(hK:K (.tup [.sl [] .none,.int .i64 p,.int .i64 e]) H):Out H.length K (.tup [.snil,.int .i64 p,.int .i64 e]) (H++J):=
 Out.tup hs hK ⟨zhV,zcO rfl rfl,zcO rfl rfl,trivial⟩
theorem zFh(s:List UInt8)(H:zaa)(K:AV→zaa→Prop)(hK:K (zhW s) H):ACalls tP zot [.str s] H K:=by
 refine ACalls.out (zJU λhs=>?_);by_cases hl:s.length>16384
 ·have hl':(16384:Int)<s.length:=by omega
  simp[zqQ,hl',AV.isV];unfold zhW at hK;rw[if_pos hl]at hK;exact Out.tup0 hs hK ⟨zhV,zcO rfl rfl,zcO rfl rfl,trivial⟩
 have hl':¬(16384:Int)<s.length:=by omega
 unfold zhW at hK;rw[if_neg hl]at hK;simp[zqQ,hl'];have hperm:∀n,HSc (H++[.perm zeM 3 n]):=λn=>hs.append rfl;unfold zln;refine ALoop.own 5 zeM 3 rfl ?_;show zln (.str s) (.sl [] (.own H.length)) (.int .i64 0) (H++[.perm zeM 3 0]) (Out H.length K);refine zJR (Inv:=λq t5 t6 H'=>∃(i:Nat) (l:List Tk),i≤s.length∧l.length≤i∧q=s.length-i∧t6=.int .i64 i∧t5=.sl (l.map Tk.cs) (.own H.length)∧H'=H++[.perm zeM 3 l.length]∧cat l (zbm (kwF zce) (s.drop i) i)=zbm (kwF zce) s 0) s.length ?_ ?_
 ·intro _;exact⟨0,[],by omega,by simp,by omega,rfl,rfl,rfl,by simp⟩
 ·rintro q t5 t6 H' ⟨i,l,hi,hll,rfl,rfl,rfl,rfl,ho⟩ hsc hlen hsF Kb hKb;have done:cat l (.ok [⟨6,[],s.length⟩])=zbm (kwF zce) s 0→zlm (.str s) (.sl (l.map Tk.cs) (.own H.length)) (H++[.perm zeM 3 l.length]) (Out H.length K):=by intro ho;rw[←ho]at hK;simp[zlm,zyt,zaq,zaN,zar,za3,plain,AV.pd,zay,zbb,za0,AV.isV];refine⟨by omega,?_⟩;simp[cat,Tk.cs]at hK;exact Out.tup hs hK ⟨slV,zcO rfl rfl,zcO rfl rfl,trivial⟩
  by_cases hlt:i<s.length
  ·have hdr:=List.drop_eq_getElem_cons hlt;simp[zqR,hlt];refine zBU _ _ _ ?_;have e35:((s[i].toNat:Int) == 35)=(s[i] == 35):=zfa s[i] 35;cases hbl:zed s[i] with
   |true=>rw[hdr,zFu _ hbl]at ho;simp[zgE];rw[zaB (by omega) (by omega)];refine hKb _ _ ⟨s.length-(i+1),by omega,Back.here (by simp) (hperm _) ?_ ⟨_,_,rfl,i+1,l,by omega,by omega,rfl,by simp,rfl,rfl,ho⟩⟩;simp[zgD,AV.sc,AV.scV,AV.scA,AV.scB]
   |false=>
    simp[e35];cases hsh:(s[i] == 35) with
    |true=>
     simp;rw[hdr,zFw _ hbl hsh]at ho;have h10:(s[i] == 10)=false:=by rw[beq_iff_eq]at hsh;rw[hsh];rfl
     obtain⟨c1,c2⟩:=zv4 h10 (s.drop (i+1));rw[Nat.add_assoc,←c1,←c2,←hdr]at ho;refine zJS (Inv:=λq t6 H'=>∃(j:Nat),i≤j∧j≤s.length∧q=s.length-j∧t6=.int .i64 j∧H'=H++[.perm zeM 3 l.length]∧cat l (zbm (kwF zce) (ze2 (s.drop j)) (j+ze3 (s.drop j)))=zbm (kwF zce) s 0) (s.length-i) ?_ ?_
     ·intro _;exact⟨i,by omega,by omega,by omega,rfl,rfl,ho⟩
     ·rintro q t6 H' ⟨j,hij,hj,rfl,rfl,rfl,ho⟩ hsc hlen hsF Kb9 hKb9;by_cases hjlt:j<s.length
      ·have hdrj:=List.drop_eq_getElem_cons hjlt;have e10:((s[j].toNat:Int) == 10)=(s[j] == 10):=zfa s[j] 10;simp[zqS,hjlt,e10];cases hz:(s[j] == 10) with
       |true=>
        obtain⟨d1,d2⟩:=zEz hz (s.drop (j+1));rw[hdrj,d1,d2,←hdrj,Nat.add_zero]at ho;have hij':i≠j:=by rintro rfl;rw[h10]at hz;cases hz
        simp[zgE];refine hKb _ _ ⟨s.length-j,by omega,Back.here (by simp) (hperm _) ?_ ⟨_,_,rfl,j,l,by omega,by omega,rfl,by simp,rfl,rfl,ho⟩⟩;simp[zgD,AV.sc,AV.scV,AV.scA,AV.scB]
       |false=>obtain⟨d1,d2⟩:=zv4 hz (s.drop (j+1));rw[hdrj,d1,d2,←Nat.add_assoc]at ho;simp;rw[zaB (by omega) (by omega)];refine hKb9 _ _ ⟨s.length-(j+1),by omega,Back.here (by simp) (hperm _) ?_ ⟨_,rfl,j+1,by omega,by omega,rfl,by simp,rfl,ho⟩⟩;simp[zll,AV.sc,AV.scV,AV.scA,AV.scB]
      ·obtain rfl:j=s.length:=by omega
       simp[zqS];rw[List.drop_length,skipC_nil.1,skipC_nil.2,Nat.add_zero,zwu]at ho;exact done ho
    |false=>
     simp;refine zEk s (by omega) i hlt _ _ ?_;unfold zj4;cases ht:tok (kwF zce) s[i] (s.drop (i+1)) with
     |error e=>
      rw[hdr,zFv _ hbl hsh ht]at ho;have he:(e != 0)=true:=by rcases zFs ht with rfl|rfl <;> rfl
      rw[←ho]at hK;simp[AV.known,AV.isV,he];exact zDS hs hK
     |ok kn=>
      obtain⟨k,n⟩:=kn;rw[hdr,zFx _ hbl hsh ht,zB5,←hdr]at ho;have hn:=zFt ht;rw[←hdr]at hn;simp at hn;have hn0:=zwt ht;simp[Tk.cs,AV.known,zar,za3,plain,AV.pd,zay,zbb,za0,zgE];refine⟨by omega,?_⟩;rw[show min n (s.length-i)=n by omega,zaB (by omega) (by omega),two];refine hKb _ _ ⟨s.length-(i+n),by omega,Back.same (by simp) (hperm _) ?_ ⟨_,_,rfl,i+n,l++[⟨k,(s.drop i).take n,i⟩],by omega,by simp;omega,rfl,by simp,by simp[Tk.cs],by simp,?_⟩⟩
      ·simp[zgD,AV.sc,AV.scV,AV.scA,AV.scB]
      ·rw[List.drop_drop]at ho;exact ho
  ·obtain rfl:i=s.length:=by omega
   rw[List.drop_length,zwu]at ho;simpa[zqR]using done ho
section
variable (s:List UInt8) (hl:¬s.length>16384) (i:Nat) (hlt:i<s.length) (H:zaa) (l:List Tk) (hll:l.length≤i) (hperm:∀n,HSc (H++[.perm ztM 3 n])) (K:AV→zaa→Prop) (Kb:List AV→zaa→Prop)
include hl hlt hll hperm
end
section
variable (s:List UInt8) (hl:¬s.length>16384) (i:Nat) (hlt:i<s.length) (H:zaa) (l:List Tk) (hll:l.length≤i) (hperm:∀n,HSc (H++[.perm ztM 3 n])) (K:AV→zaa→Prop) (Kb:List AV→zaa→Prop)
include hl hlt hll hperm
end
end Go.Proofs.YtaifokkaaahdoaaGreatDoor
namespace Go.Proofs.YtaifokkaaahdoaaGreatDoor
open Go Go.Abs
set_option maxRecDepth 100000
end Go.Proofs.YtaifokkaaahdoaaGreatDoor

namespace Go.Proofs.YtaifokkaaahdoaaGreatDoor
open Go Go.Abs
theorem zfZ{k:AV→Prop}(a b:AV)(vs:List AV):zaG (.tup (a::b::vs)) 1 k=k b:=propext Iff.rfl
theorem zf0{k:AV→Prop}(a b c:AV)(vs:List AV):zaG (.tup (a::b::c::vs)) 2 k=k c:=propext Iff.rfl
def ze5(s:List UInt8):List Tk×Int×Int:=
 if s.length>16384 then ([],0,9) else
 match zbm (kwF zce) s 0 with
 |.error (p,e)=>([],p,e)
 |.ok l=>(l,0,0)
theorem zFi(s:List UInt8):zhW s=.tup [.sl ((ze5 s).1.map Tk.cs) .none,.int .i64 (ze5 s).2.1,.int .i64 (ze5 s).2.2]:=by
 unfold zhW ze5;split
 ·rfl
 ·split <;> (rename_i h;simp[h])
def zcV(s:List UInt8)(x:List Tk × Int × Int):Bool:=x.2.2 == 0 && match x.1 with
 |[a,_]=>a.kind == 2 && a.text == s
 |_=>false
def zcI(s:List UInt8):Bool:=zcV s (ze5 s)
theorem zyl(s:List UInt8)(H:zaa)(K:AV→zaa→Prop)(hK:K (.bool (zcI s)) H):ACalls tP zjp [.str s] H K:=by
 refine ACalls.out (zJz λhs=>?_);have hO:Out H.length K (.bool (zcI s)) H:=Out.bool (J:=[]) (by simp) (Nat.le_refl _) hs hK;simp only[zyk];refine zFh s _ _ ?_;rw[zFi];rw[zcI]at hO;generalize ze5 s=x at hO ⊢;obtain⟨l,p,e⟩:=x;clear hK;cases h0:e == 0 with
 |false=>rw[show zcV s (l,p,e)=false by simp[zcV,h0]]at hO;simp[zfZ,zf0,h0];exact hO
 |true=>
 match l with
 |[]=>rw[show zcV s ([],p,e)=false by simp[zcV]]at hO;simp[zfZ,zf0,h0];exact hO
 |[x]=>rw[show zcV s ([x],p,e)=false by simp[zcV]]at hO;simp[zfZ,zf0,h0];exact hO
 |[a,x]=>
  rw[show zcV s ([a,x],p,e)=(a.kind == 2 && a.text == s) by simp[zcV,h0]]at hO;cases hk:a.kind == 2 with
  |false=>rw[hk]at hO;simp[zfZ,zf0,h0,Tk.cs,hk];exact hO
  |true=>rw[hk]at hO;simp[zfZ,zf0,h0,Tk.cs,hk];exact hO
 |a::b::c::r=>
  rw[show zcV s (a::b::c::r,p,e)=false by simp[zcV]]at hO;have:¬((r.length:Int)+1+1+1=2):=by omega
  have h2:((r.length:Int)+1+1+1 == 2)=false:=by simpa using this
  simp[zfZ,zf0,h0,h2];exact hO
def zdw(l:List (List UInt8)):Bool:=!decide l.Nodup
def strs(l:List (List UInt8)):List (List AV):=l.map λs=>[.str s]
@[simp] theorem zUf(l:List (List UInt8)):(strs l).length=l.length:=by simp[strs]
theorem zD8{l:List (List UInt8)}{i j:Nat}(hi:i<l.length)(hj:j<i)(h:l[i]=l[j]):zdw l=true:=by simp only[zdw,Bool.not_eq_true',decide_eq_false_iff_not];intro hn;exact(List.pairwise_iff_getElem.mp hn) j i (by omega) hi hj h.symm
end Go.Proofs.YtaifokkaaahdoaaGreatDoor
namespace Go.Proofs.YtaifokkaaahdoaaGreatDoor
open Go Go.Abs
set_option maxRecDepth 100000
def zfI:Nat→List Bool
 |5=>rl false [0,1,2,2,9,2,89]
 |13=>rl false [0,1,2,3,8,2,60,3,26]
 |_=>[]
noncomputable def zp9:Code:=Tryz.f131.body.getD .skip
noncomputable def zHt:List ResultVar:=Tryz.f131.results.toList
def zkN(t0 t3 t4 t14 t15:AV):List AV:=t0::ux 2 (t3::t4::ux 9 (t14::t15::ux 89 []))
def zxq:List Bool:=zfI 5
noncomputable def zqa:Code:=zat [1,1,1,0,1,0,0] zp9
def zxn(K:Kt):AExit→List AV→zaa→Prop:=zau tP zfI [1,1,1,0,1,0] zp9 (zaz tP zHt K)
def zxp(t0 t3 t4 t14 t15:AV)(H:zaa)(K:Kt):Prop:=ALoop tP zqa (zxn K) (zkN t0 t3 t4 t14 t15) H
def zkM(t0 t3 t4 t5 t14 t15 t76 t77 t78:AV):List AV:=t0::ux 2 (t3::t4::t5::ux 8 (t14::t15::ux 60 (t76::t77::t78::ux 26 [])))
def zHr:List Bool:=zfI 13
noncomputable def zHo:Code:=zat [1,1,0,0,1,1,1,1,1,0,0] zqa
def zHm(K:Kt)(Kb5:Lt):AExit→List AV→zaa→Prop:=zau tP zfI [1,1,0,0,1,1,1,1,1,0] zqa (zb1 zxq Kb5 (zxn K))
def zxo(t0 t3 t4 t5 t14 t15 t76 t77 t78:AV)(H:zaa)(K:Kt)(Kb5:Lt):Prop:=ALoop tP zHo (zHm K Kb5) (zkM t0 t3 t4 t5 t14 t15 t76 t77 t78) H
def zp7(t0 t3 t4 t5 t14 t15 t76 t77 t78:AV)(H:zaa)(K:Kt)(Kb5:Lt)(Kb13:Lt):Prop:=
 zac .lss false t78 t77 λt79=>
 zag t79
 (zai 2 t76 t78 λt81=>
 zae true 2 t81 H λt82=>
 zaw [(.str []),.snil] H λt7 H=>
 zak 2 t7 t82 H λH=>
 zaf 0 t7 λt83=>
 zae false 1 t83 H λt84=>
 ACalls tP zjp [t84] H λt85 H=>
 aUn .not t85 λt86=>
 zad t86 false H (λK'=>K' t4 H) λt88 H=>
 zad t86 false H (λK'=>zaf 0 t7 (K' · H)) λt89 H=>
 zad t86 false H (λK'=>zae false 1 t89 H (K' · H)) λt90 H=>
 zad t86 false H (λK'=>zdj (.bool false) false t88 t90 H (K' · H)) λt91 H=>
 zao t86 (.bool true) t91 λt92=>
 zad t92 false H (λK'=>K' t0 H) λt94 H=>
 zad t92 false H (λK'=>K' t5 H) λt95 H=>
 zad t92 false H (λK'=>K' t78 H) λt96 H=>
 zad t92 false H (λK'=>ACalls tP zor [t94,t95,t96] H K') λt97 H=>
 zad t92 false H (λK'=>aUn .not t97 (K' · H)) λt98 H=>
 zao t92 (.bool true) t98 λt99=>
 zag t99
 (K (.bool false) H)
 (zaf 0 t7 λt101=>
 zae false 1 t101 H λt102=>
 zcy t4 t102 (.bool true) H λH=>
 zac .add false t78 (.int .i64 1) λt103=>
 Kb13 (zkM t0 t3 t4 t5 t14 t15 t76 t77 t103) H))
 (zac .add false t15 (.int .i64 1) λt104=>
 Kb5 (zkN t0 t3 t4 t14 t104) H)
def zp8(t0 t3 t4 t14 t15:AV)(H:zaa)(K:Kt)(Kb5:Lt):Prop:=
 zac .lss false t15 t14 λt16=>
 zag t16
 (zai 3 t0 t15 λt20=>
 zaf 0 t20 λt21=>
 zae false 1 t21 H λt22=>
 ACalls tP zjp [t22] H λt23 H=>
 aUn .not t23 λt24=>
 zad t24 false H (λK'=>K' t3 H) λt26 H=>
 zad t24 false H (λK'=>K' t0 H) λt27 H=>
 zad t24 false H (λK'=>K' t15 H) λt28 H=>
 zad t24 false H (λK'=>zai 3 t27 t28 (K' · H)) λt29 H=>
 zad t24 false H (λK'=>zaf 0 t29 (K' · H)) λt30 H=>
 zad t24 false H (λK'=>zae false 1 t30 H (K' · H)) λt31 H=>
 zad t24 false H (λK'=>zdj (.bool false) false t26 t31 H (K' · H)) λt32 H=>
 zao t24 (.bool true) t32 λt33=>
 zad t33 false H (λK'=>K' t0 H) λt35 H=>
 zad t33 false H (λK'=>K' t15 H) λt36 H=>
 zad t33 false H (λK'=>zai 3 t35 t36 (K' · H)) λt37 H=>
 zad t33 false H (λK'=>zaf 1 t37 (K' · H)) λt38 H=>
 zad t33 false H (λK'=>zae false 1 t38 H (K' · H)) λt39 H=>
 zad t33 false H (λK'=>zac .lss false t39 (.int .i64 0) (K' · H)) λt40 H=>
 zao t33 (.bool true) t40 λt41=>
 zad t41 false H (λK'=>K' t0 H) λt43 H=>
 zad t41 false H (λK'=>K' t15 H) λt44 H=>
 zad t41 false H (λK'=>zai 3 t43 t44 (K' · H)) λt45 H=>
 zad t41 false H (λK'=>zaf 1 t45 (K' · H)) λt46 H=>
 zad t41 false H (λK'=>zae false 1 t46 H (K' · H)) λt47 H=>
 zad t41 false H (λK'=>zac .gtr false t47 (.int .i64 6) (K' · H)) λt48 H=>
 zao t41 (.bool true) t48 λt49=>
 zag t49
 (K (.bool false) H)
 (zai 3 t0 t15 λt53=>
 zaf 0 t53 λt54=>
 zae false 1 t54 H λt55=>
 zcy t3 t55 (.bool true) H λH=>
 zai 3 t0 t15 λt58=>
 zaf 2 t58 λt59=>
 zae false 1 t59 H λt60=>
 zah 1 t60 λt61=>
 zac .lss false t61 (.int .i64 1) λt62=>
 zad t62 false H (λK'=>K' t0 H) λt64 H=>
 zad t62 false H (λK'=>K' t15 H) λt65 H=>
 zad t62 false H (λK'=>zai 3 t64 t65 (K' · H)) λt66 H=>
 zad t62 false H (λK'=>zaf 2 t66 (K' · H)) λt67 H=>
 zad t62 false H (λK'=>zae false 1 t67 H (K' · H)) λt68 H=>
 zad t62 false H (λK'=>zah 1 t68 (K' · H)) λt69 H=>
 zad t62 false H (λK'=>zac .gtr false t69 (.int .i64 8) (K' · H)) λt70 H=>
 zao t62 (.bool true) t70 λt71=>
 zag t71
 (K (.bool false) H)
 (zai 3 t0 t15 λt74=>
 zaf 2 t74 λt75=>
 zae false 1 t75 H λt76=>
 zah 1 t76 λt77=>
 zxo t0 t3 t4 t15 t14 t15 t76 t77 (.int .i64 0) H K Kb5)))
 (K (.bool true) H)
def zp6(t0:AV)(H:zaa)(K:Kt):Prop:=
 zah 1 t0 λt9=>
 zac .gtr false t9 (.int .i64 12) λt10=>
 zag t10
 (K (.bool false) H)
 (zdG H λt11 H=>
 zdG H λt12 H=>
 zah 1 t0 λt14=>
 zxp t0 t11 t12 t14 (.int .i64 0) H K)
theorem zHp{t0 t3 t4 t5 t14 t15 t76 t77 t78:AV}{H:zaa}{K:Kt}{Kb5:Lt}(Inv:Nat→AV→zaa→Prop)(n:Nat)(h0:HSc H→Inv n t78 H)(round:Rd1 (λt78=>zkM t0 t3 t4 t5 t14 t15 t76 t77 t78) (λt78=>λH Kb13=>zp7 t0 t3 t4 t5 t14 t15 t76 t77 t78 H K Kb5 Kb13) H Inv):zxo t0 t3 t4 t5 t14 t15 t76 t77 t78 H K Kb5:=
 lp1 (M:=zfI) zHr t78 (by kernel_rfl) Inv n h0 round
theorem zHq{t0 t3 t4 t14 t15:AV}{H:zaa}{K:Kt}(Inv:Nat→AV→zaa→Prop)(n:Nat)(h0:HSc H→Inv n t15 H)(round:Rd1 (λt15=>zkN t0 t3 t4 t14 t15) (λt15=>λH Kb5=>zp8 t0 t3 t4 t14 t15 H K Kb5) H Inv):zxp t0 t3 t4 t14 t15 H K:=
 lp1 (M:=zfI) zxq t15 (by kernel_rfl) Inv n h0 round
theorem zHs{t0:AV}{H:zaa}{K:Kt}(h:HSc H→zp6 t0 H K):ACalls tP zof [t0] H K:=
 zap (M:=zfI) Tryz.func131 (c:=zp9) (by kernel_rfl) (λhs=>Eq.mpr (by kernel_rfl) (h hs))
def zlk:Nat→List Bool
 |6=>rl false [0,2,6,1,18,3,29]
 |_=>[]
noncomputable def zqN:Code:=Tryz.f170.body.getD .skip
noncomputable def zJG:List ResultVar:=Tryz.f170.results.toList
def zie(t0 t1 t8 t27 t28 t29:AV):List AV:=t0::t1::ux 6 (t8::ux 18 (t27::t28::t29::ux 29 []))
def zJE:List Bool:=zlk 6
noncomputable def zJC:Code:=zat [1,1,1,1,0,1,0,0] zqN
def zJA(K:Kt):AExit→List AV→zaa→Prop:=zau tP zlk [1,1,1,1,0,1,0] zqN (zaz tP zJG K)
def zyn(t0 t1 t8 t27 t28 t29:AV)(H:zaa)(K:Kt):Prop:=ALoop tP zJC (zJA K) (zie t0 t1 t8 t27 t28 t29) H
def zqM(t0 t1 t8 t27 t28 t29:AV)(H:zaa)(K:Kt)(Kb6:Lt):Prop:=
 zac .lss false t29 t28 λt30=>
 zag t30
 (zai 3 t27 t29 λt32=>
 zae true 3 t32 H λt33=>
 zaw [(.int .i64 0),(.int .i64 0),.snil] H λt10 H=>
 zak 3 t10 t33 H λH=>
 zab H (λK'=>K' t0 H) λt34=>
 zab H (λK'=>K' t1 H) λt35=>
 zab H (λK'=>zac .add false t35 (.int .i64 1) (K' · H)) λt36=>
 zab H (λK'=>zbp 1 3 t34 none (some t36) (K' · H)) λt37=>
 zab H (λK'=>zam true 3 t10 H (K' · H)) λt38=>
 zab H (λK'=>K' t0 H) λt39=>
 zab H (λK'=>K' t1 H) λt40=>
 zab H (λK'=>zai 3 t39 t40 (K' · H)) λt41=>
 zab H (λK'=>zaf 1 t41 (K' · H)) λt42=>
 zab H (λK'=>zam false 1 t42 H (K' · H)) λt43=>
 zaA H (λH K'=>ACalls tP zfB [t37,t38,t43] H K') λt44=>
 zab H (λK'=>aUn .not t44 (K' · H)) λt45=>
 zab H (λK'=>K' t45 H) λt46=>
 zad t46 false H (λK'=>zab H (λK''=>K'' t8 H) (K' · H)) λt47 H=>
 zad t46 false H (λK'=>zab H (λK''=>K'' t29 H) (K' · H)) λt48 H=>
 zad t46 false H (λK'=>zab H (λK''=>zai 1 t47 t48 (K'' · H)) (K' · H)) λt49 H=>
 zad t46 false H (λK'=>zab H (λK''=>zam false 1 t49 H (K'' · H)) (K' · H)) λt50 H=>
 zad t46 false H (λK'=>zab H (λK''=>aUn .not t50 (K'' · H)) (K' · H)) λt51 H=>
 zad t46 false H (λK'=>zab H (λK''=>K'' t51 H) (K' · H)) λt52 H=>
 zad t52 true H (λK'=>zab H (λK''=>zam true 3 t10 H (K'' · H)) (K' · H)) λt53 H=>
 zad t52 true H (λK'=>zab H (λK''=>K'' t1 H) (K' · H)) λt54 H=>
 zad t52 true H (λK'=>zaA H (λH K''=>ACalls tP zjr [t53,t54] H K'') (K' · H)) λt55 H=>
 zad t46 false H (λK'=>zab H (λK''=>zao t52 t55 (.bool false) (K'' · H)) (K' · H)) λt56 H=>
 zab H (λK'=>zao t46 (.bool true) t56 (K' · H)) λt57=>
 zag t57
 (K (.bool false) H)
 (zac .add false t29 (.int .i64 1) λt58=>
 Kb6 (zie t0 t1 t8 t27 t28 t58) H))
 (K (.bool true) H)
def zym(t0 t1 t2:AV)(H:zaa)(K:Kt):Prop:=
 zai 3 t0 t1 λt13=>
 zaf 2 t13 λt14=>
 zae false 1 t14 H λt15=>
 zai 2 t15 t2 λt17=>
 zaf 1 t17 λt18=>
 zae false 1 t18 H λt19=>
 zah 1 t19 λt21=>
 zac .gtr false t21 (.int .i64 6) λt22=>
 zag t22
 (K (.bool false) H)
 (ACalls tP zou [t0,t1,t2] H λt26 H=>
 zah 1 t19 λt28=>
 zyn t0 t1 t26 t19 t28 (.int .i64 0) H K)
theorem zJD{t0 t1 t8 t27 t28 t29:AV}{H:zaa}{K:Kt}(Inv:Nat→AV→zaa→Prop)(n:Nat)(h0:HSc H→Inv n t29 H)(round:Rd1 (λt29=>zie t0 t1 t8 t27 t28 t29) (λt29=>λH Kb6=>zqM t0 t1 t8 t27 t28 t29 H K Kb6) H Inv):zyn t0 t1 t8 t27 t28 t29 H K:=
 lp1 (M:=zlk) zJE t29 (by kernel_rfl) Inv n h0 round
theorem zJF{t0 t1 t2:AV}{H:zaa}{K:Kt}(h:HSc H→zym t0 t1 t2 H K):ACalls tP zor [t0,t1,t2] H K:=
 zap (M:=zlk) Tryz.func170 (c:=zqN) (by kernel_rfl) (λhs=>Eq.mpr (by kernel_rfl) (h hs))
end Go.Proofs.YtaifokkaaahdoaaGreatDoor

namespace Go.Proofs.YtaifokkaaahdoaaGreatDoor
open Go Go.Abs
def zec(data:List Dat)(d:Nat)(vars:Int)(t:VT):Bool:=zaD (data.take (d+1)) vars t && (zc7 d vars t || !zcn d t)
end Go.Proofs.YtaifokkaaahdoaaGreatDoor

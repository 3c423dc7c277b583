import Derived.Test.YtaifokkaaahdoaaGreatDoorKNum
import Derived.Test.YtaifokkaaahdoaaGreatDoorProg
import Derived.KernelRfl
import Derived.Test.YtaifokkaaahdoaaGreatDoorKGF11
import Derived.Test.YtaifokkaaahdoaaGreatDoorAbsQ1
import Derived.Test.YtaifokkaaahdoaaGreatDoorKGL2
set_option linter.unusedSimpArgs false
set_option linter.unusedVariables false
set_option linter.unusedSectionVars false
set_option maxRecDepth 100000
namespace Go.Proofs.YtaifokkaaahdoaaGreatDoor
section
variable (t0 t1 t2 t3 t4 t5 t6 t7 t8 t9 t10:AV) (H:zaa) (K:Kt) (Kb1 Kb2 Kb4:Lt)
def zSz(_:Nat):List Bool:=[]
noncomputable def zSA:=Tryz.f42.body.getD .skip
def zua:=zaw t0 H λt2 H=>zaw t1 H λt3 H=>zay [(.bool false),.snil,.snil] H λt4 H=>apu H (zan true 3 t2 H) λt5=>apu H (zan true 3 t3 H) λt6=>zaF H (λH K'=>ACalls tP zkP [t6] H K') λt7=>zaF H (λH K'=>ACalls tP zf5 [t5,t7] H K') λt8=>zam 3 t4 t8 H λH=>zae true 3 t4 H λr0=>K r0 H
def zoG:Nat→List Bool|4=>rl false [0,1,2,3,30]|_=>[]
noncomputable def zvx:=Tryz.f92.body.getD .skip
noncomputable def zWD:=Tryz.f92.results.toList
def zoI:=t0::ux 2 (t3::t4::t5::ux 30 [])
def zWB:=zoG 4
noncomputable def zWz:=zas [1,1,1,0,1,0,0] zvx
def zWy:=zat tP zoG [1,1,1,0,1,0] zvx (zaA tP zWD K)
def zoK:=ALoop tP zWz (zWy K) (zoI t0 t3 t4 t5) H
def zoJ:=ACalls tP zfs [t3] H λt35 H=>K t35 H
def zoH:=zah 1 t0 λt8=>zab .lss false t5 t8 λt9=>zag t9 (zai 1 t0 t5 λt15=>zae false 1 t15 H λt16=>zbg .u64 t16 λt17=>zab .add false t4 t17 λt18=>zab .rem false t18 (.int .u64 1000000000) λt21=>zbg .u32 t21 λt22=>zau 1 [(.int .u32 0)] 1 [(0,t22)] λt23=>zax zbh 1 4 t3 t23 H λt24 H=>zab .quo false t18 (.int .u64 1000000000) λt26=>zab .add false t5 (.int .i64 1) λt11=>Kb4 (zoI t0 t24 t26 t11) H) (zab .gtr false t4 (.int .u64 0) λt28=>zag t28 (zbg .u32 t4 λt31=>zau 1 [(.int .u32 0)] 1 [(0,t31)] λt32=>zax zbh 1 4 t3 t32 H λt33 H=>zoJ t33 H K) (zoJ t3 H K))
def zEW:=zoK t0 .snil (.int .u64 0) (.int .i64 0) H K
def zoM:Nat→List Bool|1=>rl false [0,2,17]|_=>[]
noncomputable def zvz:=Tryz.f93.body.getD .skip
noncomputable def zWJ:=Tryz.f93.results.toList
def zoN:=t0::t1::ux 17 []
def zWH:=zoM 1
noncomputable def zWF:=zas [1,0,0,0] zvz
def zWE:=zat tP zoM [1,0,0] zvz (zaA tP zWJ K)
def zEY:=ALoop tP zWF (zWE K) (zoN t0 t1) H
def zvy:=zah 1 t1 λt8=>zab .gtr false t8 (.int .i64 0) λt9=>zag t9 (ACalls tP ziF [t0,t1] H λt13 H=>zaI t13 0 λt14=>zaI t13 1 λt15=>Kb1 (zoN t1 t15) H) (K t0 H)
def zEX:=zEY t0 t1 H K
def zoO:Nat→List Bool|2=>rl false [0,1,2,1,18]|_=>[]
noncomputable def zvC:=Tryz.f95.body.getD .skip
noncomputable def zWW:=Tryz.f95.results.toList
def zoQ:=t0::ux 2 (t3::ux 18 [])
def zWU:=zoO 2
noncomputable def zWS:=zas [1,1,0,0,0] zvC
def zWR:=zat tP zoO [1,1,0,0] zvC (zaA tP zWW K)
def zE2:=ALoop tP zWS (zWR K) (zoQ t0 t3) H
def zoP:=zab .gtr false t3 (.int .i64 0) λt7=>zac t7 true H (λK'=>K' t0 H) λt9 H=>zac t7 true H (λK'=>K' t3 H) λt10 H=>zac t7 true H (λK'=>zab .sub false t10 (.int .i64 1) (K' · H)) λt11 H=>zac t7 true H (λK'=>zai 1 t9 t11 (K' · H)) λt12 H=>zac t7 true H (λK'=>zae false 1 t12 H (K' · H)) λt13 H=>zac t7 true H (λK'=>zab .eql false t13 (.int .u32 0) (K' · H)) λt14 H=>zak t7 t14 (.bool false) λt15=>zag t15 (zab .sub false t3 (.int .i64 1) λt17=>Kb2 (zoQ t0 t17) H) (za1 1 1 t0 none (some t3) λt20=>zax zbh 1 4 .snil t20 H λt21 H=>K t21 H)
def zE1:=zah 1 t0 λt5=>zE2 t0 t5 H K
def zmf:Nat→List Bool|4=>rl false [0,2,4,3,31]|_=>[]
noncomputable def zsL:=Tryz.f129.body.getD .skip
noncomputable def zMV:=Tryz.f129.results.toList
def zmg:=t0::t1::ux 4 (t6::t7::t8::ux 31 [])
def zMT:=zmf 4
noncomputable def zMR:=zas [1,1,1,0,1,0,0] zsL
def zMQ:=zat tP zmf [1,1,1,0,1,0] zsL (zaA tP zMV K)
def zA5:=ALoop tP zMR (zMQ K) (zmg t0 t1 t6 t7 t8) H
def zsK:=zab .geq false t8 (.int .i64 0) λt16=>zag t16 (zab .mul false t7 (.int .u64 1000000000) λt20=>zai 1 t0 t8 λt23=>zae false 1 t23 H λt24=>zbg .u64 t24 λt25=>zab .add false t20 t25 λt26=>zab .quo false t26 t1 λt31=>zbg .u32 t31 λt32=>zai 1 t6 t8 λt33=>zam 1 t33 t32 H λH=>zab .rem false t26 t1 λt36=>zab .sub false t8 (.int .i64 1) λt18=>Kb4 (zmg t0 t1 t6 t36 t18) H) (ACalls tP zfs [t6] H λt38 H=>zaX [t38,t7] (K · H))
def zA4:=zah 1 t0 λt10=>za9 4 [(.int .u32 0)] t10 t10 H λt11 H=>zah 1 t0 λt13=>zab .sub false t13 (.int .i64 1) λt14=>zA5 t0 t1 t11 (.int .u64 0) t14 H K
def zVA(_:Nat):List Bool:=[]
noncomputable def zVB:=Tryz.f81.body.getD .skip
def zva:=zaw t0 H λt1 H=>zay [(.bool false),.snil,.snil] H λt2 H=>zaf 0 t1 λt3=>zae false 1 t3 H λt4=>aUn .not t4 λt5=>zaf 1 t1 λt6=>zae false 1 t6 H λt7=>zaf 2 t1 λt8=>zae false 1 t8 H λt9=>ACalls tP zde [t5,t7,t9] H λt10 H=>zam 3 t2 t10 H λH=>zae true 3 t2 H λr0=>K r0 H
def zTd(_:Nat):List Bool:=[]
noncomputable def zTe:=Tryz.f51.body.getD .skip
def znI:=zar [(.bool false),.snil,.snil] [(0,1),(1,1),(2,1)] [(0,t0),(1,t1),(2,t2)] λt49=>zam 3 t6 t49 H λH=>zae true 3 t6 H λr0=>K r0 H
def zup:=zay [(.bool false),.snil,.snil] H λt6 H=>ACalls tP zkT [t1] H λt9 H=>ACalls tP zkT [t2] H λt11 H=>zah 1 t9 λt13=>zab .eql false t13 (.int .i64 0) λt14=>zac t14 false H (λK'=>K' t11 H) λt16 H=>zac t14 false H (λK'=>zah 1 t16 (K' · H)) λt17 H=>zac t14 false H (λK'=>zab .eql false t17 (.int .i64 0) (K' · H)) λt18 H=>zak t14 (.bool true) t18 λt19=>zag t19 (zau 1 [(.int .u32 0)] 1 [(0,(.int .u32 1))] λt20=>zar [(.bool false),.snil,.snil] [(0,1),(1,1),(2,1)] [(2,t20)] λt21=>zam 3 t6 t21 H λH=>zae true 3 t6 H λr0=>K r0 H) (ACalls tP zqY [t9,t11] H λt24 H=>zah 1 t24 λt26=>zab .neq false t26 (.int .i64 1) λt27=>zac t27 false H (λK'=>K' t24 H) λt29 H=>zac t27 false H (λK'=>zai 1 t29 (.int .i64 0) (K' · H)) λt30 H=>zac t27 false H (λK'=>zae false 1 t30 H (K' · H)) λt31 H=>zac t27 false H (λK'=>zab .neq false t31 (.int .u32 1) (K' · H)) λt32 H=>zak t27 (.bool true) t32 λt33=>zag t33 (ACalls tP ziF [t9,t24] H λt37 H=>zaI t37 0 λt38=>zaI t37 1 λt39=>ACalls tP ziF [t11,t24] H λt43 H=>zaI t43 0 λt44=>zaI t43 1 λt45=>znI t0 t38 t44 t6 H K) (znI t0 t9 t11 t6 H K))
def zE0:Nat→List Bool|9=>rl false [0,2,6,3,79]|13=>rl false [0,2,6,4,78]|16=>rl false [0,2,6,4,78]|_=>[]
noncomputable def zvA:=Tryz.f94.body.getD .skip
noncomputable def zWQ:=Tryz.f94.results.toList
def zWN:=t0::t1::ux 6 (t8::t9::t10::ux 79 [])
noncomputable def zWM:=zas [1,1,1,1,1,0,1,0,0] zvA
def zWL:=zat tP zE0 [1,1,1,1,1,0,1,0] zvA (zaA tP zWQ K)
def zWO:=ALoop tP zWM (zWL K) (zWN t0 t1 t8 t9 t10) H
def zEZ:=ACalls tP zkH [t0,t1] H λt14 H=>zab .lss false t14 (.int .i64 0) λt15=>zag t15 (ACalls tP zfs [t0] H λt17 H=>zaX [.snil,t17] (K · H)) (zah 1 t1 λt19=>zab .eql false t19 (.int .i64 1) λt20=>zag t20 (zai 1 t1 (.int .i64 0) λt24=>zae false 1 t24 H λt25=>zbg .u64 t25 λt26=>ACalls tP zqj [t0,t26] H λt27 H=>zaI t27 0 λt28=>zaI t27 1 λt29=>ACalls tP zix [t29] H λt32 H=>zaX [t28,t32] (K · H)) (zah 1 t0 λt34=>za9 4 [(.int .u32 0)] t34 t34 H λt35 H=>zah 1 t0 λt37=>zab .sub false t37 (.int .i64 1) λt38=>zWO t0 t1 t35 .snil t38 H K))
variable {t0 t1 t2 t3 t4 t5 t6 t7 t8 t9 t10} {H} {K} {Kb1 Kb2 Kb4}
theorem zDh(h:HSc H→zua t0 t1 H K):ACalls tP zkF [t0,t1] H K:=
 acb zSz Tryz.func42 zSA h
theorem zWA:Lo3 (λt3 t4 t5=>zoI t0 t3 t4 t5) (λt3 t4 t5 H Kb4=>zoH t0 t3 t4 t5 H K Kb4) t3 t4 t5 H (zoK t0 t3 t4 t5 H K):=lq3 zoG zWB
theorem zWC(h:HSc H→zEW t0 H K):ACalls tP zkT [t0] H K:=
 acb zoG Tryz.func92 zvx h
theorem zWG:Lo2 (λt0 t1=>zoN t0 t1) (λt0 t1 H Kb1=>zvy t0 t1 H K Kb1) t0 t1 H (zEY t0 t1 H K):=lq2 zoM zWH
theorem zWI(h:HSc H→zEX t0 t1 H K):ACalls tP zqY [t0,t1] H K:=
 acb zoM Tryz.func93 zvz h
theorem zWT:Lo1 (λt3=>zoQ t0 t3) (λt3 H Kb2=>zoP t0 t3 H K Kb2) t3 H (zE2 t0 t3 H K):=lq1 zoO zWU
theorem zWV(h:HSc H→zE1 t0 H K):ACalls tP zfs [t0] H K:=
 acb zoO Tryz.func95 zvC h
theorem zMS:Lo2 (λt7 t8=>zmg t0 t1 t6 t7 t8) (λt7 t8 H Kb4=>zsK t0 t1 t6 t7 t8 H K Kb4) t7 t8 H (zA5 t0 t1 t6 t7 t8 H K):=lq2 zmf zMT
theorem zMU(h:HSc H→zA4 t0 t1 H K):ACalls tP zqj [t0,t1] H K:=
 acb zmf Tryz.func129 zsL h
theorem zEx(h:HSc H→zva t0 H K):ACalls tP zkP [t0] H K:=
 acb zVA Tryz.func81 zVB h
theorem zDC(h:HSc H→zup t0 t1 t2 H K):ACalls tP zde [t0,t1,t2] H K:=
 acb zTd Tryz.func51 zTe h
theorem zWP(h:HSc H→zEZ t0 t1 H K):ACalls tP ziF [t0,t1] H K:=
 acb zE0 Tryz.func94 zvA h
end
def zao:List Nat→Nat
 |[]=>0
 |x::l=>x+1000000000*zao l
def lim(n:Nat):List Nat:=if _h:n=0 then [] else n % 1000000000::lim (n / 1000000000)
termination_by n
decreasing_by exact cE (by omega) (by decide)
@[simp] theorem zxH:lim 0=[]:=by rw[lim];rfl
theorem zcu{n:Nat}(h:n≠0):lim n=n % 1000000000::lim (n / 1000000000):=by rw[lim,dy h]
theorem zbd(n:Nat):zao (lim n)=n:=by
 induction n using Nat.strongRecOn with
 |_ n ih=>
  by_cases h:n=0
  ·subst h;simp[zao]
  ·rw[zcu h,zao,ih _ (cE (by omega) (by decide))];exact Nat.mod_add_div n 1000000000
theorem zbD(n:Nat):∀x∈lim n,x<1000000000:=by
 induction n using Nat.strongRecOn with
 |_ n ih=>
  by_cases h:n=0
  ·subst h;simp
  ·rw[zcu h];intro x hx;rcases aZ.1 hx with rfl | hx
   ·exact cI _ (by decide)
   ·exact ih _ (cE (by omega) (by decide)) x hx
theorem lim_nil{n:Nat}:lim n=[]↔n=0:=by
 by_cases h:n=0
 ·simp[h]
 ·rw[zcu h];simp[h]
def zbz:List Nat→List Nat
 |[]=>[]
 |x::l=>if x=0∧zbz l=[] then [] else x::zbz l
theorem zij:∀ (a b:List Nat),zao (a++b)=zao a+1000000000 ^ a.length*zao b
 |[],b=>by simp[zao]
 |x::a,b=>by simp only[List.cons_append,zao,zij a b,List.length_cons,Nat.pow_succ];grind
theorem zgh:∀ (l:List Nat),(∀ x∈l,x<1000000000)→zbz l=lim (zao l)
 |[],_=>by simp[zbz,zao]
 |x::l,h=>by
  have hx:=h x (by simp);have ih:=zgh l (λy hy=>h y (by simp[hy]));rw[zbz,zao,ih];have e1:(x+1000000000*zao l) % 1000000000=x:=by rw[Nat.add_mul_mod_self_left,ci hx]
  have e2:(x+1000000000*zao l) / 1000000000=zao l:=by rw[Nat.add_mul_div_left _ _ (by decide),ce hx];omega
  by_cases h0:x=0∧lim (zao l)=[]
  ·rw[aB h0];have:=lim_nil.1 h0.2;rw[this,h0.1];simp
  ·rw[ap h0];have:x+1000000000*zao l≠0:=by
    intro h1;refine h0 ⟨by omega,lim_nil.2 ?_⟩;have:1000000000*zao l=0:=by omega
    rcases Nat.mul_eq_zero.1 this with h2|h2
    ·cases h2
    ·exact h2
   rw[zcu this,e1,e2]
theorem zec:∀ (l:List Nat),(∀ x∈l,x<1000000000)→zao l<1000000000 ^ l.length
 |[],_=>by simp[zao]
 |x::l,h=>by have hx:=h x (by simp);have ih:=zec l (λy hy=>h y (by simp[hy]));simp only[zao,List.length_cons,Nat.pow_succ];have:1000000000*(zao l+1)≤1000000000*1000000000 ^ l.length:=bu _ ih;rw[bq (1000000000 ^ l.length)];rw[Nat.mul_succ]at this;omega
theorem zcc{n k:Nat}(h:n<1000000000 ^ k):(lim n).length≤k:=by
 induction k generalizing n with
 | zero => have : n = 0 := by simp at h; omega
           subst this;simp
 |succ k ih=>
  by_cases h0:n=0
  ·subst h0;simp
  ·rw[zcu h0,List.length_cons];have:=ih (n:=n / 1000000000) (Nat.div_lt_of_lt_mul (by rw[Nat.pow_succ,bq]at h;exact h));omega
theorem zj8{n:Nat}(h:n≠0):1000000000 ^ ((lim n).length-1)≤n:=by
 induction n using Nat.strongRecOn with
 |_ n ih=>
  rw[zcu h,List.length_cons,bo];by_cases h1:n / 1000000000=0
  ·rw[h1];simp;omega
  ·have:=ih (n / 1000000000) (cE (by omega) (by decide)) h1;have hl:0<(lim (n / 1000000000)).length:=by rw[zcu h1];simp
   have e:(lim (n / 1000000000)).length=(lim (n / 1000000000)).length-1+1:=by omega
   rw[e,Nat.pow_succ];calc _≤(n / 1000000000)*1000000000:=aq _ this
    _≤n:=Nat.div_mul_le_self _ _
theorem zg4{n:Nat}(h0:n≠0)(h:n<1000000000):lim n=[n]:=by rw[zcu h0,ci h,ce h];simp
theorem zkb:∀ (l:List Nat) (j:Nat) (x:Nat) (h:j<l.length),zao (l.set j x)+l[j]*1000000000 ^ j=zao l+x*1000000000 ^ j
 |[],j,x,h=>by simp at h
 |y::l,0,x,h=>by simp[zao];omega
 |y::l,j+1,x,h=>by have:=zkb l j x (by simpa using h);simp only[List.set_cons_succ,zao,List.getElem_cons_succ,Nat.pow_succ];grind
theorem zdd(l:List Nat)(i:Nat)(h:i<l.length):zao (l.take (i+1))=zao (l.take i)+l[i]*1000000000 ^ i:=by rw[aj h,zij];simp[zao,ba (bH h)];exact bq _ _
theorem zxS(n:Nat):zao (List.replicate n 0)=0:=by
 induction n with
 |zero=>rfl
 |succ n ih=>rw[List.replicate_succ,zao,ih]
theorem zxR(l:List Nat)(i:Nat)(h:i<l.length):zao (l.drop i)=l[i]+1000000000*zao (l.drop (i+1)):=by rw[af h,zao]
theorem zg6{a b:Nat}(h:(lim a).length<(lim b).length):a<b:=by
 by_cases hb:b=0
 ·subst hb;simp at h
 ·have h1:=zj8 hb;have h2:=zec (lim a) (zbD a);rw[zbd]at h2;exact a7 h2 (aC (a8 (by decide) (by omega)) h1)
section
open Go.RowKit
def zal(l:List Nat):List (List AV):=l.map λ(n:Nat)=>[AV.int .u32 (n:Int)]
@[simp] theorem ya0(l:List Nat):(zal l).length=l.length:=by simp[zal]
theorem zz1(l:List Nat)(n:Nat):(zal l).take n=zal (l.take n):=by simp[zal,bX]
theorem yaZ{l:List Nat}{i:Nat}(h:i<l.length):(zal l)[i]?.getD []=[.int .u32 ((l[i]:Nat):Int)]:=by simp[zal,h]
@[simp] theorem yaY{l:List Nat}{i:Nat}(h:i<(zal l).length):(zal l)[i]=[.int .u32 (((l[i]'(by simpa using h)):Nat):Int)]:=by simp[zal]
theorem zeW(l:List Nat):∀c∈zal l,c.length=1:=by intro c hc;simp only[zal,aV]at hc;obtain⟨n,_,rfl⟩:=hc;rfl
theorem zzy{L:List Nat}{n:Nat}(hn:0<n)(h:n≤L.length)(h0:L[n-1]=0):zbz (L.take n)=zbz (L.take (n-1)):=by
 obtain⟨m,rfl⟩:∃m,n=m+1:=⟨n-1,by omega⟩;simp only[bo]at h0 ⊢;rw[aj (by omega),h0];generalize L.take m=A;induction A with
 |nil=>simp[zbz]
 |cons a A ih=>rw[List.cons_append,zbz,zbz,ih]
theorem zzw{L:List Nat}{n:Nat}(hn:0<n)(h:n≤L.length)(h0:L[n-1]≠0):zbz (L.take n)=L.take n:=by
 obtain⟨m,rfl⟩:∃m,n=m+1:=⟨n-1,by omega⟩;simp only[bo]at h0;rw[aj (by omega)];generalize hx:L[m]=x at h0;generalize L.take m=A;induction A with
 |nil=>simp[zbz,h0]
 |cons a A ih=>rw[List.cons_append,zbz,ih,ap];rintro⟨_,h⟩;simp at h
theorem zcz{n:Nat}(h:n<4294967296):IntKind.u32.wrap (n:Int)=n:=IntWalk.u32_in _ ⟨by omega,by omega⟩
theorem zbF{n:Nat}(h:n<18446744073709551616):IntKind.u64.wrap (n:Int)=n:=IntWalk.u64_in _ ⟨by omega,by omega⟩
theorem zv1{k:AV→Prop}(b:Bool)(j:IntKind)(m n:Nat)(hn:n≠0):zab .rem b (.int j m) (.int j n) k=k (.int j ((m % n:Nat):Int)):=by simp only[zch,ne_eq,Int.natCast_eq_zero,hn,not_false_eq_true,cU];rfl
theorem zv0{k:AV→Prop}(b:Bool)(j:IntKind)(m n:Nat)(hn:n≠0):zab .quo b (.int j m) (.int j n) k=k (.int j (j.wrap ((m / n:Nat):Int))):=by simp only[zch,ne_eq,Int.natCast_eq_zero,hn,not_false_eq_true,cU];rfl
theorem zo5{k:AV→Prop}(b:Bool)(j:IntKind)(m:Nat):zab .rem b (.int j m) (.int j 1000000000) k=k (.int j ((m % 1000000000:Nat):Int)):=zv1 b j m 1000000000 (by decide)
theorem zvY{k:AV→Prop}(b:Bool)(j:IntKind)(m:Nat):zab .quo b (.int j m) (.int j 1000000000) k=k (.int j (j.wrap ((m / 1000000000:Nat):Int))):=zv0 b j m 1000000000 (by decide)
theorem zvZ{k:AV→Prop}(b:Bool){m:Nat}(h:m<18446744073709551616):zab .quo b (.int .u64 m) (.int .u64 1000000000) k=k (.int .u64 ((m / 1000000000:Nat):Int)):=by rw[zvY,zbF (by have:=dx m 1000000000;omega)]
theorem zFB{k:AV→Prop}(b:Bool){m:Nat}(h:m<4294967296):zab .quo b (.int .u32 m) (.int .u32 1000000000) k=k (.int .u32 ((m / 1000000000:Nat):Int)):=by rw[zvY,zcz (by have:=dx m 1000000000;omega)]
theorem zFr{k:AV→Prop}(j:IntKind){m:Nat}(h:m<4294967296):zbg .u32 (.int j m) k=k (.int .u32 m):=by rw[zFs,zcz h]
theorem zp6(m:Nat):m % 1000000000<1000000000:=cI _ (by decide)
theorem zGU{m:Nat}(h:m≠0):m / 1000000000<m:=cE (by omega) (by decide)
theorem sN(l:List Nat)(x:Nat):zal l++[[AV.int .u32 (x:Int)]]=zal (l++[x]):=by simp[zal]
theorem zh7(s:Nat)(h:s<18446744073709551616):∃ x c:Nat,x<1000000000∧s=x+1000000000*c∧IntKind.u32.wrap (x:Int)=x ∧
  (∀(b:Bool) (k:AV→Prop),zab .rem b (.int .u64 s) (.int .u64 1000000000) k=k (.int .u64 x))∧∀(b:Bool) (k:AV→Prop),zab .quo b (.int .u64 s) (.int .u64 1000000000) k=k (.int .u64 c):=
 ⟨s % 1000000000,s / 1000000000,zp6 s,by omega,zcz (by omega),λb k=>zo5 b .u64 s,λb k=>zvZ b h⟩
theorem zwN(s:Nat)(h:s<4294967296):∃ x c:Nat,x<1000000000∧s=x+1000000000*c ∧
  (∀(b:Bool) (k:AV→Prop),zab .rem b (.int .u32 s) (.int .u32 1000000000) k=k (.int .u32 x))∧∀(b:Bool) (k:AV→Prop),zab .quo b (.int .u32 s) (.int .u32 1000000000) k=k (.int .u32 c):=
 ⟨s % 1000000000,s / 1000000000,zp6 s,by omega,λb k=>zo5 b .u32 s,λb k=>zFB b h⟩
theorem zGW(s d:Nat)(hd:0<d)(h:s<18446744073709551616):∃ x c:Nat,x<d∧s=x+d*c ∧
  (∀(b:Bool) (k:AV→Prop),zab .rem b (.int .u64 s) (.int .u64 d) k=k (.int .u64 x))∧∀(b:Bool) (k:AV→Prop),zab .quo b (.int .u64 s) (.int .u64 d) k=k (.int .u64 c):=
 ⟨s % d,s / d,cI _ hd,(Nat.mod_add_div s d).symm,λb k=>zv1 b .u64 s d (by omega),λb k=>by rw[zv0 b .u64 s d (by omega),zbF (by have:=dx s d;omega)]⟩
theorem wi(i:Nat)(h:i<1000000000):IntKind.i64.wrap ((i:Int)+1)=((i+1:Nat):Int):=by rw[zaz (by omega) (by omega)];omega
theorem zzx:∀ l:List Nat,(zbz l).length≤l.length∧((zbz l).length=l.length→zbz l=l)
 |[]=>by simp[zbz]
 |x::l=>by
  obtain⟨h1,h2⟩:=zzx l;rw[zbz];split
  ·simp
  ·simp only[List.length_cons];exact⟨by omega,λh=>by rw[h2 (by omega)]⟩
theorem zj7{n k:Nat}(h:1000000000 ^ k≤n):k<(lim n).length:=by have h1:=zec (lim n) (zbD n);rw[zbd]at h1;refine cw λh2=>?_;have:=a8 (show 0<1000000000 by omega) h2;omega
theorem zpr{R:List Nat}(hR:∀x∈R,x<1000000000)(h:R.length≤(lim (zao R)).length):R=lim (zao R):=by have h1:=zgh R hR;obtain⟨h2,h3⟩:=zzx R;rw[←h1,h3 (by rw[h1]at h2 ⊢;omega)]
end
theorem zvD(L:List Nat)(hL:L.length≤1000000)(H:zaa)(K:Kt)(hK:K (.sl (zal (zbz L)) .none) H):
  ACalls tP zfs [.sl (zal L) .none] H K:=by
 refine ACalls.out (zWV λhs=>?_);simp[zE1];refine zWT (Inv:=λq t3 H'=>∃n:Nat,n≤L.length∧n=q∧t3=.int .i64 n∧H'=H∧zbz L=zbz (L.take n)) L.length ?_ ?_
 ·intro _;exact⟨L.length,by omega,rfl,by simp,rfl,by simp⟩
 ·rintro q t3 H' ⟨n,hn,rfl,rfl,rfl,hst⟩ hsc' hlen hsF Kb hKb;have hone:∀ (l:List Nat) (J:zaa),l=zbz L→Out (List.length H') K (AV.sl (zal l) (Tok.own (List.length H'))) (H'++J):=λl J hl=>Out.one hs (.atom (.sl _ _)) rfl rfl (by rw[hl];exact hK);by_cases h0:n=0
  ·subst h0;simp[zoP,zax,za6,zaZ];exact⟨zeW L,hone [] _ (by simpa[zbz]using hst.symm)⟩
  ·have hw:IntKind.i64.wrap ((n:Int)-1)=((n-1:Nat):Int):=by rw[zaz (by omega) (by omega)];omega
   have hlt:n-1<L.length:=by omega
   by_cases hz:L[n-1]=0
   ·simp[zoP,show 0<n by omega,hw,hlt,hz];exact hKb _ _ ⟨n-1,by omega,Back.here (by simp) hs (by simp[zoQ,AV.sc,AV.scA,AV.scB,AV.scV]) ⟨_,rfl,n-1,by omega,rfl,rfl,rfl,by rw[hst,zzy (by omega) hn hz]⟩⟩
   ·have hzb:(((L[n-1]:Nat):Int) == 0)=false:=by simp;omega
    simp[zoP,show 0<n by omega,hw,hlt,hzb,zax,za6,zaZ];refine⟨⟨hn,zeW L⟩,λc hc=>zeW L c (aW hc),⟨by omega,by omega⟩,?_⟩;rw[zz1];exact hone _ _ (by rw[hst,zzw (by omega) hn hz])
section
open Go.RowKit
variable {P:Program} {B:Nat} {w:World} {G:Gh} {H:zaa}
theorem HRel.frz(h:HRel B w G H){id:Nat}{cs:List AV}(hH:H[id]?=some (.cells cs)):
  ∃G',Ext B w G w G'∧HRel B w G' (H.set id .dead)∧∃b,G.μ[id]?=some (.blk b)∧G'.L b=cs.length∧∃(vs:Array Value) (e:TypeId),w.heap[b]?=some (.cells vs e (0,0))∧All2 (ARel w G) vs.toList cs:=by
 have hlt:id<G.μ.length:=by rw[h.len];exact(List.getElem?_eq_some_iff.1 hH).1
 obtain⟨gi,hgi⟩:∃gi,G.μ[id]?=some gi:=⟨_,List.getElem?_eq_getElem hlt⟩;have hok:=h.ok id _ _ hH hgi;cases gi with
 |gap=>exact hok.elim
 |own v s n=>exact hok.elim
 |blk b=>
  obtain⟨hB,hL,vs,e,hw,hcs⟩:=hok;have hl:vs.size=cs.length:=by simpa using hcs.length
  have he:Ext B w G w ⟨λx=>if x=b then cs.length else G.L x,G.μ⟩:=
   ⟨DR.same (aa _) rfl,Below.refl _ _,λx=>by by_cases hx:x=b <;> simp[hx,hL],λ_ _ _=>rfl,λ_ gi h=>⟨gi,h,gi.le_refl⟩⟩
  refine⟨_,he,⟨by simp[h.len],?_,h.dist,λx hx=>?_,h.lt,h.base⟩,b,hgi,by simp,vs,e,hw,hcs⟩
  ·intro id' ab gi h1 h2;by_cases hid:id'=id
   ·subst hid;rw[List.getElem?_set_self (List.getElem?_eq_some_iff.1 hH).1]at h1;cases h1;have h2:G.μ[id']?=some gi:=h2;rw[hgi]at h2;cases h2;exact⟨vs,e,(0,0),hw,by simp[hl]⟩
   ·rw[List.getElem?_set_ne (λh=>hid h.symm)]at h1;refine(h.ok id' ab gi h1 h2).keep he (λx hx=>⟨rfl,?_⟩);have:¬x=b:=λhxb=>hid (h.dist id' id gi _ b h2 hgi (by rw[hx,hxb]) rfl);simp[this]
  ·have:=h.lt id _ b hgi rfl;have h3:¬ x=b:=by omega
   simp[h3,h.fresh x hx]
inductive FzA (id off len cap:Nat) (es:List (List AV)):AV→AV→Prop
 |refl (a:AV):FzA id off len cap es a a
 |ms:FzA id off len cap es (.ms id off len cap) (.sl es .none)
inductive FzT (id off len cap:Nat) (es:List (List AV)):AV→AV→Prop
 |one {a b:AV} (h:FzA id off len cap es a b):FzT id off len cap es a b
 |agg {asx bs:List AV} (h:All2 (FzA id off len cap es) asx bs):FzT id off len cap es (.agg asx) (.agg bs)
theorem FzA.rel{id off len cap size:Nat}{cs:List AV}{es:List (List AV)}(hfit:off+len*size≤cs.length)(hp:plain ((cs.drop off).take (len*size))=some es.flatten)(hlen:es.length=len)(hsz:∀c∈es,c.length=size)(hcap:len≤cap){G':Gh}(hE:Ext B w G w G'){b:Nat}(hμ:G.μ[id]?=some (.blk b))(hLb:G'.L b=cs.length){vs0:Array Value}{e:TypeId}(hw:w.heap[b]?=some (.cells vs0 e (0,0)))(hcs:All2 (ARel w G) vs0.toList cs){v:Value}{a b':AV}(hab:FzA id off len cap es a b')(hr:ARel w G v a):ARel w G' v b':=by
 cases hab with
 |refl a=>exact hE.arel hr
 |ms=>
  obtain⟨b2,hb2,rfl⟩:=hr;rw[hμ]at hb2;cases hb2;show DRel w G'.L _ _;subst hlen;by_cases hne:es=[]
  ·subst hne;exact .slE _ _
  ·have hl:=hcs.length;have hd:=zeL ((hcs.drop off).take (es.length*size)) hp;refine DRel.of_flat_at (zs:=(vs0.toList.drop off).take (es.length*size)) hsz hne hcap (by rw[hLb];exact hfit) (hd.mono λ_ _=>hE.drel) ?_;intro j u hj;rw[List.getElem?_take]at hj;split at hj
   ·simp only[World.cell?,hw];simpa using hj
   ·cases hj
theorem zo8{R R':Value→AV→Prop}{S:AV→AV→Prop}(h:∀v a b,S a b→R v a→R' v b){vs:List Value}{asx bs:List AV}(hr:All2 R vs asx)(hs:All2 S asx bs):All2 R' vs bs:=
 All2.of_get (hr.length.trans hs.length) λi x y hx hy=>by obtain⟨a,ha,hxa⟩:=All2.get' hr hx;obtain⟨y',hy',hay⟩:=All2.get' hs ha;rw[hy]at hy';cases hy';exact h _ _ _ hay hxa
theorem ACalls.frz{f:FuncId}{args args':List AV}{K:Kt}(id off len cap size:Nat)(cs:List AV)(es:List (List AV))(hH:H[id]?=some (.cells cs))(hfit:off+len*size≤cs.length)(hp:plain ((cs.drop off).take (len*size))=some es.flatten)(hlen:es.length=len)(hsz:∀c∈es,c.length=size)(hcap:len≤cap)(ha:All2 (FzT id off len cap es) args args')(h:ACalls P f args' (H.set id .dead) K):ACalls P f args H K:=by
 intro B w G vs hR hv;obtain⟨G',hE,hR',b,hμ,hLb,vs0,e,hw,hcs⟩:=hR.frz hH;have h1:∀v a b,FzA id off len cap es a b→ARel w G v a→ARel w G' v b:=λv a b' hab hr=>FzA.rel hfit hp hlen hsz hcap hE hμ hLb hw hcs hab hr;have h2:∀v a b,FzT id off len cap es a b→TRel w G v a→TRel w G' v b:=by
  intro v a b' hab hr;cases hab with
  |one hab=>
   cases hab with
   |refl a=>exact hE.trel hr
   |ms=>exact TRel.of_v (VRel.of_a (h1 _ _ _ .ms hr))
  |agg hab=>obtain⟨us,hu,hr⟩:=hr;exact⟨us,hu,zo8 h1 hr hab⟩
 refine(h B w G' vs hR' (zo8 h2 hv ha)).mono λe w' ⟨v,r,H',G'',k1,k2,k3,k4,k5⟩=>⟨v,r,H',G'',k1,hE.trans k2,k3,k4,k5⟩
theorem AWp.frz{c:Code}{Q:AExit→List AV→zaa→Prop}{F:List AV}(id off len cap size:Nat)(cs:List AV)(es:List (List AV))(id2:Nat)(cs2 cs2':List AV)(hH:H[id]?=some (.cells cs))(hfit:off+len*size≤cs.length)(hp:plain ((cs.drop off).take (len*size))=some es.flatten)(hlen:es.length=len)(hsz:∀c∈es,c.length=size)(hcap:len≤cap)(hne:id≠id2)(hH2:H[id2]?=some (.cells cs2))(ha:All2 (FzA id off len cap es) cs2 cs2')(h:AWp P c Q F ((H.set id .dead).set id2 (.cells cs2'))):AWp P c Q F H:=by
 intro B w G a hR hF hd;obtain⟨G',hE,hR',b,hμ,hLb,vs0,e,hw,hcs⟩:=hR.frz hH;have h1:∀v a b,FzA id off len cap es a b→ARel w G v a→ARel w G' v b:=λv a b' hab hr=>FzA.rel hfit hp hlen hsz hcap hE hμ hLb hw hcs hab hr;have hlt2:id2<G.μ.length:=by rw[hR.len];exact(List.getElem?_eq_some_iff.1 hH2).1
 have hH2':(H.set id .dead)[id2]?=some (.cells cs2):=by rw[List.getElem?_set_ne hne];exact hH2
 have hR2:HRel B w G' ((H.set id .dead).set id2 (.cells cs2')):=by
  refine⟨by simp[hR'.len],?_,hR'.dist,hR'.fresh,hR'.lt,hR'.base⟩;intro i ab gi k1 k2;by_cases hi:i=id2
  ·subst hi;rw[List.getElem?_set_self (List.getElem?_eq_some_iff.1 hH2').1]at k1;cases k1;have hok:=hR'.ok i _ _ hH2' k2;have hgi:G.μ[i]?=some gi:=by
    obtain⟨gi0,hgi0⟩:∃gi0,G.μ[i]?=some gi0:=⟨_,List.getElem?_eq_getElem hlt2⟩;have hok0:=hR.ok i _ _ hH2 hgi0;obtain⟨gi1,hg1,hle⟩:=hE.ids i gi0 hgi0;rw[k2]at hg1;cases hg1;cases gi0 with
    | blk x=>cases gi with
     |blk y=>obtain rfl:x=y:=hle;exact hgi0
     |own v s n=>exact hle.elim
     |gap=>exact hle.elim
    |own v s n=>exact hok0.elim
    |gap=>exact hok0.elim
   have hok0:=hR.ok i _ _ hH2 hgi;cases gi with
   |blk x=>obtain⟨k3,k4,vs,e',k5,k6⟩:=hok;obtain⟨_,_,vs1,e1,k7,k8⟩:=hok0;rw[k5]at k7;cases k7;exact⟨k3,k4,vs,e',k5,zo8 h1 k8 ha⟩
   |own v s n=>exact hok.elim
   |gap=>exact hok.elim
  ·rw[List.getElem?_set_ne (λh=>hi h.symm)]at k1;exact hR'.ok i ab gi k1 k2
 refine wp_mono (h B w G' a hR2 (hF.ext hE) hd) λe a' w' hp=>?_;obtain⟨F',H',G'',e',rfl,k1,k2,k3,k4,k5⟩:=hp;exact⟨F',H',G'',e',rfl,hE.trans k1,k2,k3,k4,k5⟩
end
section
open Go.RowKit
variable {P:Program} {B:Nat} {w:World} {G:Gh} {H:zaa}
inductive OutW (H:zaa) (n:Nat):AV→AV→Prop
 |one {a b:AV} (h:OutV H n a b):OutW H n a b
 | rows (id e m:Nat) (cs:List AV) (rs:List (List (List AV))) (hid:n≤id) (hH:H[id]?=some (.vec e 1 m cs)) (hm:rs.length=m)
   (hall:All2 (OutV H n) cs (rs.map λr=>.sl r .none)):OutW H n (.ov id m) (.sl (rs.map λr=>[.sl r .none]) .none)
theorem OutW.vrel(hH:HRel B w G H){n:Nat}{v:Value}{a b:AV}(h:OutW H n a b)(hr:TRel w G v a):VRel w (G.cut w n) v b:=by
 cases h with
 |one h=>exact h.vrel hH hr
 |rows id e m cs rs hid hHid hm hall=>
  obtain⟨⟨a,cap0,rfl,_⟩,v',s0,n',hμ,_,heq⟩:=hr;obtain⟨rfl,rfl,⟨xs,hown,hcs⟩,_⟩:=hH.ok id _ _ hHid hμ;obtain rfl:=heq rfl;subst hm;show DRel w (G.cut w n).L _ _;by_cases hne:rs=[]
  ·subst hne;exact .slE _ _
  ·have hown2:=hown;obtain⟨hl,hrow⟩:=hown2;have hd:All2 (DRel w (G.cut w n).L) xs (rs.map λr=>AV.sl r .none):=All2.of_get (hcs.length.trans hall.length) λi x y hx hy=>by
    obtain⟨a,ha,hxa⟩:=All2.get' hcs hx;obtain⟨y',hy',hay⟩:=All2.get' hall ha;rw[hy]at hy';cases hy';obtain⟨r,hr,rfl⟩:∃r,rs[i]?=some r∧AV.sl r .none=y:=by simpa using hy
    exact hay.vrel hH (TRel.of_v (VRel.of_a hxa))
   rcases hrow with ⟨h1,h2⟩|⟨g,cap,cur,h1,h2,h3,h4,h5,h6,h7⟩
   ·cases rs <;> simp_all
   ·simp at h1;obtain⟨rfl,rfl⟩:=h1;obtain⟨_,_,_,hcell⟩:=zdL hown;have hfl:∀l:List (List (List AV)),(l.map λr=>[AV.sl r .none]).flatten=l.map λr=>AV.sl r .none:=by
     intro l;induction l with
     |nil=>rfl
     |cons r l ih=>simp[ih]
    have:=DRel.of_flat_at (w:=w) (L:=(G.cut w n).L) (g:=g) (off:=0) (size:=1) (cap:=cap0) (es:=rs.map λr=>[AV.sl r .none]) (zs:=xs) (by simp) (by simpa using hne) (by simpa using h4) ?_ (by rw[hfl rs];exact hd) ?_
    ·simpa using this
    ·have:(G.cut w n).L g=cur.size:=by simp only[Gh.cut];rw[aB (cut_dropped.2 ⟨id,_,hid,hμ,rfl⟩),h3]
     rw[this,h6];simpa using h4
    ·intro j u hj;rw[aF,hcell j (by rw[←hl];exact(List.getElem?_eq_some_iff.1 hj).1)];exact hj
inductive OutT2 (H:zaa) (n:Nat):AV→AV→Prop
 |one {a b:AV} (h:OutW H n a b):OutT2 H n a b
 |tup {asx bs:List AV} (h:All2 (OutW H n) asx bs):OutT2 H n (.tup asx) (.tup bs)
def zFl(n:Nat)(K:AV→zaa→Prop)(r:AV)(H':zaa):Prop:=∃r2 H2 J,H'=H2++J∧n≤H2.length∧HSc H2∧OutT2 H' H2.length r r2∧K r2 H2
theorem Out.two{n:Nat}{K:AV→zaa→Prop}{r:AV}(h:Out n K r H):zFl n K r H:=by
 obtain⟨r2,H2,J,hJ,hn,hsc,ho,hk⟩:=h;refine⟨r2,H2,J,hJ,hn,hsc,?_,hk⟩;cases ho with
 |one h=>exact .one (.one h)
 |tup h=>exact .tup (All2.of_get h.length λi x y hx hy=>by
   obtain⟨y',hy',hay⟩:=All2.get' h hx;rw[hy]at hy';cases hy';exact .one hay)
end
section
open Go.RowKit
variable {P:Program} {B:Nat} {w:World} {G:Gh} {H:zaa}
theorem zIr(h:HRel B w G H)(e size:Nat):TRel w ⟨G.L,G.μ++[.own (.slice none 0 0) size 0]⟩ (.slice none 0 0) (.ov H.length 0):=by refine⟨⟨none,0,rfl,λh=>absurd h (by omega),aa _⟩,.slice none 0 0,size,0,?_,aa _,λ_=>rfl⟩;rw[←h.len];simp
theorem ALoop.vec{c:Code}{Q:AExit→List AV→zaa→Prop}{F:List AV}(i e size:Nat)(hi:F[i]?=some .snil)(h:ALoop P c Q (F.set i (.ov H.length 0)) (H++[.vec e size 0 []])):ALoop P c Q F H:=by
 intro B w G a hH hF hd;obtain⟨hE,hH'⟩:=hH.newVec e size;have hF':FRel w ⟨G.L,G.μ++[.own (.slice none 0 0) size 0]⟩ a.tmps (F.set i (.ov H.length 0)):=by
  unfold FRel;obtain⟨v,h1,h2⟩:=All2.get hF hi;have h2:v=.slice none 0 0:=h2;subst h2;have hset:a.tmps.toList=a.tmps.toList.set i (.slice none 0 0):=by
   apply aI;intro k;by_cases hk:k=i
   ·subst hk;rw[List.getElem?_set_self (List.getElem?_eq_some_iff.1 h1).1];exact h1
   ·rw[List.getElem?_set_ne (λh=>hk h.symm)]
  rw[hset];exact All2.set i (hF.ext hE) (zIr hH e size)
 refine wp_mono (h B w _ a hH' hF' hd) λe a' w' hp=>?_;obtain⟨F'',H'',G'',e'',rfl,k1,k2,k3,k4,k5⟩:=hp;exact⟨F'',H'',G'',e'',rfl,hE.trans k1,k2,k3,k4,k5⟩
theorem zAe{vs:List Value}:∀ {cs cs':List AV},All2 WkA cs cs'→∀ {vs:List Value},All2 (ARel w G) vs cs→All2 (ARel w G) vs cs'
 |[],[],_,_,hv=>hv
 |x::cs,x'::cs',hw,[],hv=>hv.elim
 |x::cs,x'::cs',hw,v::vs,hv=>⟨hw.1.arel hv.1,zAe (vs:=[]) hw.2 hv.2⟩
 |[],_::_,hw,_,_=>hw.elim
 |_::_,[],hw,_,_=>hw.elim
theorem ALoop.reCell{c:Code}{Q:AExit→List AV→zaa→Prop}{F:List AV}{id:Nat}{cs:List AV}(cs':List AV)(hid:H[id]?=some (.cells cs))(hw:All2 WkA cs cs')(h:ALoop P c Q F (H.set id (.cells cs'))):ALoop P c Q F H:=by intro B w G a hH hF hd;exact h B w G a (hH.reCell hid λvs hv=>zAe (vs:=[]) hw hv) hF hd
theorem HRel.frzV(h:HRel B w G H){id e size n:Nat}{cs:List AV}(hH:H[id]?=some (.vec e size n cs)){es:List (List AV)}(hp:plain cs=some es.flatten)(hlen:es.length=n)(hsz:∀ c∈es,c.length=size):
  ∃G',Ext B w G w G'∧HRel B w G' (H.set id .dead)∧∀v,ARel w G v (.ov id n)→DRel w G'.L v (.sl es .none):=by
 have hlt:id<G.μ.length:=by rw[h.len];exact(List.getElem?_eq_some_iff.1 hH).1
 obtain⟨gi,hgi⟩:∃gi,G.μ[id]?=some gi:=⟨_,List.getElem?_eq_getElem hlt⟩;have hok:=h.ok id _ _ hH hgi;cases gi with
 |gap=>exact hok.elim
 |blk b=>exact hok.elim
 |own v0 s0 n0=>
  obtain⟨rfl,rfl,⟨xs,hown,hcs⟩,hL0⟩:=hok;have hown2:=hown;obtain⟨hl,hrow⟩:=hown2;rcases hrow with ⟨h1,h2⟩|⟨g,cap,cur,h1,hB,hw,hcap,hcm,hcz,htk⟩
  ·subst h1;refine⟨G,Ext.refl _ _ _,⟨by simp[h.len],?_,h.dist,h.fresh,h.lt,h.base⟩,?_⟩
   ·intro id' ab gi k1 k2;by_cases hid:id'=id
    ·subst hid;rw[List.getElem?_set_self (List.getElem?_eq_some_iff.1 hH).1]at k1;cases k1;rw[hgi]at k2;cases k2;exactλb hb=>by simp[Value.ownBlock]at hb
    ·rw[List.getElem?_set_ne (λh=>hid h.symm)]at k1;exact h.ok id' ab gi k1 k2
   ·intro v hv;obtain⟨⟨a,cap0,rfl,_⟩,v',s',n',hμ,_,heq⟩:=hv;have hes:es=[]:=az (by omega);subst hes;subst hlen;exact .slE _ _
  ·subst h1;have hLg:G.L g=0:=hL0 g rfl;have he:Ext B w G w ⟨λx=>if x=g then cur.size else G.L x,G.μ⟩:=
    ⟨DR.same (aa _) rfl,Below.refl _ _,λx=>by by_cases hx:x=g <;> simp[hx,hLg],λ_ _ _=>rfl,λ_ gi h=>⟨gi,h,gi.le_refl⟩⟩
   refine⟨_,he,⟨by simp[h.len],?_,h.dist,λx hx=>?_,h.lt,h.base⟩,?_⟩
   ·intro id' ab gi k1 k2;by_cases hid:id'=id
    ·subst hid;rw[List.getElem?_set_self (List.getElem?_eq_some_iff.1 hH).1]at k1;cases k1;have k2:G.μ[id']?=some gi:=k2;rw[hgi]at k2;cases k2;intro b hb;simp[Value.ownBlock]at hb;subst hb;exact⟨cur,e,_,hw,by simp⟩
    ·rw[List.getElem?_set_ne (λh=>hid h.symm)]at k1;refine(h.ok id' ab gi k1 k2).keep he (λx hx=>⟨rfl,?_⟩);have:¬x=g:=λhxb=>hid (h.dist id' id gi _ g k2 hgi (by rw[hx,hxb]) rfl);simp[this]
   ·have:=h.lt id _ g hgi rfl;have h3:¬ x=g:=by omega
    simp[h3,h.fresh x hx]
   ·intro v hv;obtain⟨⟨a,cap0,rfl,_⟩,v',s',n',hμ,_,heq⟩:=hv;rw[hgi]at hμ;simp only[bJ,GI.own.injEq]at hμ;obtain⟨rfl,rfl,rfl⟩:=hμ;have hvv:=heq rfl;simp only[Value.slice.injEq,cU]at hvv;obtain⟨rfl,rfl⟩:=hvv;subst hlen;by_cases hes:es=[]
    ·subst hes;exact .slE _ _
    ·obtain⟨_,_,_,hcell⟩:=zdL hown;refine DRel.of_flat_at (zs:=xs) hsz hes hcap ?_ ((zeL hcs hp).mono λ_ _=>he.drel) ?_
     ·simp only[cO];rw[hcz,aF];exact aq _ hcap
     ·intro j u hj;rw[aF,hcell j (by rw[←hl];exact(List.getElem?_eq_some_iff.1 hj).1)];exact hj
theorem ACalls.frzV{f:FuncId}{x:AV}{K:Kt}(id e size n:Nat)(cs:List AV)(es:List (List AV))(hH:H[id]?=some (.vec e size n cs))(hp:plain cs=some es.flatten)(hlen:es.length=n)(hsz:∀c∈es,c.length=size)(h:ACalls P f [.agg [x,.sl es .none]] (H.set id .dead) K):ACalls P f [.agg [x,.ov id n]] H K:=by
 intro B w G vs hR hv;obtain⟨G',hE,hR',hd⟩:=hR.frzV hH hp hlen hsz;refine(h B w G' vs hR' ?_).mono λe w' ⟨v,r,H',G'',k1,k2,k3,k4,k5⟩=>⟨v,r,H',G'',k1,hE.trans k2,k3,k4,k5⟩;generalize vs.toList=l at *
 match l,hv with
 |[v],⟨⟨us,hu,h1⟩,_⟩=>
  refine⟨⟨us,hu,?_⟩,trivial⟩;generalize us.toList=m at *
  match m,h1 with
  |[a,b],⟨h2,h3,_⟩=>exact⟨hE.arel h2,hd b h3,trivial⟩
end
theorem zDE(n:Nat)(hn:n<18446744073709551616)(H:zaa)(K:Kt)(hK:K (.sl (zal (lim n)) .none) H):
  ACalls tP zix [.int .u64 n] H K:=by
 refine ACalls.out (zTk λhs=>?_);unfold zDD znL;refine ALoop.own 3 zbh 1 rfl ?_;show znL (.int .u64 n) (.sl [] (.own H.length)) (H++[.perm zbh 1 0]) (Out H.length K);refine zTi (Inv:=λq t0 t3 H'=>∃ (m:Nat) (A:List Nat),m=q∧t0=.int .u64 m∧t3=.sl (zal A) (.own H.length)∧lim n=A++lim m∧m<18446744073709551616 ∧
  H'=H++[.perm zbh 1 A.length]) n ?_ ?_
 ·intro _;exact⟨n,[],rfl,rfl,rfl,by simp,hn,rfl⟩
 ·rintro q t0 t3 H' ⟨m,A,rfl,rfl,rfl,hA,hm,rfl⟩ hsc' hlen hsF Kb hKb;by_cases h0:m=0
  ·subst h0;simp[zuq];exact Out.one hs (.atom (.sl _ _)) rfl rfl (by simpa[hA]using hK)
  ·have hq:=zp6 m;have hd:=zGU h0;have hlA:A.length+1≤1000:=by have h1:=congrArg List.length hA;have h2:=zcc (n:=n) (k:=3) (by omega);rw[zcu h0]at h1;simp at h1;omega
   simp only[zuq,zo5,zvZ false hm,zFr .u64 (show m % 1000000000<4294967296 by omega)];simp[show 0<m by omega,zau,za4,plain,AV.pd,zax,za6,zaZ];refine⟨⟨by omega,by omega⟩,?_⟩;have e1:((m:Int) / 1000000000)=((m / 1000000000:Nat):Int):=rfl;have e2:((m:Int) % 1000000000)=((m % 1000000000:Nat):Int):=rfl;rw[e1,e2,sN];refine hKb _ _ ⟨m / 1000000000,hd,Back.here (by simp) (hs.append (by simp[AB.sc])) (by simp[znK,ux,AV.sc,AV.scA,AV.scB,AV.scV]) ⟨_,_,rfl,m / 1000000000,A++[m % 1000000000],rfl,rfl,rfl,?_,by omega,by simp⟩⟩;rw[hA,zcu h0];simp
theorem zeJ(A:List Nat)(x:Nat):zao (A++[x])=zao A+1000000000 ^ A.length*x:=by rw[zij];simp[zao]
theorem zoL(L:List Nat)(h32:∀ x∈L,x<4294967296)(hL:L.length≤100000)(H:zaa)(K:Kt)(hK:K (.sl (zal (lim (zao L))) .none) H):
  ACalls tP zkT [.sl (zal L) .none] H K:=by
 refine ACalls.out (zWC λhs=>?_);unfold zEW zoK;refine ALoop.own 3 zbh 1 rfl ?_;show zoK (.sl (zal L) .none) (.sl [] (.own H.length)) (.int .u64 0) (.int .i64 0) (H++[.perm zbh 1 0]) (Out H.length K);have hend:∀A:List Nat,(∀x∈A,x<1000000000)→zao A=zao L→A.length≤200000→zoJ (.sl (zal A) (.own H.length)) (H++[.perm zbh 1 A.length]) (Out H.length K):=by intro A hA he hl;unfold zoJ;refine ACalls.wk (args':=[.sl (zal A) .none]) (zvD A (by omega) _ _ ?_) ⟨.atom (.sl _ _),trivial⟩;rw[zgh A hA,he];exact Out.one hs (.atom (.sl _ _)) rfl rfl hK
 refine zWA (Inv:=λq t3 t4 t5 H'=>∃ (i c:Nat) (A:List Nat),i≤L.length∧L.length-i=q∧t5=.int .i64 i∧t4=.int .u64 c∧t3=.sl (zal A) (.own H.length)∧A.length=i∧(∀ x∈A,x<1000000000)∧c≤5 ∧
  zao A+1000000000 ^ i*c=zao (L.take i)∧H'=H++[.perm zbh 1 A.length]) L.length ?_ ?_
 ·intro _;exact⟨0,0,[],by omega,rfl,rfl,rfl,rfl,rfl,by simp,by omega,by simp[zao],rfl⟩
 ·rintro q t3 t4 t5 H' ⟨i,c,A,hi,rfl,rfl,rfl,rfl,hAl,hA,hc,hv,rfl⟩ hsc' hlen hsF Kb hKb;by_cases hlt:i<L.length
  ·have hx:=h32 L[i] (ae hlt);have w1:IntKind.u64.wrap ((L[i]:Nat):Int)=L[i]:=zbF (by omega);obtain⟨s,hs1⟩:∃ s,s=c+L[i]:=⟨_,rfl⟩;have w2:IntKind.u64.wrap ((c:Int)+(L[i]:Nat))=(s:Int):=by rw[hs1,←Int.natCast_add];exact zbF (by omega)
   obtain⟨x,c',hx1,hx2,hx3,e1,e2⟩:=zh7 s (by omega);simp only[zoH];simp[hlt,w1,w2,e1,e2,hx3,zau,za4,plain,AV.pd,zax,za6,zaZ,wi i (by omega)];refine⟨⟨by omega,by omega⟩,?_⟩;rw[sN];refine hKb _ _ ⟨L.length-(i+1),by omega,Back.here (by simp) (hs.append (by simp[AB.sc])) (by simp[zoI,ux,AV.sc,AV.scA,AV.scB,AV.scV]) ⟨_,_,_,rfl,i+1,c',A++[x],by omega,rfl,rfl,rfl,rfl,by simp[hAl],?_,by omega,?_,by simp⟩⟩
   ·intro y hy;rcases aP.1 hy with hy | hy
    ·exact hA y hy
    ·simp at hy;omega
   ·rw[zeJ,zdd L i hlt,←hv,hAl,Nat.pow_succ];grind
  ·obtain rfl:i=L.length:=by omega
   rw[aw]at hv;by_cases h0:c=0
   ·subst h0;simp[zoH];exact hend A hA (by simpa using hv) (by omega)
   ·simp only[zoH];simp[show 0<c by omega,zcz (show c<4294967296 by omega),zau,za4,plain,AV.pd,zax,za6,zaZ];refine⟨⟨by omega,by omega⟩,?_⟩;rw[sN];have:=hend (A++[c]) (λy hy=>by
     rcases aP.1 hy with hy|hy
     ·exact hA y hy
     ·simp at hy;omega) (by rw[zeJ,hAl];exact hv) (by simp;omega)
    simpa using this
theorem zka{A B:List Nat}(hl:A.length=B.length)(hA:∀x∈A,x<1000000000)(i:Nat)(hi:i<A.length)(hd:A.drop (i+1)=B.drop (i+1))(hlt:A[i]<B[i]'(by omega)):zao A<zao B:=by
 have e1:∀(l:List Nat) (h:i<l.length),zao l=zao (l.take i)+1000000000 ^ i*(l[i]+1000000000*zao (l.drop (i+1))):=by
  intro l h
  conv=>lhs;rw[←aN i l,zij,af h,zao]
  rw[aM,ba (by omega)]
 rw[e1 A hi,e1 B (by omega),hd];have h1:=zec (A.take i) (λx hx=>hA x (aW hx));rw[aM,ba (by omega)]at h1;generalize hZ:zao (B.drop (i+1))=Z;generalize A[i]=a at hlt ⊢;generalize B[i]=b at hlt ⊢;have h2:1000000000 ^ i*(a+1000000000*Z+1)≤1000000000 ^ i*(b+1000000000*Z):=bu _ (by omega);rw[Nat.mul_succ]at h2;omega
def zbm(a b:Nat):Int:=if a<b then -1 else if b<a then 1 else 0
theorem zuy(a b:Nat)(ha:(lim a).length≤1000)(hb:(lim b).length≤1000)(H:zaa)(K:Kt)(hK:K (.int .i64 (zbm a b)) H):
  ACalls tP zkH [.sl (zal (lim a)) .none,.sl (zal (lim b)) .none] H K:=by
 refine ACalls.out (zTH λhs=>?_);have hO:∀r,r=zbm a b→Out H.length K (.int .i64 r) H:=λr hr=>Out.int (J:=[]) (by simp) (aa _) hs (by rw[hr];exact hK);have lA:=zbD a;have lB:=zbD b;have vA:=zbd a;have vB:=zbd b;by_cases hne:(lim a).length=(lim b).length
 ·simp[znU,hne];generalize hLA:lim a=A at *;generalize hLB:lim b=B at *;have hstart:IntKind.i64.wrap ((B.length:Int)-1)=(B.length:Int)-1:=zaz (by omega) (by omega);rw[hstart];refine zTF (Inv:=λq t5 H'=>∃i:Nat,i≤B.length∧i=q∧t5=.int .i64 ((i:Int)-1)∧H'=H∧A.drop i=B.drop i) B.length ?_ ?_
  ·intro _;exact⟨B.length,by omega,rfl,rfl,rfl,by rw[bQ (by omega),bQ (by omega)]⟩
  ·rintro q t5 H' ⟨i,hi,rfl,rfl,rfl,hd⟩ hsc' hlen hsF Kb hKb;by_cases h0:i=0
   ·subst h0;simp[zji];refine hO _ ?_;simp at hd;rw[←vA,←vB,hd];simp[zbm]
   ·obtain⟨j,rfl⟩:∃ j,i=j+1:=⟨i-1,by omega⟩;have hja:j<A.length:=by omega
    have hjb:j<B.length:=by omega
    have ej:((j+1:Nat):Int)-1=(j:Int):=by omega
    have hstep:IntKind.i64.wrap ((j:Int)-1)=(j:Int)-1:=zaz (by omega) (by omega);rw[ej];rcases c9 A[j] B[j] with h|h|h
    ·have:=zka hne lA j hja hd h;simp[zji,hja,hjb,h];exact hO _ (by rw[←vA,←vB];simp[zbm,this])
    ·simp[zji,hja,hjb,h,hstep];refine hKb _ _ ⟨j,by omega,Back.here (by simp) hs (by simp[znW,ux,AV.sc,AV.scA,AV.scB,AV.scV]) ⟨_,rfl,j,by omega,rfl,rfl,rfl,?_⟩⟩;rw[af hja,af hjb,hd,h]
    ·have:=zka hne.symm lB j hjb hd.symm h;simp[zji,hja,hjb,h,bH h,db.2 (bH h)];exact hO _ (by rw[←vA,←vB];simp[zbm,this,db.2 (bH this)])
 ·have hnb:(((lim a).length:Int) != ((lim b).length:Int))=true:=by simp;omega
  by_cases hlt:(lim a).length<(lim b).length
  ·have:=zg6 hlt;simp[znU,hnb,hlt];exact hO (-1) (by simp[zbm,this])
  ·have:=zg6 (show (lim b).length<(lim a).length by omega);simp[znU,hnb,hlt];exact hO 1 (by simp[zbm,this,db.2 (bH this)])
theorem zDM(A B:List Nat)(lA:∀ x∈A,x<1000000000)(lB:∀ x∈B,x<1000000000)(ha:A.length≤1000)(hb:B.length≤1000)(H:zaa)(K:Kt)(cA:lim (zao A)=A)(cB:lim (zao B)=B)(hK:K (.sl (zal (lim (zao A+zao B))) .none) H):
  ACalls tP zqS [.sl (zal A) .none,.sl (zal B) .none] H K:=by
 refine ACalls.out (zTB λhs=>?_);unfold zDL znT;refine ALoop.own 5 zbh 1 rfl ?_;show znT (.sl (zal A) .none) (.sl (zal B) .none) (.sl [] (.own H.length)) (.int .u32 0) (.int .i64 0) (H++[.perm zbh 1 0]) (Out H.length K);refine zTz (Inv:=λq t5 t6 t7 H'=>∃ (i c:Nat) (R:List Nat),2002-i=q∧i≤1001∧t7=.int .i64 i∧t6=.int .u32 c∧t5=.sl (zal R) (.own H.length)∧R.length=i∧(∀ x∈R,x<1000000000)∧c≤1 ∧
  (max A.length B.length<i→c=0∧1000000000 ^ (i-1)≤zao R)∧zao R+1000000000 ^ i*c=zao (A.take i)+zao (B.take i)∧H'=H++[.perm zbh 1 R.length]) 2002 ?_ ?_
 ·intro _;exact⟨0,0,[],rfl,by omega,rfl,rfl,rfl,rfl,by simp,by omega,by omega,by simp[zao],rfl⟩
 ·rintro q t5 t6 t7 H' ⟨i,c,R,rfl,hi,rfl,rfl,rfl,hRl,hR,hc,hmx,hv,rfl⟩ hsc' hlen hsF Kb hKb;have hbit:∀ (s:Nat),s≤2*999999999+1→i≤1000→s+1000000000 ^ 0*0=c+(if h:i<A.length then A[i] else 0)+(if h:i<B.length then B[i] else 0)→(max A.length B.length<i+1→s=1) →
    znS (.sl (zal A) .none) (.sl (zal B) .none) (.sl (zal R) (.own H.length)) (.int .i64 i) (.int .u32 s) (H++[.perm zbh 1 R.length]) (Out H.length K) Kb:=by
   intro s hs1 hi2 hs2 hs3;obtain⟨x,c',hx1,hx2,e1,e2⟩:=zwN s (by omega);simp only[znS];simp[e1,e2,zau,za4,plain,AV.pd,zax,za6,zaZ,wi i (by omega)];refine⟨⟨by omega,by omega⟩,?_⟩;rw[sN];have tk:∀L:List Nat,zao (L.take (i+1))=zao (L.take i)+(if h:i<L.length then L[i] else 0)*1000000000 ^ i:=by
    intro L;by_cases h:i<L.length
    ·rw[dE h,zdd L i h]
    ·rw[dy h,ak (by omega),ak (by omega)];simp
   refine hKb _ _ ⟨2002-(i+1),by omega,Back.here (by simp) (hs.append (by simp[AB.sc])) (by simp[znR,ux,AV.sc,AV.scA,AV.scB,AV.scV]) ⟨_,_,_,rfl,i+1,c',R++[x],rfl,by omega,rfl,rfl,rfl,by simp[hRl],?_,by omega,?_,?_,by simp⟩⟩
   ·intro y hy;rcases aP.1 hy with hy | hy
    ·exact hR y hy
    ·simp at hy;omega
   ·intro h;have:=hs3 h;refine⟨by omega,?_⟩;obtain rfl:x=1:=by omega
    rw[zeJ,hRl,bo];omega
   ·rw[zeJ,tk A,tk B,hRl,Nat.pow_succ];simp only[Nat.pow_zero,Nat.mul_zero,Nat.add_zero]at hs2;generalize (if h:i<A.length then A[i] else 0)=u at *;generalize (if h:i<B.length then B[i] else 0)=v at *;grind
  by_cases hA:i<A.length
  ·have hxa:=lA A[i] (ae hA);by_cases hB:i<B.length
   ·have hxb:=lB B[i] (ae hB);obtain⟨s1,hs1⟩:∃ s,s=c+A[i]:=⟨_,rfl⟩;have w1:IntKind.u32.wrap ((c:Int)+(A[i]:Nat))=(s1:Int):=by rw[hs1,←Int.natCast_add];exact zcz (by omega)
    obtain⟨s2,hs2⟩:∃s,s=s1+B[i]:=⟨_,rfl⟩;have w2:IntKind.u32.wrap ((s1:Int)+(B[i]:Nat))=(s2:Int):=by rw[hs2,←Int.natCast_add];exact zcz (by omega)
    simp[zhM,zhN,hA,hB,w1,w2];exact hbit s2 (by omega) (by omega) (by simp[hA,hB];omega) (by omega)
   ·obtain⟨s1,hs1⟩:∃ s,s=c+A[i]:=⟨_,rfl⟩;have w1:IntKind.u32.wrap ((c:Int)+(A[i]:Nat))=(s1:Int):=by rw[hs1,←Int.natCast_add];exact zcz (by omega)
    simp[zhM,zhN,hA,hB,w1];exact hbit s1 (by omega) (by omega) (by simp[hA,hB];omega) (by omega)
  ·by_cases hB:i<B.length
   ·have hxb:=lB B[i] (ae hB);obtain⟨s2,hs2⟩:∃ s,s=c+B[i]:=⟨_,rfl⟩;have w2:IntKind.u32.wrap ((c:Int)+(B[i]:Nat))=(s2:Int):=by rw[hs2,←Int.natCast_add];exact zcz (by omega)
    simp[zhM,zhN,hA,hB,w2];exact hbit s2 (by omega) (by omega) (by simp[hA,hB];omega) (by omega)
   ·by_cases h0:c=0
    ·subst h0;simp[zhM,hA,hB];rw[ak (by omega),ak (by omega)]at hv;have hv':zao R=zao A+zao B:=by simpa using hv
     rw[←hv']at hK;have hcan:R=lim (zao R):=by
      refine zpr hR ?_;by_cases hm:max A.length B.length<i
      ·have:=zj7 (hmx hm).2;omega
      ·by_cases hi0:i=0
       ·omega
       ·have hmm:i=max A.length B.length:=by omega
        have hge:1000000000 ^ (i-1)≤zao R:=by
         by_cases hAB:B.length≤A.length
         ·have:i=A.length:=by omega
          have h3:=zj8 (n:=zao A) (by intro h;have hl0:=congrArg List.length cA;rw[h]at hl0;simp at hl0;omega);rw[cA,←this]at h3;omega
         ·have:i=B.length:=by omega
          have h3:=zj8 (n:=zao B) (by intro h;have hl0:=congrArg List.length cB;rw[h]at hl0;simp at hl0;omega);rw[cB,←this]at h3;omega
        have:=zj7 hge;omega
     rw[←hcan]at hK;exact Out.one hs (.atom (.sl _ _)) rfl rfl hK
    ·have:i≤1000:=by refine cx λh=>?_;exact h0 (hmx (by omega)).1
     simp[zhM,zhN,hA,hB,show 0<c by omega];exact hbit c (by omega) this (by simp[hA,hB]) (by omega)
def us(l:List Nat):List AV:=l.map λ(n:Nat)=>AV.int .u32 (n:Int)
@[simp] theorem ya1(l:List Nat):(us l).length=l.length:=by simp[us]
theorem zlu(l:List Nat):(zal l).flatten=us l:=by induction l with
 |nil=>rfl
 |cons x l ih=>simp only[zal,us,aA,List.flatten_cons]at ih ⊢;rw[ih];rfl
theorem ziT:∀ (l:List Nat),plain (us l)=some (us l)
 |[]=>rfl
 |x::l=>by simp only[us,aA,plain,AV.pd];rw[show plain (List.map (λn:Nat=>AV.int .u32 (n:Int)) l)=some (us l) from ziT l];rfl
theorem zKx(l:List Nat)(i:Nat)(h:i<l.length):(us l)[i]?=some (.int .u32 ((l[i]:Nat):Int)):=by simp[us,h]
theorem zrW(l:List Nat)(i x:Nat)(h:i<l.length):(us l).take i++[AV.int .u32 (x:Int)]++(us l).drop (i+1)=us (l.set i x):=by simp only[us,←bX,←List.map_drop];rw[bV,aB h];simp
theorem zlv(n:Nat):List.replicate n (AV.int .u32 0)=us (List.replicate n 0):=by simp[us]
theorem zo4{k:AV→Prop}(l:List Nat)(i:Nat)(h:i<l.length):zbr false 1 i (us l) k=k (.int .u32 ((l[i]:Nat):Int)):=by simp[zbr,zKx l i h]
theorem zpx(L:List Nat)(hL:∀ x∈L,x<1000000000)(hl:L.length≤100000){id:Nat}{H:zaa}{K:Kt}(hid:H[id]?=some (.cells (us L)))(hK:K (.sl (zal (lim (zao L))) .none) (H.set id .dead)):
  ACalls tP zfs [.ms id 0 L.length L.length] H K:=by
 refine ACalls.frz id 0 L.length L.length 1 (us L) (zal L) hid (by simp) ?_ (by simp) (zeW L) (aa _) (args':=[.sl (zal L) .none]) ⟨.one .ms,trivial⟩ ?_
 ·rw[aU,ak (by simp),zlu,ziT]
 ·refine zvD L (by omega) _ _ ?_;rw[zgh L hL];exact hK
theorem zTw(A B:List Nat)(lA:∀ x∈A,x<1000000000)(lB:∀ x∈B,x<1000000000)(ha:A.length≤1000)(hb:B.length≤1000)(H:zaa)(K:Kt)(hK:K (.sl (zal (lim (zao A*zao B))) .none) H):
  ACalls tP zee [.sl (zal A) .none,.sl (zal B) .none] H K:=by
 refine ACalls.out (zTu λhs=>?_);have hw:IntKind.i64.wrap (IntKind.i64.wrap ((A.length:Int)+B.length)+1)=((A.length+B.length+1:Nat):Int):=by rw[zaz (n:=(A.length:Int)+B.length) (by omega) (by omega),zaz (by omega) (by omega)];omega
 simp[zDG,hw,za9];have hN:((A.length:Int)+B.length+1).toNat=A.length+B.length+1:=by omega
 rw[hN,zlv];refine⟨⟨by omega,by omega,by omega⟩,?_⟩;have hsc:∀O:List Nat,HSc (H++[.cells (us O)]):=λO=>hs.append (by simp[AB.sc,us,AV.scA,AV.scB]);have hBlt:=zec B lB;refine zTr (Inv:=λq t6 H'=>∃(i:Nat) (O:List Nat),i≤A.length∧A.length-i=q∧t6=.int .i64 i∧O.length=A.length+B.length+1∧(∀x∈O,x<1000000000)∧zao O=zao (A.take i)*zao B∧H'=H++[.cells (us O)]) A.length ?_ ?_
 ·intro _;exact⟨0,_,by omega,rfl,rfl,by simp,by simp,by rw[zxS];simp[zao],rfl⟩
 ·rintro q t6 H' ⟨i,O,hi,rfl,rfl,hOl,hO,hv,rfl⟩ hsc' hlen hsF Kb hKb;by_cases hlt:i<A.length
  ·have hxa:=lA A[i] (ae hlt);simp[zut,hlt];refine zTs (Inv:=λq t7 t8 H'=>∃ (k c:Nat) (R:List Nat),k≤B.length+1∧B.length+1-k=q∧t8=.int .i64 k∧t7=.int .u64 c∧R.length=A.length+B.length+1∧(∀ x∈R,x<1000000000)∧c<1000000000∧(B.length<k→c=0) ∧
    zao R+c*1000000000 ^ (i+k)=zao O+A[i]*zao (B.take k)*1000000000 ^ i∧H'=H++[.cells (us R)]) (B.length+1) ?_ ?_
   ·intro _;exact⟨0,0,O,by omega,rfl,rfl,rfl,hOl,hO,by omega,by omega,by simp[zao],rfl⟩
   ·rintro q t7 t8 H' ⟨k,c,R,hk,rfl,rfl,rfl,hRl,hR,hc,hmx,hr,rfl⟩ hsc'' hlen' hsF' Kb2 hKb2;have hik:IntKind.i64.wrap ((i:Int)+k)=((i+k:Nat):Int):=by rw[zaz (by omega) (by omega)];omega
    have hstep:∀ s:Nat,s<1000000000*1000000000→(hR2:i+k<R.length)→k≤B.length→s=c+R[i+k]+A[i]*(if h:k<B.length then B[k] else 0) →
      znP (.sl (zal A) .none) (.sl (zal B) .none) (.ms H.length 0 (A.length+B.length+1) (A.length+B.length+1)) (.int .i64 i) (.int .u64 s) (.int .i64 k) (H++[.cells (us R)]) (Out H.length K) Kb Kb2:=by
     intro s hs1 hR2 hkB hs2;obtain⟨x,c',hx1,hx2,hx3,e1,e2⟩:=zh7 s (by omega);have hlt2:i+k<A.length+B.length+1:=by omega
     have hset:=zrW R (i+k) x hR2;simp only[znP];simp[hik,e1,e2,hx3,wi k (by omega),hlt2];have eT:((i:Int)+k).toNat=i+k:=by omega
     rw[eT];refine⟨⟨by omega,by omega⟩,by omega,?_⟩;have hset':List.take (i+k) (us R)++AV.int .u32 (x:Int)::List.drop (i+k+1) (us R)=us (R.set (i+k) x):=by rw[←hset];simp
     rw[hset'];have hb1:zao (B.take (k+1))=zao (B.take k)+(if h:k<B.length then B[k] else 0)*1000000000 ^ k:=by
      by_cases h:k<B.length
      ·rw[dE h,zdd B k h]
      ·rw[dy h,ak (by omega),ak (by omega)];simp
     have hls:=zkb R (i+k) x hR2;have hmain:zao (R.set (i+k) x)+c'*1000000000 ^ (i+(k+1))=zao O+A[i]*zao (B.take (k+1))*1000000000 ^ i:=by rw[hb1,show i+(k+1)=i+k+1 by omega,Nat.pow_succ];rw[Nat.pow_add]at hr hls ⊢;rw[hs2]at hx2;clear hset hset' e1 e2 hx3 hs2 hb1 hKb hKb2 hsc' hsc'' hsF hsF' hBlt hK hs;generalize (if h:k<B.length then B[k] else 0)=b at *;generalize zao (R.set (i+k) x)=vS at *;generalize R[i+k]=r at *;generalize A[i]=a at *;generalize zao (List.take k B)=T at *;generalize 1000000000 ^ i=P at *;generalize 1000000000 ^ k=Q at *;generalize zao R=vR at *;generalize zao O=vO at *;grind
     have hc1:c'<1000000000:=by refine cw λh=>?_;have:=bu 1000000000 h;omega
     refine hKb2 _ _ ⟨B.length+1-(k+1),by omega,Back.here (by simp) (hsc _) (by simp[znO,ux,AV.sc,AV.scA,AV.scB,AV.scV]) ⟨_,_,rfl,k+1,c',R.set (i+k) x,by omega,rfl,by simp,rfl,by simp[hRl],?_,hc1,?_,hmain,rfl⟩⟩
     ·intro y hy;rcases bA hy with hy | rfl
      ·exact hR y hy
      ·exact hx1
     ·intro hkl;obtain rfl:k=B.length:=by omega
      have htot:zao O+A[i]*zao (B.take (B.length+1))*1000000000 ^ i=zao (A.take (i+1))*zao B:=by rw[List.take_of_length_le (by omega),zdd A i hlt,hv];grind
      rw[htot]at hmain;have hAl:=zec (A.take (i+1)) (λy hy=>lA y (aW hy));rw[aM,ba (by omega)]at hAl;have hp:=cN hAl hBlt;rw[←cq]at hp;refine cG λhpos=>?_;have h3:1*1000000000 ^ (i+(B.length+1))≤c'*1000000000 ^ (i+(B.length+1)):=aq _ hpos;rw[show i+1+B.length=i+(B.length+1) by omega]at hp;omega
    by_cases hkb:k<B.length
    ·have hR2:i+k<R.length:=by omega
     have hxb:=lB B[k] (ae hkb);have hxr:=hR R[i+k] (ae hR2);have eT:((i:Int)+k).toNat=i+k:=by omega
     have w1:IntKind.u64.wrap ((R[i+k]:Nat):Int)=R[i+k]:=zbF (by omega);have w2:IntKind.u64.wrap ((A[i]:Nat):Int)=A[i]:=zbF (by omega);have w3:IntKind.u64.wrap ((B[k]:Nat):Int)=B[k]:=zbF (by omega);have hmul:A[i]*B[k]≤999999999*999999999:=bI (by omega) (by omega);obtain⟨m,hm⟩:∃m,m=A[i]*B[k]:=⟨_,rfl⟩;have w4:IntKind.u64.wrap (((A[i]:Nat):Int)*(B[k]:Nat))=(m:Int):=by rw[hm,←Int.natCast_mul];exact zbF (by omega)
     obtain⟨s1,hs1⟩:∃s,s=c+R[i+k]:=⟨_,rfl⟩;have w5:IntKind.u64.wrap ((c:Int)+(R[i+k]:Nat))=(s1:Int):=by rw[hs1,←Int.natCast_add];exact zbF (by omega)
     obtain⟨s2,hs2⟩:∃s,s=s1+m:=⟨_,rfl⟩;have w6:IntKind.u64.wrap ((s1:Int)+(m:Int))=(s2:Int):=by rw[hs2,←Int.natCast_add];exact zbF (by omega)
     have:=hstep s2 (by omega) hR2 (by omega) (by rw[hs2,hs1,hm,dE hkb]);simp[znM,hkb,hik,eT,w2,w3,w4];refine⟨⟨by omega,by omega⟩,?_⟩;rw[zo4 R _ hR2];simp[w1,w2,w3,w4,w5,w6,hlt,hkb];exact this
    ·by_cases h0:c=0
     ·subst h0;simp[znM,hkb,wi i (by omega)];refine hKb _ _ ⟨A.length-(i+1),by omega,Back.here (by simp) (hsc _) (by simp[znN,ux,AV.sc,AV.scA,AV.scB,AV.scV]) ⟨_,rfl,i+1,R,by omega,rfl,rfl,hRl,hR,?_,rfl⟩⟩;rw[List.take_of_length_le (by omega)]at hr;rw[zdd A i hlt];rw[hv]at hr;grind
     ·have hk2:k=B.length:=by refine Nat.le_antisymm (cx λh=>h0 (hmx h)) (by omega)
      have hR2:i+k<R.length:=by omega
      have hxr:=hR R[i+k] (ae hR2);have eT:((i:Int)+k).toNat=i+k:=by omega
      have w1:IntKind.u64.wrap ((R[i+k]:Nat):Int)=R[i+k]:=zbF (by omega);obtain⟨s1,hs1⟩:∃s,s=c+R[i+k]:=⟨_,rfl⟩;have w5:IntKind.u64.wrap ((c:Int)+(R[i+k]:Nat))=(s1:Int):=by rw[hs1,←Int.natCast_add];exact zbF (by omega)
      have:=hstep s1 (by omega) hR2 (by omega) (by rw[hs1,dy hkb];omega);simp[znM,hkb,hik,eT,show 0<c by omega];refine⟨⟨by omega,by omega⟩,?_⟩;rw[zo4 R _ hR2];simp[w1,w5];exact this
  ·obtain rfl:i=A.length:=by omega
   rw[aw]at hv;simp[zut];rw[←hOl];refine zpx O hO (by omega) (by simp) ?_;rw[hv];simp;exact Out.one hs (.atom (.sl _ _)) rfl rfl hK
theorem zx6(L:List Nat)(hL:L.length≤1000000)(H:zaa)(K:Kt)(hK:K (.sl (zal (zbz L)) .none) H):
  ACalls tP zg9 [.sl (zal L) .none] H K:=by
 refine ACalls.out (zMz λhs=>?_);simp[zAY];refine zMx (Inv:=λq t3 H'=>∃n:Nat,n≤L.length∧n=q∧t3=.int .i64 n∧H'=H∧zbz L=zbz (L.take n)) L.length ?_ ?_
 ·intro _;exact⟨L.length,by omega,rfl,by simp,rfl,by simp⟩
 ·rintro q t3 H' ⟨n,hn,rfl,rfl,rfl,hst⟩ hsc' hlen hsF Kb hKb;have hone:∀ (l:List Nat),l=zbz L→Out (List.length H') K (AV.sl (zal l) .none) H':=λl hl=>Out.one0 hs (.atom (.sl _ _)) rfl rfl (by rw[hl];exact hK);by_cases h0:n=0
  ·subst h0;simp[zl7];exact⟨zeW L,hone [] (by simpa[zbz]using hst.symm)⟩
  ·have hw:IntKind.i64.wrap ((n:Int)-1)=((n-1:Nat):Int):=by rw[zaz (by omega) (by omega)];omega
   have hlt:n-1<L.length:=by omega
   by_cases hz:L[n-1]=0
   ·simp[zl7,show 0<n by omega,hw,hlt,hz];exact hKb _ _ ⟨n-1,by omega,Back.here (by simp) hs (by simp[zl8,AV.sc,AV.scA,AV.scB,AV.scV]) ⟨_,rfl,n-1,by omega,rfl,rfl,rfl,by rw[hst,zzy (by omega) hn hz]⟩⟩
   ·have hzb:(((L[n-1]:Nat):Int) == 0)=false:=by simp;omega
    simp[zl7,show 0<n by omega,hw,hlt,hzb];refine⟨⟨hn,zeW L⟩,?_⟩;rw[zz1];exact hone _ (by rw[hst,zzw (by omega) hn hz])
theorem zG6(n:Nat)(hn:n<18446744073709551616)(H:zaa)(K:Kt)(hK:K (.sl (zal (lim n)) .none) H):
  ACalls tP zkh [.int .u64 n] H K:=by
 refine ACalls.out (zMF λhs=>?_);unfold zA0 zmb;refine ALoop.own 3 zbh 1 rfl ?_;show zmb (.int .u64 n) (.sl [] (.own H.length)) (H++[.perm zbh 1 0]) (Out H.length K);refine zMD (Inv:=λq t0 t3 H'=>∃ (m:Nat) (A:List Nat),m=q∧t0=.int .u64 m∧t3=.sl (zal A) (.own H.length)∧lim n=A++lim m∧m<18446744073709551616 ∧
  H'=H++[.perm zbh 1 A.length]) n ?_ ?_
 ·intro _;exact⟨n,[],rfl,rfl,rfl,by simp,hn,rfl⟩
 ·rintro q t0 t3 H' ⟨m,A,rfl,rfl,rfl,hA,hm,rfl⟩ hsc' hlen hsF Kb hKb;by_cases h0:m=0
  ·subst h0;simp[zsE];exact Out.one hs (.atom (.sl _ _)) rfl rfl (by simpa[hA]using hK)
  ·have hlA:A.length+1≤1000:=by have h1:=congrArg List.length hA;have h2:=zcc (n:=n) (k:=3) (by omega);rw[zcu h0]at h1;simp at h1;omega
   obtain⟨x,c,hx1,hx2,hx3,e1,e2⟩:=zh7 m hm;simp only[zsE];simp[show 0<m by omega,e1,e2,hx3,zau,za4,plain,AV.pd,zax,za6,zaZ];refine⟨⟨by omega,by omega⟩,?_⟩;rw[sN];refine hKb _ _ ⟨c,by omega,Back.here (by simp) (hs.append (by simp[AB.sc])) (by simp[zma,ux,AV.sc,AV.scA,AV.scB,AV.scV]) ⟨_,_,rfl,c,A++[x],rfl,rfl,rfl,?_,by omega,by simp⟩⟩;rw[hA,zcu h0,show m % 1000000000=x by omega,show m / 1000000000=c by omega];simp
theorem ACalls.frzV1{P:Program}{H:zaa}{f:FuncId}{K:Kt}(id e size n:Nat)(cs:List AV)(es:List (List AV))(hH:H[id]?=some (.vec e size n cs))(hp:plain cs=some es.flatten)(hlen:es.length=n)(hsz:∀c∈es,c.length=size)(h:ACalls P f [.sl es .none] (H.set id .dead) K):ACalls P f [.ov id n] H K:=by
 intro B w G vs hR hv;obtain⟨G',hE,hR',hd⟩:=hR.frzV hH hp hlen hsz;refine(h B w G' vs hR' ?_).mono λe w' ⟨v,r,H',G'',k1,k2,k3,k4,k5⟩=>⟨v,r,H',G'',k1,hE.trans k2,k3,k4,k5⟩;generalize vs.toList=l at *
 match l,hv with
 |[v],⟨h1,_⟩=>exact⟨hd v h1,trivial⟩
theorem zKk(L:List Nat)(hL:∀ x∈L,x<1000000000)(hl:L.length≤100000){id:Nat}{H:zaa}{K:Kt}(hid:H[id]?=some (.vec zbh 1 L.length (us L)))(hK:K (.sl (zal (lim (zao L))) .none) (H.set id .dead)):
  ACalls tP zg9 [.ov id L.length] H K:=by
 refine ACalls.frzV1 id zbh 1 L.length (us L) (zal L) hid (by rw[zlu,ziT]) (by simp) (zeW L) ?_;refine zx6 L (by omega) _ _ ?_;rw[zgh L hL];exact hK
theorem zKj(L:List Nat)(hL:∀ x∈L,x<1000000000)(hl:L.length≤100000){id:Nat}{H:zaa}{K:Kt}(hid:H[id]?=some (.cells (us L)))(hK:K (.sl (zal (lim (zao L))) .none) (H.set id .dead)):
  ACalls tP zg9 [.ms id 0 L.length L.length] H K:=by
 refine ACalls.frz id 0 L.length L.length 1 (us L) (zal L) hid (by simp) ?_ (by simp) (zeW L) (aa _) (args':=[.sl (zal L) .none]) ⟨.one .ms,trivial⟩ ?_
 ·rw[aU,ak (by simp),zlu,ziT]
 ·refine zx6 L (by omega) _ _ ?_;rw[zgh L hL];exact hK
theorem zq3(L:List Nat)(h32:∀ x∈L,x<4294967296)(hL:L.length≤50000)(H:zaa)(K:Kt)(hK:K (.sl (zal (lim (zao L))) .none) H):
  ACalls tP zil [.sl (zal L) .none] H K:=by
 refine ACalls.out (zLu λhs=>?_);have hsc:∀A:List Nat,HSc (H++[.vec zbh 1 A.length (us A)]):=λA=>hs.append (by simp[AB.sc,us,AV.scA,AV.scB]);simp[zAr,wi L.length (by omega)];refine⟨⟨by omega,by omega,by omega⟩,?_⟩;have hend:∀A:List Nat,(∀x∈A,x<1000000000)→zao A=zao L→A.length≤100000→zlL (.ov H.length A.length) (H++[.vec zbh 1 A.length (us A)]) (Out H.length K):=by intro A hA he hl;unfold zlL;refine zKk A hA hl (by simp) ?_;rw[he];simp;exact Out.one hs (.atom (.sl _ _)) rfl rfl hK
 refine zLs (Inv:=λq t3 t4 t13 H'=>∃ (i c:Nat) (A:List Nat),i≤L.length∧L.length-i=q∧t13=.int .i64 i∧t4=.int .u64 c∧t3=.ov H.length A.length∧A.length=i∧(∀ x∈A,x<1000000000)∧c≤5 ∧
  zao A+1000000000 ^ i*c=zao (L.take i)∧H'=H++[.vec zbh 1 A.length (us A)]) L.length ?_ ?_
 ·intro _;exact⟨0,0,[],by omega,rfl,rfl,rfl,rfl,rfl,by simp,by omega,by simp[zao],rfl⟩
 ·rintro q t3 t4 t13 H' ⟨i,c,A,hi,rfl,rfl,rfl,rfl,hAl,hA,hc,hv,rfl⟩ hsc' hlen hsF Kb hKb;by_cases hlt:i<L.length
  ·have hx:=h32 L[i] (ae hlt);have w1:IntKind.u64.wrap ((L[i]:Nat):Int)=L[i]:=zbF (by omega);obtain⟨s,hs1⟩:∃ s,s=L[i]+c:=⟨_,rfl⟩;have w2:IntKind.u64.wrap (((L[i]:Nat):Int)+(c:Int))=(s:Int):=by rw[hs1,←Int.natCast_add];exact zbF (by omega)
   obtain⟨x,c',hx1,hx2,hx3,e1,e2⟩:=zh7 s (by omega);simp only[zlJ];simp[hlt,w1,w2,e1,e2,hx3,zau,za4,plain,AV.pd,zax,za6,zaZ,wi i (by omega)];refine⟨⟨by omega,by omega⟩,?_⟩;have e3:us A++[AV.int .u32 (x:Int)]=us (A++[x]):=by simp[us]
   rw[e3];refine hKb _ _ ⟨L.length-(i+1),by omega,Back.here (by simp) (by simpa using hsc (A++[x])) (by simp[zlK,ux,AV.sc,AV.scA,AV.scB,AV.scV]) ⟨_,_,_,rfl,i+1,c',A++[x],by omega,rfl,rfl,rfl,by simp,by simp[hAl],?_,by omega,?_,by simp⟩⟩
   ·intro y hy;rcases aP.1 hy with hy | hy
    ·exact hA y hy
    ·simp at hy;omega
   ·rw[zeJ,zdd L i hlt,←hv,hAl,Nat.pow_succ];grind
  ·obtain rfl:i=L.length:=by omega
   rw[aw]at hv;by_cases h0:c=0
   ·subst h0;simp[zlJ];exact hend A hA (by simpa using hv) (by omega)
   ·simp only[zlJ];simp[show 0<c by omega,zcz (show c<4294967296 by omega),zau,za4,plain,AV.pd,zax,za6,zaZ];refine⟨⟨by omega,by omega⟩,?_⟩;have e3:us A++[AV.int .u32 (c:Int)]=us (A++[c]):=by simp[us]
    rw[e3];have:=hend (A++[c]) (λy hy=>by
     rcases aP.1 hy with hy|hy
     ·exact hA y hy
     ·simp at hy;omega) (by rw[zeJ,hAl];exact hv) (by simp;omega)
    simpa using this
theorem zz8(O:List Nat)(i x:Nat)(h:i<O.length):List.take i (us O)++AV.int .u32 (x:Int)::List.drop (i+1) (us O)=us (O.set i x):=by rw[←zrW O i x h];simp
theorem zza{O:List Nat}(hO:∀x∈O,x<1000000000){i x:Nat}(hx:x<1000000000):∀y∈O.set i x,y<1000000000:=by
 intro y hy;rcases bA hy with hy|rfl
 ·exact hO y hy
 ·exact hx
theorem zHT{O:List Nat}{j:Nat}(h:zao O<1000000000 ^ j):O.getD j 0=0:=by
 by_cases hj:j<O.length
 ·have e:zao O=zao (O.take j)+1000000000 ^ j*(O[j]+1000000000*zao (O.drop (j+1))):=by
   conv=>lhs;rw[←aN j O,zij,af hj,zao]
   rw[aM,ba (by omega)]
  rw[List.getD_eq_getElem?_getD,List.getElem?_eq_getElem hj,Option.getD_some];refine cG λhp=>?_;have h2:1000000000 ^ j*1≤1000000000 ^ j*(O[j]+1000000000*zao (O.drop (j+1))):=bu _ (by omega);omega
 ·simp[List.getD_eq_getElem?_getD,show O.length≤j by omega]
theorem zHY(A B:List Nat)(lA:∀ x∈A,x<1000000000)(lB:∀ x∈B,x<1000000000)(ha:A.length≤1000)(hb:B.length≤1000)(H:zaa)(K:Kt)(hK:K (.sl (zal (lim (zao A*zao B))) .none) H):
  ACalls tP zcY [.sl (zal A) .none,.sl (zal B) .none] H K:=by
 refine ACalls.out (zV3 λhs=>?_);by_cases hA0:A=[]
 ·subst hA0;simp[zoy,zao]at hK ⊢;exact Out.one0 hs (.atom .snil) rfl rfl (by simpa[zal]using hK)
 by_cases hB0:B=[]
 ·subst hB0;have hAb:((A.length:Int) == 0)=false:=by have:A.length≠0:=λh=>hA0 (az h);generalize A.length=q at this;simp;omega
  simp[zoy,zao,hAb,hA0]at hK ⊢;exact Out.one0 hs (.atom .snil) rfl rfl (by simpa[zal]using hK)
 have hAl0:A.length≠0:=λh=>hA0 (az h);have hBl0:B.length≠0:=λh=>hB0 (az h);have hAb:((A.length:Int) == 0)=false:=by generalize A.length=q at hAl0;simp;omega
 have hBb:((B.length:Int) == 0)=false:=by generalize B.length=q at hBl0;simp;omega
 have hw:IntKind.i64.wrap ((A.length:Int)+B.length)=((A.length+B.length:Nat):Int):=by rw[zaz (by omega) (by omega)];omega
 simp[zoy,hAb,hBb,hA0,hB0,hw,za9];have hN:((A.length:Int)+B.length).toNat=A.length+B.length:=by omega
 rw[hN,zlv];refine⟨⟨by omega,by omega,by omega⟩,?_⟩;have hsc:∀O:List Nat,HSc (H++[.cells (us O)]):=λO=>hs.append (by simp[AB.sc,us,AV.scA,AV.scB]);have hBlt:=zec B lB;refine zV0 (Inv:=λq t26 H'=>∃(i:Nat) (O:List Nat),i≤A.length∧A.length-i=q∧t26=.int .i64 i∧O.length=A.length+B.length∧(∀x∈O,x<1000000000)∧zao O=zao (A.take i)*zao B∧H'=H++[.cells (us O)]) A.length ?_ ?_
 ·intro _;exact⟨0,_,by omega,rfl,rfl,by simp,by simp,by rw[zxS];simp[zao],rfl⟩
 ·rintro q t26 H' ⟨i,O,hi,rfl,rfl,hOl,hO,hv,rfl⟩ hsc' hlen hsF Kb hKb;by_cases hlt:i<A.length
  ·have hxa:=lA A[i] (ae hlt);have hAl:=zec (A.take i) (λy hy=>lA y (aW hy));rw[aM,ba (by omega)]at hAl;have hO0:O.getD (i+B.length) 0=0:=by refine zHT ?_;rw[hv,cq];exact cN hAl hBlt
   simp[zvf,hlt];refine zV1 (Inv:=λq t7 t31 H'=>∃ (k c:Nat) (R:List Nat),k≤B.length∧B.length-k=q∧t31=.int .i64 k∧t7=.int .u64 c∧R.length=A.length+B.length∧(∀ x∈R,x<1000000000)∧c<1000000000∧R.getD (i+B.length) 0=0 ∧
    zao R+c*1000000000 ^ (i+k)=zao O+A[i]*zao (B.take k)*1000000000 ^ i∧H'=H++[.cells (us R)]) B.length ?_ ?_
   ·intro _;exact⟨0,0,O,by omega,rfl,rfl,rfl,hOl,hO,by omega,hO0,by simp[zao],rfl⟩
   ·rintro q t7 t31 H' ⟨k,c,R,hk,rfl,rfl,rfl,hRl,hR,hc,hR0,hr,rfl⟩ hsc'' hlen' hsF' Kb2 hKb2;by_cases hkb:k<B.length
    ·have hik:IntKind.i64.wrap ((i:Int)+k)=((i+k:Nat):Int):=by rw[zaz (by omega) (by omega)];omega
     have hR2:i+k<R.length:=by omega
     have hxb:=lB B[k] (ae hkb);have hxr:=hR R[i+k] (ae hR2);have eT:((i:Int)+k).toNat=i+k:=by omega
     have w1:IntKind.u64.wrap ((R[i+k]:Nat):Int)=R[i+k]:=zbF (by omega);have w2:IntKind.u64.wrap ((A[i]:Nat):Int)=A[i]:=zbF (by omega);have w3:IntKind.u64.wrap ((B[k]:Nat):Int)=B[k]:=zbF (by omega);have hmul:A[i]*B[k]≤999999999*999999999:=bI (by omega) (by omega);obtain⟨m,hm⟩:∃m,m=A[i]*B[k]:=⟨_,rfl⟩;have w4:IntKind.u64.wrap (((A[i]:Nat):Int)*(B[k]:Nat))=(m:Int):=by rw[hm,←Int.natCast_mul];exact zbF (by omega)
     obtain⟨s1,hs1⟩:∃s,s=m+R[i+k]:=⟨_,rfl⟩;have w5:IntKind.u64.wrap ((m:Int)+(R[i+k]:Nat))=(s1:Int):=by rw[hs1,←Int.natCast_add];exact zbF (by omega)
     obtain⟨s,hs2⟩:∃s,s=s1+c:=⟨_,rfl⟩;have w6:IntKind.u64.wrap ((s1:Int)+(c:Int))=(s:Int):=by rw[hs2,←Int.natCast_add];exact zbF (by omega)
     obtain⟨x,c',hx1,hx2,hx3,e1,e2⟩:=zh7 s (by omega);have hnext:Kb2 (zjt (.sl (zal A) .none) (.sl (zal B) .none) (.ms H.length 0 (A.length+B.length) (A.length+B.length)) (.int .i64 i) (.int .u64 c') (.int .i64 A.length) (.int .i64 i) (.int .i64 B.length) (.int .i64 ((k:Int)+1))) (H++[.cells (us (R.set (i+k) x))]):=by
      have hls:=zkb R (i+k) x hR2;have hb1:=zdd B k hkb;refine hKb2 _ _ ⟨B.length-(k+1),by omega,Back.here (by simp) (hsc _) (by simp[zjt,ux,AV.sc,AV.scA,AV.scB,AV.scV]) ⟨_,_,rfl,k+1,c',R.set (i+k) x,by omega,rfl,by simp,rfl,by simp[hRl],zza hR hx1,?_,?_,?_,rfl⟩⟩
      ·refine cw λh=>?_;have:=bu 1000000000 h;omega
      ·rw[List.getD_eq_getElem?_getD,List.getElem?_set_ne (by omega),←List.getD_eq_getElem?_getD];exact hR0
      ·rw[hb1,show i+(k+1)=i+k+1 by omega,Nat.pow_succ];rw[Nat.pow_add]at hr hls ⊢;rw[hs2,hs1,hm]at hx2;clear e1 e2 hx3 hKb hKb2 hsc' hsc'' hsF hsF' hBlt hK hs hR0 hO0 w1 w2 w3 w4 w5 w6;generalize zao (R.set (i+k) x)=vS at *;generalize R[i+k]=r at *;generalize A[i]=a at *;generalize B[k]=b at *;generalize zao (List.take k B)=T at *;generalize 1000000000 ^ i=P at *;generalize 1000000000 ^ k=Q at *;generalize zao R=vR at *;generalize zao O=vO at *;grind
     simp only[zvg];simp[hkb,hlt,hik,eT,w1,w2,w3,w4];refine⟨⟨by omega,by omega⟩,?_⟩;rw[zo4 R _ hR2];simp[w1,w5,w6,e1,e2,hx3,hik,eT,wi k (by omega),zz8 R (i+k) x hR2];exact⟨⟨by omega,by omega⟩,by omega,hnext⟩
    ·obtain rfl:k=B.length:=by omega
     have hib:IntKind.i64.wrap ((i:Int)+B.length)=((i+B.length:Nat):Int):=by rw[zaz (by omega) (by omega)];omega
     have eT:((i:Int)+B.length).toNat=i+B.length:=by omega
     have hR2:i+B.length<R.length:=by omega
     have hls:=zkb R (i+B.length) c hR2;rw[List.getD_eq_getElem?_getD,List.getElem?_eq_getElem hR2,Option.getD_some]at hR0;rw[hR0]at hls;simp only[zvg];simp[hib,eT,zcz (show c<4294967296 by omega),wi i (by omega),zz8 R (i+B.length) c hR2];refine⟨⟨by omega,hlt⟩,by omega,?_⟩;refine hKb _ _ ⟨A.length-(i+1),by omega,Back.here (by simp) (hsc _) (by simp[zoz,ux,AV.sc,AV.scA,AV.scB,AV.scV]) ⟨_,rfl,i+1,R.set (i+B.length) c,by omega,rfl,rfl,by simp[hRl],zza hR hc,?_,rfl⟩⟩;rw[List.take_of_length_le (Nat.le_refl _)]at hr;rw[zdd A i hlt];rw[hv]at hr;clear hKb hKb2 hsc' hsc'' hsF hsF' hBlt hK hs hO0 hsc;grind
  ·obtain rfl:i=A.length:=by omega
   rw[aw]at hv;simp[zvf];rw[←hOl];refine zKj O hO (by omega) (by simp) ?_;rw[hv];simp;exact Out.one hs (.atom (.sl _ _)) rfl rfl hK
end Go.Proofs.YtaifokkaaahdoaaGreatDoor

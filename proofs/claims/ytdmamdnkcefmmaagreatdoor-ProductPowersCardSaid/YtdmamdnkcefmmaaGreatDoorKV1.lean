import Derived.Test.YtdmamdnkcefmmaaGreatDoorKGT
import Derived.Test.YtdmamdnkcefmmaaGreatDoorKGR
import Derived.Test.YtdmamdnkcefmmaaGreatDoorKNum
import Derived.Test.YtdmamdnkcefmmaaGreatDoorProg
import Derived.KernelRfl
import Derived.Test.YtdmamdnkcefmmaaGreatDoorKY4
set_option linter.unusedSimpArgs false
set_option linter.unusedVariables false
set_option maxRecDepth 100000
namespace Go.Proofs.YtdmamdnkcefmmaaGreatDoor
theorem zdA{k:AV→Prop}(a b:AV)(vs:List AV):zaE (.tup (a::b::vs)) 1 k=k b:=propext aO
theorem zdB{k:AV→Prop}(a b c:AV)(vs:List AV):zaE (.tup (a::b::c::vs)) 2 k=k c:=propext aO
def zf0(s:List UInt8):List Tk×Int×Int:=
 if s.length>16384 then ([],0,9) else
 match zbQ (kwF kwds) s 0 with
 |.error (p,e)=>([],p,e)
 |.ok l=>(l,0,0)
theorem zAZ(s:List UInt8):zfp s=.tup [.sl ((zf0 s).1.map Tk.cs) .none,.int .i64 (zf0 s).2.1,.int .i64 (zf0 s).2.2]:=by
 unfold zfp zf0;split
 ·rfl
 ·split <;> (rename_i h;simp[h])
def zco(s:List UInt8)(x:List Tk × Int × Int):Bool:=x.2.2 == 0 && match x.1 with
 |[a,_]=>a.kind == 2 && a.text == s
 |_=>false
def zdm(s:List UInt8):Bool:=zco s (zf0 s)
theorem zEj(s:List UInt8)(H:zaa)(K:AV→zaa→Prop)(hK:K (.bool (zdm s)) H):ACalls tP zkp [.str s] H K:=by
 refine ACalls.out (zTb λhs=>?_);have hO:Out H.length K (.bool (zdm s)) H:=Out.bool (J:=[]) (by simp) (ac _) hs hK;simp only[zEi];refine zLp s _ _ ?_;rw[zAZ];rw[zdm]at hO;generalize zf0 s=x at hO ⊢;obtain⟨l,p,e⟩:=x;clear hK;cases h0:e == 0 with
 |false=>rw[show zco s (l,p,e)=false by simp[zco,h0]]at hO;simp[zdA,zdB,h0];exact hO
 |true=>
 match l with
 |[]=>rw[show zco s ([],p,e)=false by simp[zco]]at hO;simp[zdA,zdB,h0];exact hO
 |[x]=>rw[show zco s ([x],p,e)=false by simp[zco]]at hO;simp[zdA,zdB,h0];exact hO
 |[a,x]=>
  rw[show zco s ([a,x],p,e)=(a.kind == 2 && a.text == s) by simp[zco,h0]]at hO;cases hk:a.kind == 2 with
  |false=>rw[hk]at hO;simp[zdA,zdB,h0,Tk.cs,hk];exact hO
  |true=>rw[hk]at hO;simp[zdA,zdB,h0,Tk.cs,hk];exact hO
 |a::b::c::r=>
  rw[show zco s (a::b::c::r,p,e)=false by simp[zco]]at hO;have:¬((r.length:Int)+1+1+1=2):=by omega
  have h2:((r.length:Int)+1+1+1 == 2)=false:=by simpa using this
  simp[zdA,zdB,h0,h2];exact hO
theorem zGI(s:List UInt8)(H:zaa)(K:AV→zaa→Prop)(hK:K (.bool (zdm s)) H):ACalls tP zkP [.str s] H K:=by
 refine ACalls.out (yab λhs=>?_);have hO:Out H.length K (.bool (zdm s)) H:=Out.bool (J:=[]) (by simp) (ac _) hs hK;simp only[zGH];refine zLq s _ _ ?_;rw[zAZ];rw[zdm]at hO;generalize zf0 s=x at hO ⊢;obtain⟨l,p,e⟩:=x;clear hK;cases h0:e == 0 with
 |false=>rw[show zco s (l,p,e)=false by simp[zco,h0]]at hO;simp[zdA,zdB,h0];exact hO
 |true=>
 match l with
 |[]=>rw[show zco s ([],p,e)=false by simp[zco]]at hO;simp[zdA,zdB,h0];exact hO
 |[x]=>rw[show zco s ([x],p,e)=false by simp[zco]]at hO;simp[zdA,zdB,h0];exact hO
 |[a,x]=>
  rw[show zco s ([a,x],p,e)=(a.kind == 2 && a.text == s) by simp[zco,h0]]at hO;cases hk:a.kind == 2 with
  |false=>rw[hk]at hO;simp[zdA,zdB,h0,Tk.cs,hk];exact hO
  |true=>rw[hk]at hO;simp[zdA,zdB,h0,Tk.cs,hk];exact hO
 |a::b::c::r=>
  rw[show zco s (a::b::c::r,p,e)=false by simp[zco]]at hO;have:¬((r.length:Int)+1+1+1=2):=by omega
  have h2:((r.length:Int)+1+1+1 == 2)=false:=by simpa using this
  simp[zdA,zdB,h0,h2];exact hO
def zcA(l:List (List UInt8)):Bool:=!decide l.Nodup
def strs(l:List (List UInt8)):List (List AV):=l.map λs=>[.str s]
@[simp] theorem yeI(l:List (List UInt8)):(strs l).length=l.length:=by simp[strs]
theorem zLx{l:List (List UInt8)}{i:Nat}(h:i<(strs l).length):(strs l)[i]=[.str (l[i]'(by simpa using h))]:=by simp[strs]
theorem zJ9{l:List (List UInt8)}{i j:Nat}(hi:i<l.length)(hj:j<i)(h:l[i]=l[j]):zcA l=true:=by simp only[zcA,cz,bF];intro hn;exact(cF.mp hn) j i (by omega) hi hj h.symm
theorem yap(l:List (List UInt8))(hl:l.length≤1000000)(H:zaa)(K:AV→zaa→Prop)(hK:K (.bool (zcA l)) H):ACalls tP zit [.sl (strs l) .none] H K:=by
 refine ACalls.out (yan λhs=>?_);have hO:Out H.length K (.bool (zcA l)) H:=Out.bool (J:=[]) (by simp) (ac _) hs hK;simp[zGL];refine yak (Inv:=λq t3 H'=>∃i:Nat,i≤l.length∧q=l.length-i∧t3=.int .i64 i∧(∀a b (ha:a<i) (hb:b<a) (h':a<l.length),l[a]≠l[b])∧H=H') l.length ?_ ?_
 ·intro _;exact⟨0,by omega,by omega,rfl,by omega,rfl⟩
 ·rintro q t3 H' ⟨i,hi,rfl,rfl,ey,rfl⟩ hsc ek eK Kb eq;by_cases ei:i<l.length
  ·simp[zw4,ei];refine yal (Inv:=λq t4 H'=>∃j:Nat,j≤i∧q=i-j∧t4=.int .i64 j∧(∀b (hb:b<j) (mf:b<l.length),l[i]≠l[b])∧H=H') i ?_ ?_
   ·intro _;exact⟨0,by omega,by omega,rfl,by omega,rfl⟩
   ·rintro q t4 H' ⟨j,hj,rfl,rfl,qB,rfl⟩ nJ fS nK Kb1 jF;by_cases eI:j<i
    ·simp[zw5,eI,ei,show j<l.length by omega,zLx];cases he:l[i] == l[j] with
     |true=>rw[zJ9 ei eI (by simpa using he)]at hO;simpa using hO
     |false=>
      simp;rw[zay (by omega) (by omega)];refine jF _ _ ⟨i-(j+1),by omega,Back.at (J:=[]) (H2:=H) (by simp) (ac _) hs ?_ ⟨_,rfl,j+1,by omega,rfl,by simp,?_,rfl⟩⟩
      ·simp[zpH,AV.sc,AV.scV,AV.scA,AV.scB]
      ·intro b hb mf;by_cases hbj:b=j
       ·subst hbj;simpa using he
       ·exact qB b (by omega) mf
    ·obtain rfl:j=i:=by omega
     simp[zw5];rw[zay (by omega) (by omega)];refine eq _ _ ⟨l.length-(j+1),by omega,Back.at (J:=[]) (H2:=H) (by simp) (ac _) hs ?_ ⟨_,rfl,j+1,by omega,rfl,by simp,?_,rfl⟩⟩
     ·simp[zpG,AV.sc,AV.scV,AV.scA,AV.scB]
     ·intro a b ha hb h';by_cases haj:a=j
      ·subst haj;exact qB b hb (by omega)
      ·exact ey a b (by omega) hb h'
  ·obtain rfl:i=l.length:=by omega
   have:zcA l=false:=by simp only[zcA,Bool.not_eq_false',aS];refine cF.mpr λa b ha hb eY he=>?_;exact ey b a hb eY hb he.symm
   rw[this]at hO;simp[zw4];exact hO
section
variable (t0 t1 t2 t3 t4 t5 t8 t14 t15 t27 t28 t29 t76 t77 t78:AV) (H:zaa) (K:Kt) (Kb5 Kb6 Kb13:Lt)
def zgd:Nat→List Bool|5=>rl false [0,1,2,2,9,2,89]|13=>rl false [0,1,2,3,8,2,60,3,26]|_=>[]
noncomputable def zud:=Tryz.f159.body.getD .skip
noncomputable def zQv:=Tryz.f159.results.toList
def zm5:=t0::ux 2 (t3::t4::ux 9 (t14::t15::ux 89 []))
def zDa:=zgd 5
noncomputable def zue:=zar [1,1,1,0,1,0,0] zud
def zC7:=zas tP zgd [1,1,1,0,1,0] zud (zaB tP zQv K)
def zC9:=ALoop tP zue (zC7 K) (zm5 t0 t3 t4 t14 t15) H
def zm4:=t0::ux 2 (t3::t4::t5::ux 8 (t14::t15::ux 60 (t76::t77::t78::ux 26 [])))
def zQt:=zgd 13
noncomputable def zQq:=zar [1,1,0,0,1,1,1,1,1,0,0] zue
def zQp:=zas tP zgd [1,1,0,0,1,1,1,1,1,0] zue (zbC zDa Kb5 (zC7 K))
def zC8:=ALoop tP zQq (zQp K Kb5) (zm4 t0 t3 t4 t5 t14 t15 t76 t77 t78) H
def zub:=zac .lss false t78 t77 λt79=>zag t79 (zak 2 t76 t78 λt81=>zae true 2 t81 H λt82=>zaz [(.str []),.snil] H λt7 H=>zan 2 t7 t82 H λH=>zaf 0 t7 λt83=>zae false 1 t83 H λt84=>ACalls tP zkp [t84] H λt85 H=>aUn .not t85 λt86=>zad t86 false H (λK'=>K' t4 H) λt88 H=>zad t86 false H (λK'=>zaf 0 t7 (K' · H)) λt89 H=>zad t86 false H (λK'=>zae false 1 t89 H (K' · H)) λt90 H=>zad t86 false H (λK'=>zdU (.bool false) false t88 t90 H (K' · H)) λt91 H=>zam t86 (.bool true) t91 λt92=>zad t92 false H (λK'=>K' t0 H) λt94 H=>zad t92 false H (λK'=>K' t5 H) λt95 H=>zad t92 false H (λK'=>K' t78 H) λt96 H=>zad t92 false H (λK'=>ACalls tP zrB [t94,t95,t96] H K') λt97 H=>zad t92 false H (λK'=>aUn .not t97 (K' · H)) λt98 H=>zam t92 (.bool true) t98 λt99=>zag t99 (K (.bool false) H) (zaf 0 t7 λt101=>zae false 1 t101 H λt102=>zc9 t4 t102 (.bool true) H λH=>zac .add false t78 (.int .i64 1) λt103=>Kb13 (zm4 t0 t3 t4 t5 t14 t15 t76 t77 t103) H)) (zac .add false t15 (.int .i64 1) λt104=>Kb5 (zm5 t0 t3 t4 t14 t104) H)
def zuc:=zac .lss false t15 t14 λt16=>zag t16 (zak 3 t0 t15 λt20=>zaf 0 t20 λt21=>zae false 1 t21 H λt22=>ACalls tP zkp [t22] H λt23 H=>aUn .not t23 λt24=>zad t24 false H (λK'=>K' t3 H) λt26 H=>zad t24 false H (λK'=>K' t0 H) λt27 H=>zad t24 false H (λK'=>K' t15 H) λt28 H=>zad t24 false H (λK'=>zak 3 t27 t28 (K' · H)) λt29 H=>zad t24 false H (λK'=>zaf 0 t29 (K' · H)) λt30 H=>zad t24 false H (λK'=>zae false 1 t30 H (K' · H)) λt31 H=>zad t24 false H (λK'=>zdU (.bool false) false t26 t31 H (K' · H)) λt32 H=>zam t24 (.bool true) t32 λt33=>zad t33 false H (λK'=>K' t0 H) λt35 H=>zad t33 false H (λK'=>K' t15 H) λt36 H=>zad t33 false H (λK'=>zak 3 t35 t36 (K' · H)) λt37 H=>zad t33 false H (λK'=>zaf 1 t37 (K' · H)) λt38 H=>zad t33 false H (λK'=>zae false 1 t38 H (K' · H)) λt39 H=>zad t33 false H (λK'=>zac .lss false t39 (.int .i64 0) (K' · H)) λt40 H=>zam t33 (.bool true) t40 λt41=>zad t41 false H (λK'=>K' t0 H) λt43 H=>zad t41 false H (λK'=>K' t15 H) λt44 H=>zad t41 false H (λK'=>zak 3 t43 t44 (K' · H)) λt45 H=>zad t41 false H (λK'=>zaf 1 t45 (K' · H)) λt46 H=>zad t41 false H (λK'=>zae false 1 t46 H (K' · H)) λt47 H=>zad t41 false H (λK'=>zac .gtr false t47 (.int .i64 6) (K' · H)) λt48 H=>zam t41 (.bool true) t48 λt49=>zag t49 (K (.bool false) H) (zak 3 t0 t15 λt53=>zaf 0 t53 λt54=>zae false 1 t54 H λt55=>zc9 t3 t55 (.bool true) H λH=>zak 3 t0 t15 λt58=>zaf 2 t58 λt59=>zae false 1 t59 H λt60=>zah 1 t60 λt61=>zac .lss false t61 (.int .i64 1) λt62=>zad t62 false H (λK'=>K' t0 H) λt64 H=>zad t62 false H (λK'=>K' t15 H) λt65 H=>zad t62 false H (λK'=>zak 3 t64 t65 (K' · H)) λt66 H=>zad t62 false H (λK'=>zaf 2 t66 (K' · H)) λt67 H=>zad t62 false H (λK'=>zae false 1 t67 H (K' · H)) λt68 H=>zad t62 false H (λK'=>zah 1 t68 (K' · H)) λt69 H=>zad t62 false H (λK'=>zac .gtr false t69 (.int .i64 8) (K' · H)) λt70 H=>zam t62 (.bool true) t70 λt71=>zag t71 (K (.bool false) H) (zak 3 t0 t15 λt74=>zaf 2 t74 λt75=>zae false 1 t75 H λt76=>zah 1 t76 λt77=>zC8 t0 t3 t4 t15 t14 t15 t76 t77 (.int .i64 0) H K Kb5))) (K (.bool true) H)
def zua:=zah 1 t0 λt9=>zac .gtr false t9 (.int .i64 12) λt10=>zag t10 (K (.bool false) H) (zec H λt11 H=>zec H λt12 H=>zah 1 t0 λt14=>zC9 t0 t11 t12 t14 (.int .i64 0) H K)
def znJ:Nat→List Bool|6=>rl false [0,2,6,1,18,3,29]|_=>[]
noncomputable def zuZ:=Tryz.f201.body.getD .skip
noncomputable def zTh:=Tryz.f201.results.toList
def zi8:=t0::t1::ux 6 (t8::ux 18 (t27::t28::t29::ux 29 []))
def zTf:=znJ 6
noncomputable def zTd:=zar [1,1,1,1,0,1,0,0] zuZ
def zTc:=zas tP znJ [1,1,1,1,0,1,0] zuZ (zaB tP zTh K)
def zEl:=ALoop tP zTd (zTc K) (zi8 t0 t1 t8 t27 t28 t29) H
def zuY:=zac .lss false t29 t28 λt30=>zag t30 (zak 3 t27 t29 λt32=>zae true 3 t32 H λt33=>zaz [(.int .i64 0),(.int .i64 0),.snil] H λt10 H=>zan 3 t10 t33 H λH=>apm H t0 λt34=>apm H t1 λt35=>apu H (zac .add false t35 (.int .i64 1)) λt36=>apu H (zaN 1 3 t34 none (some t36)) λt37=>apu H (zaj true 3 t10 H) λt38=>apm H t0 λt39=>apm H t1 λt40=>apu H (zak 3 t39 t40) λt41=>apu H (zaf 1 t41) λt42=>apu H (zaj false 1 t42 H) λt43=>zaC H (λH K'=>ACalls tP zib [t37,t38,t43] H K') λt44=>apu H (aUn .not t44) λt45=>apm H t45 λt46=>zad t46 false H (λK'=>zab H (λK''=>K'' t8 H) (K' · H)) λt47 H=>zad t46 false H (λK'=>zab H (λK''=>K'' t29 H) (K' · H)) λt48 H=>zad t46 false H (λK'=>zab H (λK''=>zak 1 t47 t48 (K'' · H)) (K' · H)) λt49 H=>zad t46 false H (λK'=>zab H (λK''=>zaj false 1 t49 H (K'' · H)) (K' · H)) λt50 H=>zad t46 false H (λK'=>zab H (λK''=>aUn .not t50 (K'' · H)) (K' · H)) λt51 H=>zad t46 false H (λK'=>zab H (λK''=>K'' t51 H) (K' · H)) λt52 H=>zad t52 true H (λK'=>zab H (λK''=>zaj true 3 t10 H (K'' · H)) (K' · H)) λt53 H=>zad t52 true H (λK'=>zab H (λK''=>K'' t1 H) (K' · H)) λt54 H=>zad t52 true H (λK'=>zaC H (λH K''=>ACalls tP zku [t53,t54] H K'') (K' · H)) λt55 H=>zad t46 false H (λK'=>zab H (λK''=>zam t52 t55 (.bool false) (K'' · H)) (K' · H)) λt56 H=>apu H (zam t46 (.bool true) t56) λt57=>zag t57 (K (.bool false) H) (zac .add false t29 (.int .i64 1) λt58=>Kb6 (zi8 t0 t1 t8 t27 t28 t58) H)) (K (.bool true) H)
def zEk:=zak 3 t0 t1 λt13=>zaf 2 t13 λt14=>zae false 1 t14 H λt15=>zak 2 t15 t2 λt17=>zaf 1 t17 λt18=>zae false 1 t18 H λt19=>zah 1 t19 λt21=>zac .gtr false t21 (.int .i64 6) λt22=>zag t22 (K (.bool false) H) (ACalls tP zfQ [t0,t1,t2] H λt26 H=>zah 1 t19 λt28=>zEl t0 t1 t26 t19 t28 (.int .i64 0) H K)
variable {t0 t1 t2 t3 t4 t5 t8 t14 t15 t27 t28 t29 t76 t77 t78} {H} {K} {Kb5 Kb6 Kb13}
theorem zQr:Lo1 (λt78=>zm4 t0 t3 t4 t5 t14 t15 t76 t77 t78) (λt78 H Kb13=>zub t0 t3 t4 t5 t14 t15 t76 t77 t78 H K Kb5 Kb13) t78 H (zC8 t0 t3 t4 t5 t14 t15 t76 t77 t78 H K Kb5):=lq1 zgd zQt
theorem zQs:Lo1 (λt15=>zm5 t0 t3 t4 t14 t15) (λt15 H Kb5=>zuc t0 t3 t4 t14 t15 H K Kb5) t15 H (zC9 t0 t3 t4 t14 t15 H K):=lq1 zgd zDa
theorem zQu(h:HSc H→zua t0 H K):ACalls tP zrq [t0] H K:=
 acb zgd Tryz.func159 zud h
theorem zTe:Lo1 (λt29=>zi8 t0 t1 t8 t27 t28 t29) (λt29 H Kb6=>zuY t0 t1 t8 t27 t28 t29 H K Kb6) t29 H (zEl t0 t1 t8 t27 t28 t29 H K):=lq1 znJ zTf
theorem zTg(h:HSc H→zEk t0 t1 t2 H K):ACalls tP zrB [t0,t1,t2] H K:=
 acb znJ Tryz.func201 zuZ h
end
def zed(d7:List Dat)(d:Nat)(vars:Int)(t:VT):Bool:=za0 (d7.take (d+1)) vars t && (zcd d vars t || !zcG d t)
theorem zTi(d7:List Dat)(d:Nat)(c:Nat)(hd:d<d7.length)(hc:c<(d7[d]).cons.length)(hl:d7.length≤1000000)(fV:(d7[d]).cons.length≤1000000)(iq:((d7[d]).cons[c]).args.length≤1000000)(hb:∀ x∈((d7[d]).cons[c]).args,x.nodes≤1000000)(H:zaa)(K:AV→zaa→Prop)(hK:K (.bool (decide (((d7[d]).cons[c]).args.length≤6) && ((d7[d]).cons[c]).args.all (zed d7 d (d7[d]).vars))) H):
  ACalls tP zrB [.sl (d7.map Dat.cs) .none,.int .i64 d,.int .i64 c] H K:=by
 refine ACalls.out (zTg λhs=>?_);have e1:(d7.map Dat.cs)[d]?=some (d7[d]).cs:=by simp[hd]
 have e2:((d7[d]).cons.map Con.cs)[c]?=some ((d7[d]).cons[c]).cs:=by simp[hc]
 have jI:=zuB d7 d c hd hc hl fV iq hb;generalize hD:d7[d]=D at *;generalize hA:D.cons[c]=C at *;have hO:∀J,Out H.length K (.bool (decide (C.args.length≤6) && C.args.all (zed d7 d D.vars))) (H++J):=λJ=>Out.bool rfl (ac _) hs hK;simp[zEk,e1,e2,Dat.cs,Con.cs,hd,hD,hc,hA];by_cases h6:C.args.length≤6
 ·have jJ:¬ (6:Int)<C.args.length:=by omega
  have nO:¬ 6<C.args.length:=by omega
  simp[jJ,nO];refine jI _ _ ?_;simp[h6]at hO;refine zTe (Inv:=λq t29 H'=>∃i:Nat,i≤C.args.length∧q=C.args.length-i∧t29=.int .i64 i∧(C.args.drop i).all (zed d7 d D.vars)=C.args.all (zed d7 d D.vars)∧H=H') C.args.length ?_ ?_
  ·intro _;exact⟨0,by omega,by omega,rfl,by simp,rfl⟩
  ·rintro q t29 H' ⟨i,hi,rfl,rfl,ho,rfl⟩ hsc ek eK Kb eq;by_cases ei:i<C.args.length
   ·rw[ag ei,List.all_cons]at ho;have lk:=hb _ (af ei);obtain⟨x1,x2,x3,ew,fJ,fc,fx⟩:=zbk C.args[i];simp[zuY,ei,ew,e1,hd,hD,Dat.cs];refine⟨⟨fJ,fc,fx⟩,?_⟩;rw[zay (by omega) (by omega),show ((d:Int)+1).toNat=d+1 by omega,←bC];refine⟨by omega,by omega,?_⟩;rw[←ew];refine zaD (.bool (za0 (d7.take (d+1)) D.vars C.args[i])) (λJ=>zCs (d7.take (d+1)) D.vars _ (by omega) _ _ ⟨rfl,rfl⟩) ?_;have hao:zed d7 d D.vars C.args[i]=(za0 (d7.take (d+1)) D.vars C.args[i] && (zcd d D.vars C.args[i] || !zcG d C.args[i])):=rfl;rw[hao]at ho;cases hv:za0 (d7.take (d+1)) D.vars C.args[i] with
    |false=>rw[hv]at ho;simp only[aY]at ho;rw[←ho]at hO;simp;exact hO _
    |true=>
    rw[hv]at ho;cases pI:zcd d D.vars C.args[i] with
    |true=>rw[pI]at ho;simp[ei,pI];rw[zay (by omega) (by omega)];refine eq _ _ ⟨C.args.length-(i+1),by omega,Back.same (by simp) hs ?_ ⟨_,rfl,i+1,by omega,rfl,by simp,by simpa using ho,rfl⟩⟩;simp[zi8,AV.sc,AV.scV,AV.scA,AV.scB]
    |false=>
     rw[pI]at ho;simp[ei,pI];refine zaD (.bool (zcG d C.args[i])) (λJ=>zUk d _ _ (ac _) (by omega) _ _ ⟨rfl,rfl⟩) ?_;cases hm:zcG d C.args[i] with
     |true=>rw[hm]at ho;simp only[Bool.not_true,cC,bA,aY]at ho;rw[←ho]at hO;simp;exact hO _
     |false=>rw[hm]at ho;simp;rw[zay (by omega) (by omega)];refine eq _ _ ⟨C.args.length-(i+1),by omega,Back.same (by simp) hs ?_ ⟨_,rfl,i+1,by omega,rfl,by simp,by simpa using ho,rfl⟩⟩;simp[zi8,AV.sc,AV.scV,AV.scA,AV.scB]
   ·obtain rfl:i=C.args.length:=by omega
    rw[aI,List.all_nil]at ho;rw[←ho]at hO;simp[zuY];simpa using hO []
 ·have jJ:(6:Int)<C.args.length:=by omega
  have nO:6<C.args.length:=by omega
  simp[jJ,nO];simp[h6]at hO;simpa using hO []
def zce(l:List (List UInt8)):List (List UInt8×AV):=l.map λs=>(s,.bool true)
theorem zfZ(s:List UInt8):∀ l:List (List UInt8),(zbY (zce l) s).getD (.bool false)=.bool (decide (s∈l))
 |[]=>by simp[zce,zbY]
 |a::l=>by
  have:=zfZ s l;cases h:a == s with
  |true=>
   have h':a=s:=by simpa using h
   simp[zce,zbY,h,h']
  |false=>
   have h':a≠s:=by simpa using h
   have h'':s≠a:=λe=>h' e.symm;simp only[zce,aF,zbY,h]at this ⊢;rw[this];simp[h'']
theorem zsr(s:List UInt8):∀ l:List (List UInt8),s ∉ l→zcQ (zce l) s (.bool true)=zce (l++[s])
 |[],_=>rfl
 |a::l,h=>by
  have h1:(a == s)=false:=by simp at h;simpa usingλe=>h.1 e.symm
  have:=zsr s l (by simp at h;exact h.2);simp only[zce,aF,zcQ,h1,List.cons_append]at this ⊢;rw[this]
theorem zKv(m:Nat)(l:List (List UInt8)):(AB.map (zce l)).sc m=true:=by simp[AB.sc,zce,AV.scV]
def zbL(d7:List Dat):List (List UInt8):=d7.map Dat.name
def za1(d7:List Dat):List (List UInt8):=d7.flatMap λD=>D.cons.map Con.name
def zdH(d7:List Dat)(d:Nat)(vars:Int)(c:Con):Bool:=zdm c.name && (decide (c.args.length≤6) && c.args.all (zed d7 d vars))
def zcY(d7:List Dat)(d:Nat)(D:Dat):Bool:=zdm D.name && decide (0≤D.vars) && decide (D.vars≤6) && decide (1≤D.cons.length) && decide (D.cons.length≤8) && D.cons.all (zdH d7 d D.vars)
def zdc(d7:List Dat):List Dat→Nat→Bool
 |[],_=>true
 |D::l,d=>zcY d7 d D && zdc d7 l (d+1)
def zbz(d7:List Dat):Bool:=decide (d7.length≤12) && zdc d7 d7 0 && !zcA (zbL d7) && !zcA (za1 d7)
theorem zAv{A R:List (List UInt8)}{s:List UInt8}(h:s∈A):zcA (A++s::R)=true:=by simp only[zcA,cz,bF,List.nodup_append];rintro⟨_,_,h3⟩;exact h3 s h s (by simp) rfl
theorem zsi{l:List (List UInt8)}(h:l.Nodup):zcA l=false:=by simp[zcA,h]
theorem zzK{A:List (List UInt8)}{s:List UInt8}(h:A.Nodup)(hs:s ∉ A):(A++[s]).Nodup:=by rw[List.nodup_append];refine⟨h,by simp,?_⟩;intro a ha b hb;simp at hb;subst hb;exactλe=>hs (e ▸ ha)
def zhu(d7:List Dat):Prop:=∀D∈d7,D.cons.length≤1000000∧∀c∈D.cons,c.args.length≤1000000∧∀x∈c.args,x.nodes≤1000000
theorem zQw(d7:List Dat)(hB:zhu d7)(hl:d7.length≤1000000)(H:zaa)(K:AV→zaa→Prop)(hK:K (.bool (zbz d7)) H):ACalls tP zrq [.sl (d7.map Dat.cs) .none] H K:=by
 refine ACalls.out (zQu λhs=>?_);have hO:∀J,Out H.length K (.bool (zbz d7)) (H++J):=λJ=>Out.bool rfl (ac _) hs hK;by_cases qC:d7.length≤12
 ·have jK:¬ (12:Int)<d7.length:=by omega
  have lE:¬ 12<d7.length:=by omega
  have m8:zdc d7 d7 0=false→∀J,Out H.length K (.bool false) (H++J):=λh J=>by have:=hO J;rwa [show zbz d7=false by simp[zbz,h]]at this
  have hD1:zcA (zbL d7)=true→∀J,Out H.length K (.bool false) (H++J):=λh J=>by have:=hO J;rwa [show zbz d7=false by simp[zbz,h]]at this
  have hD2:zcA (za1 d7)=true→∀J,Out H.length K (.bool false) (H++J):=λh J=>by have:=hO J;rwa [show zbz d7=false by simp[zbz,h]]at this
  simp[zua,jK,lE];refine zQs (Inv:=λq t15 H'=>∃i:Nat,i≤d7.length∧q=d7.length-i∧t15=.int .i64 i∧zdc d7 (d7.drop i) i=zdc d7 d7 0∧(zbL (d7.take i)).Nodup∧(za1 (d7.take i)).Nodup∧H'=H++[.map (zce (zbL (d7.take i))),.map (zce (za1 (d7.take i)))]) d7.length ?_ ?_
  ·intro _;exact⟨0,by omega,by omega,rfl,by simp,by simp[zbL],by simp[za1],by simp[zbL,za1,zce]⟩
  ·rintro q t15 H' ⟨i,hi,rfl,rfl,ho,qD,gu,rfl⟩ hsc ek eK Kb eq;by_cases ei:i<d7.length
   ·have e1:(d7.map Dat.cs)[i]?=some (d7[i]).cs:=by simp[ei]
    obtain⟨pJ,o9⟩:=hB _ (af ei);have fq:=λc hc=>zTi d7 i c ei hc hl pJ (o9 _ (af hc)).1 (o9 _ (af hc)).2;rw[ag ei,zdc]at ho;have ff:d7.take (i+1)=d7.take i++[d7[i]]:=by rw[cL ei]
    have e7:d7=d7.take i++d7[i]::d7.drop (i+1):=by rw[dP,aJ]
    generalize hD:d7[i]=D at *;have ft:zcY d7 i D=false→zdc d7 d7 0=false:=λh=>by rw[←ho,h,aY]
    have iy:∀J,zcY d7 i D=false→Out H.length K (.bool false) (H++[.map (zce (zbL (d7.take i))),.map (zce (za1 (d7.take i)))]++J):=λJ h=>by rw[aq];exact m8 (ft h) _
    simp[zuc,ei,e1,hD,Dat.cs];refine zEj _ _ _ ?_;cases hu:zdm D.name with
    |false=>simp;exact m8 (ft (by simp[zcY,hu])) _
    |true=>
    by_cases fa:D.name∈zbL (d7.take i)
    ·simp[ei,e1,hD,Dat.cs,zfZ,fa];refine hD1 ?_ _;rw[e7];simp only[zbL,aK,aF];exact zAv fa
    by_cases iN:D.vars<0
    ·simp[ei,e1,hD,Dat.cs,zfZ,fa,iN];exact m8 (ft (by simp[zcY,show ¬ 0≤D.vars by omega])) _
    by_cases nP:6<D.vars
    ·simp[ei,e1,hD,Dat.cs,zfZ,fa,iN,nP];exact m8 (ft (by simp[zcY,show ¬D.vars≤6 by omega])) _
    simp[ei,e1,hD,Dat.cs,zfZ,fa,iN,nP,zsr _ _ fa];by_cases fP:D.cons.length<1
    ·have fX:(D.cons.length:Int)<1:=by omega
     simp[fX];exact m8 (ft (by simp[zcY,show ¬ 1≤D.cons.length by omega])) _
    have fX:¬(D.cons.length:Int)<1:=by omega
    by_cases qE:8<D.cons.length
    ·have jL:(8:Int)<D.cons.length:=by omega
     simp[ei,e1,hD,Dat.cs,fX,jL,qE];exact m8 (ft (by simp[zcY,show ¬D.cons.length≤8 by omega])) _
    have jL:¬(8:Int)<D.cons.length:=by omega
    have hdat:zcY d7 i D=D.cons.all (zdH d7 i D.vars):=by simp[zcY,hu,show 0≤D.vars by omega,show D.vars≤6 by omega,show 1≤D.cons.length by omega,show D.cons.length≤8 by omega]
    simp[ei,e1,hD,Dat.cs,fX,jL,qE];have hdn':(zbL (d7.take (i+1))).Nodup:=by rw[ff];simp only[zbL,aK,aF,bx];exact zzK qD fa
    have hde:zbL (d7.take i)++[D.name]=zbL (d7.take (i+1)):=by rw[ff];simp[zbL]
    rw[hde];refine zQr (Inv:=λq t78 H'=>∃j:Nat,j≤D.cons.length∧q=D.cons.length-j∧t78=.int .i64 j∧(D.cons.drop j).all (zdH d7 i D.vars)=D.cons.all (zdH d7 i D.vars)∧(za1 (d7.take i)++(D.cons.take j).map Con.name).Nodup∧H'=H++[.map (zce (zbL (d7.take (i+1)))),.map (zce (za1 (d7.take i)++(D.cons.take j).map Con.name))]) D.cons.length ?_ ?_
    ·intro _;exact⟨0,by omega,by omega,rfl,by simp,by simpa using gu,by simp⟩
    ·rintro q t78 H' ⟨j,hj,rfl,rfl,ma,oE,rfl⟩ nJ fS nK Kb1 jF;have hscH:∀ A B,HSc (H++[.map (zce A),.map (zce B)]):=λA B=>hs.append (by simp[zKv]);by_cases eI:j<D.cons.length
     ·have e2:(D.cons.map Con.cs)[j]?=some (D.cons[j]).cs:=by simp[eI]
      have hargs':=fq j eI;rw[ag eI,List.all_cons]at ma;have htj:za1 (d7.take i)++(D.cons.take (j+1)).map Con.name=(za1 (d7.take i)++(D.cons.take j).map Con.name)++[(D.cons[j]).name]:=by rw[←cL eI,aK,aq];rfl
      have eN:za1 d7=(za1 (d7.take i)++(D.cons.take j).map Con.name)++(D.cons[j]).name::((D.cons.drop (j+1)).map Con.name++za1 (d7.drop (i+1))):=by
       have h1:D.cons.map Con.name=(D.cons.take j).map Con.name++(D.cons[j]).name::(D.cons.drop (j+1)).map Con.name:=by rw[←aF (f:=Con.name),dP,←aK,aJ]
       conv=>lhs;rw[e7]
       simp only[za1,bm,aZ,aq,h1,List.cons_append]
      generalize hC:D.cons[j]=C at *;have hbad':zdH d7 i D.vars C=false→zdc d7 d7 0=false:=λh=>ft (by rw[hdat,←ma,h,aY]);generalize hA:za1 (d7.take i)++(D.cons.take j).map Con.name=A at *;simp only[zub];simp[eI,hC,Con.cs,aa];refine zEj _ _ _ ?_;cases qF:zdm C.name with
      |false=>simp;exact m8 (hbad' (by simp[zdH,qF])) _
      |true=>
      by_cases pc:C.name∈A
      ·simp[zfZ,pc];exact hD2 (by rw[eN];exact zAv pc) _
      ·simp[zfZ,pc];refine hargs' _ _ ?_;have qG:zdH d7 i D.vars C=(decide (C.args.length≤6) && C.args.all (zed d7 i D.vars)):=by simp[zdH,qF]
       rw[←qG];cases ia:zdH d7 i D.vars C with
       |false=>simp;exact m8 (hbad' ia) _
       |true=>
        rw[ia,bk]at ma;simp[zsr _ _ pc];rw[zay (by omega) (by omega)];refine jF _ _ ⟨D.cons.length-(j+1),by omega,Back.at (J:=[.cells [.str C.name,.sl (VT.css C.args) .none]]) (H2:=H++[.map (zce (zbL (d7.take (i+1)))),.map (zce (A++[C.name]))]) (by simp) (by simp) (hscH _ _) ?_ ⟨_,rfl,j+1,by omega,rfl,by simp,ma,?_,?_⟩⟩
        ·simp[zm4,AV.sc,AV.scV,AV.scA,AV.scB]
        ·rw[htj];exact zzK oE pc
        ·rw[htj]
     ·obtain rfl:j=D.cons.length:=by omega
      rw[aI,List.all_nil]at ma;rw[ak]at *;simp[zub];rw[zay (by omega) (by omega)];have qG:za1 (d7.take i)++D.cons.map Con.name=za1 (d7.take (i+1)):=by rw[ff];simp[za1]
      rw[qG]at oE ⊢;refine eq _ _ ⟨d7.length-(i+1),by omega,Back.at (J:=[]) (by simp) (by simp) (hscH _ _) ?_ ⟨_,rfl,i+1,by omega,rfl,by simp,?_,hdn',oE,rfl⟩⟩
      ·simp[zm5,AV.sc,AV.scV,AV.scA,AV.scB]
      ·rw[←ho,hdat,←ma,bk]
   ·obtain rfl:i=d7.length:=by omega
    rw[aI,zdc]at ho;rw[ak]at *;simp[zuc];have:=hO [.map (zce (zbL d7)),.map (zce (za1 d7))];rwa [show zbz d7=true by simp[zbz,qC,←ho,zsi qD,zsi gu]]at this
 ·have jK:(12:Int)<d7.length:=by omega
  have lE:12<d7.length:=by omega
  rw[show zbz d7=false by simp[zbz,qC]]at hO;simp[zua,jK,lE];simpa using hO []
def zxn(c:Con):Prop:=c.name.length≤40∧c.args.length≤8∧∀t∈c.args,t.nodes≤20
def zpV(d:Dat):Prop:=d.name.length≤40∧d.cons.length≤10∧∀c∈d.cons,zxn c
def zbx(ds:List Dat):Prop:=ds.length≤14∧∀d∈ds,zpV d
theorem zh4{α:Type}{l:List α}{i:Nat}(h:i<l.length){p:α→Prop}(h1:∀x∈l.take i,p x)(h2:p l[i]):∀x∈l.take (i+1),p x:=by
 rw[ae h];intro x hx;rcases aX.1 hx with hx|hx
 ·exact h1 x hx
 ·simp at hx;subst hx;exact h2
theorem zzf{α:Type}{cs:α→List AV}{l:List α}{i:Nat}(h:i<l.length):(l.map cs)[i]?.getD []=cs l[i]:=by simp[h]
theorem vt3(v:VT):∃a b c,v.cs=[a,b,c]∧a.known=true∧b.known=true∧c.known=true:=by obtain⟨k,n,ks⟩:=v;exact⟨_,_,_,rfl,rfl,rfl,rfl⟩
theorem zVN(ds:List Dat)(H:zaa)(K:AV→zaa→Prop)(ek:ds.length≤9223372036854775807)(hK:∀b,(b=true→zbx ds)→K (.bool b) H):ACalls tP zrO [.sl (ds.map Dat.cs) .none] H K:=by
 refine ACalls.out (zVL λhs=>?_);have hF:∀J,Out H.length K (.bool false) (H++J):=λJ=>Out.bool rfl (ac _) hs (hK false λh=>by cases h);have hF0:Out H.length K (.bool false) H:=by simpa using hF []
 by_cases h14:ds.length>14
 ·have:(14:Int)<ds.length:=by omega
  simp[zvE,this];exact hF0
 have:¬(14:Int)<ds.length:=by omega
 simp[zvE,this];refine zVI (Inv:=λq t15 H'=>∃i:Nat,i≤ds.length∧q=ds.length-i∧t15=.int .i64 i∧(∀d∈ds.take i,zpV d)∧H=H') ds.length ?_ ?_
 ·intro _;exact⟨0,by omega,by omega,rfl,by simp,rfl⟩
 ·rintro q t15 H' ⟨i,hi,rfl,rfl,ha,rfl⟩ hsc hl eK Kb4 hKb4;by_cases fg:i<ds.length
  ·have e8:(ds.map Dat.cs)[i]?.getD []=[.str ds[i].name,.int .i64 ds[i].vars,.sl (ds[i].cons.map Con.cs) .none]:=zzf fg;have next:zpV ds[i]→∀ J,Kb4 (zja (.sl (ds.map Dat.cs) .none) (.int .i64 ds.length) (.int .i64 (i+1))) (H++J):=by intro hd J;refine hKb4 _ _ ⟨ds.length-(i+1),by omega,Back.same (ac _) hs ?_ ⟨_,rfl,i+1,by omega,rfl,by simp,zh4 fg ha hd,rfl⟩⟩;simp[zja,AV.sc,AV.scV,AV.scA,AV.scB]
   generalize ic:ds[i]=d at *;simp[zvG,fg,e8,AV.known,ic,Dat.cs];by_cases hn:d.name.length>40
   ·have:(40:Int)<d.name.length:=by omega
    simp[this];exact hF _
   have fN:¬(40:Int)<d.name.length:=by omega
   by_cases hc:d.cons.length>10
   ·have:(10:Int)<d.cons.length:=by omega
    simp[fN,this];exact hF _
   have kL:¬(10:Int)<d.cons.length:=by omega
   simp[fN,kL];refine zVJ (Inv:=λq t32 H'=>∃j:Nat,j≤d.cons.length∧q=d.cons.length-j∧t32=.int .i64 j∧(∀c∈d.cons.take j,zxn c)∧H'=H++[.cells [.str d.name,.int .i64 d.vars,.sl (d.cons.map Con.cs) .none]]) d.cons.length ?_ ?_
   ·intro _;exact⟨0,by omega,by omega,rfl,by simp,rfl⟩
   ·rintro q t32 H' ⟨j,hj,rfl,rfl,hb,rfl⟩ hsc9 hl9 jM Kb9 lC;by_cases eI:j<d.cons.length
    ·have e8:(d.cons.map Con.cs)[j]?.getD []=[.str d.cons[j].name,.sl (VT.css d.cons[j].args) .none]:=zzf eI;generalize gk:d.cons[j]=c at *;simp[zvH,eI,e8,AV.known,gk,Con.cs];by_cases hn:c.name.length>40
     ·have:(40:Int)<c.name.length:=by omega
      simp[this];exact hF _
     have fN:¬(40:Int)<c.name.length:=by omega
     by_cases hc:c.args.length>8
     ·have:(8:Int)<c.args.length:=by omega
      simp[fN,this];exact hF _
     have kL:¬(8:Int)<c.args.length:=by omega
     simp[fN,kL];refine zVH (Inv:=λq t49 H'=>∃(k:Nat) (l:Int),k≤c.args.length∧q=c.args.length-k∧t49=.int .i64 k∧-1≤l∧l≤20∧(∀t∈c.args.take k,t.nodes≤20)∧H'=H++[.cells [.str d.name,.int .i64 d.vars,.sl (d.cons.map Con.cs) .none],.cells [.str c.name,.sl (VT.css c.args) .none],.cells [.int .i64 l]]) c.args.length ?_ ?_
     ·intro _;exact⟨0,20,by omega,by omega,rfl,by omega,by omega,by simp,rfl⟩
     ·rintro q t49 H' ⟨k,l,hk,rfl,rfl,ik,i9,nQ,rfl⟩ hsc15 hl15 hsF15 Kb15 lF;by_cases iX:k<c.args.length
      ·obtain⟨x,y,z,hv,hx,hy,hz⟩:=vt3 c.args[k];simp[zvF,iX,hv,hx,hy,hz];rw[←hv];refine zF3 _ _ (ac _) l (by omega) ik _ (H.length+2) (by simp) _ ?_ ?_
       ·intro eP;simp;rw[zay (by omega) (by omega)];refine lF _ _ ⟨c.args.length-(k+1),by omega,Back.at (J:=[_]) (H2:=H++[.cells [.str d.name,.int .i64 d.vars,.sl (d.cons.map Con.cs) .none],.cells [.str c.name,.sl (VT.css c.args) .none],.cells [.int .i64 (l-c.args[k].nodes)]]) (by simp;rfl) (by simp) (hs.append rfl) ?_ ⟨_,rfl,k+1,l-c.args[k].nodes,by omega,rfl,by simp,by omega,by omega,zh4 iX nQ (by omega),rfl⟩⟩;simp[zoi,AV.sc,AV.scV,AV.scA,AV.scB]
       ·intro eP l';simp;exact hF _
      ·obtain rfl:k=c.args.length:=by omega
       rw[ak]at nQ;simp[zvF];rw[zay (by omega) (by omega)];refine lC _ _ ⟨d.cons.length-(j+1),by omega,Back.at (J:=[_,_]) (H2:=H++[.cells [.str d.name,.int .i64 d.vars,.sl (d.cons.map Con.cs) .none]]) (by simp;exact⟨rfl,rfl⟩) (by simp) (hs.append rfl) ?_ ⟨_,rfl,j+1,by omega,rfl,by simp,zh4 eI hb (by rw[gk];exact⟨by omega,by omega,nQ⟩),rfl⟩⟩;simp[zoj,AV.sc,AV.scV,AV.scA,AV.scB]
    ·obtain rfl:j=d.cons.length:=by omega
     rw[ak]at hb;simp[zvH];rw[zay (by omega) (by omega)];exact next ⟨by omega,by omega,hb⟩ _
  ·obtain rfl:i=ds.length:=by omega
   rw[ak]at ha;simp[zvG];exact Out.bool (J:=[]) (by simp) (ac _) hs (hK true λ_=>⟨by omega,ha⟩)
def zeR(d7:List Dat)(d:Nat)(vars:Int)(t:VT):Bool:=zcd d vars t || za0 (d7.take d) vars t
structure RCon (d7:List Dat) (d:Nat) (vars:Int) (c:Con):Prop where
 up:zdm c.name=true
 len:c.args.length≤6
 args:∀x∈c.args,zeR d7 d vars x=true
structure RDat (d7:List Dat) (d:Nat) (D:Dat):Prop where
 v0:0≤D.vars
 v6:D.vars≤6
 c1:1≤D.cons.length
 c8:D.cons.length≤8
 up:zdm D.name=true
 cons:∀c∈D.cons,RCon d7 d D.vars c
structure RData (d7:List Dat):Prop where
 len:d7.length≤12
 dats:∀d (h:d<d7.length),RDat d7 d d7[d]
 names:(zbL d7).Nodup
 cons:(za1 d7).Nodup
theorem zsG{α:Type}{l:List α}{i:Nat}(h:i<l.length):l.take (i+1)=l.take i++[l[i]]:=by rw[cL h]
theorem zyp:∀ l:List Dat,(∀ D∈l,D.cons.length≤10)→(za1 l).length≤l.length*10
 |[],_=>by simp[za1]
 |D::l,h=>by have h1:=zyp l (λD hD=>h D (by simp[hD]));have h2:=h D (by simp);rw[za1]at h1 ⊢;rw[aZ,aw,bR,List.length_cons];omega
theorem zIp{d7:List Dat}{d:Nat}(h:d<d7.length):zbL (d7.take (d+1))=zbL (d7.take d)++[(d7[d]).name]:=by rw[zbL,zsG h,aK];rfl
theorem zH4{d7:List Dat}{d:Nat}(h:d<d7.length):za1 (d7.take (d+1))=za1 (d7.take d)++(d7[d]).cons.map Con.name:=by rw[za1,zsG h,bm];simp[za1]
theorem zA6(l:List (List UInt8))(s:List UInt8):strs (l++[s])=strs l++[[.str s]]:=by simp[strs]
theorem zyd{s:List UInt8}{k:AV→Prop}:zaw 1 [.str []] 1 [(0,.str s)] k=k (.sl [[.str s]] .full):=propext aO
theorem zAw(l:List (List UInt8))(hl:l.length≤1000000){tok:Tok}(H:zaa)(K:AV→zaa→Prop)(hK:K (.bool (zcA l)) H):ACalls tP zit [.sl (strs l) tok] H K:=
 ACalls.wk (yap l hl H K hK) ⟨.atom (.sl _ _),trivial⟩
theorem zIa{D:Dat}{i:Nat}(h:i<D.cons.length):(D.cons.map Con.cs)[i]?.getD []=[.str (D.cons[i]).name,.sl (VT.css (D.cons[i]).args) .none]:=by simp[h,Con.cs]
theorem zW0(d7:List Dat)(mX:zbx d7)(H:zaa)(K:AV→zaa→Prop)(hK:∀b,(b=true↔RData d7)→K (.bool b) H):ACalls tP zrS [.sl (d7.map Dat.cs) .none] H K:=by
 refine ACalls.out (zWY λhs=>?_);obtain⟨kl,kd⟩:=mX;have hF:¬RData d7→∀J,Out H.length K (.bool false) (H++J):=λh J=>Out.bool rfl (ac _) hs (hK _ (by simp[h]));have hT:∀b:Bool,(b=true↔RData d7)→∀J,Out H.length K (.bool b) (H++J):=λb h J=>Out.bool rfl (ac _) hs (hK _ h);by_cases qC:d7.length>12
 ·have jK:(12:Int)<d7.length:=by omega
  simp[zv7,jK];have:=hF (λh=>by have:=h.len;omega) [];simpa using this
 have jK:¬(12:Int)<d7.length:=by omega
 simp[zv7,jK];unfold zoN;refine ALoop.own 3 zch 1 rfl ?_;refine ALoop.own 4 zch 1 rfl ?_;rw[aq];have gu:∀d,(za1 (d7.take d)).length≤140:=λd=>by have:=zyp (d7.take d) (λD hD=>(kd D (bu hD)).2.1);rw[aT]at this;have:min d d7.length*10≤14*10:=ar _ (by omega);omega
 have i9:(H++[AB.perm zch 1 0]).length=H.length+1:=by simp
 rw[i9];show zoN (.sl (d7.map Dat.cs) .none) (.sl [] (.own H.length)) (.sl [] (.own (H.length+1))) (.int .i64 0) (H++[.perm zch 1 0,.perm zch 1 0]) (Out H.length K);have hsP:∀m n,HSc (H++[.perm zch 1 m,.perm zch 1 n]):=λm n=>hs.append rfl;refine zWW (Inv:=λq t3 t4 t5 H'=>∃d:Nat,d≤d7.length∧q=d7.length-d∧t5=.int .i64 d∧t3=.sl (strs (zbL (d7.take d))) (.own H.length)∧t4=.sl (strs (za1 (d7.take d))) (.own (H.length+1))∧(∀j (h:j<d7.length),j<d→RDat d7 j d7[j])∧H'=H++[.perm zch 1 d,.perm zch 1 (za1 (d7.take d)).length]) d7.length ?_ ?_
 ·intro _;exact⟨0,by omega,by omega,rfl,by simp[zbL,strs],by simp[za1,strs],by omega,by simp[za1]⟩
 ·rintro q t3 t4 t5 H' ⟨d,hd,rfl,rfl,rfl,rfl,eu,rfl⟩ hsc ek eK Kb eq;by_cases ei:d<d7.length
  ·have ft:¬ RDat d7 d d7[d]→∀ J,Out H.length K (.bool false) (H++J):=λh=>hF λhh=>h (hh.dats d ei);have hcd:=gu d;have jQ:=zIp ei;have eN:=zH4 ei;obtain⟨kn,kc,kcc⟩:=kd _ (af ei);have mo:(zbL (d7.take d)).length=d:=by simp[zbL];omega
   generalize hD:d7[d]=D at *;have gK:(d7.map Dat.cs)[d]?.getD []=[.str D.name,.int .i64 D.vars,.sl (D.cons.map Con.cs) .none]:=by simp[ei,hD,Dat.cs]
   by_cases iN:D.vars<0
   ·simp[zgr,ei,hD,Dat.cs,iN];exact ft (λh=>by have:=h.v0;omega) _
   by_cases nP:6<D.vars
   ·simp[zgr,ei,hD,Dat.cs,iN,nP];exact ft (λh=>by have:=h.v6;omega) _
   by_cases fP:D.cons.length<1
   ·have fX:(D.cons.length:Int)<1:=by omega
    simp[zgr,ei,hD,Dat.cs,iN,nP,fX];exact ft (λh=>by have:=h.c1;omega) _
   have fX:¬(D.cons.length:Int)<1:=by omega
   by_cases qE:8<D.cons.length
   ·have jL:(8:Int)<D.cons.length:=by omega
    simp[zgr,ei,hD,Dat.cs,iN,nP,fX,jL];exact ft (λh=>by have:=h.c8;omega) _
   have jL:¬(8:Int)<D.cons.length:=by omega
   simp[zgr,ei,hD,Dat.cs,iN,nP,fX,jL];refine zGI _ _ _ ?_;cases hup:zdm D.name with
   |false=>simp;exact ft (λh=>by have:=h.up;rw[hup]at this;cases this) _
   |true=>
   simp[zyd];simp[zax,zaM,zaK,mo];refine⟨by omega,?_⟩;rw[←zA6,←jQ];refine zWU (Inv:=λq t4 t7 H'=>∃k:Nat,k≤D.cons.length∧q=D.cons.length-k∧t7=.int .i64 k∧t4=.sl (strs (za1 (d7.take d)++(D.cons.map Con.name).take k)) (.own (H.length+1))∧(∀c∈D.cons.take k,RCon d7 d D.vars c)∧H'=H++[.perm zch 1 (d+1),.perm zch 1 ((za1 (d7.take d)).length+k),.cells [.str D.name,.int .i64 D.vars,.sl (D.cons.map Con.cs) .none]]) D.cons.length ?_ ?_
   ·intro _;exact⟨0,by omega,by omega,rfl,by simp,by simp,by simp⟩
   ·rintro q t4 t7 H' ⟨k,hk,rfl,rfl,rfl,nR,rfl⟩ nJ fS nK Kb1 jF;have hlk:(za1 (d7.take d)++(D.cons.map Con.name).take k).length=(za1 (d7.take d)).length+k:=by simp;omega
    by_cases iX:k<D.cons.length
    ·have hkI:(k:Int)<D.cons.length:=by omega
     have hca:=zIa iX;have lG:¬RCon d7 d D.vars D.cons[k]→∀J,Out H.length K (.bool false) (H++J):=λh=>ft λhh=>h (hh.cons _ (af iX));have py:za1 (d7.take d)++(D.cons.map Con.name).take (k+1)=(za1 (d7.take d)++(D.cons.map Con.name).take k)++[(D.cons[k]).name]:=by rw[zsG (by simpa using iX)];simp
     obtain⟨_,ka,kan⟩:=kcc _ (af iX);generalize hC:D.cons[k]=C at *;simp[zv8,iX,hC,Con.cs];refine zGI _ _ _ ?_;cases hupc:zdm C.name with
     |false=>simp;exact lG (λh=>by have:=h.up;rw[hupc]at this;cases this) _
     |true=>
     by_cases pK:6<C.args.length
     ·have nS:(6:Int)<C.args.length:=by omega
      simp[iX,hC,Con.cs,nS];exact lG (λh=>by have:=h.len;omega) _
     have nS:¬(6:Int)<C.args.length:=by omega
     simp[iX,hC,Con.cs,nS,zyd];generalize hA:za1 (d7.take d)++(D.cons.map Con.name).take k=A at *;have i7:A.length=(za1 (d7.take d)).length+k:=hlk;simp[zax,zaM,zaK,i7,iX,hC,Con.cs];refine⟨by omega,?_⟩;rw[←zA6,←py];refine zWV (Inv:=λq t95 H'=>∃i:Nat,i≤C.args.length∧q=C.args.length-i∧t95=.int .i64 i∧(∀x∈C.args.take i,zeR d7 d D.vars x=true)∧H'=H++[.perm zch 1 (d+1),.perm zch 1 ((za1 (d7.take d)).length+k+1),.cells [.str D.name,.int .i64 D.vars,.sl (D.cons.map Con.cs) .none]]) C.args.length ?_ ?_
     ·intro _;exact⟨0,by omega,by omega,rfl,by simp,rfl⟩
     ·rintro q t95 H' ⟨i,hi,rfl,rfl,hok3,rfl⟩ gm i8 mG Kb2 fF;by_cases fg:i<C.args.length
      ·have hxn:=kan _ (af fg);have habad:zeR d7 d D.vars C.args[i]=false→∀ J,Out H.length K (.bool false) (H++J):=λh=>lG λhh=>by have:=hh.args _ (af fg);rw[h]at this;cases this
       obtain⟨x,y,z,ew,hx,hy,hz⟩:=vt3 C.args[i];have good:zeR d7 d D.vars C.args[i]=true→zoM (.sl (d7.map Dat.cs) .none) (.sl (strs (zbL (d7.take (d+1)))) (.own H.length)) (.sl (strs (za1 (d7.take d)++(D.cons.map Con.name).take (k+1))) (.own (H.length+1))) (.int .i64 d) (.ptr (H.length+2) 0) (.int .i64 k) (.sl (VT.css C.args) .none) (.int .i64 C.args.length) (.int .i64 i) (H++[.perm zch 1 (d+1),.perm zch 1 ((za1 (d7.take d)).length+k+1),.cells [.str D.name,.int .i64 D.vars,.sl (D.cons.map Con.cs) .none],.cells [x,y,z]]) (Out H.length K) Kb Kb1 Kb2:=λhg=>by simp[zoM,zFw];rw[zay (by omega) (by omega)];refine fF _ _ ⟨C.args.length-(i+1),by omega,Back.at (J:=[_]) (H2:=H++[.perm zch 1 (d+1),.perm zch 1 ((za1 (d7.take d)).length+k+1),.cells [.str D.name,.int .i64 D.vars,.sl (D.cons.map Con.cs) .none]]) (by simp;rfl) (by simp) gm ?_ ⟨_,rfl,i+1,by omega,rfl,by simp,zh4 fg hok3 hg,rfl⟩⟩;simp[zoK,AV.sc,AV.scV,AV.scA,AV.scB]
       simp[zv9,fg,ew,hx,hy,hz];rw[←ew];refine zxm _ _ _ (by omega) _ _ ?_;cases kf:zcd d D.vars C.args[i] with
       |true=>rw[ew];simp;exact good (by simp[zeR,kf])
       |false=>
        simp[ew];refine⟨⟨by omega,λa _=>rfl⟩,?_⟩;rw[←bC,←ew];refine zaD (.bool (za0 (d7.take d) D.vars C.args[i])) (λJ=>zFC (d7.take d) (by simp;omega) _ _ (by omega) _ _ ⟨rfl,rfl⟩) ?_;cases pL:za0 (d7.take d) D.vars C.args[i] with
        |false=>simp;exact habad (by simp[zeR,kf,pL]) _
        |true=>rw[ew];simp;exact good (by simp[zeR,pL])
      ·obtain rfl:i=C.args.length:=by omega
       rw[ak]at *;simp[zv9];rw[zay (by omega) (by omega)];refine jF _ _ ⟨D.cons.length-(k+1),by omega,Back.here (by simp) gm ?_ ⟨_,_,rfl,k+1,by omega,rfl,by simp,rfl,?_,by simp[aa]⟩⟩
       ·simp[zoJ,AV.sc,AV.scV,AV.scA,AV.scB]
       ·exact zh4 iX nR (by rw[hC];exact⟨hupc,by omega,hok3⟩)
    ·obtain rfl:k=D.cons.length:=by omega
     rw[ak]at *;simp[zv8];rw[zay (by omega) (by omega)];refine eq _ _ ⟨d7.length-(d+1),by omega,Back.at (J:=[_]) (H2:=H++[.perm zch 1 (d+1),.perm zch 1 (za1 (d7.take (d+1))).length]) (by rw[eN];simp;rfl) (by simp) (hsP _ _) ?_ ⟨_,_,_,rfl,d+1,by omega,rfl,by simp,rfl,by rw[eN];exact congrArg (λl=>AV.sl (strs (za1 (d7.take d)++l)) (.own (H.length+1))) (ai (Nat.le_of_eq (bR _))),λj hj g8=>?_,rfl⟩⟩
     ·simp[zoL,AV.sc,AV.scV,AV.scA,AV.scB]
     ·by_cases hjd:j=d
      ·subst hjd;rw[hD];exact⟨by omega,by omega,by omega,by omega,hup,nR⟩
      ·exact eu j hj (by omega)
  ·obtain rfl:d=d7.length:=by omega
   rw[ak]at *;have qD:(zbL d7).length=d7.length:=by simp[zbL]
   have hcn':=gu d7.length;rw[ak]at hcn';simp[zgr];refine zAw _ (by omega) _ _ ?_;cases hr:zcA (zbL d7) with
   |true=>simp;refine hT _ ?_ _;simp;intro h;have:=zsi h.names;rw[hr]at this;cases this
   |false=>simp;refine zAw _ (by omega) _ _ ?_;refine hT _ ?_ _;simp only[zcA,Bool.not_eq_false',aS,Bool.not_not]at hr ⊢;exact⟨λh=>⟨by omega,λj hj=>eu j hj hj,hr,h⟩,λh=>h.cons⟩
mutual
theorem zKp:∀ v w:VT,v.same w=true↔v=w
 |.mk k n ks,.mk k' n' ks'=>by have h:=zAJ ks ks';simp only[VT.same,aj,ba,VT.mk.injEq,h,and_assoc]
theorem zAJ:∀ v w:List VT,VT.sameL v w=true↔v=w
 |v::vs,w::ws=>by have h1:=zKp v w;have h2:=zAJ vs ws;simp only[VT.sameL,aj,cQ,h1,h2]
 |[],[]=>by simp[VT.sameL]
 |[],_::_=>by simp[VT.sameL]
 |_::_,[]=>by simp[VT.sameL]
end
theorem zlo{α:Type}(l:List α)(d n:Nat):(l.take d)[n]?=if n<d then l[n]? else none:=by
 by_cases h:n<d
 ·rw[az h,List.getElem?_take_of_lt h]
 ·rw[au h,List.getElem?_eq_none (by rw[aT];omega)]
theorem zKz{d7:List Dat}{d:Nat}{vars k n:Int}{len:Nat}(h:(k == 5 && n == (d:Int))=false):zbu (d7.take (d+1)) vars k n len=zbu (d7.take d) vars k n len:=by
 unfold zbu;by_cases h5:k=5
 ·subst h5;have hn:n≠d:=by simpa using h
  simp only[zlo];by_cases h0:0≤n
  ·have:(n.toNat<d+1)=(n.toNat<d):=by apply propext;omega
   simp[this]
  ·simp[h0]
 ·have:(k == 5)=false:=by simpa using h5
  simp[this]
mutual
theorem zBB(d7:List Dat)(d:Nat)(vars:Int):∀ t:VT,zcG d t=false→zbb (d7.take (d+1)) vars t=zbb (d7.take d) vars t
 |.mk k n ks=>by intro h;simp only[zcG,bG]at h;rw[zbb,zbb,zKz h.1,zBy d7 d vars ks h.2]
theorem zBy(d7:List Dat)(d:Nat)(vars:Int):∀ l:List VT,zfe d l=false→zbs (d7.take (d+1)) vars l=zbs (d7.take d) vars l
 |[]=>λ_=>rfl
 |t::ts=>by intro h;simp only[zfe,bG]at h;rw[zbs,zbs,zBB d7 d vars t h.1,zBy d7 d vars ts h.2]
end
mutual
theorem zzk(d7:List Dat)(d:Nat)(vars:Int):∀ t:VT,zbb (d7.take d) vars t=true→zcG d t=false
 |.mk k n ks=>by
  intro h;rw[zbb,aj]at h;rw[zcG,zzj d7 d vars ks h.2,cC];by_cases h5:k=5
  ·subst h5;have h1:=h.1;simp[zbu,zlo]at h1;obtain⟨h0,h2⟩:=h1;by_cases hn:n=d
   ·subst hn;simp at h2
   ·simpa using hn
  ·have:(k == 5)=false:=by simpa using h5
   simp[this]
theorem zzj(d7:List Dat)(d:Nat)(vars:Int):∀ l:List VT,zbs (d7.take d) vars l=true→zfe d l=false
 |[]=>λ_=>rfl
 |t::ts=>by intro h;rw[zbs,aj]at h;rw[zfe,zzk d7 d vars t h.1,zzj d7 d vars ts h.2];rfl
end
theorem zAL(d7:List Dat)(vars:Int):∀ (l:List VT) (i:Nat),zc1 l i=true→((i+l.length:Nat):Int)≤vars→zbs d7 vars l=true∧VT.nodesL l=l.length
 |[],i,_,_=>⟨rfl,rfl⟩
 |.mk k n ks::l,i,h,hv=>by
  rw[zc1,aj]at h;obtain⟨h1,h2⟩:=h;simp only[zhW,aj,ba]at h1;obtain⟨⟨rfl,rfl⟩,h3⟩:=h1;have hk:ks=[]:=aB h3;subst hk;obtain⟨h4,h5⟩:=zAL d7 vars l (i+1) h2 (by simp at hv ⊢;omega);simp at hv;constructor
  ·simp[zbs,zbb,zbu,h4];omega
  ·simp[VT.nodesL,VT.nodes,h5];omega
theorem zx1(d7:List Dat)(d:Nat)(hd:d<d7.length)(h0:0≤(d7[d]).vars)(h6:(d7[d]).vars≤6)(t:VT):zed d7 d (d7[d]).vars t=zeR d7 d (d7[d]).vars t:=by
 unfold zed zeR;cases hs:zcd d (d7[d]).vars t with
 |true=>
  obtain⟨k,n,ks⟩:=t;simp only[zcd,aj,ba]at hs;obtain⟨⟨⟨rfl,rfl⟩,hl⟩,hs⟩:=hs;obtain⟨h1,h2⟩:=zAL (d7.take (d+1)) (d7[d]).vars ks 0 hs (by simp;omega);have pL:za0 (d7.take (d+1)) (d7[d]).vars (.mk 5 d ks)=true:=by simp[za0,zbb,h1,VT.nodes,h2,zbu,zlo,hd,hl];omega
  simp[pL]
 |false=>
  simp only[bt];unfold za0;cases hm:zcG d t with
  |false=>rw[zBB d7 d _ t hm];simp
  |true=>
   have:zbb (d7.take d) (d7[d]).vars t=false:=by
    cases h:zbb (d7.take d) (d7[d]).vars t with
    |false=>rfl
    |true=>rw[zzk d7 d _ t h]at hm;cases hm
   simp[this]
theorem zqu(d7:List Dat):∀ (l:List Dat) (d:Nat),zdc d7 l d=true↔∀ j (h:j<l.length),zcY d7 (d+j) l[j]=true
 |[],d=>by simp[zdc]
 |D::l,d=>by
  rw[zdc,aj,zqu d7 l (d+1)];constructor
  ·rintro⟨h1,h2⟩ j hj;cases j with
   |zero=>exact h1
   |succ j=>have:=h2 j (by simpa using hj);rw[show d+(j+1)=d+1+j by omega];simpa using this
  ·intro h;refine⟨h 0 (by simp),λj hj=>?_⟩;have:=h (j+1) (by simpa using hj);rw[show d+(j+1)=d+1+j by omega]at this;simpa using this
theorem zIg(d7:List Dat):zbz d7=true↔RData d7:=by
 unfold zbz;simp only[aj,aS,zqu,zcA,Bool.not_not,aC];constructor
 ·rintro⟨⟨⟨h1,h2⟩,h3⟩,h4⟩;refine⟨h1,λd hd=>?_,h3,h4⟩;have:=h2 d hd;simp only[zcY,aj,aS,am]at this;obtain⟨⟨⟨⟨⟨q1,q2⟩,q3⟩,q4⟩,q5⟩,q6⟩:=this;refine⟨q2,q3,q4,q5,q1,λc hc=>?_⟩;have:=q6 c hc;simp only[zdH,aj,aS,am]at this;exact⟨this.1,this.2.1,λx hx=>by rw[←zx1 d7 d hd q2 q3 x];exact this.2.2 x hx⟩
 ·rintro⟨h1,h2,h3,h4⟩;refine⟨⟨⟨h1,λd hd=>?_⟩,h3⟩,h4⟩;obtain⟨q2,q3,q4,q5,q1,q6⟩:=h2 d hd;simp only[zcY,aj,aS,am];refine⟨⟨⟨⟨⟨q1,q2⟩,q3⟩,q4⟩,q5⟩,λc hc=>?_⟩;obtain⟨r1,r2,r3⟩:=q6 c hc;simp only[zdH,aj,aS,am];exact⟨r1,r2,λx hx=>by rw[zx1 d7 d hd q2 q3 x];exact r3 x hx⟩
mutual
def za2(d7:List Dat):VT→VT→Bool
 |.mk vk vn vks,.mk k n al=>
  if k=1 then vk == 3 && decide (-1099511627776≤vn) && decide (vn≤1099511627776) && vks.length == 0
  else if k=2 then vk == 2 && (vn == 0 || vn == 1) && vks.length == 0
  else if k=3 then vk == 1 && vn == 0 && vks.length == 0
  else if k=6 then vk == 4 && vn == 0 && zcP d7 vks al
  else if k=5 then vk == 5 && decide (0≤vn) && decide (vn<8) && zfL d7 vks (zbt d7 (.mk k n al) vn)
  else if k=7 then vk == 6 && vn == 0 && decide (vks.length≤4096) && zdV d7 vks (al.getD 0 (.mk 0 0 []))
  else if k=8 then vk == 7 && vn == 0 && zcP d7 vks al
  else vk == 8 && decide (0≤vn) && decide (vn<64) && vks.length == 0
def zfL(d7:List Dat):List VT→Option (List VT)→Bool
 |_,none=>false
 |[],some ts=>ts.isEmpty
 | v::vs,some ts=>match ts with
  |[]=>false
  |t::ts=>za2 d7 v t && zcP d7 vs ts
def zcP(d7:List Dat):List VT→List VT→Bool
 |[],ts=>ts.isEmpty
 | v::vs,ts=>match ts with
  |[]=>false
  |t::ts=>za2 d7 v t && zcP d7 vs ts
def zdV(d7:List Dat):List VT→VT→Bool
 |[],_=>true
 |v::vs,t=>za2 d7 v t && zdV d7 vs t
end
theorem zII(d7:List Dat)(vs ts:List VT):zfL d7 vs (some ts)=zcP d7 vs ts:=by
 cases vs with
 |nil=>cases ts <;> rw[zfL,zcP]
 |cons v vs=>cases ts <;> simp only[zfL,zcP]
theorem zIH(d7:List Dat)(vs:List VT):zfL d7 vs none=false:=by cases vs <;> rw[zfL]
theorem zKA{d7:List Dat}{m:Nat}{vars k n:Int}{len:Nat}(h:zbu (d7.take m) vars k n len=true)(h4:k≠4):zbu d7 0 k n len=true:=by
 unfold zbu at h ⊢;have nG:(k == 4)=false:=by simpa using h4
 rw[nG]at h ⊢;by_cases h5:k=5
 ·subst h5;simp only[zlo]at h;by_cases hm:n.toNat<m
  ·simpa[hm]using h
  ·simp[hm]at h
 ·have:(k == 5)=false:=by simpa using h5
  simpa[this]using h
theorem zA8(ks:List VT):∀ l:List VT,(zaX ks l).length=l.length
 |[]=>rfl
 |t::ts=>by simp[zaX,zA8 ks ts]
mutual
theorem zBC{d7:List Dat}{m:Nat}{vars:Int}{ks:List VT}(hk:∀ x∈ks,zbb d7 0 x=true)(hl:(ks.length:Int)=vars):∀ a:VT,zbb (d7.take m) vars a=true→zbb d7 0 (subst ks a)=true
 |.mk k n al=>by
  intro h;rw[zbb,aj]at h;unfold subst;by_cases h4:k=4
  ·have h1:=h.1;subst h4;simp[zbu]at h1;rw[az ⟨rfl,by omega,by omega⟩];have hn:n.toNat<ks.length:=by omega
   rw[List.getElem?_eq_getElem hn];exact hk _ (af hn)
  ·rw[au (λh=>h4 h.1),zbb,aj,zA8];exact⟨zKA h.1 h4,zBz hk hl al h.2⟩
theorem zBz{d7:List Dat}{m:Nat}{vars:Int}{ks:List VT}(hk:∀ x∈ks,zbb d7 0 x=true)(hl:(ks.length:Int)=vars):∀ l:List VT,zbs (d7.take m) vars l=true→zbs d7 0 (zaX ks l)=true
 |[]=>by intro _;simp[zaX,zbs]
 |t::ts=>by intro h;rw[zbs,aj]at h;rw[zaX,zbs,aj];exact⟨zBC hk hl t h.1,zBz hk hl ts h.2⟩
end
theorem zBx{d7:List Dat}{vars:Int}:∀ {l:List VT},zbs d7 vars l=true→∀ x∈l,zbb d7 vars x=true
 |[],_=>by simp
 |t::ts,h=>by
  rw[zbs,aj]at h;intro x hx;rcases aP.1 hx with rfl|hx
  ·exact h.1
  ·exact zBx h.2 x hx
theorem zBA{d7:List Dat}{vars:Int}{k n:Int}{ks:List VT}(h:zbb d7 vars (.mk k n ks)=true):∀x∈ks,zbb d7 vars x=true:=by rw[zbb,aj]at h;exact zBx h.2
theorem zsO{d7:List Dat}{vars:Int}{k n:Int}{ks:List VT}(h:za0 d7 vars (.mk k n ks)=true):∀x∈ks,za0 d7 vars x=true:=by rw[za0,aj,aS]at h;intro x hx;rw[za0,aj,aS];exact⟨ap (zhX x hx) h.1,zBA h.2 x hx⟩
theorem zH9{d7:List Dat}(hD:zbz d7=true){d c:Nat}(hd:d<d7.length)(hc:c<d7[d].cons.length):∀x∈(d7[d].cons[c]).args,zbb (d7.take (d+1)) d7[d].vars x=true:=by simp only[zbz,aj,zqu,aC]at hD;have h1:=hD.1.1.2 d hd;simp only[zcY,aj]at h1;have h2:=am.1 h1.2 _ (af hc);simp only[zdH,aj]at h2;intro x hx;have h3:=am.1 h2.2.2 x hx;simp only[zed,za0,aj]at h3;exact h3.1.2
theorem zhO{d7:List Dat}{k n:Int}{ks:List VT}{c:Int}{l:List VT}(h:zbt d7 (.mk k n ks) c=some l):
  k=5∧0≤n∧0≤c∧∃(hn:n.toNat<d7.length) (hc:c.toNat<(d7[n.toNat]).cons.length),(ks.length:Int)=(d7[n.toNat]).vars∧l=((d7[n.toNat]).cons[c.toNat]).args.map (subst ks)∧∀x∈l,x.nodes≤200:=by
 rw[zdq]at h;split at h
 ·rename_i h5;split at h
  ·rename_i D hD;obtain⟨hn,rfl⟩:=List.getElem?_eq_some_iff.1 hD;split at h
   ·rename_i hv;split at h
    ·rename_i C hC;obtain⟨hc,rfl⟩:=List.getElem?_eq_some_iff.1 hC;split at h
     ·rename_i ha;simp only[bK]at h;subst h;exact⟨h5.1,h5.2.1,h5.2.2,hn,hc,hv,rfl,λx hx=>ce (am.1 ha x hx)⟩
     ·cases h
    ·cases h
   ·cases h
  ·cases h
 ·cases h
theorem zqA{d7:List Dat}(hD:zbz d7=true){t:VT}(ht:zbb d7 0 t=true){c:Int}{l:List VT}(h:zbt d7 t c=some l):∀x∈l,za0 d7 0 x=true:=by obtain⟨k,n,ks⟩:=t;obtain⟨rfl,h0,gM,hn,hc,hv,rfl,eB⟩:=zhO h;intro x hx;rw[za0,aj,aS];refine⟨eB x hx,?_⟩;obtain⟨a,ha,rfl⟩:=aA.1 hx;exact zBC (zBA ht) hv a (zH9 hD hn hc a ha)
theorem zAM{ks:List VT}:∀ (l:List VT) (i:Nat),zc1 l i=true→i+l.length=ks.length→zaX ks l=ks.drop i
 |[],i,_,hl=>by simp at hl;subst hl;simp[zaX]
 |x::l,i,h,hl=>by
  rw[zc1,aj]at h;obtain⟨k,n,al⟩:=x;simp only[zhW,aj,ba]at h;obtain⟨⟨⟨rfl,rfl⟩,h3⟩,h4⟩:=h;simp at hl;have hi:i<ks.length:=by omega
  rw[ag hi,zaX,zAM l (i+1) h4 (by omega)];rw[subst,az ⟨rfl,by omega,by omega⟩];simp[hi]
theorem zKw{ks:List VT}{d vars:Int}{a:VT}(h:zcd d vars a=true)(hl:(ks.length:Int)=vars):subst ks a=.mk 5 d ks:=by obtain⟨k,n,al⟩:=a;simp only[zcd,aj,ba]at h;obtain⟨⟨⟨rfl,rfl⟩,h3⟩,h4⟩:=h;rw[subst,au (λh=>by have:=h.1;omega)];have:=zAM (ks:=ks) al 0 h4 (by omega);rw[this,bq]
def zcI(d:Nat)(D:Dat)(C:Con):List Bool:=C.args.map (zcd d D.vars)
def zd4(d7:List Dat)(d:Nat):List (List Bool):=match d7[d]? with
 |some D=>D.cons.map (zcI d D)
 |none=>[]
mutual
def zfV(rs:List (List Bool)):VT→List VT
 |.mk k n ks=>.mk k n ks::zeh rs ks (rs.getD n.toNat [])
def zeh(rs:List (List Bool)):List VT→List Bool→List VT
 |[],_=>[]
 | v::vs,bs=>match bs with
  |[]=>[]
  |b::bs=>(if b=true then zfV rs v else [])++zeh rs vs bs
end
mutual
theorem zAi(rs:List (List Bool)):∀ v:VT,(zfV rs v).length≤v.nodes
 |.mk k n ks=>by have:=zAh rs ks (rs.getD n.toNat []);simp only[zfV,VT.nodes,List.length_cons];omega
theorem zAh(rs:List (List Bool)):∀ (vs:List VT) (bs:List Bool),(zeh rs vs bs).length≤VT.nodesL vs
 |[],_=>by simp[zeh,VT.nodesL]
 |v::vs,[]=>by simp[zeh]
 |v::vs,b::bs=>by
  have h1:=zAi rs v;have h2:=zAh rs vs bs;simp only[zeh,VT.nodesL,aw];split
  ·omega
  ·simp;omega
end
end Go.Proofs.YtdmamdnkcefmmaaGreatDoor

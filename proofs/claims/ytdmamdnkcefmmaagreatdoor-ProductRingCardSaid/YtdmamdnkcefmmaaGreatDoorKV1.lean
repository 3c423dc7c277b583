import Derived.Test.YtdmamdnkcefmmaaGreatDoorKGT
import Derived.Test.YtdmamdnkcefmmaaGreatDoorKGR
import Derived.Test.YtdmamdnkcefmmaaGreatDoorKNum
import Derived.Test.YtdmamdnkcefmmaaGreatDoorProg
import Derived.KernelRfl
import Derived.Test.YtdmamdnkcefmmaaGreatDoorKY4
set_option linter.unusedSimpArgs false
set_option linter.unusedVariables false
set_option maxRecDepth 100000
namespace Go.Proofs.YtdmamdnkcefmmaaGreatDoor
theorem zdn{k:AV→Prop}(a b:AV)(vs:List AV):zay (.tup (a::b::vs)) 1 k=k b:=propext aL
theorem zdo{k:AV→Prop}(a b c:AV)(vs:List AV):zay (.tup (a::b::c::vs)) 2 k=k c:=propext aL
def zfG(s:List UInt8):List Tk×Int×Int:=
 if s.length>16384 then ([],0,9) else
 match zbG (kwF kwds) s 0 with
 |.error (p,e)=>([],p,e)
 |.ok l=>(l,0,0)
theorem zyB(s:List UInt8):ze6 s=.tup [.sl ((zfG s).1.map Tk.cs) .none,.int .i64 (zfG s).2.1,.int .i64 (zfG s).2.2]:=by
 unfold ze6 zfG;split
 ·rfl
 ·split <;> (rename_i h;simp[h])
def zca(s:List UInt8)(x:List Tk × Int × Int):Bool:=x.2.2 == 0 && match x.1 with
 |[a,_]=>a.kind == 2 && a.text == s
 |_=>false
def zc7(s:List UInt8):Bool:=zca s (zfG s)
theorem zBV(s:List UInt8)(H:zaa)(K:AV→zaa→Prop)(hK:K (.bool (zc7 s)) H):ACalls tP zjF [.str s] H K:=by
 refine ACalls.out (zQi λhs=>?_);have hO:Out H.length K (.bool (zc7 s)) H:=Out.bool (J:=[]) (by simp) (aa _) hs hK;simp only[zBU];refine zIT s _ _ ?_;rw[zyB];rw[zc7]at hO;generalize zfG s=x at hO ⊢;obtain⟨l,p,e⟩:=x;clear hK;cases h0:e == 0 with
 |false=>rw[show zca s (l,p,e)=false by simp[zca,h0]]at hO;simp[zdn,zdo,h0];exact hO
 |true=>
 match l with
 |[]=>rw[show zca s ([],p,e)=false by simp[zca]]at hO;simp[zdn,zdo,h0];exact hO
 |[x]=>rw[show zca s ([x],p,e)=false by simp[zca]]at hO;simp[zdn,zdo,h0];exact hO
 |[a,x]=>
  rw[show zca s ([a,x],p,e)=(a.kind == 2 && a.text == s) by simp[zca,h0]]at hO;cases hk:a.kind == 2 with
  |false=>rw[hk]at hO;simp[zdn,zdo,h0,Tk.cs,hk];exact hO
  |true=>rw[hk]at hO;simp[zdn,zdo,h0,Tk.cs,hk];exact hO
 |a::b::c::r=>
  rw[show zca s (a::b::c::r,p,e)=false by simp[zca]]at hO;have:¬((r.length:Int)+1+1+1=2):=by omega
  have h2:((r.length:Int)+1+1+1 == 2)=false:=by simpa using this
  simp[zdn,zdo,h0,h2];exact hO
theorem zDN(s:List UInt8)(H:zaa)(K:AV→zaa→Prop)(hK:K (.bool (zc7 s)) H):ACalls tP zj2 [.str s] H K:=by
 refine ACalls.out (zVX λhs=>?_);have hO:Out H.length K (.bool (zc7 s)) H:=Out.bool (J:=[]) (by simp) (aa _) hs hK;simp only[zDM];refine zIU s _ _ ?_;rw[zyB];rw[zc7]at hO;generalize zfG s=x at hO ⊢;obtain⟨l,p,e⟩:=x;clear hK;cases h0:e == 0 with
 |false=>rw[show zca s (l,p,e)=false by simp[zca,h0]]at hO;simp[zdn,zdo,h0];exact hO
 |true=>
 match l with
 |[]=>rw[show zca s ([],p,e)=false by simp[zca]]at hO;simp[zdn,zdo,h0];exact hO
 |[x]=>rw[show zca s ([x],p,e)=false by simp[zca]]at hO;simp[zdn,zdo,h0];exact hO
 |[a,x]=>
  rw[show zca s ([a,x],p,e)=(a.kind == 2 && a.text == s) by simp[zca,h0]]at hO;cases hk:a.kind == 2 with
  |false=>rw[hk]at hO;simp[zdn,zdo,h0,Tk.cs,hk];exact hO
  |true=>rw[hk]at hO;simp[zdn,zdo,h0,Tk.cs,hk];exact hO
 |a::b::c::r=>
  rw[show zca s (a::b::c::r,p,e)=false by simp[zca]]at hO;have:¬((r.length:Int)+1+1+1=2):=by omega
  have h2:((r.length:Int)+1+1+1 == 2)=false:=by simpa using this
  simp[zdn,zdo,h0,h2];exact hO
def zcm(l:List (List UInt8)):Bool:=!decide l.Nodup
def strs(l:List (List UInt8)):List (List AV):=l.map λs=>[.str s]
@[simp] theorem yas(l:List (List UInt8)):(strs l).length=l.length:=by simp[strs]
theorem zI1{l:List (List UInt8)}{i:Nat}(h:i<(strs l).length):(strs l)[i]=[.str (l[i]'(by simpa using h))]:=by simp[strs]
theorem zHw{l:List (List UInt8)}{i j:Nat}(hi:i<l.length)(hj:j<i)(h:l[i]=l[j]):zcm l=true:=by simp only[zcm,cw,bC];intro hn;exact(cx.mp hn) j i (by omega) hi hj h.symm
theorem zWb(l:List (List UInt8))(hl:l.length≤1000000)(H:zaa)(K:AV→zaa→Prop)(hK:K (.bool (zcm l)) H):ACalls tP zh3 [.sl (strs l) .none] H K:=by
 refine ACalls.out (zV9 λhs=>?_);have hO:Out H.length K (.bool (zcm l)) H:=Out.bool (J:=[]) (by simp) (aa _) hs hK;simp[zDQ];refine zV6 (Inv:=λq t3 H'=>∃i:Nat,i≤l.length∧q=l.length-i∧t3=.int .i64 i∧(∀a b (ha:a<i) (hb:b<a) (h':a<l.length),l[a]≠l[b])∧H=H') l.length ?_ ?_
 ·intro _;exact⟨0,by omega,by omega,rfl,by omega,rfl⟩
 ·rintro q t3 H' ⟨i,hi,rfl,rfl,en,rfl⟩ hsc d8 eC Kb ee;by_cases d7:i<l.length
  ·simp[zuN,d7];refine zV7 (Inv:=λq t4 H'=>∃j:Nat,j≤i∧q=i-j∧t4=.int .i64 j∧(∀b (hb:b<j) (kY:b<l.length),l[i]≠l[b])∧H=H') i ?_ ?_
   ·intro _;exact⟨0,by omega,by omega,rfl,by omega,rfl⟩
   ·rintro q t4 H' ⟨j,hj,rfl,rfl,pm,rfl⟩ mH f7 mI Kb1 i9;by_cases eN:j<i
    ·simp[zuO,eN,d7,show j<l.length by omega,zI1];cases he:l[i] == l[j] with
     |true=>rw[zHw d7 eN (by simpa using he)]at hO;simpa using hO
     |false=>
      simp;rw[zav (by omega) (by omega)];refine i9 _ _ ⟨i-(j+1),by omega,Back.at (J:=[]) (H2:=H) (by simp) (aa _) hs ?_ ⟨_,rfl,j+1,by omega,rfl,by simp,?_,rfl⟩⟩
      ·simp[zn7,AV.sc,AV.scV,AV.scA,AV.scB]
      ·intro b hb kY;by_cases hbj:b=j
       ·subst hbj;simpa using he
       ·exact pm b (by omega) kY
    ·obtain rfl:j=i:=by omega
     simp[zuO];rw[zav (by omega) (by omega)];refine ee _ _ ⟨l.length-(j+1),by omega,Back.at (J:=[]) (H2:=H) (by simp) (aa _) hs ?_ ⟨_,rfl,j+1,by omega,rfl,by simp,?_,rfl⟩⟩
     ·simp[zn6,AV.sc,AV.scV,AV.scA,AV.scB]
     ·intro a b ha hb h';by_cases haj:a=j
      ·subst haj;exact pm b hb (by omega)
      ·exact en a b (by omega) hb h'
  ·obtain rfl:i=l.length:=by omega
   have:zcm l=false:=by simp only[zcm,Bool.not_eq_false',aR];refine cx.mpr λa b ha hb eS he=>?_;exact en b a hb eS hb he.symm
   rw[this]at hO;simp[zuN];exact hO
section
variable (t0 t1 t2 t3 t4 t5 t8 t14 t15 t27 t28 t29 t76 t77 t78:AV) (H:zaa) (K:Kt) (Kb5 Kb6 Kb13:Lt)
def zfP:Nat→List Bool|5=>rl false [0,1,2,2,9,2,89]|13=>rl false [0,1,2,3,8,2,60,3,26]|_=>[]
noncomputable def zsr:=Tryz.f159.body.getD .skip
noncomputable def zNB:=Tryz.f159.results.toList
def zl4:=t0::ux 2 (t3::t4::ux 9 (t14::t15::ux 89 []))
def zAM:=zfP 5
noncomputable def zss:=zas [1,1,1,0,1,0,0] zsr
def zAJ:=zat tP zfP [1,1,1,0,1,0] zsr (zaB tP zNB K)
def zAL:=ALoop tP zss (zAJ K) (zl4 t0 t3 t4 t14 t15) H
def zl3:=t0::ux 2 (t3::t4::t5::ux 8 (t14::t15::ux 60 (t76::t77::t78::ux 26 [])))
def zNz:=zfP 13
noncomputable def zNw:=zas [1,1,0,0,1,1,1,1,1,0,0] zss
def zNv:=zat tP zfP [1,1,0,0,1,1,1,1,1,0] zss (zbR zAM Kb5 (zAJ K))
def zAK:=ALoop tP zNw (zNv K Kb5) (zl3 t0 t3 t4 t5 t14 t15 t76 t77 t78) H
def zsp:=zad .lss false t78 t77 λt79=>zag t79 (zaj 2 t76 t78 λt81=>zae true 2 t81 H λt82=>zaz [(.str []),.snil] H λt7 H=>zao 2 t7 t82 H λH=>zaf 0 t7 λt83=>zae false 1 t83 H λt84=>ACalls tP zjF [t84] H λt85 H=>aUn .not t85 λt86=>zac t86 false H (λK'=>K' t4 H) λt88 H=>zac t86 false H (λK'=>zaf 0 t7 (K' · H)) λt89 H=>zac t86 false H (λK'=>zae false 1 t89 H (K' · H)) λt90 H=>zac t86 false H (λK'=>zdI (.bool false) false t88 t90 H (K' · H)) λt91 H=>zak t86 (.bool true) t91 λt92=>zac t92 false H (λK'=>K' t0 H) λt94 H=>zac t92 false H (λK'=>K' t5 H) λt95 H=>zac t92 false H (λK'=>K' t78 H) λt96 H=>zac t92 false H (λK'=>ACalls tP zpT [t94,t95,t96] H K') λt97 H=>zac t92 false H (λK'=>aUn .not t97 (K' · H)) λt98 H=>zak t92 (.bool true) t98 λt99=>zag t99 (K (.bool false) H) (zaf 0 t7 λt101=>zae false 1 t101 H λt102=>zcT t4 t102 (.bool true) H λH=>zad .add false t78 (.int .i64 1) λt103=>Kb13 (zl3 t0 t3 t4 t5 t14 t15 t76 t77 t103) H)) (zad .add false t15 (.int .i64 1) λt104=>Kb5 (zl4 t0 t3 t4 t14 t104) H)
def zsq:=zad .lss false t15 t14 λt16=>zag t16 (zaj 3 t0 t15 λt20=>zaf 0 t20 λt21=>zae false 1 t21 H λt22=>ACalls tP zjF [t22] H λt23 H=>aUn .not t23 λt24=>zac t24 false H (λK'=>K' t3 H) λt26 H=>zac t24 false H (λK'=>K' t0 H) λt27 H=>zac t24 false H (λK'=>K' t15 H) λt28 H=>zac t24 false H (λK'=>zaj 3 t27 t28 (K' · H)) λt29 H=>zac t24 false H (λK'=>zaf 0 t29 (K' · H)) λt30 H=>zac t24 false H (λK'=>zae false 1 t30 H (K' · H)) λt31 H=>zac t24 false H (λK'=>zdI (.bool false) false t26 t31 H (K' · H)) λt32 H=>zak t24 (.bool true) t32 λt33=>zac t33 false H (λK'=>K' t0 H) λt35 H=>zac t33 false H (λK'=>K' t15 H) λt36 H=>zac t33 false H (λK'=>zaj 3 t35 t36 (K' · H)) λt37 H=>zac t33 false H (λK'=>zaf 1 t37 (K' · H)) λt38 H=>zac t33 false H (λK'=>zae false 1 t38 H (K' · H)) λt39 H=>zac t33 false H (λK'=>zad .lss false t39 (.int .i64 0) (K' · H)) λt40 H=>zak t33 (.bool true) t40 λt41=>zac t41 false H (λK'=>K' t0 H) λt43 H=>zac t41 false H (λK'=>K' t15 H) λt44 H=>zac t41 false H (λK'=>zaj 3 t43 t44 (K' · H)) λt45 H=>zac t41 false H (λK'=>zaf 1 t45 (K' · H)) λt46 H=>zac t41 false H (λK'=>zae false 1 t46 H (K' · H)) λt47 H=>zac t41 false H (λK'=>zad .gtr false t47 (.int .i64 6) (K' · H)) λt48 H=>zak t41 (.bool true) t48 λt49=>zag t49 (K (.bool false) H) (zaj 3 t0 t15 λt53=>zaf 0 t53 λt54=>zae false 1 t54 H λt55=>zcT t3 t55 (.bool true) H λH=>zaj 3 t0 t15 λt58=>zaf 2 t58 λt59=>zae false 1 t59 H λt60=>zai 1 t60 λt61=>zad .lss false t61 (.int .i64 1) λt62=>zac t62 false H (λK'=>K' t0 H) λt64 H=>zac t62 false H (λK'=>K' t15 H) λt65 H=>zac t62 false H (λK'=>zaj 3 t64 t65 (K' · H)) λt66 H=>zac t62 false H (λK'=>zaf 2 t66 (K' · H)) λt67 H=>zac t62 false H (λK'=>zae false 1 t67 H (K' · H)) λt68 H=>zac t62 false H (λK'=>zai 1 t68 (K' · H)) λt69 H=>zac t62 false H (λK'=>zad .gtr false t69 (.int .i64 8) (K' · H)) λt70 H=>zak t62 (.bool true) t70 λt71=>zag t71 (K (.bool false) H) (zaj 3 t0 t15 λt74=>zaf 2 t74 λt75=>zae false 1 t75 H λt76=>zai 1 t76 λt77=>zAK t0 t3 t4 t15 t14 t15 t76 t77 (.int .i64 0) H K Kb5))) (K (.bool true) H)
def zso:=zai 1 t0 λt9=>zad .gtr false t9 (.int .i64 12) λt10=>zag t10 (K (.bool false) H) (zdY H λt11 H=>zdY H λt12 H=>zai 1 t0 λt14=>zAL t0 t11 t12 t14 (.int .i64 0) H K)
def zmI:Nat→List Bool|6=>rl false [0,2,6,1,18,3,29]|_=>[]
noncomputable def zte:=Tryz.f201.body.getD .skip
noncomputable def zQo:=Tryz.f201.results.toList
def ziD:=t0::t1::ux 6 (t8::ux 18 (t27::t28::t29::ux 29 []))
def zQm:=zmI 6
noncomputable def zQk:=zas [1,1,1,1,0,1,0,0] zte
def zQj:=zat tP zmI [1,1,1,1,0,1,0] zte (zaB tP zQo K)
def zBX:=ALoop tP zQk (zQj K) (ziD t0 t1 t8 t27 t28 t29) H
def ztd:=zad .lss false t29 t28 λt30=>zag t30 (zaj 3 t27 t29 λt32=>zae true 3 t32 H λt33=>zaz [(.int .i64 0),(.int .i64 0),.snil] H λt10 H=>zao 3 t10 t33 H λH=>apm H t0 λt34=>apm H t1 λt35=>apu H (zad .add false t35 (.int .i64 1)) λt36=>apu H (zaS 1 3 t34 none (some t36)) λt37=>apu H (zal true 3 t10 H) λt38=>apm H t0 λt39=>apm H t1 λt40=>apu H (zaj 3 t39 t40) λt41=>apu H (zaf 1 t41) λt42=>apu H (zal false 1 t42 H) λt43=>zaJ H (λH K'=>ACalls tP zhI [t37,t38,t43] H K') λt44=>apu H (aUn .not t44) λt45=>apm H t45 λt46=>zac t46 false H (λK'=>zab H (λK''=>K'' t8 H) (K' · H)) λt47 H=>zac t46 false H (λK'=>zab H (λK''=>K'' t29 H) (K' · H)) λt48 H=>zac t46 false H (λK'=>zab H (λK''=>zaj 1 t47 t48 (K'' · H)) (K' · H)) λt49 H=>zac t46 false H (λK'=>zab H (λK''=>zal false 1 t49 H (K'' · H)) (K' · H)) λt50 H=>zac t46 false H (λK'=>zab H (λK''=>aUn .not t50 (K'' · H)) (K' · H)) λt51 H=>zac t46 false H (λK'=>zab H (λK''=>K'' t51 H) (K' · H)) λt52 H=>zac t52 true H (λK'=>zab H (λK''=>zal true 3 t10 H (K'' · H)) (K' · H)) λt53 H=>zac t52 true H (λK'=>zab H (λK''=>K'' t1 H) (K' · H)) λt54 H=>zac t52 true H (λK'=>zaJ H (λH K''=>ACalls tP zjK [t53,t54] H K'') (K' · H)) λt55 H=>zac t46 false H (λK'=>zab H (λK''=>zak t52 t55 (.bool false) (K'' · H)) (K' · H)) λt56 H=>apu H (zak t46 (.bool true) t56) λt57=>zag t57 (K (.bool false) H) (zad .add false t29 (.int .i64 1) λt58=>Kb6 (ziD t0 t1 t8 t27 t28 t58) H)) (K (.bool true) H)
def zBW:=zaj 3 t0 t1 λt13=>zaf 2 t13 λt14=>zae false 1 t14 H λt15=>zaj 2 t15 t2 λt17=>zaf 1 t17 λt18=>zae false 1 t18 H λt19=>zai 1 t19 λt21=>zad .gtr false t21 (.int .i64 6) λt22=>zag t22 (K (.bool false) H) (ACalls tP zfx [t0,t1,t2] H λt26 H=>zai 1 t19 λt28=>zBX t0 t1 t26 t19 t28 (.int .i64 0) H K)
variable {t0 t1 t2 t3 t4 t5 t8 t14 t15 t27 t28 t29 t76 t77 t78} {H} {K} {Kb5 Kb6 Kb13}
theorem zNx:Lo1 (λt78=>zl3 t0 t3 t4 t5 t14 t15 t76 t77 t78) (λt78 H Kb13=>zsp t0 t3 t4 t5 t14 t15 t76 t77 t78 H K Kb5 Kb13) t78 H (zAK t0 t3 t4 t5 t14 t15 t76 t77 t78 H K Kb5):=lq1 zfP zNz
theorem zNy:Lo1 (λt15=>zl4 t0 t3 t4 t14 t15) (λt15 H Kb5=>zsq t0 t3 t4 t14 t15 H K Kb5) t15 H (zAL t0 t3 t4 t14 t15 H K):=lq1 zfP zAM
theorem zNA(h:HSc H→zso t0 H K):ACalls tP zpI [t0] H K:=
 acb zfP Tryz.func159 zsr h
theorem zQl:Lo1 (λt29=>ziD t0 t1 t8 t27 t28 t29) (λt29 H Kb6=>ztd t0 t1 t8 t27 t28 t29 H K Kb6) t29 H (zBX t0 t1 t8 t27 t28 t29 H K):=lq1 zmI zQm
theorem zQn(h:HSc H→zBW t0 t1 t2 H K):ACalls tP zpT [t0,t1,t2] H K:=
 acb zmI Tryz.func201 zte h
end
def zdZ(dU:List Dat)(d:Nat)(vars:Int)(t:VT):Bool:=za3 (dU.take (d+1)) vars t && (zb4 d vars t || !zcs d t)
theorem zQp(dU:List Dat)(d:Nat)(c:Nat)(hd:d<dU.length)(hc:c<(dU[d]).cons.length)(hl:dU.length≤1000000)(fd:(dU[d]).cons.length≤1000000)(i8:((dU[d]).cons[c]).args.length≤1000000)(hb:∀ x∈((dU[d]).cons[c]).args,x.nodes≤1000000)(H:zaa)(K:AV→zaa→Prop)(hK:K (.bool (decide (((dU[d]).cons[c]).args.length≤6) && ((dU[d]).cons[c]).args.all (zdZ dU d (dU[d]).vars))) H):
  ACalls tP zpT [.sl (dU.map Dat.cs) .none,.int .i64 d,.int .i64 c] H K:=by
 refine ACalls.out (zQn λhs=>?_);have e1:(dU.map Dat.cs)[d]?=some (dU[d]).cs:=by simp[hd]
 have e2:((dU[d]).cons.map Con.cs)[c]?=some ((dU[d]).cons[c]).cs:=by simp[hc]
 have jb:=zsQ dU d c hd hc hl fd i8 hb;generalize hD:dU[d]=D at *;generalize hA:D.cons[c]=C at *;have hO:∀J,Out H.length K (.bool (decide (C.args.length≤6) && C.args.all (zdZ dU d D.vars))) (H++J):=λJ=>Out.bool rfl (aa _) hs hK;simp[zBW,e1,e2,Dat.cs,Con.cs,hd,hD,hc,hA];by_cases h6:C.args.length≤6
 ·have iz:¬ (6:Int)<C.args.length:=by omega
  have mM:¬ 6<C.args.length:=by omega
  simp[iz,mM];refine jb _ _ ?_;simp[h6]at hO;refine zQl (Inv:=λq t29 H'=>∃i:Nat,i≤C.args.length∧q=C.args.length-i∧t29=.int .i64 i∧(C.args.drop i).all (zdZ dU d D.vars)=C.args.all (zdZ dU d D.vars)∧H=H') C.args.length ?_ ?_
  ·intro _;exact⟨0,by omega,by omega,rfl,by simp,rfl⟩
  ·rintro q t29 H' ⟨i,hi,rfl,rfl,ho,rfl⟩ hsc d8 eC Kb ee;by_cases d7:i<C.args.length
   ·rw[ag d7,List.all_cons]at ho;have kD:=hb _ (ah d7);obtain⟨x1,x2,x3,ei,fF,e8,fC⟩:=zbh C.args[i];simp[ztd,d7,ei,e1,hd,hD,Dat.cs];refine⟨⟨fF,e8,fC⟩,?_⟩;rw[zav (by omega) (by omega),show ((d:Int)+1).toNat=d+1 by omega,←bM];refine⟨by omega,by omega,?_⟩;rw[←ei];refine zaH (.bool (za3 (dU.take (d+1)) D.vars C.args[i])) (λJ=>zz7 (dU.take (d+1)) D.vars _ (by omega) _ _ ⟨rfl,rfl⟩) ?_;have hao:zdZ dU d D.vars C.args[i]=(za3 (dU.take (d+1)) D.vars C.args[i] && (zb4 d D.vars C.args[i] || !zcs d C.args[i])):=rfl;rw[hao]at ho;cases hv:za3 (dU.take (d+1)) D.vars C.args[i] with
    |false=>rw[hv]at ho;simp only[aY]at ho;rw[←ho]at hO;simp;exact hO _
    |true=>
    rw[hv]at ho;cases oy:zb4 d D.vars C.args[i] with
    |true=>rw[oy]at ho;simp[d7,oy];rw[zav (by omega) (by omega)];refine ee _ _ ⟨C.args.length-(i+1),by omega,Back.same (by simp) hs ?_ ⟨_,rfl,i+1,by omega,rfl,by simp,by simpa using ho,rfl⟩⟩;simp[ziD,AV.sc,AV.scV,AV.scA,AV.scB]
    |false=>
     rw[oy]at ho;simp[d7,oy];refine zaH (.bool (zcs d C.args[i])) (λJ=>zRn d _ _ (aa _) (by omega) _ _ ⟨rfl,rfl⟩) ?_;cases hm:zcs d C.args[i] with
     |true=>rw[hm]at ho;simp only[Bool.not_true,cu,bz,aY]at ho;rw[←ho]at hO;simp;exact hO _
     |false=>rw[hm]at ho;simp;rw[zav (by omega) (by omega)];refine ee _ _ ⟨C.args.length-(i+1),by omega,Back.same (by simp) hs ?_ ⟨_,rfl,i+1,by omega,rfl,by simp,by simpa using ho,rfl⟩⟩;simp[ziD,AV.sc,AV.scV,AV.scA,AV.scB]
   ·obtain rfl:i=C.args.length:=by omega
    rw[aI,List.all_nil]at ho;rw[←ho]at hO;simp[ztd];simpa using hO []
 ·have iz:(6:Int)<C.args.length:=by omega
  have mM:6<C.args.length:=by omega
  simp[iz,mM];simp[h6]at hO;simpa using hO []
def zb5(l:List (List UInt8)):List (List UInt8×AV):=l.map λs=>(s,.bool true)
theorem zfF(s:List UInt8):∀ l:List (List UInt8),(zbP (zb5 l) s).getD (.bool false)=.bool (decide (s∈l))
 |[]=>by simp[zb5,zbP]
 |a::l=>by
  have:=zfF s l;cases h:a == s with
  |true=>
   have h':a=s:=by simpa using h
   simp[zb5,zbP,h,h']
  |false=>
   have h':a≠s:=by simpa using h
   have h'':s≠a:=λe=>h' e.symm;simp only[zb5,aD,zbP,h]at this ⊢;rw[this];simp[h'']
theorem zqM(s:List UInt8):∀ l:List (List UInt8),s ∉ l→zcF (zb5 l) s (.bool true)=zb5 (l++[s])
 |[],_=>rfl
 |a::l,h=>by
  have h1:(a == s)=false:=by simp at h;simpa usingλe=>h.1 e.symm
  have:=zqM s l (by simp at h;exact h.2);simp only[zb5,aD,zcF,h1,List.cons_append]at this ⊢;rw[this]
theorem zHY(m:Nat)(l:List (List UInt8)):(AB.map (zb5 l)).sc m=true:=by simp[AB.sc,zb5,AV.scV]
def zbC(dU:List Dat):List (List UInt8):=dU.map Dat.name
def zaT(dU:List Dat):List (List UInt8):=dU.flatMap λD=>D.cons.map Con.name
def zdt(dU:List Dat)(d:Nat)(vars:Int)(c:Con):Bool:=zc7 c.name && (decide (c.args.length≤6) && c.args.all (zdZ dU d vars))
def zcK(dU:List Dat)(d:Nat)(D:Dat):Bool:=zc7 D.name && decide (0≤D.vars) && decide (D.vars≤6) && decide (1≤D.cons.length) && decide (D.cons.length≤8) && D.cons.all (zdt dU d D.vars)
def zcW(dU:List Dat):List Dat→Nat→Bool
 |[],_=>true
 |D::l,d=>zcK dU d D && zcW dU l (d+1)
def zbB(dU:List Dat):Bool:=decide (dU.length≤12) && zcW dU dU 0 && !zcm (zbC dU) && !zcm (zaT dU)
theorem zx1{A R:List (List UInt8)}{s:List UInt8}(h:s∈A):zcm (A++s::R)=true:=by simp only[zcm,cw,bC,List.nodup_append];rintro⟨_,_,h3⟩;exact h3 s h s (by simp) rfl
theorem zqz{l:List (List UInt8)}(h:l.Nodup):zcm l=false:=by simp[zcm,h]
theorem zxr{A:List (List UInt8)}{s:List UInt8}(h:A.Nodup)(hs:s ∉ A):(A++[s]).Nodup:=by rw[List.nodup_append];refine⟨h,by simp,?_⟩;intro a ha b hb;simp at hb;subst hb;exactλe=>hs (e ▸ ha)
def zgY(dU:List Dat):Prop:=∀D∈dU,D.cons.length≤1000000∧∀c∈D.cons,c.args.length≤1000000∧∀x∈c.args,x.nodes≤1000000
theorem zNC(dU:List Dat)(hB:zgY dU)(hl:dU.length≤1000000)(H:zaa)(K:AV→zaa→Prop)(hK:K (.bool (zbB dU)) H):ACalls tP zpI [.sl (dU.map Dat.cs) .none] H K:=by
 refine ACalls.out (zNA λhs=>?_);have hO:∀J,Out H.length K (.bool (zbB dU)) (H++J):=λJ=>Out.bool rfl (aa _) hs hK;by_cases pn:dU.length≤12
 ·have jc:¬ (12:Int)<dU.length:=by omega
  have kH:¬ 12<dU.length:=by omega
  have mc:zcW dU dU 0=false→∀J,Out H.length K (.bool false) (H++J):=λh J=>by have:=hO J;rwa [show zbB dU=false by simp[zbB,h]]at this
  have po:zcm (zbC dU)=true→∀J,Out H.length K (.bool false) (H++J):=λh J=>by have:=hO J;rwa [show zbB dU=false by simp[zbB,h]]at this
  have hD2:zcm (zaT dU)=true→∀J,Out H.length K (.bool false) (H++J):=λh J=>by have:=hO J;rwa [show zbB dU=false by simp[zbB,h]]at this
  simp[zso,jc,kH];refine zNy (Inv:=λq t15 H'=>∃i:Nat,i≤dU.length∧q=dU.length-i∧t15=.int .i64 i∧zcW dU (dU.drop i) i=zcW dU dU 0∧(zbC (dU.take i)).Nodup∧(zaT (dU.take i)).Nodup∧H'=H++[.map (zb5 (zbC (dU.take i))),.map (zb5 (zaT (dU.take i)))]) dU.length ?_ ?_
  ·intro _;exact⟨0,by omega,by omega,rfl,by simp,by simp[zbC],by simp[zaT],by simp[zbC,zaT,zb5]⟩
  ·rintro q t15 H' ⟨i,hi,rfl,rfl,ho,pp,fY,rfl⟩ hsc d8 eC Kb ee;by_cases d7:i<dU.length
   ·have e1:(dU.map Dat.cs)[i]?=some (dU[i]).cs:=by simp[d7]
    obtain⟨ny,nQ⟩:=hB _ (ah d7);have e5:=λc hc=>zQp dU i c d7 hc hl ny (nQ _ (ah hc)).1 (nQ _ (ah hc)).2;rw[ag d7,zcW]at ho;have eX:dU.take (i+1)=dU.take i++[dU[i]]:=by rw[cG d7]
    have eQ:dU=dU.take i++dU[i]::dU.drop (i+1):=by rw[dM,aT]
    generalize hD:dU[i]=D at *;have fa:zcK dU i D=false→zcW dU dU 0=false:=λh=>by rw[←ho,h,aY]
    have gN:∀J,zcK dU i D=false→Out H.length K (.bool false) (H++[.map (zb5 (zbC (dU.take i))),.map (zb5 (zaT (dU.take i)))]++J):=λJ h=>by rw[aw];exact mc (fa h) _
    simp[zsq,d7,e1,hD,Dat.cs];refine zBV _ _ _ ?_;cases hu:zc7 D.name with
    |false=>simp;exact mc (fa (by simp[zcK,hu])) _
    |true=>
    by_cases e7:D.name∈zbC (dU.take i)
    ·simp[d7,e1,hD,Dat.cs,zfF,e7];refine po ?_ _;rw[eQ];simp only[zbC,aP,aD];exact zx1 e7
    by_cases gV:D.vars<0
    ·simp[d7,e1,hD,Dat.cs,zfF,e7,gV];exact mc (fa (by simp[zcK,show ¬ 0≤D.vars by omega])) _
    by_cases mN:6<D.vars
    ·simp[d7,e1,hD,Dat.cs,zfF,e7,gV,mN];exact mc (fa (by simp[zcK,show ¬D.vars≤6 by omega])) _
    simp[d7,e1,hD,Dat.cs,zfF,e7,gV,mN,zqM _ _ e7];by_cases fE:D.cons.length<1
    ·have fB:(D.cons.length:Int)<1:=by omega
     simp[fB];exact mc (fa (by simp[zcK,show ¬ 1≤D.cons.length by omega])) _
    have fB:¬(D.cons.length:Int)<1:=by omega
    by_cases pq:8<D.cons.length
    ·have jd:(8:Int)<D.cons.length:=by omega
     simp[d7,e1,hD,Dat.cs,fB,jd,pq];exact mc (fa (by simp[zcK,show ¬D.cons.length≤8 by omega])) _
    have jd:¬(8:Int)<D.cons.length:=by omega
    have hdat:zcK dU i D=D.cons.all (zdt dU i D.vars):=by simp[zcK,hu,show 0≤D.vars by omega,show D.vars≤6 by omega,show 1≤D.cons.length by omega,show D.cons.length≤8 by omega]
    simp[d7,e1,hD,Dat.cs,fB,jd,pq];have hdn':(zbC (dU.take (i+1))).Nodup:=by rw[eX];simp only[zbC,aP,aD,bJ];exact zxr pp e7
    have hde:zbC (dU.take i)++[D.name]=zbC (dU.take (i+1)):=by rw[eX];simp[zbC]
    rw[hde];refine zNx (Inv:=λq t78 H'=>∃j:Nat,j≤D.cons.length∧q=D.cons.length-j∧t78=.int .i64 j∧(D.cons.drop j).all (zdt dU i D.vars)=D.cons.all (zdt dU i D.vars)∧(zaT (dU.take i)++(D.cons.take j).map Con.name).Nodup∧H'=H++[.map (zb5 (zbC (dU.take (i+1)))),.map (zb5 (zaT (dU.take i)++(D.cons.take j).map Con.name))]) D.cons.length ?_ ?_
    ·intro _;exact⟨0,by omega,by omega,rfl,by simp,by simpa using fY,by simp⟩
    ·rintro q t78 H' ⟨j,hj,rfl,rfl,kX,nz,rfl⟩ mH f7 mI Kb1 i9;have hscH:∀ A B,HSc (H++[.map (zb5 A),.map (zb5 B)]):=λA B=>hs.append (by simp[zHY]);by_cases eN:j<D.cons.length
     ·have e2:(D.cons.map Con.cs)[j]?=some (D.cons[j]).cs:=by simp[eN]
      have hargs':=e5 j eN;rw[ag eN,List.all_cons]at kX;have htj:zaT (dU.take i)++(D.cons.take (j+1)).map Con.name=(zaT (dU.take i)++(D.cons.take j).map Con.name)++[(D.cons[j]).name]:=by rw[←cG eN,aP,aw];rfl
      have ew:zaT dU=(zaT (dU.take i)++(D.cons.take j).map Con.name)++(D.cons[j]).name::((D.cons.drop (j+1)).map Con.name++zaT (dU.drop (i+1))):=by
       have h1:D.cons.map Con.name=(D.cons.take j).map Con.name++(D.cons[j]).name::(D.cons.drop (j+1)).map Con.name:=by rw[←aD (f:=Con.name),dM,←aP,aT]
       conv=>lhs;rw[eQ]
       simp only[zaT,bB,bf,aw,h1,List.cons_append]
      generalize hC:D.cons[j]=C at *;have hbad':zdt dU i D.vars C=false→zcW dU dU 0=false:=λh=>fa (by rw[hdat,←kX,h,aY]);generalize hA:zaT (dU.take i)++(D.cons.take j).map Con.name=A at *;simp only[zsp];simp[eN,hC,Con.cs,ae];refine zBV _ _ _ ?_;cases hu2:zc7 C.name with
      |false=>simp;exact mc (hbad' (by simp[zdt,hu2])) _
      |true=>
      by_cases nR:C.name∈A
      ·simp[zfF,nR];exact hD2 (by rw[ew];exact zx1 nR) _
      ·simp[zfF,nR];refine hargs' _ _ ?_;have pr:zdt dU i D.vars C=(decide (C.args.length≤6) && C.args.all (zdZ dU i D.vars)):=by simp[zdt,hu2]
       rw[←pr];cases g9:zdt dU i D.vars C with
       |false=>simp;exact mc (hbad' g9) _
       |true=>
        rw[g9,bi]at kX;simp[zqM _ _ nR];rw[zav (by omega) (by omega)];refine i9 _ _ ⟨D.cons.length-(j+1),by omega,Back.at (J:=[.cells [.str C.name,.sl (VT.css C.args) .none]]) (H2:=H++[.map (zb5 (zbC (dU.take (i+1)))),.map (zb5 (A++[C.name]))]) (by simp) (by simp) (hscH _ _) ?_ ⟨_,rfl,j+1,by omega,rfl,by simp,kX,?_,?_⟩⟩
        ·simp[zl3,AV.sc,AV.scV,AV.scA,AV.scB]
        ·rw[htj];exact zxr nz nR
        ·rw[htj]
     ·obtain rfl:j=D.cons.length:=by omega
      rw[aI,List.all_nil]at kX;rw[aq]at *;simp[zsp];rw[zav (by omega) (by omega)];have pr:zaT (dU.take i)++D.cons.map Con.name=zaT (dU.take (i+1)):=by rw[eX];simp[zaT]
      rw[pr]at nz ⊢;refine ee _ _ ⟨dU.length-(i+1),by omega,Back.at (J:=[]) (by simp) (by simp) (hscH _ _) ?_ ⟨_,rfl,i+1,by omega,rfl,by simp,?_,hdn',nz,rfl⟩⟩
      ·simp[zl4,AV.sc,AV.scV,AV.scA,AV.scB]
      ·rw[←ho,hdat,←kX,bi]
   ·obtain rfl:i=dU.length:=by omega
    rw[aI,zcW]at ho;rw[aq]at *;simp[zsq];have:=hO [.map (zb5 (zbC dU)),.map (zb5 (zaT dU))];rwa [show zbB dU=true by simp[zbB,pn,←ho,zqz pp,zqz fY]]at this
 ·have jc:(12:Int)<dU.length:=by omega
  have kH:12<dU.length:=by omega
  rw[show zbB dU=false by simp[zbB,pn]]at hO;simp[zso,jc,kH];simpa using hO []
def zu7(c:Con):Prop:=c.name.length≤40∧c.args.length≤8∧∀t∈c.args,t.nodes≤20
def zom(d:Dat):Prop:=d.name.length≤40∧d.cons.length≤10∧∀c∈d.cons,zu7 c
def zbw(ds:List Dat):Prop:=ds.length≤14∧∀d∈ds,zom d
theorem zhC{α:Type}{l:List α}{i:Nat}(h:i<l.length){p:α→Prop}(h1:∀x∈l.take i,p x)(h2:p l[i]):∀x∈l.take (i+1),p x:=by
 rw[af h];intro x hx;rcases aX.1 hx with hx|hx
 ·exact h1 x hx
 ·simp at hx;subst hx;exact h2
theorem zwY{α:Type}{cs:α→List AV}{l:List α}{i:Nat}(h:i<l.length):(l.map cs)[i]?.getD []=cs l[i]:=by simp[h]
theorem vt3(v:VT):∃a b c,v.cs=[a,b,c]∧a.known=true∧b.known=true∧c.known=true:=by obtain⟨k,n,ks⟩:=v;exact⟨_,_,_,rfl,rfl,rfl,rfl⟩
theorem zSG(ds:List Dat)(H:zaa)(K:AV→zaa→Prop)(d8:ds.length≤9223372036854775807)(hK:∀b,(b=true→zbw ds)→K (.bool b) H):ACalls tP zp5 [.sl (ds.map Dat.cs) .none] H K:=by
 refine ACalls.out (zSE λhs=>?_);have hF:∀J,Out H.length K (.bool false) (H++J):=λJ=>Out.bool rfl (aa _) hs (hK false λh=>by cases h);have hF0:Out H.length K (.bool false) H:=by simpa using hF []
 by_cases h14:ds.length>14
 ·have:(14:Int)<ds.length:=by omega
  simp[ztP,this];exact hF0
 have:¬(14:Int)<ds.length:=by omega
 simp[ztP,this];refine zSB (Inv:=λq t15 H'=>∃i:Nat,i≤ds.length∧q=ds.length-i∧t15=.int .i64 i∧(∀d∈ds.take i,zom d)∧H=H') ds.length ?_ ?_
 ·intro _;exact⟨0,by omega,by omega,rfl,by simp,rfl⟩
 ·rintro q t15 H' ⟨i,hi,rfl,rfl,ha,rfl⟩ hsc hl eC Kb4 hKb4;by_cases fe:i<ds.length
  ·have eR:(ds.map Dat.cs)[i]?.getD []=[.str ds[i].name,.int .i64 ds[i].vars,.sl (ds[i].cons.map Con.cs) .none]:=zwY fe;have next:zom ds[i]→∀ J,Kb4 (ziF (.sl (ds.map Dat.cs) .none) (.int .i64 ds.length) (.int .i64 (i+1))) (H++J):=by intro hd J;refine hKb4 _ _ ⟨ds.length-(i+1),by omega,Back.same (aa _) hs ?_ ⟨_,rfl,i+1,by omega,rfl,by simp,zhC fe ha hd,rfl⟩⟩;simp[ziF,AV.sc,AV.scV,AV.scA,AV.scB]
   generalize gF:ds[i]=d at *;simp[ztR,fe,eR,AV.known,gF,Dat.cs];by_cases hn:d.name.length>40
   ·have:(40:Int)<d.name.length:=by omega
    simp[this];exact hF _
   have ff:¬(40:Int)<d.name.length:=by omega
   by_cases hc:d.cons.length>10
   ·have:(10:Int)<d.cons.length:=by omega
    simp[ff,this];exact hF _
   have iY:¬(10:Int)<d.cons.length:=by omega
   simp[ff,iY];refine zSC (Inv:=λq t32 H'=>∃j:Nat,j≤d.cons.length∧q=d.cons.length-j∧t32=.int .i64 j∧(∀c∈d.cons.take j,zu7 c)∧H'=H++[.cells [.str d.name,.int .i64 d.vars,.sl (d.cons.map Con.cs) .none]]) d.cons.length ?_ ?_
   ·intro _;exact⟨0,by omega,by omega,rfl,by simp,rfl⟩
   ·rintro q t32 H' ⟨j,hj,rfl,rfl,hb,rfl⟩ hsc9 hl9 lI Kb9 kF;by_cases eN:j<d.cons.length
    ·have eR:(d.cons.map Con.cs)[j]?.getD []=[.str d.cons[j].name,.sl (VT.css d.cons[j].args) .none]:=zwY eN;generalize fS:d.cons[j]=c at *;simp[ztS,eN,eR,AV.known,fS,Con.cs];by_cases hn:c.name.length>40
     ·have:(40:Int)<c.name.length:=by omega
      simp[this];exact hF _
     have ff:¬(40:Int)<c.name.length:=by omega
     by_cases hc:c.args.length>8
     ·have:(8:Int)<c.args.length:=by omega
      simp[ff,this];exact hF _
     have iY:¬(8:Int)<c.args.length:=by omega
     simp[ff,iY];refine zSA (Inv:=λq t49 H'=>∃(k:Nat) (l:Int),k≤c.args.length∧q=c.args.length-k∧t49=.int .i64 k∧-1≤l∧l≤20∧(∀t∈c.args.take k,t.nodes≤20)∧H'=H++[.cells [.str d.name,.int .i64 d.vars,.sl (d.cons.map Con.cs) .none],.cells [.str c.name,.sl (VT.css c.args) .none],.cells [.int .i64 l]]) c.args.length ?_ ?_
     ·intro _;exact⟨0,20,by omega,by omega,rfl,by omega,by omega,by simp,rfl⟩
     ·rintro q t49 H' ⟨k,l,hk,rfl,rfl,iS,i7,mO,rfl⟩ hsc15 hl15 hsF15 Kb15 hKb15;by_cases iM:k<c.args.length
      ·obtain⟨x,y,z,hv,hx,hy,hz⟩:=vt3 c.args[k];simp[ztQ,iM,hv,hx,hy,hz];rw[←hv];refine zDk _ _ (aa _) l (by omega) iS _ (H.length+2) (by simp) _ ?_ ?_
       ·intro eH;simp;rw[zav (by omega) (by omega)];refine hKb15 _ _ ⟨c.args.length-(k+1),by omega,Back.at (J:=[_]) (H2:=H++[.cells [.str d.name,.int .i64 d.vars,.sl (d.cons.map Con.cs) .none],.cells [.str c.name,.sl (VT.css c.args) .none],.cells [.int .i64 (l-c.args[k].nodes)]]) (by simp;rfl) (by simp) (hs.append rfl) ?_ ⟨_,rfl,k+1,l-c.args[k].nodes,by omega,rfl,by simp,by omega,by omega,zhC iM mO (by omega),rfl⟩⟩;simp[znc,AV.sc,AV.scV,AV.scA,AV.scB]
       ·intro eH l';simp;exact hF _
      ·obtain rfl:k=c.args.length:=by omega
       rw[aq]at mO;simp[ztQ];rw[zav (by omega) (by omega)];refine kF _ _ ⟨d.cons.length-(j+1),by omega,Back.at (J:=[_,_]) (H2:=H++[.cells [.str d.name,.int .i64 d.vars,.sl (d.cons.map Con.cs) .none]]) (by simp;exact⟨rfl,rfl⟩) (by simp) (hs.append rfl) ?_ ⟨_,rfl,j+1,by omega,rfl,by simp,zhC eN hb (by rw[fS];exact⟨by omega,by omega,mO⟩),rfl⟩⟩;simp[znd,AV.sc,AV.scV,AV.scA,AV.scB]
    ·obtain rfl:j=d.cons.length:=by omega
     rw[aq]at hb;simp[ztS];rw[zav (by omega) (by omega)];exact next ⟨by omega,by omega,hb⟩ _
  ·obtain rfl:i=ds.length:=by omega
   rw[aq]at ha;simp[ztR];exact Out.bool (J:=[]) (by simp) (aa _) hs (hK true λ_=>⟨by omega,ha⟩)
def zez(dU:List Dat)(d:Nat)(vars:Int)(t:VT):Bool:=zb4 d vars t || za3 (dU.take d) vars t
structure RCon (dU:List Dat) (d:Nat) (vars:Int) (c:Con):Prop where
 up:zc7 c.name=true
 len:c.args.length≤6
 args:∀x∈c.args,zez dU d vars x=true
structure RDat (dU:List Dat) (d:Nat) (D:Dat):Prop where
 v0:0≤D.vars
 v6:D.vars≤6
 c1:1≤D.cons.length
 c8:D.cons.length≤8
 up:zc7 D.name=true
 cons:∀c∈D.cons,RCon dU d D.vars c
structure RData (dU:List Dat):Prop where
 len:dU.length≤12
 dats:∀d (h:d<dU.length),RDat dU d dU[d]
 names:(zbC dU).Nodup
 cons:(zaT dU).Nodup
theorem zq2{α:Type}{l:List α}{i:Nat}(h:i<l.length):l.take (i+1)=l.take i++[l[i]]:=by rw[cG h]
theorem zv7:∀ l:List Dat,(∀ D∈l,D.cons.length≤10)→(zaT l).length≤l.length*10
 |[],_=>by simp[zaT]
 |D::l,h=>by have h1:=zv7 l (λD hD=>h D (by simp[hD]));have h2:=h D (by simp);rw[zaT]at h1 ⊢;rw[bf,az,cc,List.length_cons];omega
theorem zFG{dU:List Dat}{d:Nat}(h:d<dU.length):zbC (dU.take (d+1))=zbC (dU.take d)++[(dU[d]).name]:=by rw[zbC,zq2 h,aP];rfl
theorem zFi{dU:List Dat}{d:Nat}(h:d<dU.length):zaT (dU.take (d+1))=zaT (dU.take d)++(dU[d]).cons.map Con.name:=by rw[zaT,zq2 h,bB];simp[zaT]
theorem zyI(l:List (List UInt8))(s:List UInt8):strs (l++[s])=strs l++[[.str s]]:=by simp[strs]
theorem zvU{s:List UInt8}{k:AV→Prop}:zau 1 [.str []] 1 [(0,.str s)] k=k (.sl [[.str s]] .full):=propext aL
theorem zx2(l:List (List UInt8))(hl:l.length≤1000000){tok:Tok}(H:zaa)(K:AV→zaa→Prop)(hK:K (.bool (zcm l)) H):ACalls tP zh3 [.sl (strs l) tok] H K:=
 ACalls.wk (zWb l hl H K hK) ⟨.atom (.sl _ _),trivial⟩
theorem zFo{D:Dat}{i:Nat}(h:i<D.cons.length):(D.cons.map Con.cs)[i]?.getD []=[.str (D.cons[i]).name,.sl (VT.css (D.cons[i]).args) .none]:=by simp[h,Con.cs]
theorem zTy(dU:List Dat)(oe:zbw dU)(H:zaa)(K:AV→zaa→Prop)(hK:∀b,(b=true↔RData dU)→K (.bool b) H):ACalls tP zp7 [.sl (dU.map Dat.cs) .none] H K:=by
 refine ACalls.out (zTw λhs=>?_);obtain⟨kl,kd⟩:=oe;have hF:¬RData dU→∀J,Out H.length K (.bool false) (H++J):=λh J=>Out.bool rfl (aa _) hs (hK _ (by simp[h]));have hT:∀b:Bool,(b=true↔RData dU)→∀J,Out H.length K (.bool b) (H++J):=λb h J=>Out.bool rfl (aa _) hs (hK _ h);by_cases pn:dU.length>12
 ·have jc:(12:Int)<dU.length:=by omega
  simp[zt9,jc];have:=hF (λh=>by have:=h.len;omega) [];simpa using this
 have jc:¬(12:Int)<dU.length:=by omega
 simp[zt9,jc];unfold znx;refine ALoop.own 3 zb8 1 rfl ?_;refine ALoop.own 4 zb8 1 rfl ?_;rw[aw];have fY:∀d,(zaT (dU.take d)).length≤140:=λd=>by have:=zv7 (dU.take d) (λD hD=>(kd D (bE hD)).2.1);rw[aW]at this;have:min d dU.length*10≤14*10:=au _ (by omega);omega
 have i7:(H++[AB.perm zb8 1 0]).length=H.length+1:=by simp
 rw[i7];show znx (.sl (dU.map Dat.cs) .none) (.sl [] (.own H.length)) (.sl [] (.own (H.length+1))) (.int .i64 0) (H++[.perm zb8 1 0,.perm zb8 1 0]) (Out H.length K);have hsP:∀m n,HSc (H++[.perm zb8 1 m,.perm zb8 1 n]):=λm n=>hs.append rfl;refine zTu (Inv:=λq t3 t4 t5 H'=>∃d:Nat,d≤dU.length∧q=dU.length-d∧t5=.int .i64 d∧t3=.sl (strs (zbC (dU.take d))) (.own H.length)∧t4=.sl (strs (zaT (dU.take d))) (.own (H.length+1))∧(∀j (h:j<dU.length),j<d→RDat dU j dU[j])∧H'=H++[.perm zb8 1 d,.perm zb8 1 (zaT (dU.take d)).length]) dU.length ?_ ?_
 ·intro _;exact⟨0,by omega,by omega,rfl,by simp[zbC,strs],by simp[zaT,strs],by omega,by simp[zaT]⟩
 ·rintro q t3 t4 t5 H' ⟨d,hd,rfl,rfl,rfl,rfl,eh,rfl⟩ hsc d8 eC Kb ee;by_cases d7:d<dU.length
  ·have fa:¬ RDat dU d dU[d]→∀ J,Out H.length K (.bool false) (H++J):=λh=>hF λhh=>h (hh.dats d d7);have oz:=fY d;have ji:=zFG d7;have ew:=zFi d7;obtain⟨kn,kc,kcc⟩:=kd _ (ah d7);have lZ:(zbC (dU.take d)).length=d:=by simp[zbC];omega
   generalize hD:dU[d]=D at *;have iT:(dU.map Dat.cs)[d]?.getD []=[.str D.name,.int .i64 D.vars,.sl (D.cons.map Con.cs) .none]:=by simp[d7,hD,Dat.cs]
   by_cases gV:D.vars<0
   ·simp[zf0,d7,hD,Dat.cs,gV];exact fa (λh=>by have:=h.v0;omega) _
   by_cases mN:6<D.vars
   ·simp[zf0,d7,hD,Dat.cs,gV,mN];exact fa (λh=>by have:=h.v6;omega) _
   by_cases fE:D.cons.length<1
   ·have fB:(D.cons.length:Int)<1:=by omega
    simp[zf0,d7,hD,Dat.cs,gV,mN,fB];exact fa (λh=>by have:=h.c1;omega) _
   have fB:¬(D.cons.length:Int)<1:=by omega
   by_cases pq:8<D.cons.length
   ·have jd:(8:Int)<D.cons.length:=by omega
    simp[zf0,d7,hD,Dat.cs,gV,mN,fB,jd];exact fa (λh=>by have:=h.c8;omega) _
   have jd:¬(8:Int)<D.cons.length:=by omega
   simp[zf0,d7,hD,Dat.cs,gV,mN,fB,jd];refine zDN _ _ _ ?_;cases hup:zc7 D.name with
   |false=>simp;exact fa (λh=>by have:=h.up;rw[hup]at this;cases this) _
   |true=>
   simp[zvU];simp[zax,zaO,zaK,lZ];refine⟨by omega,?_⟩;rw[←zyI,←ji];refine zTs (Inv:=λq t4 t7 H'=>∃k:Nat,k≤D.cons.length∧q=D.cons.length-k∧t7=.int .i64 k∧t4=.sl (strs (zaT (dU.take d)++(D.cons.map Con.name).take k)) (.own (H.length+1))∧(∀c∈D.cons.take k,RCon dU d D.vars c)∧H'=H++[.perm zb8 1 (d+1),.perm zb8 1 ((zaT (dU.take d)).length+k),.cells [.str D.name,.int .i64 D.vars,.sl (D.cons.map Con.cs) .none]]) D.cons.length ?_ ?_
   ·intro _;exact⟨0,by omega,by omega,rfl,by simp,by simp,by simp⟩
   ·rintro q t4 t7 H' ⟨k,hk,rfl,rfl,rfl,mP,rfl⟩ mH f7 mI Kb1 i9;have hlk:(zaT (dU.take d)++(D.cons.map Con.name).take k).length=(zaT (dU.take d)).length+k:=by simp;omega
    by_cases iM:k<D.cons.length
    ·have hkI:(k:Int)<D.cons.length:=by omega
     have hca:=zFo iM;have kI:¬RCon dU d D.vars D.cons[k]→∀J,Out H.length K (.bool false) (H++J):=λh=>fa λhh=>h (hh.cons _ (ah iM));have og:zaT (dU.take d)++(D.cons.map Con.name).take (k+1)=(zaT (dU.take d)++(D.cons.map Con.name).take k)++[(D.cons[k]).name]:=by rw[zq2 (by simpa using iM)];simp
     obtain⟨_,ka,kan⟩:=kcc _ (ah iM);generalize hC:D.cons[k]=C at *;simp[zua,iM,hC,Con.cs];refine zDN _ _ _ ?_;cases hupc:zc7 C.name with
     |false=>simp;exact kI (λh=>by have:=h.up;rw[hupc]at this;cases this) _
     |true=>
     by_cases oA:6<C.args.length
     ·have mQ:(6:Int)<C.args.length:=by omega
      simp[iM,hC,Con.cs,mQ];exact kI (λh=>by have:=h.len;omega) _
     have mQ:¬(6:Int)<C.args.length:=by omega
     simp[iM,hC,Con.cs,mQ,zvU];generalize hA:zaT (dU.take d)++(D.cons.map Con.name).take k=A at *;have js:A.length=(zaT (dU.take d)).length+k:=hlk;simp[zax,zaO,zaK,js,iM,hC,Con.cs];refine⟨by omega,?_⟩;rw[←zyI,←og];refine zTt (Inv:=λq t95 H'=>∃i:Nat,i≤C.args.length∧q=C.args.length-i∧t95=.int .i64 i∧(∀x∈C.args.take i,zez dU d D.vars x=true)∧H'=H++[.perm zb8 1 (d+1),.perm zb8 1 ((zaT (dU.take d)).length+k+1),.cells [.str D.name,.int .i64 D.vars,.sl (D.cons.map Con.cs) .none]]) C.args.length ?_ ?_
     ·intro _;exact⟨0,by omega,by omega,rfl,by simp,rfl⟩
     ·rintro q t95 H' ⟨i,hi,rfl,rfl,hok3,rfl⟩ fU iA lJ Kb2 fK;by_cases fe:i<C.args.length
      ·have hxn:=kan _ (ah fe);have habad:zez dU d D.vars C.args[i]=false→∀ J,Out H.length K (.bool false) (H++J):=λh=>kI λhh=>by have:=hh.args _ (ah fe);rw[h]at this;cases this
       obtain⟨x,y,z,ei,hx,hy,hz⟩:=vt3 C.args[i];have good:zez dU d D.vars C.args[i]=true→znw (.sl (dU.map Dat.cs) .none) (.sl (strs (zbC (dU.take (d+1)))) (.own H.length)) (.sl (strs (zaT (dU.take d)++(D.cons.map Con.name).take (k+1))) (.own (H.length+1))) (.int .i64 d) (.ptr (H.length+2) 0) (.int .i64 k) (.sl (VT.css C.args) .none) (.int .i64 C.args.length) (.int .i64 i) (H++[.perm zb8 1 (d+1),.perm zb8 1 ((zaT (dU.take d)).length+k+1),.cells [.str D.name,.int .i64 D.vars,.sl (D.cons.map Con.cs) .none],.cells [x,y,z]]) (Out H.length K) Kb Kb1 Kb2:=λhg=>by simp[znw,zCV];rw[zav (by omega) (by omega)];refine fK _ _ ⟨C.args.length-(i+1),by omega,Back.at (J:=[_]) (H2:=H++[.perm zb8 1 (d+1),.perm zb8 1 ((zaT (dU.take d)).length+k+1),.cells [.str D.name,.int .i64 D.vars,.sl (D.cons.map Con.cs) .none]]) (by simp;rfl) (by simp) fU ?_ ⟨_,rfl,i+1,by omega,rfl,by simp,zhC fe hok3 hg,rfl⟩⟩;simp[znu,AV.sc,AV.scV,AV.scA,AV.scB]
       simp[zub,fe,ei,hx,hy,hz];rw[←ei];refine zu6 _ _ _ (by omega) _ _ ?_;cases jt:zb4 d D.vars C.args[i] with
       |true=>rw[ei];simp;exact good (by simp[zez,jt])
       |false=>
        simp[ei];refine⟨⟨by omega,λa _=>rfl⟩,?_⟩;rw[←bM,←ei];refine zaH (.bool (za3 (dU.take d) D.vars C.args[i])) (λJ=>zC1 (dU.take d) (by simp;omega) _ _ (by omega) _ _ ⟨rfl,rfl⟩) ?_;cases oB:za3 (dU.take d) D.vars C.args[i] with
        |false=>simp;exact habad (by simp[zez,jt,oB]) _
        |true=>rw[ei];simp;exact good (by simp[zez,oB])
      ·obtain rfl:i=C.args.length:=by omega
       rw[aq]at *;simp[zub];rw[zav (by omega) (by omega)];refine i9 _ _ ⟨D.cons.length-(k+1),by omega,Back.here (by simp) fU ?_ ⟨_,_,rfl,k+1,by omega,rfl,by simp,rfl,?_,by simp[ae]⟩⟩
       ·simp[znt,AV.sc,AV.scV,AV.scA,AV.scB]
       ·exact zhC iM mP (by rw[hC];exact⟨hupc,by omega,hok3⟩)
    ·obtain rfl:k=D.cons.length:=by omega
     rw[aq]at *;simp[zua];rw[zav (by omega) (by omega)];refine ee _ _ ⟨dU.length-(d+1),by omega,Back.at (J:=[_]) (H2:=H++[.perm zb8 1 (d+1),.perm zb8 1 (zaT (dU.take (d+1))).length]) (by rw[ew];simp;rfl) (by simp) (hsP _ _) ?_ ⟨_,_,_,rfl,d+1,by omega,rfl,by simp,rfl,by rw[ew];exact congrArg (λl=>AV.sl (strs (zaT (dU.take d)++l)) (.own (H.length+1))) (am (Nat.le_of_eq (cc _))),λj hj gD=>?_,rfl⟩⟩
     ·simp[znv,AV.sc,AV.scV,AV.scA,AV.scB]
     ·by_cases hjd:j=d
      ·subst hjd;rw[hD];exact⟨by omega,by omega,by omega,by omega,hup,mP⟩
      ·exact eh j hj (by omega)
  ·obtain rfl:d=dU.length:=by omega
   rw[aq]at *;have pp:(zbC dU).length=dU.length:=by simp[zbC]
   have hcn':=fY dU.length;rw[aq]at hcn';simp[zf0];refine zx2 _ (by omega) _ _ ?_;cases hr:zcm (zbC dU) with
   |true=>simp;refine hT _ ?_ _;simp;intro h;have:=zqz h.names;rw[hr]at this;cases this
   |false=>simp;refine zx2 _ (by omega) _ _ ?_;refine hT _ ?_ _;simp only[zcm,Bool.not_eq_false',aR,Bool.not_not]at hr ⊢;exact⟨λh=>⟨by omega,λj hj=>eh j hj hj,hr,h⟩,λh=>h.cons⟩
mutual
theorem zHS:∀ v w:VT,v.same w=true↔v=w
 |.mk k n ks,.mk k' n' ks'=>by have h:=zyl ks ks';simp only[VT.same,ai,a6,VT.mk.injEq,h,and_assoc]
theorem zyl:∀ v w:List VT,VT.sameL v w=true↔v=w
 |v::vs,w::ws=>by have h1:=zHS v w;have h2:=zyl vs ws;simp only[VT.sameL,ai,cI,h1,h2]
 |[],[]=>by simp[VT.sameL]
 |[],_::_=>by simp[VT.sameL]
 |_::_,[]=>by simp[VT.sameL]
end
theorem zkA{α:Type}(l:List α)(d n:Nat):(l.take d)[n]?=if n<d then l[n]? else none:=by
 by_cases h:n<d
 ·rw[aA h,List.getElem?_take_of_lt h]
 ·rw[ap h,List.getElem?_eq_none (by rw[aW];omega)]
theorem zH3{dU:List Dat}{d:Nat}{vars k n:Int}{len:Nat}(h:(k == 5 && n == (d:Int))=false):zbl (dU.take (d+1)) vars k n len=zbl (dU.take d) vars k n len:=by
 unfold zbl;by_cases h5:k=5
 ·subst h5;have hn:n≠d:=by simpa using h
  simp only[zkA];by_cases h0:0≤n
  ·have:(n.toNat<d+1)=(n.toNat<d):=by apply propext;omega
   simp[this]
  ·simp[h0]
 ·have:(k == 5)=false:=by simpa using h5
  simp[this]
mutual
theorem zzc(dU:List Dat)(d:Nat)(vars:Int):∀ t:VT,zcs d t=false→za7 (dU.take (d+1)) vars t=za7 (dU.take d) vars t
 |.mk k n ks=>by intro h;simp only[zcs,bF]at h;rw[za7,za7,zH3 h.1,zy9 dU d vars ks h.2]
theorem zy9(dU:List Dat)(d:Nat)(vars:Int):∀ l:List VT,zeX d l=false→zbi (dU.take (d+1)) vars l=zbi (dU.take d) vars l
 |[]=>λ_=>rfl
 |t::ts=>by intro h;simp only[zeX,bF]at h;rw[zbi,zbi,zzc dU d vars t h.1,zy9 dU d vars ts h.2]
end
mutual
theorem zw3(dU:List Dat)(d:Nat)(vars:Int):∀ t:VT,za7 (dU.take d) vars t=true→zcs d t=false
 |.mk k n ks=>by
  intro h;rw[za7,ai]at h;rw[zcs,zw2 dU d vars ks h.2,cu];by_cases h5:k=5
  ·subst h5;have h1:=h.1;simp[zbl,zkA]at h1;obtain⟨h0,h2⟩:=h1;by_cases hn:n=d
   ·subst hn;simp at h2
   ·simpa using hn
  ·have:(k == 5)=false:=by simpa using h5
   simp[this]
theorem zw2(dU:List Dat)(d:Nat)(vars:Int):∀ l:List VT,zbi (dU.take d) vars l=true→zeX d l=false
 |[]=>λ_=>rfl
 |t::ts=>by intro h;rw[zbi,ai]at h;rw[zeX,zw3 dU d vars t h.1,zw2 dU d vars ts h.2];rfl
end
theorem zyn(dU:List Dat)(vars:Int):∀ (l:List VT) (i:Nat),zcN l i=true→((i+l.length:Nat):Int)≤vars→zbi dU vars l=true∧VT.nodesL l=l.length
 |[],i,_,_=>⟨rfl,rfl⟩
 |.mk k n ks::l,i,h,hv=>by
  rw[zcN,ai]at h;obtain⟨h1,h2⟩:=h;simp only[zhv,ai,a6]at h1;obtain⟨⟨rfl,rfl⟩,h3⟩:=h1;have hk:ks=[]:=aB h3;subst hk;obtain⟨h4,h5⟩:=zyn dU vars l (i+1) h2 (by simp at hv ⊢;omega);simp at hv;constructor
  ·simp[zbi,za7,zbl,h4];omega
  ·simp[VT.nodesL,VT.nodes,h5];omega
theorem zvF(dU:List Dat)(d:Nat)(hd:d<dU.length)(h0:0≤(dU[d]).vars)(h6:(dU[d]).vars≤6)(t:VT):zdZ dU d (dU[d]).vars t=zez dU d (dU[d]).vars t:=by
 unfold zdZ zez;cases hs:zb4 d (dU[d]).vars t with
 |true=>
  obtain⟨k,n,ks⟩:=t;simp only[zb4,ai,a6]at hs;obtain⟨⟨⟨rfl,rfl⟩,hl⟩,hs⟩:=hs;obtain⟨h1,h2⟩:=zyn (dU.take (d+1)) (dU[d]).vars ks 0 hs (by simp;omega);have oB:za3 (dU.take (d+1)) (dU[d]).vars (.mk 5 d ks)=true:=by simp[za3,za7,h1,VT.nodes,h2,zbl,zkA,hd,hl];omega
  simp[oB]
 |false=>
  simp only[bt];unfold za3;cases hm:zcs d t with
  |false=>rw[zzc dU d _ t hm];simp
  |true=>
   have:za7 (dU.take d) (dU[d]).vars t=false:=by
    cases h:za7 (dU.take d) (dU[d]).vars t with
    |false=>rfl
    |true=>rw[zw3 dU d _ t h]at hm;cases hm
   simp[this]
theorem zoP(dU:List Dat):∀ (l:List Dat) (d:Nat),zcW dU l d=true↔∀ j (h:j<l.length),zcK dU (d+j) l[j]=true
 |[],d=>by simp[zcW]
 |D::l,d=>by
  rw[zcW,ai,zoP dU l (d+1)];constructor
  ·rintro⟨h1,h2⟩ j hj;cases j with
   |zero=>exact h1
   |succ j=>have:=h2 j (by simpa using hj);rw[show d+(j+1)=d+1+j by omega];simpa using this
  ·intro h;refine⟨h 0 (by simp),λj hj=>?_⟩;have:=h (j+1) (by simpa using hj);rw[show d+(j+1)=d+1+j by omega]at this;simpa using this
theorem zFw(dU:List Dat):zbB dU=true↔RData dU:=by
 unfold zbB;simp only[ai,aR,zoP,zcm,Bool.not_not,aG];constructor
 ·rintro⟨⟨⟨h1,h2⟩,h3⟩,h4⟩;refine⟨h1,λd hd=>?_,h3,h4⟩;have:=h2 d hd;simp only[zcK,ai,aR,ak]at this;obtain⟨⟨⟨⟨⟨q1,q2⟩,q3⟩,q4⟩,q5⟩,q6⟩:=this;refine⟨q2,q3,q4,q5,q1,λc hc=>?_⟩;have:=q6 c hc;simp only[zdt,ai,aR,ak]at this;exact⟨this.1,this.2.1,λx hx=>by rw[←zvF dU d hd q2 q3 x];exact this.2.2 x hx⟩
 ·rintro⟨h1,h2,h3,h4⟩;refine⟨⟨⟨h1,λd hd=>?_⟩,h3⟩,h4⟩;obtain⟨q2,q3,q4,q5,q1,q6⟩:=h2 d hd;simp only[zcK,ai,aR,ak];refine⟨⟨⟨⟨⟨q1,q2⟩,q3⟩,q4⟩,q5⟩,λc hc=>?_⟩;obtain⟨r1,r2,r3⟩:=q6 c hc;simp only[zdt,ai,aR,ak];exact⟨r1,r2,λx hx=>by rw[zvF dU d hd q2 q3 x];exact r3 x hx⟩
mutual
def zaV(dU:List Dat):VT→VT→Bool
 |.mk vk vn vks,.mk k n al=>
  if k=1 then vk == 3 && decide (-1099511627776≤vn) && decide (vn≤1099511627776) && vks.length == 0
  else if k=2 then vk == 2 && (vn == 0 || vn == 1) && vks.length == 0
  else if k=3 then vk == 1 && vn == 0 && vks.length == 0
  else if k=6 then vk == 4 && vn == 0 && zcE dU vks al
  else if k=5 then vk == 5 && decide (0≤vn) && decide (vn<8) && zfp dU vks (zbr dU (.mk k n al) vn)
  else if k=7 then vk == 6 && vn == 0 && decide (vks.length≤4096) && zdJ dU vks (al.getD 0 (.mk 0 0 []))
  else if k=8 then vk == 7 && vn == 0 && zcE dU vks al
  else vk == 8 && decide (0≤vn) && decide (vn<64) && vks.length == 0
def zfp(dU:List Dat):List VT→Option (List VT)→Bool
 |_,none=>false
 |[],some ts=>ts.isEmpty
 | v::vs,some ts=>match ts with
  |[]=>false
  |t::ts=>zaV dU v t && zcE dU vs ts
def zcE(dU:List Dat):List VT→List VT→Bool
 |[],ts=>ts.isEmpty
 | v::vs,ts=>match ts with
  |[]=>false
  |t::ts=>zaV dU v t && zcE dU vs ts
def zdJ(dU:List Dat):List VT→VT→Bool
 |[],_=>true
 |v::vs,t=>zaV dU v t && zdJ dU vs t
end
theorem zF0(dU:List Dat)(vs ts:List VT):zfp dU vs (some ts)=zcE dU vs ts:=by
 cases vs with
 |nil=>cases ts <;> rw[zfp,zcE]
 |cons v vs=>cases ts <;> simp only[zfp,zcE]
theorem zFZ(dU:List Dat)(vs:List VT):zfp dU vs none=false:=by cases vs <;> rw[zfp]
theorem zH4{dU:List Dat}{m:Nat}{vars k n:Int}{len:Nat}(h:zbl (dU.take m) vars k n len=true)(h4:k≠4):zbl dU 0 k n len=true:=by
 unfold zbl at h ⊢;have mE:(k == 4)=false:=by simpa using h4
 rw[mE]at h ⊢;by_cases h5:k=5
 ·subst h5;simp only[zkA]at h;by_cases hm:n.toNat<m
  ·simpa[hm]using h
  ·simp[hm]at h
 ·have:(k == 5)=false:=by simpa using h5
  simpa[this]using h
theorem zyK(ks:List VT):∀ l:List VT,(zaQ ks l).length=l.length
 |[]=>rfl
 |t::ts=>by simp[zaQ,zyK ks ts]
mutual
theorem zzd{dU:List Dat}{m:Nat}{vars:Int}{ks:List VT}(hk:∀ x∈ks,za7 dU 0 x=true)(hl:(ks.length:Int)=vars):∀ a:VT,za7 (dU.take m) vars a=true→za7 dU 0 (subst ks a)=true
 |.mk k n al=>by
  intro h;rw[za7,ai]at h;unfold subst;by_cases h4:k=4
  ·have h1:=h.1;subst h4;simp[zbl]at h1;rw[aA ⟨rfl,by omega,by omega⟩];have hn:n.toNat<ks.length:=by omega
   rw[List.getElem?_eq_getElem hn];exact hk _ (ah hn)
  ·rw[ap (λh=>h4 h.1),za7,ai,zyK];exact⟨zH4 h.1 h4,zza hk hl al h.2⟩
theorem zza{dU:List Dat}{m:Nat}{vars:Int}{ks:List VT}(hk:∀ x∈ks,za7 dU 0 x=true)(hl:(ks.length:Int)=vars):∀ l:List VT,zbi (dU.take m) vars l=true→zbi dU 0 (zaQ ks l)=true
 |[]=>by intro _;simp[zaQ,zbi]
 |t::ts=>by intro h;rw[zbi,ai]at h;rw[zaQ,zbi,ai];exact⟨zzd hk hl t h.1,zza hk hl ts h.2⟩
end
theorem zy8{dU:List Dat}{vars:Int}:∀ {l:List VT},zbi dU vars l=true→∀ x∈l,za7 dU vars x=true
 |[],_=>by simp
 |t::ts,h=>by
  rw[zbi,ai]at h;intro x hx;rcases aS.1 hx with rfl|hx
  ·exact h.1
  ·exact zy8 h.2 x hx
theorem zzb{dU:List Dat}{vars:Int}{k n:Int}{ks:List VT}(h:za7 dU vars (.mk k n ks)=true):∀x∈ks,za7 dU vars x=true:=by rw[za7,ai]at h;exact zy8 h.2
theorem zze{dU:List Dat}{vars:Int}{k n:Int}{ks:List VT}(h:za3 dU vars (.mk k n ks)=true):∀x∈ks,za3 dU vars x=true:=by rw[za3,ai,aR]at h;intro x hx;rw[za3,ai,aR];exact⟨ar (zhw x hx) h.1,zzb h.2 x hx⟩
theorem zFn{dU:List Dat}(hD:zbB dU=true){d c:Nat}(hd:d<dU.length)(hc:c<dU[d].cons.length):∀x∈(dU[d].cons[c]).args,za7 (dU.take (d+1)) dU[d].vars x=true:=by simp only[zbB,ai,zoP,aG]at hD;have h1:=hD.1.1.2 d hd;simp only[zcK,ai]at h1;have h2:=ak.1 h1.2 _ (ah hc);simp only[zdt,ai]at h2;intro x hx;have h3:=ak.1 h2.2.2 x hx;simp only[zdZ,za3,ai]at h3;exact h3.1.2
theorem zhn{dU:List Dat}{k n:Int}{ks:List VT}{c:Int}{l:List VT}(h:zbr dU (.mk k n ks) c=some l):
  k=5∧0≤n∧0≤c∧∃(hn:n.toNat<dU.length) (hc:c.toNat<(dU[n.toNat]).cons.length),(ks.length:Int)=(dU[n.toNat]).vars∧l=((dU[n.toNat]).cons[c.toNat]).args.map (subst ks)∧∀x∈l,x.nodes≤200:=by
 rw[zdc]at h;split at h
 ·rename_i h5;split at h
  ·rename_i D hD;obtain⟨hn,rfl⟩:=List.getElem?_eq_some_iff.1 hD;split at h
   ·rename_i hv;split at h
    ·rename_i C hC;obtain⟨hc,rfl⟩:=List.getElem?_eq_some_iff.1 hC;split at h
     ·rename_i ha;simp only[bL]at h;subst h;exact⟨h5.1,h5.2.1,h5.2.2,hn,hc,hv,rfl,λx hx=>bY (ak.1 ha x hx)⟩
     ·cases h
    ·cases h
   ·cases h
  ·cases h
 ·cases h
theorem zwt{dU:List Dat}(hD:zbB dU=true){t:VT}(ht:za7 dU 0 t=true){c:Int}{l:List VT}(h:zbr dU t c=some l):∀x∈l,za3 dU 0 x=true:=by obtain⟨k,n,ks⟩:=t;obtain⟨rfl,h0,iV,hn,hc,hv,rfl,ep⟩:=zhn h;intro x hx;rw[za3,ai,aR];refine⟨ep x hx,?_⟩;obtain⟨a,ha,rfl⟩:=aC.1 hx;exact zzd (zzb ht) hv a (zFn hD hn hc a ha)
theorem zyo{ks:List VT}:∀ (l:List VT) (i:Nat),zcN l i=true→i+l.length=ks.length→zaQ ks l=ks.drop i
 |[],i,_,hl=>by simp at hl;subst hl;simp[zaQ]
 |x::l,i,h,hl=>by
  rw[zcN,ai]at h;obtain⟨k,n,al⟩:=x;simp only[zhv,ai,a6]at h;obtain⟨⟨⟨rfl,rfl⟩,h3⟩,h4⟩:=h;simp at hl;have hi:i<ks.length:=by omega
  rw[ag hi,zaQ,zyo l (i+1) h4 (by omega)];rw[subst,aA ⟨rfl,by omega,by omega⟩];simp[hi]
theorem zHZ{ks:List VT}{d vars:Int}{a:VT}(h:zb4 d vars a=true)(hl:(ks.length:Int)=vars):subst ks a=.mk 5 d ks:=by obtain⟨k,n,al⟩:=a;simp only[zb4,ai,a6]at h;obtain⟨⟨⟨rfl,rfl⟩,h3⟩,h4⟩:=h;rw[subst,ap (λh=>by have:=h.1;omega)];have:=zyo (ks:=ks) al 0 h4 (by omega);rw[this,br]
def zcv(d:Nat)(D:Dat)(C:Con):List Bool:=C.args.map (zb4 d D.vars)
def zdQ(dU:List Dat)(d:Nat):List (List Bool):=match dU[d]? with
 |some D=>D.cons.map (zcv d D)
 |none=>[]
mutual
def zfB(rs:List (List Bool)):VT→List VT
 |.mk k n ks=>.mk k n ks::zd5 rs ks (rs.getD n.toNat [])
def zd5(rs:List (List Bool)):List VT→List Bool→List VT
 |[],_=>[]
 | v::vs,bs=>match bs with
  |[]=>[]
  |b::bs=>(if b=true then zfB rs v else [])++zd5 rs vs bs
end
mutual
theorem zxU(rs:List (List Bool)):∀ v:VT,(zfB rs v).length≤v.nodes
 |.mk k n ks=>by have:=zxT rs ks (rs.getD n.toNat []);simp only[zfB,VT.nodes,List.length_cons];omega
theorem zxT(rs:List (List Bool)):∀ (vs:List VT) (bs:List Bool),(zd5 rs vs bs).length≤VT.nodesL vs
 |[],_=>by simp[zd5,VT.nodesL]
 |v::vs,[]=>by simp[zd5]
 |v::vs,b::bs=>by
  have h1:=zxU rs v;have h2:=zxT rs vs bs;simp only[zd5,VT.nodesL,az];split
  ·omega
  ·simp;omega
end
end Go.Proofs.YtdmamdnkcefmmaaGreatDoor

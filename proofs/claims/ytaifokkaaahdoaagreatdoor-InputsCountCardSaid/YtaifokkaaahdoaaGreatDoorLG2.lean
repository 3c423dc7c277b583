import Derived.Test.YtaifokkaaahdoaaGreatDoorKNum
import Derived.Test.YtaifokkaaahdoaaGreatDoorProg
import Derived.KernelRfl
import Derived.Test.YtaifokkaaahdoaaGreatDoorKGL7
import Derived.Test.YtaifokkaaahdoaaGreatDoorLH2
import Derived.Test.YtaifokkaaahdoaaGreatDoorKY5
import Derived.Test.YtaifokkaaahdoaaGreatDoorAbsQ1
import Derived.Test.YtaifokkaaahdoaaGreatDoorKGL5
import Derived.Test.YtaifokkaaahdoaaGreatDoorKZ2
import Derived.Shelf.SlSortCmp.NoneTotal
import Derived.Test.YtaifokkaaahdoaaGreatDoorKY11
set_option linter.unusedSectionVars false
set_option linter.unusedSimpArgs false
set_option linter.unusedVariables false
set_option maxRecDepth 8000
namespace Go.Proofs.YtaifokkaaahdoaaGreatDoor
open Go Go.Abs
set_option maxRecDepth 100000
def zHc(_:Nat):List Bool:=[]
noncomputable def zHd:Code:=Tryz.f13.body.getD .skip
def zxd(t0 t1:AV)(H:zaa)(K:Kt):Prop:=
 zas t0 H λt2 H=>
 zas t1 H λt3 H=>
 zab H (λK'=>zaf 0 t2 (K' · H)) λt6=>
 zab H (λK'=>zam false 1 t6 H (K' · H)) λt7=>
 zab H (λK'=>zaf 0 t3 (K' · H)) λt8=>
 zab H (λK'=>zam false 1 t8 H (K' · H)) λt9=>
 zaA H (λH K'=>ACalls tP zjy [t7,t9] H K') λt10=>
 zab H (λK'=>zaf 1 t2 (K' · H)) λt11=>
 zab H (λK'=>zam false 1 t11 H (K' · H)) λt12=>
 zab H (λK'=>zaf 1 t3 (K' · H)) λt13=>
 zab H (λK'=>zam false 1 t13 H (K' · H)) λt14=>
 zaA H (λH K'=>ACalls tP zoD [t12,t14] H K') λt15=>
 zab H (λK'=>zaf 2 t2 (K' · H)) λt16=>
 zab H (λK'=>zam false 1 t16 H (K' · H)) λt17=>
 zab H (λK'=>zah 1 t17 (K' · H)) λt18=>
 zab H (λK'=>zaf 2 t3 (K' · H)) λt19=>
 zab H (λK'=>zam false 1 t19 H (K' · H)) λt20=>
 zab H (λK'=>zah 1 t20 (K' · H)) λt21=>
 zaA H (λH K'=>ACalls tP zjy [t18,t21] H K') λt22=>
 zab H (λK'=>zar 1 [(.int .i64 0)] 3 [(0,t10),(1,t15),(2,t22)] (K' · H)) λt23=>
 zaA H (λH K'=>ACalls tP zoB [t23] H K') λt24=>
 zab H (λK'=>K' t24 H) λt5=>
 zac .neq false t5 (.int .i64 0) λt26=>
 zag t26
 (K t5 H)
 (zaf 2 t2 λt28=>
 zae false 1 t28 H λt29=>
 zaf 2 t3 λt30=>
 zae false 1 t30 H λt31=>
 ACalls tP zjz [t29,t31,(.fn zfw [])] H λt32 H=>
 K t32 H)
theorem zHe{t0 t1:AV}{H:zaa}{K:Kt}(h:HSc H→zxd t0 t1 H K):ACalls tP zfw [t0,t1] H K:=
 zap (M:=zHc) Tryz.func13 (c:=zHd) (by kernel_rfl) (λhs=>Eq.mpr (by kernel_rfl) (h hs))
def zlz:Nat→List Bool
 |3=>rl false [3,1,3,3,9]
 |_=>[]
noncomputable def zrb:Code:=Tryz.f23.body.getD .skip
noncomputable def zK9:List ResultVar:=Tryz.f23.results.toList
def zlA(t3 t7 t8 t9:AV):List AV:=ux 3 (t3::ux 3 (t7::t8::t9::ux 9 []))
def zK7:List Bool:=zlz 3
noncomputable def zK5:Code:=zat [1,1,0,1,0,0] zrb
def zK4(K:Kt):AExit→List AV→zaa→Prop:=zau tP zlz [1,1,0,1,0] zrb (zaz tP zK9 K)
def zyW(t3 t7 t8 t9:AV)(H:zaa)(K:Kt):Prop:=ALoop tP zK5 (zK4 K) (zlA t3 t7 t8 t9) H
def zra(t3 t7 t8 t9:AV)(H:zaa)(K:Kt)(Kb3:Lt):Prop:=
 zac .lss false t9 t8 λt10=>
 zag t10
 (zai 3 t7 t9 λt11=>
 zae true 3 t11 H λt12=>
 zaw [(.int .i64 0),(.int .i64 0),.snil] H λt5 H=>
 zak 3 t5 t12 H λH=>
 zae true 3 t5 H λt14=>
 ACalls tP zjt [t14] H λt15 H=>
 zac .add false t3 t15 λt16=>
 zac .add false t9 (.int .i64 1) λt17=>
 Kb3 (zlA t16 t7 t8 t17) H)
 (K t3 H)
def zyM(t0:AV)(H:zaa)(K:Kt):Prop:=
 zas t0 H λt1 H=>
 zaf 2 t1 λt6=>
 zae false 1 t6 H λt7=>
 zah 1 t7 λt8=>
 zyW (.int .i64 1) t7 t8 (.int .i64 0) H K
theorem zK6{t3 t7 t8 t9:AV}{H:zaa}{K:Kt}(Inv:Nat→AV→AV→zaa→Prop)(n:Nat)(h0:HSc H→Inv n t3 t9 H)(round:Rd2 (λt3=>λt9=>zlA t3 t7 t8 t9) (λt3=>λt9=>λH Kb3=>zra t3 t7 t8 t9 H K Kb3) H Inv):zyW t3 t7 t8 t9 H K:=
 lp2 (M:=zlz) zK7 t3 t9 (by kernel_rfl) Inv n h0 round
theorem zK8{t0:AV}{H:zaa}{K:Kt}(h:HSc H→zyM t0 H K):ACalls tP zjt [t0] H K:=
 zap (M:=zlz) Tryz.func23 (c:=zrb) (by kernel_rfl) (λhs=>Eq.mpr (by kernel_rfl) (h hs))
def zlG:Nat→List Bool
 |3=>rl false [3,1,2,3,9]
 |_=>[]
noncomputable def zrh:Code:=Tryz.f30.body.getD .skip
noncomputable def zLw:List ResultVar:=Tryz.f30.results.toList
def zlI(t3 t6 t7 t8:AV):List AV:=ux 3 (t3::ux 2 (t6::t7::t8::ux 9 []))
def zLu:List Bool:=zlG 3
noncomputable def zLs:Code:=zat [1,1,0,1,0,0] zrh
def zLr(K:Kt):AExit→List AV→zaa→Prop:=zau tP zlG [1,1,0,1,0] zrh (zaz tP zLw K)
def zy1(t3 t6 t7 t8:AV)(H:zaa)(K:Kt):Prop:=ALoop tP zLs (zLr K) (zlI t3 t6 t7 t8) H
def zlH(t3 t6 t7 t8:AV)(H:zaa)(K:Kt)(Kb3:Lt):Prop:=
 zac .lss false t8 t7 λt9=>
 zag t9
 (zai 1 t6 t8 λt10=>
 zae false 1 t10 H λt11=>
 zac .neq false t11 t3 λt14=>
 zag t14
 (K t11 H)
 (zac .add false t8 (.int .i64 1) λt16=>
 Kb3 (zlI t3 t6 t7 t16) H))
 (K t3 H)
def zy0(t0:AV)(H:zaa)(K:Kt):Prop:=
 zah 1 t0 λt7=>
 zy1 (.int .i64 0) t0 t7 (.int .i64 0) H K
theorem zLt{t3 t6 t7 t8:AV}{H:zaa}{K:Kt}(Inv:Nat→AV→zaa→Prop)(n:Nat)(h0:HSc H→Inv n t8 H)(round:Rd1 (λt8=>zlI t3 t6 t7 t8) (λt8=>λH Kb3=>zlH t3 t6 t7 t8 H K Kb3) H Inv):zy1 t3 t6 t7 t8 H K:=
 lp1 (M:=zlG) zLu t8 (by kernel_rfl) Inv n h0 round
theorem zLv{t0:AV}{H:zaa}{K:Kt}(h:HSc H→zy0 t0 H K):ACalls tP zoB [t0] H K:=
 zap (M:=zlG) Tryz.func30 (c:=zrh) (by kernel_rfl) (λhs=>Eq.mpr (by kernel_rfl) (h hs))
def zLx(_:Nat):List Bool:=[]
noncomputable def zLy:Code:=Tryz.f31.body.getD .skip
def zy2(t0 t1:AV)(H:zaa)(K:Kt):Prop:=
 ACalls tP zjJ [t0] H λt8 H=>
 ACalls tP zjJ [t1] H λt10 H=>
 zag t8
 (zag t10
 (K (.int .i64 0) H)
 (K (.int .i64 (-1)) H))
 (zag t10
 (K (.int .i64 1) H)
 (zac .lss false t0 t1 λt16=>
 zag t16
 (K (.int .i64 (-1)) H)
 (zac .gtr false t0 t1 λt19=>
 zag t19
 (K (.int .i64 1) H)
 (K (.int .i64 0) H))))
theorem zLz{t0 t1:AV}{H:zaa}{K:Kt}(h:HSc H→zy2 t0 t1 H K):ACalls tP zjy [t0,t1] H K:=
 zap (M:=zLx) Tryz.func31 (c:=zLy) (by kernel_rfl) (λhs=>Eq.mpr (by kernel_rfl) (h hs))
def zLA(_:Nat):List Bool:=[]
noncomputable def zLB:Code:=Tryz.f32.body.getD .skip
def zy3(t0 t1:AV)(H:zaa)(K:Kt):Prop:=
 ACalls tP zjK [t0] H λt8 H=>
 ACalls tP zjK [t1] H λt10 H=>
 zag t8
 (zag t10
 (K (.int .i64 0) H)
 (K (.int .i64 (-1)) H))
 (zag t10
 (K (.int .i64 1) H)
 (zac .lss false t0 t1 λt16=>
 zag t16
 (K (.int .i64 (-1)) H)
 (zac .gtr false t0 t1 λt19=>
 zag t19
 (K (.int .i64 1) H)
 (K (.int .i64 0) H))))
theorem zLC{t0 t1:AV}{H:zaa}{K:Kt}(h:HSc H→zy3 t0 t1 H K):ACalls tP zoD [t0,t1] H K:=
 zap (M:=zLA) Tryz.func32 (c:=zLB) (by kernel_rfl) (λhs=>Eq.mpr (by kernel_rfl) (h hs))
def zlJ:Nat→List Bool
 |2=>rl false [0,3,8,3,25]
 |_=>[]
noncomputable def zri:Code:=Tryz.f33.body.getD .skip
noncomputable def zLI:List ResultVar:=Tryz.f33.results.toList
def zlK(t0 t1 t2 t11 t12 t13:AV):List AV:=t0::t1::t2::ux 8 (t11::t12::t13::ux 25 [])
def zLG:List Bool:=zlJ 2
noncomputable def zLE:Code:=zat [1,0,1,0,0] zri
def zLD(K:Kt):AExit→List AV→zaa→Prop:=zau tP zlJ [1,0,1,0] zri (zaz tP zLI K)
def zy5(t0 t1 t2 t11 t12 t13:AV)(H:zaa)(K:Kt):Prop:=ALoop tP zLE (zLD K) (zlK t0 t1 t2 t11 t12 t13) H
def zij(t0 t1 t2 t11 t12 t13:AV)(H:zaa)(K:Kt)(Kb2:Lt):Prop:=
 zac .lss false t13 t12 λt14=>
 zag t14
 (zai 3 t11 t13 λt16=>
 zae true 3 t16 H λt17=>
 zaw [(.int .i64 0),(.int .i64 0),.snil] H λt8 H=>
 zak 3 t8 t17 H λH=>
 zah 1 t1 λt20=>
 zac .geq false t13 t20 λt21=>
 zag t21
 (K (.int .i64 1) H)
 (zai 3 t1 t13 λt24=>
 zae true 3 t24 H λt25=>
 zaw [(.int .i64 0),(.int .i64 0),.snil] H λt9 H=>
 zak 3 t9 t25 H λH=>
 zae true 3 t8 H λt27=>
 zae true 3 t9 H λt28=>
 aCallV tP t2 [t27,t28] H λt29 H=>
 zac .neq false t29 (.int .i64 0) λt31=>
 zag t31
 (K t29 H)
 (zac .add false t13 (.int .i64 1) λt33=>
 Kb2 (zlK t0 t1 t2 t11 t12 t33) H)))
 (zah 1 t0 λt35=>
 zah 1 t1 λt37=>
 zac .lss false t35 t37 λt38=>
 zag t38
 (K (.int .i64 (-1)) H)
 (K (.int .i64 0) H))
def zy4(t0 t1 t2:AV)(H:zaa)(K:Kt):Prop:=
 zah 1 t0 λt12=>
 zy5 t0 t1 t2 t0 t12 (.int .i64 0) H K
theorem zLF{t0 t1 t2 t11 t12 t13:AV}{H:zaa}{K:Kt}(Inv:Nat→AV→zaa→Prop)(n:Nat)(h0:HSc H→Inv n t13 H)(round:Rd1 (λt13=>zlK t0 t1 t2 t11 t12 t13) (λt13=>λH Kb2=>zij t0 t1 t2 t11 t12 t13 H K Kb2) H Inv):zy5 t0 t1 t2 t11 t12 t13 H K:=
 lp1 (M:=zlJ) zLG t13 (by kernel_rfl) Inv n h0 round
theorem zLH{t0 t1 t2:AV}{H:zaa}{K:Kt}(h:HSc H→zy4 t0 t1 t2 H K):ACalls tP zjz [t0,t1,t2] H K:=
 zap (M:=zlJ) Tryz.func33 (c:=zri) (by kernel_rfl) (λhs=>Eq.mpr (by kernel_rfl) (h hs))
def zI3(_:Nat):List Bool:=[]
noncomputable def zI4:Code:=Tryz.f16.body.getD .skip
def zx5(t0 t1:AV)(H:zaa)(K:Kt):Prop:=
 zas t0 H λt2 H=>
 zas t1 H λt3 H=>
 zae true 3 t2 H λt5=>
 zae true 3 t3 H λt6=>
 ACalls tP zoH [t5,t6] H λt7 H=>
 ACalls tP zoF [t7] H λt8 H=>
 K t8 H
theorem zI5{t0 t1:AV}{H:zaa}{K:Kt}(h:HSc H→zx5 t0 t1 H K):ACalls tP zji [t0,t1] H K:=
 zap (M:=zI3) Tryz.func16 (c:=zI4) (by kernel_rfl) (λhs=>Eq.mpr (by kernel_rfl) (h hs))
def zOc(_:Nat):List Bool:=[]
noncomputable def zOd:Code:=Tryz.f69.body.getD .skip
def zz0(t0:AV)(H:zaa)(K:Kt):Prop:=
 zac .neq false t0 t0 λt5=>
 K t5 H
theorem zOe{t0:AV}{H:zaa}{K:Kt}(h:HSc H→zz0 t0 H K):ACalls tP zjJ [t0] H K:=
 zap (M:=zOc) Tryz.func69 (c:=zOd) (by kernel_rfl) (λhs=>Eq.mpr (by kernel_rfl) (h hs))
def zOg(_:Nat):List Bool:=[]
noncomputable def zOh:Code:=Tryz.f70.body.getD .skip
def zz1(t0:AV)(H:zaa)(K:Kt):Prop:=
 zac .neq false t0 t0 λt5=>
 K t5 H
theorem zOi{t0:AV}{H:zaa}{K:Kt}(h:HSc H→zz1 t0 H K):ACalls tP zjK [t0] H K:=
 zap (M:=zOg) Tryz.func70 (c:=zOh) (by kernel_rfl) (λhs=>Eq.mpr (by kernel_rfl) (h hs))
end Go.Proofs.YtaifokkaaahdoaaGreatDoor
namespace Go.Proofs.YtaifokkaaahdoaaGreatDoor
open Go Go.Abs
theorem zu4(a:Int)(H:zaa)(K:AV→zaa→Prop)(hK:K (.bool false) H):ACalls tP zjJ [.int .i64 a] H K:=by refine ACalls.out (zOe λhs=>?_);simp[zz0];exact zbx hs rfl rfl hK
theorem zu5(a:Int)(H:zaa)(K:AV→zaa→Prop)(hK:K (.bool false) H):ACalls tP zjK [.int .i64 a] H K:=by refine ACalls.out (zOi λhs=>?_);simp[zz1];exact zbx hs rfl rfl hK
theorem ztt(a b:Int)(H:zaa)(K:AV→zaa→Prop)(hK:K (.int .i64 (icmp a b)) H):ACalls tP zjy [.int .i64 a,.int .i64 b] H K:=by
 refine ACalls.out (zLz λhs=>?_);unfold zy2;refine zu4 _ _ _ (zu4 _ _ _ ?_);have hO:=zbx (K:=K) (H:=H) (r:=.int .i64 (icmp a b)) hs rfl rfl hK;by_cases h1:a<b
 ·simp[h1];simpa[icmp,h1]using hO
 ·by_cases h2:b<a
  ·simp[h1,h2];simpa[icmp,h1,h2]using hO
  ·simp[h1,h2];simpa[icmp,h1,h2]using hO
theorem zCa(a b:Int)(H:zaa)(K:AV→zaa→Prop)(hK:K (.int .i64 (icmp a b)) H):ACalls tP zoD [.int .i64 a,.int .i64 b] H K:=by
 refine ACalls.out (zLC λhs=>?_);unfold zy3;refine zu5 _ _ _ (zu5 _ _ _ ?_);have hO:=zbx (K:=K) (H:=H) (r:=.int .i64 (icmp a b)) hs rfl rfl hK;by_cases h1:a<b
 ·simp[h1];simpa[icmp,h1]using hO
 ·by_cases h2:b<a
  ·simp[h1,h2];simpa[icmp,h1,h2]using hO
  ·simp[h1,h2];simpa[icmp,h1,h2]using hO
def orL:List Int→Int
 |[]=>0
 |a::l=>cor a (orL l)
theorem orI(l:List Int)(tok:Tok)(hl:l.length≤1000000)(H:zaa)(K:AV→zaa→Prop)(hK:K (.int .i64 (orL l)) H):ACalls tP zoB [.sl (l.map λx=>[.int .i64 x]) tok] H K:=by
 refine ACalls.out (zLv λhs=>?_);simp[zy0];refine zLt (Inv:=λq t8 H'=>∃i:Nat,i≤l.length∧q=l.length-i∧t8=.int .i64 i∧orL (l.drop i)=orL l∧H'=H) l.length ?_ ?_
 ·intro _;exact⟨0,by omega,by omega,rfl,by simp,rfl⟩
 ·rintro q t8 H' ⟨i,hi,rfl,rfl,ho,rfl⟩ hsc hlen hsF Kb hKb;by_cases hlt:i<l.length
  ·rw[List.drop_eq_getElem_cons hlt,orL]at ho;by_cases hz:l[i]=0
   ·rw[ztz hz]at ho;simp[zlH,hlt,hz];rw[zaB (by omega) (by omega)];refine hKb _ _ ⟨l.length-(i+1),by omega,Back.here (Nat.le_refl _) hs ?_ ⟨_,rfl,i+1,by omega,rfl,by simp,ho,rfl⟩⟩;simpa[zlI,AV.sc,AV.scV,AV.scA,AV.scB]using hsF
   ·rw[zty hz]at ho;have hz:(l[i] != 0)=true:=by simpa using hz
    simp[zlH,hlt,hz];rw[←ho]at hK;exact zbx hs rfl rfl hK
  ·simp[zlH,hlt];obtain rfl:i=l.length:=by omega
   rw[List.drop_length]at ho;rw[←ho]at hK;exact zbx hs rfl rfl hK
theorem ztv(ks ks':List VT)(hb:ks.length≤1000000)(hc:∀(i:Nat) (h:i<ks.length) (h':i<ks'.length) (H:zaa) (K:AV→zaa→Prop),K (.int .i64 (VT.cmp ks[i] ks'[i])) H→ACalls tP zfw [.agg ks[i].cs,.agg ks'[i].cs] H K)(H:zaa)(K:AV→zaa→Prop)(hK:K (.int .i64 (VT.cmpL ks ks')) H):ACalls tP zjz [.sl (VT.css ks) .none,.sl (VT.css ks') .none,.fn zfw []] H K:=by
 refine ACalls.out (zLH λhs=>?_);simp[zy4];refine zLF (Inv:=λq t13 H'=>∃i:Nat,i≤ks.length∧i≤ks'.length∧q=ks.length-i∧t13=.int .i64 i∧VT.cmpL (ks.drop i) (ks'.drop i)=VT.cmpL ks ks'∧H'=H) ks.length ?_ ?_
 ·intro _;exact⟨0,by omega,by omega,by omega,rfl,by simp,rfl⟩
 ·rintro q t8 H' ⟨i,hi,hi',rfl,rfl,ho,rfl⟩ hsc hlen hsF Kb hKb;by_cases hlt:i<ks.length
  ·obtain⟨x,y,z,hvx,hx,hy,hz⟩:=zaO ks[i];by_cases hlt':i<ks'.length
   ·have hle:¬ ks'.length≤i:=by omega
    obtain⟨x',y',z',hvx',hx',hy',hz'⟩:=zaO ks'[i];rw[VT.cmpL_drop hlt hlt']at ho;simp[zij,hlt,hlt',hle,hvx,hvx',hx,hy,hz,hx',hy',hz'];rw[←hvx,←hvx'];refine hc i hlt hlt' _ _ ?_;by_cases hz:VT.cmp ks[i] ks'[i]=0
    ·rw[ztz hz]at ho;simp[hz];rw[zaB (by omega) (by omega)];refine hKb _ _ ⟨ks.length-(i+1),by omega,Back.same (Nat.le_refl _) hs ?_ ⟨_,rfl,i+1,by omega,by omega,rfl,by simp,ho,rfl⟩⟩;simp[zlK,AV.sc,AV.scV,AV.scA,AV.scB]
    ·rw[zty hz]at ho;have hz:(VT.cmp ks[i] ks'[i] != 0)=true:=by simpa using hz
     simp[hz];rw[←ho]at hK;exact Out.same rfl hs rfl rfl hK
   ·obtain rfl:i=ks'.length:=by omega
    rw[List.drop_length,List.drop_eq_getElem_cons hlt,VT.cmpL]at ho;simp[zij,hlt,hvx,hx,hy,hz];rw[←ho]at hK;exact Out.same rfl hs rfl rfl hK
  ·obtain rfl:i=ks.length:=by omega
   rw[List.drop_length]at ho;by_cases hnl:ks.length<ks'.length
   ·rw[List.drop_eq_getElem_cons hnl,VT.cmpL]at ho;simp[zij,hnl];rw[←ho]at hK;exact zbx hs rfl rfl hK
   ·have he:ks.length=ks'.length:=by omega
    rw[he,List.drop_length,VT.cmpL]at ho;simp[zij,hnl];rw[←ho]at hK;exact zbx hs rfl rfl hK
theorem zxj:∀(m:Nat) (v w:VT),v.nodes≤m→v.nodes≤1000000→∀(H:zaa) (K:AV→zaa→Prop),K (.int .i64 (VT.cmp v w)) H→ACalls tP zfw [.agg v.cs,.agg w.cs] H K:=by
 intro m;induction m with
 |zero=>intro v w h;have:=v.nodes_pos;omega
 |succ m ih=>
  intro v w hv hb H K hK;obtain⟨k,n,ks⟩:=v;obtain⟨k',n',ks'⟩:=w;have hnl:VT.nodesL ks+1≤1000000:=by simpa[VT.nodes]using hb
  have hll:=VT.len_le ks;refine ACalls.out (zHe λhs=>?_);simp[VT.cs,zxd];refine zaC _ (λJ=>ztt _ _ _ _ ⟨rfl,rfl⟩) ?_;refine zaC _ (λJ=>zCa _ _ _ _ ⟨rfl,rfl⟩) ?_;refine zaC _ (λJ=>ztt _ _ _ _ ⟨rfl,rfl⟩) ?_;simp[zar,za3,plain,List.replicate];refine zaC _ (λJ=>orI [icmp k k',icmp n n',icmp ks.length ks'.length] _ (by simp) _ _ ⟨rfl,rfl⟩) ?_;by_cases hz:orL [icmp k k',icmp n n',icmp ks.length ks'.length]=0
  ·have hz':=hz;simp only[orL,zny]at hz;simp[hz'];refine ztv ks ks' (by omega) (λi h h' H K hK=>?_) _ _ ?_
   ·have:=VT.kid_lt (k:=k) (n:=n) h;exact ih _ _ (by omega) (by omega) H K hK
   ·refine Out.same rfl hs rfl rfl ?_;simpa[VT.cmp,hz,cor]using hK
  ·have hzb:(orL [icmp k k',icmp n n',icmp ks.length ks'.length] != 0)=true:=by simpa using hz
   simp[hzb];refine Out.same rfl hs rfl rfl ?_;have e:VT.cmp (.mk k n ks) (.mk k' n' ks')=orL [icmp k k',icmp n n',icmp ks.length ks'.length]:=by simp only[VT.cmp,orL,cor]at hz ⊢;split <;> (try split) <;> (try split) <;> simp_all
   rwa [e]at hK
theorem zMO(a b:List VT)(ha:a.length≤1000000)(hb:∀v∈a,v.nodes≤1000000)(H:zaa)(K:Kt)(hK:K (.int .i64 (VT.cmpL a b)) H):ACalls tP zoK [.sl (VT.css a) .none,.sl (VT.css b) .none] H K:=by refine ACalls.out (zMN λhs=>?_);unfold zzy;refine ztv a b ha (λi h h' H K hK=>zxj _ _ _ (Nat.le_refl _) (hb _ (List.getElem_mem h)) H K hK) _ _ ?_;exact zbx hs rfl rfl hK
theorem zvr:∀ {a b c d:List AV},plain a=some c→plain b=some d→plain (a++b)=some (c++d)
 |[],b,c,d,h,h'=>by simp[plain]at h;subst h;simpa using h'
 |x::a,b,c,d,h,h'=>by
  simp only[plain]at h;split at h
  ·rename_i p q hp hq;cases h;simp only[List.cons_append,plain];rw[hp,zvr hq h']
  ·cases h
theorem zD2(v:VT):plain v.cs=some v.cs:=by obtain⟨k,n,ks⟩:=v;simp[VT.cs,plain,AV.pd]
theorem zvt:∀ l:List VT,plain (VT.css l).flatten=some (VT.css l).flatten
 |[]=>rfl
 |v::l=>by rw[VT.css,List.flatten_cons];exact zvr (zD2 v) (zvt l)
theorem zCp{l:List VT}:∀c∈VT.css l,c.length=3:=λc hc=>by rw[VT.css_map]at hc;obtain⟨v,_,rfl⟩:=List.mem_map.1 hc;simp
theorem zoT:∀ {l:List VT} {x:VT},x∈l→x.nodes≤VT.nodesL l
 |[],_,h=>by simp at h
 |v::l,x,h=>by
  rw[VT.nodesL];rcases List.mem_cons.1 h with rfl|h
  ·omega
  ·have:=zoT h;omega
theorem zCq(l:List VT)(v:VT):VT.css (l++[v])=VT.css l++[v.cs]:=by simp[VT.css_map]
theorem zMK:∀(m:Nat) (l:List VT),VT.nodesL l≤m→VT.nodesL l≤1000000→∀(H:zaa) (K:Kt),K (.sl (VT.css l) .none) H→ACalls tP zjC [.sl (VT.css l) .none] H K:=by
 intro m;induction m with
 |zero=>
  intro l hm hb H K hK;cases l with
  |cons v l=>have:=v.nodes_pos;simp[VT.nodesL]at hm;omega
  |nil=>refine ACalls.out (zzx λhs=>?_);simp[zrz,VT.css];refine zzw (Inv:=λq t3 t11 H'=>t11=.int .i64 0∧t3=.ov H.length 0∧H'=H++[.vec zaL 3 0 []]) 0 (λ_=>⟨rfl,rfl,rfl⟩) ?_;rintro q t3 t11 H' ⟨rfl,rfl,rfl⟩ hsc hlen hsF Kb hKb;simp[zlY];exact⟨.sl [] .none,H,[.vec zaL 3 0 []],rfl,Nat.le_refl _,hs,.one (.vfz H.length zaL 3 0 [] [] (Nat.le_refl _) (by simp) rfl rfl (by simp)),hK⟩
 |succ m ih=>
  intro l hm hb H K hK;have hll:=VT.len_le l;obtain⟨L,hL⟩:∃L,L=H.length:=⟨_,rfl⟩;refine ACalls.out (zzx λhs=>?_);simp[zrz];refine⟨by omega,?_⟩;rw[←hL];have hG:∀k,HSc (H++[.vec zaL 3 k (VT.css (l.take k)).flatten]):=λk=>hs.snoc (by
   simp only[AB.sc];rw[List.all_flatten,VT.css_map,List.all_map];simp[List.all_eq_true])
  refine zzw (Inv:=λq t3 t11 H'=>∃i:Nat,i≤l.length∧l.length-i=q∧t11=.int .i64 i∧t3=.ov L i∧H'=H++[.vec zaL 3 i (VT.css (l.take i)).flatten]) l.length ?_ ?_
  ·intro _;exact⟨0,by omega,rfl,rfl,rfl,rfl⟩
  ·rintro q t3 t11 H' ⟨i,hi,rfl,rfl,rfl,rfl⟩ hsc hlen hsF Kb hKb;by_cases hlt:i<l.length
   ·obtain⟨C,hC⟩:∃C,C=(l[i]).cs:=⟨_,rfl⟩;have fin:∀J:zaa,zl0 (.ov L i) (.ptr (L+1) 0) (.sl (VT.css l) .none) (.int .i64 l.length) (.int .i64 i) (H++(.vec zaL 3 i (VT.css (l.take i)).flatten::.cells C::J)) (Out L K) Kb:=by
     intro J;have hg:(H++(AB.vec zaL 3 i (VT.css (l.take i)).flatten::.cells C::J))[L+1]?=some (.cells C):=by rw[hL];simp[List.getElem?_append]
     have hg0:(H++(AB.vec zaL 3 i (VT.css (l.take i)).flatten::.cells C::J))[L]?=some (.vec zaL 3 i (VT.css (l.take i)).flatten):=by rw[hL];simp[List.getElem?_append]
     unfold zl0;simp only[zcJ,hg,zfk,zfg,List.drop_zero];rw[hC,VT.cs_len,VT.cs_take];refine⟨by omega,?_⟩;rw[zdl];simp only[zay,zbb,za0];rw[hC]at hg0;simp only[hg0];refine⟨by simp,⟨⟨trivial,trivial,trivial⟩,by simp;omega,by simp;omega⟩,?_⟩;simp;rw[wr (by omega)];have hst:(VT.css (l.take i)).flatten++(l[i]).cs=(VT.css (l.take (i+1))).flatten:=by rw[List.take_succ_eq_append_getElem hlt,zCq,List.flatten_append];simp
     have hset:∀x:AB,(H++(AB.vec zaL 3 i (VT.css (l.take i)).flatten::.cells (l[i]).cs::J)).set L x=(H++[x])++(.cells (l[i]).cs::J):=λx=>by rw[hL,List.set_append_right _ _ (Nat.le_refl _)];simp
     rw[hst,hset];refine hKb _ _ ⟨l.length-(i+1),by omega,Back.at (J:=.cells (l[i]).cs::J) rfl (by simp) (hG _) ?_ ⟨_,_,rfl,i+1,by omega,rfl,rfl,rfl,rfl⟩⟩;simp[zlZ,ux,AV.sc,AV.scA,AV.scB,AV.scV,hL]
    obtain⟨⟨k,n,ks⟩,hv⟩:∃u,u=l[i]:=⟨_,rfl⟩;have hCe:C=[.int .i64 k,.int .i64 n,.sl (VT.css ks) .none]:=by rw[hC,←hv];rfl
    have hcl:VT.cs (l[i])=[.int .i64 k,.int .i64 n,.sl (VT.css ks) .none]:=by rw[←hv];rfl
    have hnd:=VT.nodesL_take hlt;have hnd2:=VT.nodesL_take_le l (i+1);have hkn:VT.nodesL ks<(l[i]).nodes:=by rw[←hv];simp[VT.nodes]
    have hgc:(H++[AB.vec zaL 3 i (VT.css (l.take i)).flatten,.cells [.int .i64 k,.int .i64 n,.sl (VT.css ks) .none]])[L+1]?=some (.cells [.int .i64 k,.int .i64 n,.sl (VT.css ks) .none]):=by rw[hL];simp[List.getElem?_append]
    simp[zlY,hlt,hcl,AV.known];rw[←hL];by_cases hks:0<ks.length
    ·simp[hks];refine ih ks (by omega) (by omega) _ _ ?_;have hset:(H++[AB.vec zaL 3 i (VT.css (l.take i)).flatten,.cells [.int .i64 k,.int .i64 n,.sl (VT.css ks) .none]]).set (L+1) (.cells [.int .i64 k,.int .i64 n,.sl (VT.css ks) .none])=H++[AB.vec zaL 3 i (VT.css (l.take i)).flatten,.cells [.int .i64 k,.int .i64 n,.sl (VT.css ks) .none]]:=by rw[hL,List.set_append_right _ _ (by omega)];simp
     rw[hgc];simp;rw[hset];have:=fin [];rw[hCe]at this;exact this
    ·simp[hks];have:=fin [];rw[hCe]at this;exact this
   ·obtain rfl:i=l.length:=by omega
    simp[zlY];refine⟨.sl (VT.css l) .none,H,[.vec zaL 3 l.length (VT.css l).flatten],rfl,by omega,hs,.one (.vfz L zaL 3 l.length _ (VT.css l) (by omega) (by rw[hL];simp) (zvt l) (by simp) zCp),hK⟩
def zgQ(xs:List Int)(i:Nat):Prop:=-1099511627776≤xs.getD i 0∧xs.getD i 0≤1099511627776∧(0<i→xs.getD (i-1) 0<xs.getD i 0)
def zey(xs:List Int):Prop:=xs.length≤8∧∀i,i<xs.length→zgQ xs i
theorem zur{xs:List Int}{i:Nat}(h:i<xs.length):∀h':i<(ints xs).length,(ints xs)[i]'h'=[.int .i64 (xs.getD i 0)]:=λh'=>by simp[ints,List.getD_eq_getElem?_getD,h]
theorem zdp(xs:List Int):(ints xs).length=xs.length:=by simp[ints]
theorem zMl(xs:List Int)(hl:xs.length≤1000000)(H:zaa)(K:Kt)(hK:∀b:Bool,(b=true↔zey xs)→K (.bool b) H):ACalls tP zoI [.sl (ints xs) .none] H K:=by
 refine ACalls.out (zMj λhs=>?_);simp only[zzg,zdF,zdp];have bad:∀i,i<xs.length→¬zgQ xs i→Out H.length K (.bool false) H:=λi hi h=>zbx hs rfl rfl (hK false ⟨(λhh=>by cases hh),(λh2=>absurd (h2.2 i hi) h)⟩);refine zMh (Inv:=λq t7 H'=>∃i:Nat,i≤xs.length∧xs.length-i=q∧t7=.int .i64 i∧(∀j,j<i→zgQ xs j)∧H'=H) xs.length ?_ ?_
 ·intro _;exact⟨0,by omega,rfl,rfl,by omega,rfl⟩
 ·rintro q t7 H' ⟨i,hi,rfl,rfl,ha,rfl⟩ hsc hlen hsF Kb hKb;by_cases hlt:i<xs.length
  ·obtain⟨x,hx⟩:∃x,x=xs.getD i 0:=⟨_,rfl⟩;have g1:=zur hlt;rw[←hx]at g1;have next:zgQ xs i→Kb (zil (.sl (ints xs) .none) (.sl (ints xs) .none) (.int .i64 xs.length) (.int .i64 (i+1:Nat))) H':=λh=>by
    refine hKb _ _ ⟨xs.length-(i+1),by omega,Back.here (Nat.le_refl _) hs (by simp[zil,AV.sc,AV.scA,AV.scB,AV.scV,ux]) ⟨_,rfl,i+1,by omega,rfl,rfl,λj hj=>?_,rfl⟩⟩;by_cases e:j=i
    ·rw[e];exact h
    ·exact ha j (by omega)
   simp[zrn,hlt,g1,zdp];by_cases c1:x < -1099511627776
   ·simp[c1];exact bad i hlt λh=>by have:=h.1;omega
   ·by_cases c2:1099511627776<x
    ·simp[c1,c2];exact bad i hlt λh=>by have:=h.2.1;omega
    ·by_cases c3:0<i
     ·have hi1:((i:Int)-1)=((i-1:Nat):Int):=by omega
      have hw:IntKind.i64.wrap ((i:Int)-1)=((i-1:Nat):Int):=by rw[zaB (by omega) (by omega)];omega
      obtain⟨y,hy⟩:∃y,y=xs.getD (i-1) 0:=⟨_,rfl⟩;have hlt1:i-1<xs.length:=by omega
      have g2:=zur hlt1;rw[←hy]at g2;simp[c1,c2,c3,hw,g2,hlt1,zdp];by_cases c4:x≤y
      ·simp[c4];exact bad i hlt λh=>by have:=h.2.2 c3;omega
      ·simp[c4];rw[wr (by omega)];exact next ⟨by omega,by omega,λ_=>by omega⟩
     ·simp[c1,c2,c3];rw[wr (by omega)];exact next ⟨by omega,by omega,λh=>absurd h c3⟩
  ·obtain rfl:i=xs.length:=by omega
   simp[zrn,zdp];refine zbx hs rfl rfl (hK _ ?_);simp only[decide_eq_true_eq];exact⟨λh=>⟨by omega,λj hj=>ha j hj⟩,λh=>by have:=h.1;omega⟩
end Go.Proofs.YtaifokkaaahdoaaGreatDoor
namespace Go.Abs
open Go Go.RowKit
open Go.Sort (grow putRow putCells mapBlock onCells ahead SWO PermIn SortedIn Holds)
open Go.Proofs (sortWorld ltOf CmpLays1)
variable {P:Program} {B:Nat} {w:World} {G:Gh} {H:zaa}
theorem zCM{W w':World}(hd:W.drawn≤w'.drawn)(hb:Below W.heap.size W w'):∃q os,w'=grow (W.drewN q) os:=by
 refine⟨w'.drawn-W.drawn,w'.heap.extract W.heap.size w'.heap.size,?_⟩;obtain⟨h1,h2,h3,h4,h5⟩:=hb;obtain⟨heap,tape,drawn,os,output⟩:=W;obtain⟨heap',tape',drawn',os',output'⟩:=w';simp only at *;subst h1 h2 h3;have e1:heap'=heap++heap'.extract heap.size heap'.size:=by
  refine Array.ext_getElem? λi=>?_;by_cases hi:i<heap.size
  ·rw[Array.getElem?_append_left hi,h5 i hi]
  ·rw[Array.getElem?_append_right (by omega),Array.getElem?_extract];by_cases h:i<heap'.size
   ·rw[if_pos (by omega),show heap.size+(i-heap.size)=i by omega]
   ·rw[if_neg (by omega),Array.getElem?_eq_none (by omega)]
 have e2:drawn'=drawn+(drawn'-drawn):=by omega
 simp only[grow,World.drewN];rw[←e1,←e2]
theorem HRel.alone(h:HRel B w G H)(o:Obj):Ext B w G (w.alloc o) G∧HRel B (w.alloc o) G H:=by have he:=Ext.alloc h o G.L (λ_ _=>rfl) [];simp only[List.append_nil]at he;refine⟨he,h.keep he rfl (λid gi b h1 h2=>⟨zc3 (h.lt id gi b h1 h2),rfl⟩) (λb hb=>?_)⟩;rw[zb4]at hb;exact h.fresh b (by omega)
theorem HRel.grown:∀ (os:List Obj) {w:World},HRel B w G H→Ext B w G (grow w os.toArray) G∧HRel B (grow w os.toArray) G H
 |[],w,h=>by
  have:grow w #[]=w:=by simp[grow]
  rw[show ([]:List Obj).toArray=#[] from rfl,this];exact⟨Ext.refl _ _ _,h⟩
 |o::l,w,h=>by
  obtain⟨h1,h2⟩:=h.alone o;obtain⟨h3,h4⟩:=HRel.grown l h2;have:grow w (o::l).toArray=grow (w.alloc o) l.toArray:=by rw[Go.Sort.alloc_eq_grow,Go.Sort.grow_grow];simp
  rw[this];exact⟨h1.trans h3,h4⟩
theorem zD5{α:Type}[Inhabited α](vals:α→Value)(d:Array α)(cur:Array Value)(h:d.size≤cur.size):(putCells vals 0 d cur).toList.take d.size=d.toList.map vals:=by refine List.ext_getElem (by simp[putCells];omega) λi h1 h2=>?_;simp at h2;simp[putCells,h2]
theorem HRel.sorted{α:Type}[Inhabited α](h:HRel B w G H){id e n g cap:Nat}{cs cs':List AV}(hH:H[id]?=some (.vec e 1 n cs))(hμ:G.μ[id]?=some (.own (.slice (some ⟨g,0,none⟩) n cap) 1 n))(vals:α→Value)(d:Array α)(hd:d.size=n)(hc:All2 (ARel w G) (d.toList.map vals) cs')(m:Nat)(os:Array Obj):
  Ext B w G (sortWorld vals w g 0 m d os) G∧HRel B (sortWorld vals w g 0 m d os) G (H.set id (.vec e 1 n cs')):=by
 obtain⟨_,_,⟨xs,⟨hxl,ho⟩,hxc⟩,hL0⟩:=h.ok id _ _ hH hμ;rcases ho with ⟨h1,_⟩|⟨g',cap',cur,h1,hB,hw,hcap,hcm,hsz,htk⟩
 ·cases h1
 cases h1;have h1:=h.storeV (cur':=putCells vals 0 d cur) (xs':=d.toList.map vals) hH hμ hw hB hcap hcm (by simp[putCells,hsz]) (by rw[Nat.mul_one,←hd];exact zD5 vals d cur (by omega)) (by simp[hd]) hc;obtain⟨hE1,hR1⟩:=h1;have hE2:=Ext.drew B (w.setRow g (putCells vals 0 d cur)) G ((w.setRow g (putCells vals 0 d cur)).drawn+m) (Nat.le_add_right _ _);have hR2:=hR1.drew ((w.setRow g (putCells vals 0 d cur)).drawn+m) (Nat.le_add_right _ _);obtain⟨hE3,hR3⟩:=HRel.grown os.toList hR2;have heq:sortWorld vals w g 0 m d os=grow { w.setRow g (putCells vals 0 d cur) with drawn:=(w.setRow g (putCells vals 0 d cur)).drawn+m } os.toList.toArray:=by
  have hh:w.heap.modify g (onCells (putCells vals 0 d))=(w.setRow g (putCells vals 0 d cur)).heap:=by
   unfold World.setRow;refine Array.ext_getElem? λi=>?_;simp only[Array.getElem?_modify];by_cases hi:g=i
   ·subst hi;simp[hw,onCells]
   ·simp[hi]
  have e:sortWorld vals w g 0 m d os=grow { w with heap:=w.heap.modify g (onCells (putCells vals 0 d)),drawn:=w.drawn+m } os:=rfl;rw[e,hh,Array.toArray_toList];rfl
 rw[heq];exact⟨(hE1.trans hE2).trans hE3,hR3⟩
def Lx(w:World)(G:Gh)(blk b:Nat):Nat:=if b=blk then 0 else max (G.L b) (zcm w b)
def Rd(H:zaa)(id0:Nat)(a:AV)(row:List (List AV)):Prop:=
 a=.sl row .none ∨
 (∃id off len cap size cs,a=.ms id off len cap∧H[id]?=some (.cells cs)∧off+len*size≤cs.length∧plain ((cs.drop off).take (len*size))=some row.flatten∧row.length=len∧(∀c∈row,c.length=size)∧len≤cap) ∨
 (∃id e size m cs,a=.ov id m∧id≠id0∧H[id]?=some (.vec e size m cs)∧plain cs=some row.flatten∧row.length=m∧∀c∈row,c.length=size)
theorem Rd.rel(h:HRel B w G H){id e n g cap:Nat}{cs:List AV}(hH:H[id]?=some (.vec e 1 n cs))(hμ:G.μ[id]?=some (.own (.slice (some ⟨g,0,none⟩) n cap) 1 n)){a:AV}{row:List (List AV)}(hr:Rd H id a row){v:Value}(hv:ARel w G v a):
  DRel w (Lx w G g) v (.sl row .none):=by
 obtain⟨_,_,_,hL0⟩:=h.ok id _ _ hH hμ;have hLg:G.L g=0:=hL0 g rfl;have hlev:∀b,G.L b≤Lx w G g b:=λb=>by
  unfold Lx;split
  ·rename_i hb;rw[hb,hLg];exact Nat.le_refl _
  ·exact Nat.le_max_left _ _
 have hmono:∀{v:Value} {a:AV},DRel w G.L v a→DRel w (Lx w G g) v a:=λh=>h.mono hlev λ_ _ _=>rfl;rcases hr with rfl|⟨i2,off,len,cap2,size,cs2,rfl,hH2,hfit,hp,hlen,hsz,hcap⟩|⟨i2,e2,size,m,cs2,rfl,hne,hH2,hp,hlen,hsz⟩
 ·exact hmono hv
 ·obtain⟨b,hb,rfl⟩:=hv;obtain⟨_,_,vs,_,hw,hcs⟩:=h.ok i2 _ _ hH2 hb;have hbg:b≠g:=λhbg=>by have:=h.dist i2 id _ _ b hb hμ rfl (by rw[hbg];rfl);subst this;rw[hH]at hH2;cases hH2
  subst hlen;by_cases hes:row=[]
  ·subst hes;exact .slE _ _
  ·have hl:=hcs.length;refine DRel.of_flat_at (zs:=(vs.toList.drop off).take (row.length*size)) hsz hes hcap ?_ ((zek ((hcs.drop off).take _) hp).mono λ_ _=>hmono) ?_
   ·unfold Lx;rw[if_neg hbg];refine Nat.le_trans ?_ (Nat.le_max_right _ _);simp[zcm,hw];simp at hl;omega
   ·intro j u hj;rw[List.getElem?_take]at hj;split at hj
    ·simp only[World.cell?,hw];simpa using hj
    ·cases hj
 ·obtain⟨⟨a,cap0,rfl,_⟩,v',s0,n',hμ2,_,heq⟩:=hv;obtain⟨rfl,rfl,⟨xs,hown,hcs⟩,_⟩:=h.ok i2 _ _ hH2 hμ2;obtain rfl:=heq rfl;subst hlen;by_cases hes:row=[]
  ·subst hes;exact .slE _ _
  ·have hown2:=hown;obtain⟨hl,hrow⟩:=hown2;rcases hrow with ⟨h1,h2⟩ | ⟨g2,cap2,cur,h1,h2,h3,h4,h5,h6,h7⟩
   ·cases row <;> simp_all
   ·simp at h1;obtain⟨rfl,rfl⟩:=h1;obtain⟨_,_,_,hcell⟩:=zds hown;have hbg:g2≠g:=λhbg=>hne (h.dist i2 id _ _ g2 hμ2 hμ rfl (by rw[hbg];rfl));refine DRel.of_flat_at (zs:=xs) hsz hes h4 ?_ ((zek hcs hp).mono λ_ _=>hmono) ?_
    ·unfold Lx;rw[if_neg hbg];refine Nat.le_trans ?_ (Nat.le_max_right _ _);simp only[zcm,h3,h6,Nat.zero_add];exact Nat.mul_le_mul_right _ h4
    ·intro j u hj;rw[Nat.zero_add,hcell j (by rw[←hl];exact(List.getElem?_eq_some_iff.1 hj).1)];exact hj
theorem ztO{α:Type}(d:Array α){k:Nat}(h:d.size=k):d.extract 0 k=d:=by subst h;exact Array.extract_size
theorem zDG(n:Nat):((Array.ofFn λi:Fin n=>i).toList.map Fin.val)=List.range n:=
 List.ext_getElem (by simp) λi h1 h2=>by simp only[List.getElem_map,Array.getElem_toList,Array.getElem_ofFn,List.getElem_range]
theorem zEH{α:Type}[Inhabited α](vals:α→Value)(w:World)(g m:Nat)(d:Array α)(os:Array Obj):w.heap.size≤(sortWorld vals w g 0 m d os).heap.size:=by unfold sortWorld;simp[grow]
theorem zEG{α:Type}[Inhabited α](vals:α→Value)(w:World)(g m:Nat)(d:Array α)(os:Array Obj)(a:Addr)(h1:a.block≠g)(h2:a.block<w.heap.size):(sortWorld vals w g 0 m d os).cell? a=w.cell? a:=by unfold sortWorld;rw[Go.Sort.cell?_grow _ _ _ (by rw[Go.Sort.size_putRow];exact h2),Go.Sort.cell?_putRow_other vals _ g 0 d a (Or.inl h1)];rfl
theorem zEI(h:HRel B w G H){n g f:Nat}{vals:Fin n→Value}[Inhabited (Fin n)]{rows:Nat→List (List AV)}{cf:Nat→Nat→Int}(hd:∀i:Fin n,DRel w (Lx w G g) (vals i) (.sl (rows i) .none))(hcmp:∀i j,i<n→j<n→ACalls P f [.sl (rows i) .none,.sl (rows j) .none] [] λr _=>r=.int .i64 (cf i j)):CmpLays1 P f #[] vals (λi j=>cf i j) g 0 n w:=by
 intro m os dk hdk x y;have hL:∀b,(sortWorld vals w g 0 m dk os).heap.size≤b→Lx w G g b=0:=λb hb=>by
  have:=zEH vals w g m dk os;unfold Lx;split
  ·rfl
  ·rw[h.fresh b (by omega)];simp only[zcm];rw[Array.getElem?_eq_none (by omega)];rfl
 have hmono:∀{v:Value} {a:AV},DRel w (Lx w G g) v a→DRel (sortWorld vals w g 0 m dk os) (Lx w G g) v a:=λhx=>hx.mono (λ_=>Nat.le_refl _) λb off ho=>by
  refine zEG vals w g m dk os ⟨b,off,none⟩ ?_ ?_
  ·intro hb;have hb:b=g:=hb;simp[Lx,hb]at ho
  ·show b<w.heap.size;refine Nat.lt_of_not_le λhb=>?_;unfold Lx at ho;split at ho
   ·omega
   ·rw[h.fresh b (by omega)]at ho;simp only[zcm]at ho;rw[Array.getElem?_eq_none (by omega)]at ho;simp at ho
 refine (hcmp x y x.2 y.2 (sortWorld vals w g 0 m dk os).heap.size (sortWorld vals w g 0 m dk os) ⟨Lx w G g,[]⟩ #[vals x,vals y]
  ⟨rfl,λ_ _ _ h=>by simp at h,λ_ _ _ _ _ h=>by simp at h,hL,λ_ _ _ h=>by simp at h,Nat.le_refl _⟩ ⟨hmono (hd x),hmono (hd y),trivial⟩).mono ?_
 rintro e w' ⟨v,r,H',G',rfl,h2,_,h4,rfl⟩;have h4:v=.int .i64 (cf x y):=h4;subst h4;exact⟨rfl,zCM (h2.dr.le (by simp[zez])) h2.below⟩
theorem ACalls.sortFunc{ρ:Go.Shelf.Ren}(L:Go.Proofs.SlLaysF.n6 P ρ){id e n f:Nat}{cs:List AV}(hH:H[id]?=some (.vec e 1 n cs))(hn:n<4611686018427387904)(rows:Nat→List (List AV))(cf:Nat→Nat→Int)(hrd:∀ i (h:i<cs.length),Rd H id cs[i] (rows i))(eg:∀ args w,(callFunc f args).run P w=.ok (.enter f args) w)(hcmp:∀ i j,i<n→j<n→ACalls P f [.sl (rows i) .none,.sl (rows j) .none] [] λr _=>r=.int .i64 (cf i j))(hO1:∀ i,i<n→¬ cf i i<0)(hO2:∀ i j k,i<n→j<n→k<n→cf i j<0→cf j k<0→cf i k<0)(hO3:∀ i j k,i<n→j<n→k<n→¬ cf i j<0→¬ cf j k<0→¬ cf i k<0){K:Kt}(hK:∀ p:List Nat,p.Perm (List.range n)→(∀ a b (ha:a<p.length) (hb:b<p.length),a<b→¬ cf p[b] p[a]<0)→K (.tup []) (H.set id (.vec e 1 n (p.map λi=>cs.getD i .unk)))):
  ACalls P (ρ.f 6) [.ov id n,.fn f []] H K:=by
 rintro B w G ⟨vs⟩ hR hv
 match vs,hv with
 |[v1,v2],⟨h1,h2,_⟩=>
 obtain⟨⟨a0,cap0,rfl,_⟩,v',s0,n',hμ,hle,heq⟩:=h1;obtain⟨ws,rfl,hws⟩:=h2;have hws:ws=#[]:=by
  cases hwl:ws.toList with
  |nil=>exact Array.toList_inj.1 hwl
  |cons x l=>rw[hwl]at hws;exact hws.elim
 subst hws;obtain⟨rfl,rfl,⟨xs,hown,hcs⟩,hL0⟩:=hR.ok id _ _ hH hμ;obtain rfl:=heq rfl;have hxl:=hown.1;have hcl:=hcs.length;rw[Nat.mul_one]at hxl
 match n,hxl,hH,hn,hcmp,hO1,hO2,hO3,hK,hμ,hown with
 |0,hxl,hH,hn,hcmp,hO1,hO2,hO3,hK,hμ,hown=>
  refine(Go.Proofs.AnyF.slices_SortFunc_none (P:=P) (ρ:=ρ) { L with } a0 cap0 _ w).mono ?_;rintro e' w' ⟨rfl,rfl⟩;have hc:cs=[]:=by
   cases cs with
   |nil=>rfl
   |cons x l=>simp at hcl;omega
  subst hc;have:=hK [] (by simp) (by simp);refine⟨_,.tup [],_,G,rfl,Ext.refl _ _ _,?_,⟨#[],rfl,trivial⟩,this⟩;have hs:H.set id (.vec e 1 0 [])=H:=by
   refine List.ext_getElem? λi=>?_;rw[List.getElem?_set];split
   ·rename_i hi;subst hi;rw[if_pos (List.getElem?_eq_some_iff.1 hH).1,hH]
   ·rfl
  simpa[hs]using hR
 |n+1,hxl,hH,hn,hcmp,hO1,hO2,hO3,hK,hμ,hown=>
  obtain⟨_,ho⟩:=hown;rcases ho with ⟨h1,h0⟩|⟨g,cap,cur,h1,hB,hw,hcap,hcm,hsz,htk⟩
  ·omega
  cases h1;have hwl:g<w.heap.size:=(Array.getElem?_eq_some_iff.1 hw).1;let vals:Fin (n+1)→Value:=λi=>xs[i.1]'(by rw[hxl];exact i.2);have hval:∀i:Fin (n+1),ARel w G (vals i) (cs[i.1]'(by rw[←hcl,hxl];exact i.2)):=λi=>by obtain⟨x,hx,hr⟩:=All2.get hcs (List.getElem?_eq_getElem (by rw[←hcl,hxl];exact i.2:i.1<cs.length));rw[List.getElem?_eq_getElem (by rw[hxl];exact i.2)]at hx;cases hx;exact hr
  have hdr:∀i:Fin (n+1),DRel w (Lx w G g) (vals i) (.sl (rows i) .none):=λi=>(hrd i.1 (by rw[←hcl,hxl];exact i.2)).rel hR hH hμ (hval i);have hone:Go.Proofs.OneCell vals:=λi=>by have:=hdr i;generalize vals i=v at *;generalize rows i.1=r at *;cases this <;> rfl
  have hlays:=zEI (P:=P) (f:=f) (n:=n+1) hR hdr hcmp;let d:Array (Fin (n+1)):=Array.ofFn λi=>i
  have hds:d.size=n+1:=by simp[d]
  have hholds:Holds vals w g 0 d:=by
   intro j hj;rw[hds]at hj;have hc:cur[j]?=some (vals ⟨j,hj⟩):=by have:xs[j]?=some (vals ⟨j,hj⟩):=List.getElem?_eq_getElem _;rw[←htk,Nat.mul_one,List.getElem?_take,if_pos hj]at this;simpa using this
   refine⟨?_,?_⟩
   ·rw[Nat.zero_add];have hdj:d[j]! = ⟨j,hj⟩:=by rw[getElem!_pos d j (by rw[hds];exact hj)];simp[d]
    rw[hdj];simp[World.cell?,hw,hc]
   ·simp[World.frozen?,hw]
  have hO:SWO (ltOf λi j:Fin (n+1)=>cf i j):=⟨λx=>by simp only[ltOf,decide_eq_false_iff_not];exact hO1 x x.2,
   λx y z h1 h2=>by simp only[ltOf,decide_eq_true_eq]at *;exact hO2 x y z x.2 y.2 z.2 h1 h2,
   λx y z h1 h2=>by simp only[ltOf,decide_eq_false_iff_not]at *;exact hO3 x y z x.2 y.2 z.2 h1 h2⟩
  have hmain:=Go.Proofs.Any.slices_SortFunc (P:=P) (ρ:=ρ) L vals hone (λi j=>cf i j) hO f #[] g 0 cap0 d w eg (by rw[hds];exact hlays) hholds hwl (by rw[hds];exact hn);rw[hds]at hmain;refine hmain.mono ?_;rintro e' w' ⟨rfl,d',m,os,hp,hsrt,rfl⟩;obtain⟨hp1,_,hp3⟩:=hp;have hds':d'.size=n+1:=hp1.trans hds;have hpm:(d'.toList.map Fin.val).Perm (List.range (n+1)):=by
   have h1:d'.toList.Perm d.toList:=by have e1:(d'.extract 0 (n+1))=d':=ztO d' hds';have e2:(d.extract 0 (n+1))=d:=ztO d hds;rwa [e1,e2]at hp3
   exact(h1.map Fin.val).trans (List.Perm.of_eq (zDG _))
  have hS:=hR.sorted hH hμ vals d' hds' (cs':=(d'.toList.map Fin.val).map λi=>cs.getD i .unk) (All2.of_get (by simp) λi x y hx hy=>by
   simp only[List.map_map,List.getElem?_map,Option.map_eq_some_iff]at hx hy;obtain⟨k,hk,rfl⟩:=hx;obtain⟨k',hk',rfl⟩:=hy;rw[hk]at hk';cases hk';have hlt:k.1<cs.length:=by rw[←hcl,hxl];exact k.2
   have:=hval k;simp only[Function.comp_def,List.getD_eq_getElem?_getD,List.getElem?_eq_getElem hlt,Option.getD_some];exact this) m os
  refine⟨_,.tup [],_,G,rfl,hS.1,hS.2,⟨#[],rfl,trivial⟩,hK _ hpm λa b ha hb hab=>?_⟩;simp only[List.length_map,Array.length_toList]at ha hb;have:=hsrt a b (Nat.zero_le _) hab (by omega);rw[getElem!_pos d' a ha,getElem!_pos d' b hb]at this;simp only[ltOf,decide_eq_false_iff_not]at this;simpa using this
end Go.Abs
namespace Go.Proofs.YtaifokkaaahdoaaGreatDoor
open Go Go.Shelf Go.Abs
def zF9:Go.Shelf.Ren:=⟨λ| 6=>49|15=>91|14=>90|28=>127|29=>128|20=>119|21=>120|22=>121|23=>122|24=>123|25=>124|26=>125|27=>126|46=>164|47=>165|48=>166|49=>167|50=>168|57=>187|n=>n,λ| 22=>47|24=>26|25=>86|3=>3|39=>133|0=>0|53=>90|55=>89|4=>4|46=>166|45=>165|50=>122|5=>5|9=>9|66=>197|70=>64|76=>232|77=>233|n=>n,λ| n=>n⟩
theorem zF8:Go.Proofs.SlLaysF.n6 tP zF9:={
 mixed:=by kernel_rfl
 f6:=⟨Tryz.f49.name,by decide,Tryz.func49.trans (congrArg some (by kernel_rfl))⟩
 f14:=⟨Tryz.f90.name,by decide,Tryz.func90.trans (congrArg some (by kernel_rfl))⟩
 f15:=Tryz.func91.trans (congrArg some (by kernel_rfl))
 f20:=⟨Tryz.f119.name,by decide,Tryz.func119.trans (congrArg some (by kernel_rfl))⟩
 f21:=⟨Tryz.f120.name,by decide,Tryz.func120.trans (congrArg some (by kernel_rfl))⟩
 f22:=⟨Tryz.f121.name,by decide,Tryz.func121.trans (congrArg some (by kernel_rfl))⟩
 f23:=⟨Tryz.f122.name,by decide,Tryz.func122.trans (congrArg some (by kernel_rfl))⟩
 f24:=⟨Tryz.f123.name,by decide,Tryz.func123.trans (congrArg some (by kernel_rfl))⟩
 f25:=⟨Tryz.f124.name,by decide,Tryz.func124.trans (congrArg some (by kernel_rfl))⟩
 f26:=⟨Tryz.f125.name,by decide,Tryz.func125.trans (congrArg some (by kernel_rfl))⟩
 f27:=⟨Tryz.f126.name,by decide,Tryz.func126.trans (congrArg some (by kernel_rfl))⟩
 f28:=Tryz.func127.trans (congrArg some (by kernel_rfl))
 f29:=Tryz.func128.trans (congrArg some (by kernel_rfl))
 f46:=⟨Tryz.f164.name,by decide,Tryz.func164.trans (congrArg some (by kernel_rfl))⟩
 f47:=Tryz.func165.trans (congrArg some (by kernel_rfl))
 f48:=Tryz.func166.trans (congrArg some (by kernel_rfl))
 f49:=⟨Tryz.f167.name,by decide,Tryz.func167.trans (congrArg some (by kernel_rfl))⟩
 f50:=⟨Tryz.f168.name,by decide,Tryz.func168.trans (congrArg some (by kernel_rfl))⟩
 f57:=⟨Tryz.f187.name,by decide,Tryz.func187.trans (congrArg some (by kernel_rfl))⟩
 t0:=Tryz.underlying0
 a0:=Tryz.isAgg0
 z0:=Tryz.sizeOf0
 v0:=Tryz.zeroValue0
 t3:=Tryz.underlying3
 a3:=Tryz.isAgg3
 z3:=Tryz.sizeOf3
 v3:=Tryz.zeroValue3
 t4:=Tryz.underlying4
 a4:=Tryz.isAgg4
 z4:=Tryz.sizeOf4
 v4:=Tryz.zeroValue4
 t5:=Tryz.underlying5
 a5:=Tryz.isAgg5
 z5:=Tryz.sizeOf5
 v5:=Tryz.zeroValue5
 t9:=Tryz.underlying9
 a9:=Tryz.isAgg9
 z9:=Tryz.sizeOf9
 v9:=Tryz.zeroValue9
 t22:=Tryz.underlying47
 a22:=Tryz.isAgg47
 z22:=Tryz.sizeOf47
 v22:=Tryz.zeroValue47
 a24:=Tryz.isAgg26
 z24:=Tryz.sizeOf26
 t25:=Tryz.underlying86
 a25:=Tryz.isAgg86
 z25:=Tryz.sizeOf86
 v25:=Tryz.zeroValue86
 t39:=Tryz.underlying133
 a39:=Tryz.isAgg133
 z39:=Tryz.sizeOf133
 v39:=Tryz.zeroValue133
 t45:=Tryz.underlying165
 a45:=Tryz.isAgg165
 z45:=Tryz.sizeOf165
 v45:=Tryz.zeroValue165
 t46:=Tryz.underlying166
 a46:=Tryz.isAgg166
 z46:=Tryz.sizeOf166
 v46:=Tryz.zeroValue166
 t50:=Tryz.underlying122
 a50:=Tryz.isAgg122
 z50:=Tryz.sizeOf122
 v50:=Tryz.zeroValue122
 t53:=Tryz.underlying90
 a53:=Tryz.isAgg90
 z53:=Tryz.sizeOf90
 v53:=Tryz.zeroValue90
 t55:=Tryz.underlying89
 a55:=Tryz.isAgg89
 z55:=Tryz.sizeOf89
 v55:=Tryz.zeroValue89
 t66:=Tryz.underlying197
 a66:=Tryz.isAgg197
 z66:=Tryz.sizeOf197
 v66:=Tryz.zeroValue197
 t70:=Tryz.underlying64
 a70:=Tryz.isAgg64
 z70:=Tryz.sizeOf64
 v70:=Tryz.zeroValue64
 t76:=Tryz.underlying232
 a76:=Tryz.isAgg232
 z76:=Tryz.sizeOf232
 v76:=Tryz.zeroValue232
 t77:=Tryz.underlying233
 a77:=Tryz.isAgg233
 z77:=Tryz.sizeOf233
 v77:=Tryz.zeroValue233 }
end Go.Proofs.YtaifokkaaahdoaaGreatDoor
namespace Go.Proofs.YtaifokkaaahdoaaGreatDoor
open Go Go.Abs
def cle(a b:List VT):Prop:=¬VT.cmpL b a<0
def llC(l:List (List VT)):List AV:=l.map λr=>.sl (VT.css r) .none
theorem zC9(l:List (List VT)):(llA l).flatten=llC l:=by
 unfold llA llC;induction l with
 |nil=>rfl
 |cons r l ih=>rw[List.map_cons,List.flatten_cons,ih];rfl
@[simp] theorem zTZ(l:List (List VT)):(llC l).length=l.length:=by simp[llC]
theorem zDa(a b:List (List VT)):llC (a++b)=llC a++llC b:=by simp[llC]
theorem zvv:∀ l:List (List VT),plain (llC l)=some (llC l)
 |[]=>rfl
 |r::l=>by have ih:=zvv l;unfold llC at ih ⊢;rw[List.map_cons,plain,ih];rfl
theorem zDb(m:Nat)(l:List (List VT)):(llC l).all (AV.scA m)=true:=by simp[llC,AV.scA,AV.scB]
theorem zC8{l:List (List VT)}:∀c∈llA l,c.length=1:=λc hc=>by obtain⟨r,_,rfl⟩:=List.mem_map.1 hc;rfl
theorem zC6{l:List (List VT)}(hl:l.length≤1000000)(hr:∀ r∈l,VT.nodesL r≤1000000){H J:zaa}(hs:HSc H)(hJ:HSc (H++J)){K:Kt}(hK:∀ L,L.Perm l→L.Pairwise cle→K (.tup [.sl (llA L) .none,.int .i64 0]) H):
  zlj .snil (.sl (llA l) .none) (.int .i64 l.length) (.int .i64 0) (H++J) (Out H.length K):=by
 refine ALoop.vec 16 zbd 1 rfl ?_;obtain⟨A,hA⟩:∃A,A=H++J:=⟨_,rfl⟩;have hAH:H.length≤A.length:=by rw[hA];simp
 rw[←hA]at hJ ⊢;obtain⟨N,hN⟩:∃N,N=A.length:=⟨_,rfl⟩;rw[←hN];show zlj (.ov N 0) (.sl (llA l) .none) (.int .i64 l.length) (.int .i64 0) (A++[.vec zbd 1 0 []]) (Out H.length K);have hg:∀k cs J',(A++(AB.vec zbd 1 k cs::J'))[N]?=some (.vec zbd 1 k cs):=λk cs J'=>by rw[hN];simp
 have hset:∀k cs J' (x:AB),(A++(AB.vec zbd 1 k cs::J')).set N x=A++(x::J'):=λk cs J' x=>by rw[hN,List.set_append_right _ _ (Nat.le_refl _)];simp
 have hG:∀k,HSc (A++[.vec zbd 1 k (llC (l.take k))]):=λk=>hJ.snoc (by simp[AB.sc,zDb]);refine zJr (Inv:=λq t16 t83 H'=>∃i:Nat,i≤l.length∧l.length-i=q∧t83=.int .i64 i∧t16=.ov N i∧H'=A++[.vec zbd 1 i (llC (l.take i))]) l.length ?_ ?_
 ·intro _;exact⟨0,by omega,rfl,rfl,rfl,rfl⟩
 ·rintro q t16 t83 H' ⟨i,hi,rfl,rfl,rfl,rfl⟩ hsc hlen hsF Kb hKb;by_cases hlt:i<l.length
  ·have hgi:∀ h:i<(llA l).length,(llA l)[i]'h=[.sl (VT.css l[i]) .none]:=λh=>by simp[llA]
   simp[zqK,hlt,hgi];refine zMK _ _ (Nat.le_refl _) (hr _ (List.getElem_mem hlt)) _ _ ?_;rw[ztm];simp only[zay,zbb,za0,hg];refine⟨by simp,⟨⟨trivial,trivial,trivial⟩,by simp;omega,by simp;omega⟩,?_⟩;rw[hset];have hst:llC (l.take i)++[[AV.sl (VT.css l[i]) .none]].flatten=llC (l.take (i+1)):=by rw[List.take_succ_eq_append_getElem hlt,zDa];rfl
   rw[hst];simp;rw[wr (by omega)];refine hKb _ _ ⟨l.length-(i+1),by omega,Back.here (by simp) (hG _) ?_ ⟨_,_,rfl,i+1,by omega,rfl,rfl,rfl,rfl⟩⟩;simp[zlg,ux,AV.sc,AV.scA,AV.scB,AV.scV,hN]
  ·obtain rfl:i=l.length:=by omega
   simp[zqK];refine ACalls.sortFunc zF8 (hg _ _ _) (by omega) (λi=>VT.css (l.getD i [])) (λi j=>VT.cmpL (l.getD i []) (l.getD j [])) (λi hi=>?_) (λargs w=>rfl) (λi j hi hj=>?_) (λi hi=>?_) (λi j k hi hj hk h1 h2=>?_) (λi j k hi hj hk h1 h2=>?_) (λp hp hsort=>?_)
   ·have hil:i<l.length:=by simpa using hi
    have:(llC l)[i]'(by simpa using hil)=.sl (VT.css (l.getD i [])) .none:=by simp[llC,List.getD_eq_getElem?_getD,hil]
    refine .inl ?_;rw[←this]
   ·have ei:l.getD i []=l[i]:=by simp[List.getD_eq_getElem?_getD,hi]
    have ej:l.getD j []=l[j]:=by simp[List.getD_eq_getElem?_getD,hj]
    rw[ei,ej];have m1:=hr _ (List.getElem_mem hi);have hll:=VT.len_le l[i];refine zMO _ _ (by omega) (λx hx=>?_) _ _ rfl;have:=zoT hx;omega
   ·have:=VT.cmpL_anti (l.getD i []) (l.getD i []);omega
   ·have:=VT.cmpL_tri (l.getD i []) (l.getD j []) (l.getD k []);unfold Tri at this;omega
   ·have:=VT.cmpL_tri (l.getD k []) (l.getD j []) (l.getD i []);have a1:=VT.cmpL_anti (l.getD i []) (l.getD j []);have a2:=VT.cmpL_anti (l.getD j []) (l.getD k []);have a3:=VT.cmpL_anti (l.getD i []) (l.getD k []);unfold Tri at this;omega
   ·have hplen:p.length=l.length:=by simpa using hp.length_eq
    have hpm:∀i∈p,i<l.length:=λi hi=>by simpa using hp.subset hi
    have hrs:(p.map λi=>l.getD i []).Perm l:=by
     have h1:=hp.map λi=>l.getD i [];have h2:(List.range l.length).map (λi=>l.getD i [])=l:=List.ext_getElem (by simp) λi h1 h2=>by simp[List.getD_eq_getElem?_getD,h2]
     rwa [h2]at h1
    have hpw:(p.map λi=>l.getD i []).Pairwise cle:=by rw[List.pairwise_iff_getElem];intro a b ha hb hab;simp only[List.getElem_map];exact hsort a b (by simpa using ha) (by simpa using hb) hab
    obtain⟨L,hL⟩:∃L,L=p.map λi=>l.getD i []:=⟨_,rfl⟩;rw[←hL]at hrs hpw;have hcs:(p.map λi=>(llC l).getD i .unk)=llC L:=by rw[hL];unfold llC;rw[List.map_map];refine List.map_congr_left λi hi=>?_;have:=hpm i hi;simp[List.getD_eq_getElem?_getD,this]
    rw[hcs,hset];have hLl:L.length=l.length:=by rw[hL];simp[hplen]
    refine⟨⟨rfl,rfl⟩,?_⟩;exact⟨.tup [.sl (llA L) .none,.int .i64 0],H,J++[.vec zbd 1 l.length (llC L)],by rw[hA];simp,Nat.le_refl _,hs,.tup ⟨.vfz N zbd 1 l.length (llC L) (llA L) (by omega) (by rw[hN];simp) (by rw[zC9,zvv]) (by simp[hLl]) zC8,.wk .rfl' rfl rfl,trivial⟩,hK L hrs hpw⟩
theorem joinL_iff{a:List VT}{b:List (List VT)}{r:List VT}:r∈za4 a b↔∃v∈a,∃s∈b,r=v::s:=by
 unfold za4;simp only[List.mem_flatMap,List.mem_map];constructor
 ·rintro⟨v,hv,s,hs,rfl⟩;exact⟨v,hv,s,hs,rfl⟩
 ·rintro⟨v,hv,s,hs,rfl⟩;exact⟨v,hv,s,hs,rfl⟩
theorem lsL_cons{g:VT→Nat→List VT}{t:VT}{ts:List VT}{n:Nat}{r:List VT}:r∈lsL g (t::ts) n↔∃s,s<n∧∃v∈g t (s+1),∃q∈lsL g ts (n-(s+1)),r=v::q:=by
 rw[lsL,List.mem_flatMap];constructor
 ·rintro⟨s,hs,hr⟩;obtain⟨v,hv,q,hq,rfl⟩:=joinL_iff.1 hr;exact⟨s,List.mem_range.1 hs,v,hv,q,hq,rfl⟩
 ·rintro⟨s,hs,v,hv,q,hq,rfl⟩;exact⟨s,List.mem_range.2 hs,joinL_iff.2 ⟨v,hv,q,hq,rfl⟩⟩
theorem arL_iff{g:Nat→List VT}{n:Nat}{r:List VT}:r∈arL g (n+1)↔∃s,s<n+1∧∃v∈g (s+1),∃q∈arL g (n+1-(s+1)),r=v::q:=by
 rw[zgY,List.mem_flatMap];constructor
 ·rintro⟨s,hs,hr⟩;obtain⟨v,hv,q,hq,rfl⟩:=joinL_iff.1 hr;exact⟨s,List.mem_range.1 hs,v,hv,q,hq,rfl⟩
 ·rintro⟨s,hs,v,hv,q,hq,rfl⟩;exact⟨s,List.mem_range.2 hs,joinL_iff.2 ⟨v,hv,q,hq,rfl⟩⟩
theorem zn5{g:VT→Nat→List VT}{N:Nat}(hg:∀ t s,s≤N→∀ v∈g t s,v.nodes=s):∀ (ts:List VT) (n:Nat),n≤N→∀ r∈lsL g ts n,VT.nodesL r=n
 |[],n,_,r,hr=>by
  rw[lsL]at hr;split at hr
  ·simp at hr;subst hr;simp[VT.nodesL];omega
  ·simp at hr
 |t::ts,n,hn,r,hr=>by obtain⟨s,hs,v,hv,q,hq,rfl⟩:=lsL_cons.1 hr;rw[VT.nodesL,hg t (s+1) (by omega) v hv,zn5 hg ts _ (by omega) q hq];omega
theorem zBH{g:Nat→List VT}{N:Nat}(hg:∀s,s≤N→∀v∈g s,v.nodes=s):∀(n:Nat),n≤N→∀r∈arL g n,VT.nodesL r=n:=by
 intro n;induction n using Nat.strongRecOn with
 |ind n ih=>
  intro hn r hr;cases n with
  |zero=>rw[ziF]at hr;simp at hr;subst hr;rfl
  |succ n=>obtain⟨s,hs,v,hv,q,hq,rfl⟩:=arL_iff.1 hr;rw[VT.nodesL,hg (s+1) (by omega) v hv,ih _ (by omega) (by omega) q hq];omega
theorem zh0(data:List Dat)(xs:List Int):∀(n:Nat) (t:VT),∀v∈vV data xs t n,v.nodes=n:=by
 intro n;induction n using Nat.strongRecOn with
 |ind n ih=>
  intro t v hv;cases n with
  |zero=>rw[zh1]at hv;simp at hv
  |succ n=>
   rw[zfH]at hv;split at hv
   ·split at hv
    ·simp at hv;subst hv;simp[VT.nodes,VT.nodesL];omega
    ·simp at hv
   ·split at hv
    ·split at hv
     ·simp at hv;rcases hv with rfl|rfl <;> simp[VT.nodes,VT.nodesL] <;> omega
     ·simp at hv
    ·split at hv
     ·split at hv
      ·obtain⟨x,_,rfl⟩:=List.mem_map.1 hv;simp[VT.nodes,VT.nodesL];omega
      ·simp at hv
     ·split at hv
      ·obtain⟨r,hr,rfl⟩:=List.mem_map.1 hv;have:=zBH (N:=n) (λs hs v hv=>ih s (by omega) _ v hv) n (Nat.le_refl _) r hr;simp[VT.nodes,this]
      ·obtain⟨w,hw,hv⟩:=List.mem_flatMap.1 hv;obtain⟨r,hr,rfl⟩:=List.mem_map.1 hv;have:=zn5 (N:=n) (λt s hs v hv=>ih s (by omega) t v hv) w.2 n (Nat.le_refl _) r hr;simp[VT.nodes,this]
theorem zjS{α β:Type}{l:List α}{f:α→List β}(hl:l.Pairwise λa b=>∀x∈f a,∀y∈f b,x≠y)(hf:∀a∈l,(f a).Nodup):(l.flatMap f).Nodup:=by unfold List.Nodup;rw[List.pairwise_flatMap];exact⟨hf,hl⟩
theorem zjT{α β:Type}{l:List α}{f:α→β}(hl:l.Nodup)(hf:∀a b,f a=f b→a=b):(l.map f).Nodup:=by unfold List.Nodup at *;rw[List.pairwise_map];exact hl.imp λh e=>h (hf _ _ e)
theorem zuz{a:List VT}{b:List (List VT)}(ha:a.Nodup)(hb:b.Nodup):(za4 a b).Nodup:=by refine zjS (ha.imp λ{x y} h r hr q hq e=>?_) λv _=>zjT hb λx y e=>(List.cons.inj e).2;obtain⟨r',_,rfl⟩:=List.mem_map.1 hr;obtain⟨q',_,rfl⟩:=List.mem_map.1 hq;exact h (List.cons.inj e).1
theorem zuM{g:VT→Nat→List VT}{N:Nat}(hg:∀ t s,s≤N→∀ v∈g t s,v.nodes=s)(hn:∀ t s,s≤N→(g t s).Nodup):∀ (ts:List VT) (n:Nat),n≤N→(lsL g ts n).Nodup
 |[],n,_=>by rw[lsL];split <;> simp
 |t::ts,n,h=>by
  rw[lsL];refine zjS (List.pairwise_lt_range.imp_of_mem λ{x y} hx hy hxy r hr q hq e=>?_) λs hs=>?_
  ·have hx':=List.mem_range.1 hx;have hy':=List.mem_range.1 hy;obtain⟨v,hv,r',_,rfl⟩:=joinL_iff.1 hr;obtain⟨w,hw,q',_,rfl⟩:=joinL_iff.1 hq;have e:=(List.cons.inj e).1;subst e;have h1:=hg t (x+1) (by omega) v hv;have h2:=hg t (y+1) (by omega) v hw;omega
  ·have:=List.mem_range.1 hs;exact zuz (hn t _ (by omega)) (zuM hg hn ts _ (by omega))
theorem zBI{g:Nat→List VT}{N:Nat}(hg:∀s,s≤N→∀v∈g s,v.nodes=s)(hn:∀s,s≤N→(g s).Nodup):∀(n:Nat),n≤N→(arL g n).Nodup:=by
 intro n;induction n using Nat.strongRecOn with
 |ind n ih=>
  intro h;cases n with
  |zero=>rw[ziF];simp
  |succ n=>
   rw[zgY];refine zjS (List.pairwise_lt_range.imp_of_mem λ{x y} hx hy hxy r hr q hq e=>?_) λs hs=>?_
   ·have hx':=List.mem_range.1 hx;have hy':=List.mem_range.1 hy;obtain⟨v,hv,r',_,rfl⟩:=joinL_iff.1 hr;obtain⟨w,hw,q',_,rfl⟩:=joinL_iff.1 hq;have e:=(List.cons.inj e).1;subst e;have h1:=hg (x+1) (by omega) v hv;have h2:=hg (y+1) (by omega) v hw;omega
   ·have:=List.mem_range.1 hs;exact zuz (hn _ (by omega)) (ih _ (by omega) (by omega))
theorem zF2(data:List Dat)(t:VT):(zaS data t).Pairwise λa b=>a.1≠b.1:=by
 obtain⟨k,n,ks⟩:=t;rw[zaS];split
 ·simp
 ·split
  ·rw[List.pairwise_filterMap];refine List.pairwise_lt_range.imp λ{x y} hxy a ha b hb e=>?_;cases hfx:zbi data (.mk k n ks) (x:Int) with
   |none=>rw[hfx]at ha;cases ha
   |some l=>
    cases hfy:zbi data (.mk k n ks) (y:Int) with
    |none=>rw[hfy]at hb;cases hb
    |some m=>rw[hfx]at ha;rw[hfy]at hb;simp at ha hb;subst ha hb;simp at e;omega
  ·simp
theorem zBN:∀{xs:List Int},xs.Pairwise (· < ·)→xs.Nodup:=λh=>h.imp λh e=>by omega
theorem zFP(data:List Dat){xs:List Int}(hx:xs.Nodup):∀(n:Nat) (t:VT),(vV data xs t n).Nodup:=by
 intro n;induction n using Nat.strongRecOn with
 |ind n ih=>
  intro t;cases n with
  |zero=>rw[zh1];simp
  |succ n=>
   rw[zfH];split
   ·split <;> simp
   ·split
    ·split <;> simp
    ·split
     ·split
      ·exact zjT hx λa b e=>(VT.mk.inj e).2.1
      ·simp
     ·split
      ·exact zjT (zBI (N:=n) (λs hs=>zh0 data xs s _) (λs hs=>ih s (by omega) _) n (Nat.le_refl _)) λa b e=>(VT.mk.inj e).2.2
      ·refine zjS ((zF2 data t).imp λ{a b} h r hr q hq e=>?_) λw _=>zjT (zuM (N:=n) (λt s hs=>zh0 data xs s t) (λt s hs=>ih s (by omega) t) w.2 n (Nat.le_refl _)) λa b e=>(VT.mk.inj e).2.2;obtain⟨r',_,rfl⟩:=List.mem_map.1 hr;obtain⟨q',_,rfl⟩:=List.mem_map.1 hq;exact h (VT.mk.inj e).2.1
theorem zuK{data:List Dat}{g:VT→Nat→List VT}{N:Nat}:∀ (ts:List VT),(∀ t∈ts,∀ s,s≤N→∀ v∈g t s,zax data v t=true)→∀ (n:Nat),n≤N→∀ r∈lsL g ts n,zbX data r ts=true
 |[],hg,n,hn,r,hr=>by
  rw[lsL]at hr;split at hr
  ·simp at hr;subst hr;rfl
  ·simp at hr
 |t::ts,hg,n,hn,r,hr=>by obtain⟨s,hs,v,hv,q,hq,rfl⟩:=lsL_cons.1 hr;rw[zbX,Bool.and_eq_true];exact⟨hg t (by simp) (s+1) (by omega) v hv,zuK ts (λt ht=>hg t (by simp[ht])) _ (by omega) q hq⟩
theorem zBF{data:List Dat}{t:VT}{g:Nat→List VT}{N:Nat}(hg:∀s,s≤N→∀v∈g s,zax data v t=true):∀(n:Nat),n≤N→∀r∈arL g n,zcc data r t=true∧r.length≤n:=by
 intro n;induction n using Nat.strongRecOn with
 |ind n ih=>
  intro hn r hr;cases n with
  |zero=>rw[ziF]at hr;simp at hr;subst hr;exact⟨rfl,by simp⟩
  |succ n=>obtain⟨s,hs,v,hv,q,hq,rfl⟩:=arL_iff.1 hr;obtain⟨h1,h2⟩:=ih _ (by omega) (by omega) q hq;rw[zcc,Bool.and_eq_true,List.length_cons];exact⟨⟨hg (s+1) (by omega) v hv,h1⟩,by omega⟩
theorem zFO{data:List Dat}(hD:zaE data=true){xs:List Int}(hx:∀x∈xs,-1099511627776≤x∧x≤1099511627776):∀(n:Nat),n≤4096→∀(t:VT),zaD data 0 t=true→∀v∈vV data xs t n,zax data v t=true:=by
 intro n;induction n using Nat.strongRecOn with
 |ind n ih=>
  intro hn t ht v hv;cases n with
  |zero=>rw[zh1]at hv;simp at hv
  |succ n=>
   obtain⟨k,m,ks⟩:=t;rw[zfH]at hv;have hkd:(VT.mk k m ks).kind=k:=rfl;rw[hkd]at hv;by_cases h3:k=3
   ·subst h3;simp at hv;obtain⟨_,rfl⟩:=hv;simp[zax]
   by_cases h2:k=2
   ·subst h2;simp at hv;obtain⟨_,rfl|rfl⟩:=hv <;> simp[zax]
   by_cases h1:k=1
   ·subst h1;simp at hv;obtain⟨_,x,hxm,rfl⟩:=hv;obtain⟨a,b⟩:=hx x hxm;simp[zax,a,b]
   rw[if_neg h3,if_neg h2,if_neg h1]at hv;by_cases h7:k=7
   ·subst h7;rw[if_pos rfl]at hv;obtain⟨r,hr,rfl⟩:=List.mem_map.1 hv;have hv2:=ze7 ht;have hs:=zdz ht;unfold okT at hs;rw[zaH,Bool.and_eq_true]at hs;have hs:=hs.1;simp[zaR]at hs;have hl:0<ks.length:=by omega
    have ha:zb9 (.mk 7 m ks)=ks.getD 0 (.mk 0 0 []):=rfl;have hav:zaD data 0 (ks.getD 0 (.mk 0 0 []))=true:=by rw[List.getD_eq_getElem?_getD,List.getElem?_eq_getElem hl];exact hv2 _ (List.getElem_mem hl)
    rw[ha]at hr;obtain⟨q1,q2⟩:=zBF (N:=n) (λs hs v hv=>ih s (by omega) (by omega) _ hav v hv) n (Nat.le_refl _) r hr;have q3:r.length≤4096:=by omega
    simp only[zax,q1];simp[q3]
   rw[if_neg h7]at hv;obtain⟨w,hw,hv⟩:=List.mem_flatMap.1 hv;obtain⟨r,hr,rfl⟩:=List.mem_map.1 hv;have hwv:=zkn hD ht hw;have hL:=zuK (data:=data) (N:=n) w.2 (λt ht s hs v hv=>ih s (by omega) (by omega) t (hwv t ht) v hv) n (Nat.le_refl _) r hr;rw[zaS]at hw;split at hw
   ·rename_i h68;simp at hw;subst hw;rcases h68 with rfl | rfl
    ·simp only[zdO,zax];simpa using hL
    ·simp only[zdO,zax];simpa using hL
   ·split at hw
    ·rename_i h68 h5;subst h5;obtain⟨c,hc,hfc⟩:=List.mem_filterMap.1 hw;cases hf:zbi data (.mk 5 m ks) (c:Int) with
     |none=>rw[hf]at hfc;cases hfc
     |some l=>
      rw[hf]at hfc;simp at hfc;subst hfc;obtain⟨_,h0,_,hn1,hc1,_,_,_⟩:=ziW hf;have h8:=zg1 hD hn1;have:(c:Int)<8:=by
       have:(c:Int).toNat=c:=by omega
       omega
      simp only[zdO,zax,hf];rw[znM];simp[hL,this]
    ·simp at hw
def zdb(data:List Dat)(t:VT)(n k:Int):Int:=if zbW data t=false then 6 else if n<0∨24<n∨k<0∨8<k then 8 else 0
def zcQ(data:List Dat)(t:VT)(n k:Int):List AV:=if zdb data t n k=0 then zav (cV data k.toNat t n.toNat:Int) else zal none
theorem zCF{n:Nat}(h:n≤14):gB n≤1000000000000:=Nat.le_trans (zeN h) (by decide)
theorem zha{data:List Dat}{t:VT}(h:zbW data t=true):zaE data=true∧zaD data 0 t=true:=by unfold zbW at h;rw[Bool.and_eq_true]at h;exact znI h.1
theorem zu7{data:List Dat}{kk:Int}{S:SS}{A J:zaa}{L M:Nat}(hL:L=A.length)(hM:L≤M):∃J',shS data kk (zct L M) S (A++J)=A++J'∧J'.length=J.length:=by
 refine⟨(shS data kk (zct L M) S (A++J)).drop A.length,?_,by simp⟩
 conv=>lhs;rw[←List.take_append_drop A.length (shS data kk (zct L M) S (A++J))]
 congr 1;apply List.ext_getElem?;intro x;rw[List.getElem?_take];split
 ·rename_i hx;rw[zcg,List.getElem?_append_left hx,List.getElem?_eq_getElem hx];have:zaY data kk (zct L M) S x=none:=by
   unfold zaY zct;simp only
   repeat rw[if_neg (by omega)]
  rw[this];rfl
 ·rw[List.getElem?_eq_none (by omega)]
theorem zqb{data:List Dat}(hF:zcY data)(hl:data.length≤1000000)(hk:Kpt data)(t:VT)(ht:za1 t)(n k:Int)(hn:n≤14∨24<n)(H:zaa)(h0:H[0]?=some .nodr)(K:Kt)(hK:K (.tup [.agg (zcQ data t n k),.int .i64 (zdb data t n k)]) H):ACalls tP zhr [.sl (data.map Dat.cs) .none,.agg t.cs,.int .i64 n,.int .i64 k] H K:=by
 refine ACalls.out (zHw λhs=>?_);have hlt0:0<H.length:=(List.getElem?_eq_some_iff.1 h0).1;obtain⟨x,y,z,hvx,hx,hy,hz⟩:=zaO t;have hout:∀(o:Option Nat) (e:Int) J,zal o=zcQ data t n k→e=zdb data t n k→Out H.length K (.tup [.agg (zal o),.int .i64 e]) (H++J):=λo e J h1 h2=>by refine Out.tup hs (bs:=[.agg (zcQ data t n k),.int .i64 (zdb data t n k)]) hK ⟨⟨by rw[h1];exact .rfl',rfl,?_⟩,⟨by rw[h2];exact .rfl',rfl,rfl⟩,trivial⟩;rw[←h1];simpa[AV.scV]using zcT _ _
 simp only[zxk,zrO];simp[hvx,hx,hy,hz];rw[←hvx];refine zy7 hF hl t ht _ _ ?_;cases hf:zbW data t with
 |false=>
  simp[zaq,zaN,AV.known,zrO,List.set_append_right];have he:zdb data t n k=6:=by simp[zdb,hf]
  exact⟨⟨rfl,rfl⟩,hout none 6 _ (by simp[zcQ,he]) he.symm⟩
 |true=>
  simp;have bad:(n<0∨24<n∨k<0∨8<k)→zdb data t n k=8:=λh=>by simp[zdb,hf,h]
  have hr8 : (n < 0 ∨ 24 < n ∨ k < 0 ∨ 8 < k) → zaq (zal none) [(0, 1), (1, 1), (2, 1)] [] λt30 =>
                      zc2 3 0 (List.length H+1) t30.cs? (some (AB.cells (zal none))) (H++[AB.cells t.cs,AB.cells (zal none)]) λH_7=>
                       zfj true 3 0 H_7[List.length H+1]? λr0=>
                        (r0.isV=true∧(AV.int IntKind.i64 8).isV=true) ∧
                         Out (List.length H) K (AV.tup [r0,AV.int IntKind.i64 8]) H_7:=λh=>by
   rw[←zrO];simp[zaq,zaN,AV.known,zrO,List.set_append_right];exact⟨⟨rfl,rfl⟩,hout none 8 _ (by simp[zcQ,bad h]) (bad h).symm⟩
  by_cases h1:n<0
  ·simp[h1];exact hr8 (.inl h1)
  by_cases h2:24<n
  ·simp[h1,h2];exact hr8 (.inr (.inl h2))
  by_cases h3:k<0
  ·simp[h1,h2,h3];exact hr8 (.inr (.inr (.inl h3)))
  by_cases h4:8<k
  ·simp[h1,h2,h3,h4];exact hr8 (.inr (.inr (.inr h4)))
  have hn14:n≤14:=by omega
  simp[h1,h2,h3,h4];obtain⟨N,rfl⟩:∃N:Nat,n=N:=⟨n.toNat,by omega⟩;obtain⟨kk,rfl⟩:∃kk:Nat,k=kk:=⟨k.toNat,by omega⟩;obtain⟨hD,htv⟩:=zha hf;have hkk:kk≤8:=by omega
  obtain⟨X,hXl,hR⟩:=zvE hD hk N t htv;have hX:X.length≤1000000000000:=Nat.le_trans hXl (zCF (by omega));have hI0:=zsM data kk X;have hI1:=zi0 hD hI0 htv hR.mem;have hg1:=ziZ hD hI0 htv;refine zu9 data kk _ _ ?_;obtain⟨A,hA⟩:∃A,A=H++[AB.cells t.cs,AB.cells (zal none)]:=⟨_,rfl⟩;have hAl:A.length=H.length+2:=by rw[hA];simp
  have gt:∀J:zaa,(A++J)[H.length]?=some (.cells t.cs):=λJ=>by rw[hA];simp
  have gr:∀J:zaa,(A++J)[H.length+1]?=some (.cells (zal none)):=λJ=>by rw[hA];simp[List.getElem?_append]
  have gA0:∀J:zaa,(A++J)[0]?=some .nodr:=λJ=>by rw[List.getElem?_append_left (by omega),hA,List.getElem?_append_left hlt0];exact h0
  have hsetA:∀J o,(A++J).set (H.length+1) (.cells (zal o))=H++(.cells t.cs::.cells (zal o)::J):=λJ o=>by rw[hA,List.append_assoc,List.set_append_right _ _ (by omega)];simp
  rw[←hA];simp[gt,hvx];rw[←hvx];obtain⟨L,hL⟩:∃L,L=A.length:=⟨_,rfl⟩;rw[←hL,show newB data (kk:Int) L=newB data (kk:Int) L++[] from (List.append_nil _).symm];refine zDP hL (V:=[]) (M:=L+3) rfl ?_;have hS0:=zu8 (data:=data) (kk:=(kk:Int)) hL [] (L+3) rfl;refine zhS hD hS0 (gA0 _) t htv (by simp[S0]) _ ?_;have hS1:=hS0.next (S':=idS data S0 t) hI1.ml hI1.cl;obtain⟨S2,o,hI2,_,ho,hc⟩:=ziQ (I:=zct L (L+3)) hD hk hkk hX N (by omega) _ _ t hI1 hg1 hR;have h01:(shS data kk (zct L (L+3)) (idS data S0 t) (A++(zbP data kk L (L+3)++[]++zb0)))[0]?=some .nodr:=hS0.nodr (gA0 _);refine hc _ hS1 h01 _ ?_;rw[zcU];obtain⟨J',hJ',hJl⟩:=zu7 (data:=data) (kk:=(kk:Int)) (S:=S2) (J:=zbP data kk L (L+3)++[]++zb0) hL (show L≤L+3 by omega);rw[hJ'];have hov:vO o<1000000000 ^ 30:=by rw[ho];exact zeG hk hkk t (by omega)
  refine zLQ o hov _ _ ?_;have he0:zdb data t N kk=0:=by simp[zdb,hf];omega
  have hr:zal (some (vO o))=zcQ data t N kk:=by simp[zcQ,he0,ho];rfl
  change zc2 3 0 (H.length+1) (some (zal (some (vO o)))) _ _ _;rw[gr,zs0,hsetA];have g2:(H++(AB.cells t.cs::.cells (zal (some (vO o)))::J'))[H.length+1]?=some (.cells (zal (some (vO o)))):=by simp[List.getElem?_append]
  simp only[g2,zBg];exact⟨⟨rfl,rfl⟩,hout _ 0 _ hr he0.symm⟩
end Go.Proofs.YtaifokkaaahdoaaGreatDoor

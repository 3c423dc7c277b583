import Derived.Test.YtjkkonpjecoieaaGreatAbsQ1
import Derived.Test.YtjkkonpjecoieaaGreatCH
import Derived.Test.YtjkkonpjecoieaaGreatKUA
import Derived.Test.YtjkkonpjecoieaaGreatKMF
import Derived.Test.YtjkkonpjecoieaaGreatKGS7
import Derived.Test.YtjkkonpjecoieaaGreatKNum
import Derived.Test.YtjkkonpjecoieaaGreatProg
import Derived.KernelRfl
set_option linter.unusedSimpArgs false
set_option linter.unusedVariables false
namespace Go.Proofs.YtjkkonpjecoieaaGreat
open Go Go.Abs
set_option maxRecDepth 8000
def tmC (p:IT × Nat):List AV:=p.1.cs++zak (p.2:Int)
def tms (s:List (IT × Nat)):List AV:=(s.map tmC).flatten
@[simp] theorem zGJ (p:IT × Nat):(tmC p).length=5:=by simp[tmC,zak]
@[simp] theorem zXC (s:List (IT × Nat)):(tms s).length=s.length*5:=by
 induction s with
 | nil=>rfl
 | cons p s ih=>simp only[tms,List.map_cons,List.flatten_cons,List.length_append,zGJ,List.length_cons]at ih ⊢;omega
theorem zkm (a b:List (IT × Nat)):tms (a++b)=tms a++tms b:=by simp[tms]
theorem zgG (p:IT × Nat) (s:List (IT × Nat)):tms (p::s)=tmC p++tms s:=by simp[tms]
theorem zqD {s:List (IT × Nat)} {k:Nat} (h:k<s.length):tms s=tms (s.take k)++(tmC s[k]++tms (s.drop (k+1))):=by
 rw[←zgG,←zkm,←List.drop_eq_getElem_cons h,List.take_append_drop]
theorem zkn {s:List (IT × Nat)} {k:Nat} (h:k≤s.length):(tms (s.take k)).length=k*5:=by simp[Nat.min_eq_left h]
theorem zGN {s:List (IT × Nat)} {k:Nat} (h:k<s.length):((tms s).drop (k*5)).take 2=s[k].1.cs:=by
 rw[zqD h,List.drop_left' (zkn (by omega)),tmC,List.append_assoc,List.take_left' (by simp)]
theorem zx4 {s:List (IT × Nat)} {k:Nat} (h:k<s.length):((tms s).drop (k*5+2)).take 3=zak (s[k].2:Int):=by
 have e:tms s=(tms (s.take k)++s[k].1.cs)++(zak (s[k].2:Int)++tms (s.drop (k+1))):=by rw[zqD h,tmC];simp
 have hl:(tms (s.take k)++s[k].1.cs).length=k*5+2:=by rw[List.length_append,zkn (by omega)];simp
 rw[e,List.drop_left' hl,List.take_left' (by simp[zak])]
theorem zGP {s:List (IT × Nat)} {k:Nat} (h:k<s.length) (x:Nat):(tms s).take (k*5+2)++zak (x:Int)++(tms s).drop (k*5+2+3)=tms (s.set k (s[k].1,x)):=by
 have e:tms s=(tms (s.take k)++s[k].1.cs)++(zak (s[k].2:Int)++tms (s.drop (k+1))):=by rw[zqD h,tmC];simp
 have hl:(tms (s.take k)++s[k].1.cs).length=k*5+2:=by rw[List.length_append,zkn (by omega)];simp
 have e1:(tms s).take (k*5+2)=tms (s.take k)++s[k].1.cs:=by rw[e,List.take_left' hl]
 have e2:(tms s).drop (k*5+2+3)=tms (s.drop (k+1)):=by
  rw[←List.drop_drop,e,List.drop_left' hl,List.drop_left' (by simp[zak])]
 rw[e1,e2,List.set_eq_take_append_cons_drop,if_pos h,zkm,zgG,tmC]
 simp
theorem zqC (s:List (IT × Nat)) (n:Nat):(tms s).all (AV.scA n)=true:=by
 induction s with
 | nil=>rfl
 | cons p s ih=>rw[zgG,List.all_append,ih,tmC,List.all_append,IT.cs_scA,zp6];rfl
theorem zGO (s:List (IT × Nat)):(tms s).all AV.known=true:=by
 induction s with
 | nil=>rfl
 | cons p s ih=>rw[zgG,List.all_append,ih,tmC,List.all_append,IT.cs_known];simp[zak,AV.known]
def zTm:List AV:=[.int .i64 0,.sl [] .none,.bool false,.sl [] .none,.sl [] .none]
theorem zGM {s:List (IT × Nat)} {k:Nat} (h:k≤s.length) (p:IT × Nat):(zdb (tms s++zTm) ((k+1)*5) (((tms s++zTm).drop (k*5)).take ((s.length-k)*5))).take (k*5)++tmC p++(zdb (tms s++zTm) ((k+1)*5) (((tms s++zTm).drop (k*5)).take ((s.length-k)*5))).drop (k*5+5)=tms (s.take k++p::s.drop k):=by
 have e:tms s=tms (s.take k)++tms (s.drop k):=by rw[←zkm,List.take_append_drop]
 have hl:=zkn h
 have hd:(tms (s.drop k)).length=(s.length-k)*5:=by simp
 have e1:((tms s++zTm).drop (k*5)).take ((s.length-k)*5)=tms (s.drop k):=by
  rw[e,List.append_assoc,List.drop_left' hl,List.take_left' hd]
 rw[e1]
 have hk:k*5+(s.length-k)*5=s.length*5:=by omega
 unfold zdb
 have h1:((tms s++zTm).take ((k+1)*5)).length=(k+1)*5:=by simp[zTm];omega
 have h2:((tms s++zTm).drop ((k+1)*5+(tms (s.drop k)).length))=[]:=by
  apply List.drop_of_length_le;rw[hd];simp[zTm];omega
 rw[h2,List.append_nil]
 have h3:((tms s++zTm).take ((k+1)*5)++tms (s.drop k)).take (k*5)=tms (s.take k):=by
  rw[List.take_append_of_le_length (by rw[h1];omega),List.take_take,Nat.min_eq_left (by omega),e,List.append_assoc,List.take_left' hl]
 have h4:((tms s++zTm).take ((k+1)*5)++tms (s.drop k)).drop (k*5+5)=tms (s.drop k):=by
  rw[List.drop_left' (by rw[h1];omega)]
 rw[h3,h4,zkm,zgG,List.append_assoc]
theorem zHX (s:List (IT × Nat)) (i:IT) (c:Nat) (hi:i.nodes≤1000) (hsn:∀ p∈s,p.1.nodes≤1000∧0<p.2∧p.2<1000000000 ^ 20) (hc:c<1000000000 ^ 20) (hl:s.length≤1000000) (id:Nat) (H:zaa) (K:Kt)
  (hid:H[id]?=some (.vec za5 5 s.length (tms s))) (hK:K (.ov id (zbd s i c).length) (H.set id (.vec za5 5 (zbd s i c).length (tms (zbd s i c))))) :
  ACalls tP zdc [.ov id s.length,.agg i.cs,.agg (zak (c:Int))] H K:=by
 refine ACalls.out (zHV fun hs=>?_)
 have hidl:=zcX hid
 obtain⟨x3,y3,hvx3,hx3,hy3⟩:=zb2 i
 have t3:List.take 3 (zak (c:Int))=zak (c:Int):=List.take_of_length_le (by simp)
 have hcs:Sm (c:Int):=zc1 (Nat.lt_of_lt_of_le hc (by decide))
 simp[zyR,Nat.add_assoc,zbU]
 have hid':∀ J,(H++J)[id]?=some (.vec za5 5 s.length (tms s)):=fun J=>zbO hid
 have hscT:∀ n (l:List (IT × Nat)),HSc (H.set id (.vec za5 5 n (tms l))):=fun n l=>hs.set (by simp only[AB.sc];exact zqC l _)
 have hsame:H.set id (.vec za5 5 s.length (tms s))=H:=by
  apply List.ext_getElem?
  intro j
  by_cases hj:id=j
  ·subst hj;rw[List.getElem?_set_self hidl,hid]
  ·rw[List.getElem?_set_ne hj]
 have hout:∀ (l:List (IT × Nat)) (H' J:zaa),l=zbd s i c→H'=H.set id (.vec za5 5 l.length (tms l))++J→Out H.length K (.ov id l.length) H':=fun l H' J he hH=>by
  subst he
  exact Out.at (b:=.ov id (zbd s i c).length) hH (by simp) (hscT _ _) .rfl' rfl (by simp[AV.scV,AV.scA,AV.scB];omega) hK
 have hb2:HSc (H++[.cells i.cs,.cells (zak (c:Int))]):=hs.append (by simp[AB.sc,zp6])
 have hs2:∀ X,(H++[AB.cells i.cs,.cells (zak (c:Int))]).set id X=H.set id X++[.cells i.cs,.cells (zak (c:Int))]:=fun X=>List.set_append_left _ _ hidl
 have hs3:∀ X Y,(H.set id X++[AB.cells i.cs,.cells (zak (c:Int))]).set id Y=H.set id Y++[.cells i.cs,.cells (zak (c:Int))]:=fun X Y=>by rw[List.set_append_left _ _ (by simpa using hidl),List.set_set]
 have g2:∀ X J,(H.set id X++J)[id]?=some X:=fun X J=>by rw[List.getElem?_append_left (by simpa using hidl),List.getElem?_set_self hidl]
 have g3:∀ X J,(H.set id X++AB.cells i.cs::J)[H.length]?=some (.cells i.cs):=fun X J=>by simp[List.getElem?_append]
 have g4:∀ X Y J,(H.set id X++AB.cells i.cs::Y::J)[H.length+1]?=some Y:=fun X Y J=>by simp[List.getElem?_append]
 have hmiss:∀ k,k≤s.length→(∀ (j:Nat) (h:j<k) (h2:j<s.length),IT.cmp s[j].1 i<0)→(∀ h:k<s.length,0<IT.cmp s[k].1 i)→ACalls tP zfv [.agg (zak (c:Int))] (H++[.cells i.cs,.cells (zak (c:Int))]) fun t66 H_1=>
   zac .eql false t66 (.int .i64 0) fun t67=>zag t67 (Out H.length K (.ov id s.length) H_1)
    (zaz [.int .i64 0,.snil,.bool false,.snil,.snil] [(0,2),(2,3)] [] fun t70=>zaB 5 [.int .i64 0,.snil,.bool false,.snil,.snil] 1 [(0,t70)] fun t71=>
     zax za5 5 88 (.ov id s.length) t71 H_1 fun t72 H_2=>zaJ 1 5 t72 (some (.int .i64 (IntKind.i64.wrap ((k:Int)+1)))) none fun t76=>zaJ 1 5 t72 (some (.int .i64 k)) none fun t79=>
      ze8 5 t76 t79 H_2 fun t80 H_3=>zad H_3 (fun K'=>zf1 true 2 0 H_3[H.length]? fun x=>K' x H_3) fun t83=>zaE H_3 (fun H K'=>ACalls tP zhz [t83] H K') fun t84=>
       zad H_3 (fun K'=>zf1 true 3 0 H_3[H.length+1]? fun x=>K' x H_3) fun t85=>zaE H_3 (fun H K'=>ACalls tP zdH [t85] H K') fun t86=>
        zaz [.int .i64 0,.snil,.bool false,.snil,.snil] [(0,2),(2,3)] [(0,t84),(1,t86)] fun t87=>zai 5 t72 (.int .i64 k) fun t88=>zam 5 t88 t87 H_3 fun H_4=>Out H.length K t72 H_4):=by
  intro k hk hlow h0
  refine znq (c:Int) hcs _ _ ?_
  by_cases hc0:c=0
  ·have e0:zbd s i c=s:=by simp[zbd,hc0]
   subst hc0
   simp
   exact hout s _ _ e0.symm (by rw[hsame])
  ·have hsg:(c:Int).sign=1:=Int.sign_eq_one_of_pos (by omega)
   have e1:zbd s i c=s.take k++(i,c)::s.drop k:=by
    rw[zbd,if_neg hc0];exact zDl s i c k hk (fun j h=>hlow j h (by omega)) h0
   have w1:=wi k (by omega)
   rw[hsg,w1]
   simp only[zaz,zaV,zaB,zbf,zaF,AV.pd,zax,zaY,zaM,hid',Nat.add_assoc]
   simp[zaF,AV.pd,hid',hs2]
   refine⟨⟨by omega,by omega⟩,by omega,by omega,by omega,?_⟩
   rw[g2]
   simp only[zC6,hs2,hs3]
   have hkn:(tms s++[AV.int .i64 0,.sl [] .none,.bool false,.sl [] .none,.sl [] .none]).all AV.known=true:=by rw[List.all_append,zGO];rfl
   refine⟨⟨⟨⟨trivial,trivial,trivial⟩,trivial,trivial,trivial⟩,hkn⟩,?_⟩
   have hcp:=zGM hk (i,c)
   have hmin:min (s.length+1-k) (s.length+1-(k+1))=s.length-k:=by omega
   rw[hmin]
   simp[g2,g3,g4]
   refine zaH (.agg i.cs) (fun J=>zJ2 _ i (Nat.le_refl _) (by omega) _ _ ⟨rfl,rfl⟩) ?_
   refine zaH (.agg (zak (c:Int))) (fun J=>ze5 _ hcs _ _ ⟨rfl,rfl⟩) ?_
   have hd5:List.drop 5 (i.cs++[AV.bool false,.snil,.snil])=[]:=List.drop_of_length_le (by simp)
   have hik:∀ x∈i.cs,x.known=true:=List.all_eq_true.1 (IT.cs_known i)
   have hrk:∀ x∈zak (c:Int),x.known=true:=List.all_eq_true.1 (zh0 c)
   simp[g2,hd5]
   have hlay:(zdb (tms s++zTm) ((k+1)*5) (((tms s++zTm).drop (k*5)).take ((s.length-k)*5))).length=(s.length+1)*5:=by
    simp[zdb,zTm];omega
   refine⟨by omega,⟨?_,fun x hx=>hx.elim (hik x) (hrk x)⟩,?_⟩
   ·show _≤(zdb (tms s++zTm) ((k+1)*5) (((tms s++zTm).drop (k*5)).take ((s.length-k)*5))).length
    omega
   ·rw[hs3]
    have hl1:(s.take k++(i,c)::s.drop k).length=s.length+1:=by simp;omega
    have:=hout (s.take k++(i,c)::s.drop k) _ [.cells i.cs,.cells (zak (c:Int))] e1.symm rfl
    rw[hl1,←hcp]at this
    simpa[zTm,tmC]using this
 refine zHT (Inv:=fun q t7 H'=>∃ k:Nat,k≤s.length∧s.length-k=q∧t7=.int .i64 k∧(∀ (j:Nat) (h:j<s.length),j<k→IT.cmp s[j].1 i<0)∧H'=H++[.cells i.cs,.cells (zak (c:Int))]) s.length ?_ ?_
 ·intro _;exact⟨0,by omega,rfl,rfl,fun j h hj=>by omega,rfl⟩
 ·rintro q t7 H' ⟨k,hk,rfl,rfl,hlow,rfl⟩ hsc' hlen hsF Kb hKb
  have hlow':∀ (j:Nat) (h:j<k),IT.cmp (s[j]'(by omega)).1 i<0:=fun j h=>hlow j (by omega) h
  by_cases hlt:k<s.length
  ·obtain⟨hn1,hp1,hp2⟩:=hsn s[k] (List.getElem_mem hlt)
   have h52:k*5+2≤s.length*5:=by omega
   have hcmp:=IT.cmp_rng s[k].1 i
   simp[zq5,hlt,hid',zGN hlt,zx4 hlt,t3,Nat.add_assoc]
   refine⟨h52,?_⟩
   refine zaH (.int .i64 (IT.cmp s[k].1 i)) (fun J=>zxc _ _ _ (Nat.le_refl _) (by omega) _ _ ⟨rfl,rfl⟩) ?_
   by_cases h1:IT.cmp s[k].1 i<0
   ·simp[h1,wi k (by omega)]
    exact hKb _ _ ⟨s.length-(k+1),by omega,Back.here (by simp) hb2 (by simp[zkK,ux,AV.sc,AV.scA,AV.scB,AV.scV];omega) ⟨_,rfl,k+1,by omega,rfl,rfl,fun j h hj=>by
     by_cases hjk:j=k
     ·subst hjk;exact h1
     ·exact hlow j h (by omega),rfl⟩⟩
   ·simp[h1]
    refine⟨h52,?_⟩
    refine zaH (.int .i64 (IT.cmp s[k].1 i)) (fun J=>zxc _ _ _ (Nat.le_refl _) (by omega) _ _ ⟨rfl,rfl⟩) ?_
    by_cases h0:IT.cmp s[k].1 i=0
    ·have hss:Sm (s[k].2:Int):=zc1 (Nat.lt_of_lt_of_le hp2 (by decide))
     have hsum:Sm ((s[k].2+c:Nat):Int):=zc1 (Nat.lt_of_lt_of_le (show s[k].2+c<2*1000000000 ^ 20 by omega) (by decide))
     have he:zbd s i c=s.set k (s[k].1,s[k].2+c):=by
      unfold zbd
      by_cases hc0:c=0
      ·rw[if_pos hc0,hc0];exact (List.set_getElem_self hlt).symm
      ·rw[if_neg hc0];exact zDj s i c k hlt hlow' h0
     have hst:=zGP hlt (s[k].2+c)
     rw[List.append_assoc,Int.natCast_add]at hst
     simp[h0]
     refine⟨by omega,?_⟩
     refine zaH (.agg (zak ((s[k].2+c:Nat):Int))) (fun J=>zio _ _ hss hcs _ _ ⟨by rw[Int.natCast_add],rfl⟩) ?_
     have hrk:∀ x∈zak ((s[k].2+c:Nat):Int),x.known=true:=List.all_eq_true.1 (zh0 _)
     simp[hs2,g2]
     refine⟨by omega,by omega,?_⟩
     have hco:=zx4 (s:=s.set k (s[k].1,s[k].2+c)) (k:=k) (by simpa using hlt)
     simp only[List.getElem_set_self,Int.natCast_add]at hco
     rw[hst,hco]
     refine znq _ (by rw[←Int.natCast_add];exact hsum) _ _ ?_
     have hsg:((s[k].2:Int)+(c:Int)).sign=1:=Int.sign_eq_one_of_pos (by omega)
     rw[hsg]
     simp[zq7]
     have:=hout (s.set k (s[k].1,s[k].2+c)) _ [.cells i.cs,.cells (zak (c:Int))] he.symm rfl
     simpa using this
    ·have hb0:(IT.cmp s[k].1 i == 0)=false:=by simp[h0]
     simp[hb0]
     exact hmiss k (by omega) (fun j h h2=>hlow j h2 h) (fun h=>by omega)
  ·obtain rfl:k=s.length:=by omega
   simp[zq5,hid',t3,Nat.add_assoc]
   exact hmiss s.length (Nat.le_refl _) (fun j h h2=>hlow j h2 h) (fun h=>by omega)
end Go.Proofs.YtjkkonpjecoieaaGreat
namespace Go.Proofs.YtjkkonpjecoieaaGreat
open Go Go.Abs
set_option maxRecDepth 100000
def zKc (_:Nat):List Bool:=[]
noncomputable def zKd:Code:=Tryz.f151.body.getD .skip
def zrL (t0 t1:AV) (H:zaa) (K:Kt):Prop:=
 zao t0 H fun t2 H=>
 zao t1 H fun t3 H=>
 zaw [(.int .i64 0),.snil] H fun t4 H=>
 zae true 2 t2 H fun t5=>
 zaB 2 [(.int .i64 0),.snil] 1 [(0,t5)] fun t6=>
 zaf 1 t3 fun t7=>
 zae false 1 t7 H fun t8=>
 zax zbl 2 32 t6 t8 H fun t9 H=>
 zaz [(.int .i64 0),.snil] [(0,1),(1,1)] [(1,t9)] fun t10=>
 zam 2 t4 t10 H fun H=>
 zae true 2 t4 H fun r0=>
 K r0 H
theorem zKe {t0 t1:AV} {H:zaa} {K:Kt} (h:HSc H→zrL t0 t1 H K):ACalls tP zhA [t0,t1] H K:=
 zan (M:=zKc) Tryz.func151 (c:=zKd) (by kernel_rfl) (fun hs=>Eq.mpr (by kernel_rfl) (h hs))
def zlo:Nat→List Bool
 | 3=>rl false [0,1,1,3,11]
 | _=>[]
noncomputable def zrK:Code:=Tryz.f149.body.getD .skip
noncomputable def zJ8:List ResultVar:=Tryz.f149.results.toList
def zlp (t0 t2 t3 t4:AV):List AV:=t0::ux 1 (t2::t3::t4::ux 11 [])
def zJ6:List Bool:=zlo 3
noncomputable def zJ4:Code:=zap [1,1,0,1,0,0] zrK
def zJ3 (K:Kt):AExit→List AV→zaa→Prop:=zaq tP zlo [1,1,0,1,0] zrK (zaA tP zJ8 K)
def zzr (t0 t2 t3 t4:AV) (H:zaa) (K:Kt):Prop:=ALoop tP zJ4 (zJ3 K) (zlp t0 t2 t3 t4) H
def zrJ (t0 t2 t3 t4:AV) (H:zaa) (K:Kt) (Kb3:Lt):Prop:=
 zac .leq false t4 t0 fun t8=>
 zag t8
 (zad H (fun K'=>zal true 3 t3 H (K' · H)) fun t11=>
 zad H (fun K'=>K' t4 H) fun t12=>
 zaE H (fun H K'=>ACalls tP zb3 [t12] H K') fun t13=>
 zaE H (fun H K'=>ACalls tP zdd [t11,t13] H K') fun t14=>
 zam 3 t3 t14 H fun H=>
 zac .add false t4 (.int .i64 1) fun t10=>
 Kb3 (zlp t0 t2 t3 t10) H)
 (zae true 3 t3 H fun t15=>
 zam 3 t2 t15 H fun H=>
 zae true 3 t2 H fun r0=>
 K r0 H)
def zzq (t0:AV) (H:zaa) (K:Kt):Prop:=
 zaw [(.bool false),.snil,.snil] H fun t2 H=>
 ACalls tP zb3 [(.int .i64 1)] H fun t5 H=>
 zaw [(.bool false),.snil,.snil] H fun t3 H=>
 zam 3 t3 t5 H fun H=>
 zzr t0 t2 t3 (.int .i64 2) H K
theorem zJ5 {t0 t2 t3 t4:AV} {H:zaa} {K:Kt} (Inv:Nat→AV→zaa→Prop) (n:Nat) (h0:HSc H→Inv n t4 H)
  (round:Rd1 (fun t4=>zlp t0 t2 t3 t4) (fun t4=>fun H Kb3=>zrJ t0 t2 t3 t4 H K Kb3) H Inv):zzr t0 t2 t3 t4 H K:=
 lp1 (M:=zlo) zJ6 t4 (by kernel_rfl) Inv n h0 round
theorem zJ7 {t0:AV} {H:zaa} {K:Kt} (h:HSc H→zzq t0 H K):ACalls tP zgj [t0] H K:=
 zan (M:=zlo) Tryz.func149 (c:=zrK) (by kernel_rfl) (fun hs=>Eq.mpr (by kernel_rfl) (h hs))
end Go.Proofs.YtjkkonpjecoieaaGreat
namespace Go.Proofs.YtjkkonpjecoieaaGreat
open Go Go.Abs
set_option maxRecDepth 8000
def zbE (s:List (IT × Nat)):List (List AV):=s.map tmC
@[simp] theorem zXB (s:List (IT × Nat)):(zbE s).length=s.length:=by simp[zbE]
theorem zGK (s:List (IT × Nat)):(zbE s).flatten=tms s:=rfl
@[simp] theorem zXA {s:List (IT × Nat)} {i:Nat} (h:i<(zbE s).length):(zbE s)[i]=tmC (s[i]'(by simpa using h)):=by simp[zbE]
theorem zp2:∀ {a b c d:List AV},zaF a=some c→zaF b=some d→zaF (a++b)=some (c++d)
 | [],b,c,d,h,h'=>by simp[zaF]at h;subst h;simpa using h'
 | x::a,b,c,d,h,h'=>by
  simp only[zaF]at h
  split at h
  ·rename_i p q hp hq
   cases h
   simp only[List.cons_append,zaF]
   rw[hp,zp2 hq h']
  ·cases h
theorem zwU (v:IT):zaF v.cs=some v.cs:=by
 obtain⟨n,ks⟩:=v
 simp[IT.cs,zaF,AV.pd]
theorem zj3 (z:Int):zaF (zak z)=some (zak z):=rfl
theorem zwX (p:IT × Nat):zaF (tmC p)=some (tmC p):=zp2 (zwU p.1) (zj3 _)
theorem zwY:∀ s:List (IT × Nat),zaF (tms s)=some (tms s)
 | []=>rfl
 | p::s=>by rw[zgG];exact zp2 (zwX p) (zwY s)
theorem zpV {H J:zaa} {K:Kt} (s:List (IT × Nat)) (id:Nat) (hle:H.length≤id) (hid:(H++J)[id]?=some (.vec za5 5 s.length (tms s))) (hs:HSc H) (hK:K (.sl (zbE s) .none) H):Out H.length K (.ov id s.length) (H++J):=
 ⟨.sl (zbE s) .none,H,J,rfl,Nat.le_refl _,hs,.one (.vfz id za5 5 s.length (tms s) (zbE s) hle hid (by rw[zGK];exact zwY s) (by simp) (fun c hc=>by
  obtain⟨p,_,rfl⟩:=List.mem_map.1 hc;simp)),hK⟩
theorem _root_.Go.Abs.ACalls.vecA {P:Program} {f:FuncId} {us:List AV} {H:zaa} {K:AV→zaa→Prop} (e size:Nat) (h:ACalls P f (.ov H.length 0::us) (H++[.vec e size 0 []]) K):ACalls P f (.snil::us) H K:=by
 intro B w G vs hH hv
 obtain⟨hE,hH'⟩:=hH.newVec e size
 have hv2:All2 (TRel w ⟨G.L,G.μ++[.own (.slice none 0 0) size 0]⟩) vs.toList (.ov H.length 0::us):=by
  generalize vs.toList=l at *
  match l,hv with
  | x::l,⟨h1,h2⟩=>
   have h1:x=.slice none 0 0:=h1
   subst h1
   exact⟨zpW hH e size,h2.mono fun _ _=>hE.trel⟩
 refine (h B w _ vs hH' hv2).mono fun e' w' hp=>?_
 obtain⟨v,r,H',G'',h1,h2,h3⟩:=hp
 exact⟨v,r,H',G'',h1,hE.trans h2,h3⟩
theorem zoo (e i:IT) (hi:i.nodes≤1000) (H:zaa) (K:Kt) (hK:K (.agg (bef e i).cs) H):ACalls tP zhA [.agg e.cs,.agg i.cs] H K:=by
 refine ACalls.out (zKe fun hs=>?_)
 obtain⟨n,ks⟩:=i
 obtain⟨m,es⟩:=e
 have hll:=IT.len_le ks
 have hnn:(IT.mk n ks).nodes=IT.nodesL ks+1:=by simp[IT.nodes]
 have hb:(bef (.mk m es) (.mk n ks)).cs=[.int .i64 0,.sl ([.int .i64 m,.sl (IT.css es) .none]::IT.css ks) .none]:=rfl
 rw[hb]at hK
 cases ks with
 | nil=>
  simp[zrL,IT.cs,IT.css,zaz,zaV,zaB,zbf,zaF,AV.pd,AV.known,zax,zaY,zaM,Nat.add_assoc]
  exact Out.one hs (WkV.agg (ds:=[.int .i64 0,.sl [[.int .i64 m,.sl (IT.css es) .none]] .none]) ⟨.refl _,.sl _ _,trivial⟩) rfl (by simp[AV.scV,AV.scA,AV.scB]) (by simpa[IT.css]using hK)
 | cons k ks=>
  simp[zrL,IT.cs,IT.css,zaz,zaV,zaB,zbf,zaF,AV.pd,AV.known,zax,zaY,zaM,Nat.add_assoc]
  have h2:∀ a∈IT.css ks,a.length=2:=fun a ha=>by
   rw[IT.css_map]at ha
   obtain⟨v,_,rfl⟩:=List.mem_map.1 ha
   simp
  refine⟨h2,⟨by simp at hll;omega,by simp at hll;omega⟩,?_⟩
  exact Out.one hs (WkV.agg (ds:=[.int .i64 0,.sl ([.int .i64 m,.sl (IT.css es) .none]::k.cs::IT.css ks) .none]) ⟨.refl _,.sl _ _,trivial⟩) rfl (by simp[AV.scV,AV.scA,AV.scB]) (by simpa[IT.css]using hK)
def zbK (out:List (List IT × Nat)):List (List AV):=out.map fun r=>.sl (IT.css r.1) .none::zak (r.2:Int)
@[simp] theorem zXi (s:List (List IT × Nat)):(zbK s).length=s.length:=by simp[zbK]
@[simp] theorem zXh {s:List (List IT × Nat)} {i:Nat} (h:i<(zbK s).length):(zbK s)[i]=.sl (IT.css (s[i]'(by simpa using h)).1) .none::zak ((s[i]'(by simpa using h)).2:Int):=by simp[zbK]
theorem zFt (a b:List (List IT × Nat)):zbK (a++b)=zbK a++zbK b:=by simp[zbK]
theorem zFs {data:List Dat} {f:Nat} {ts:List VT} {l m:List IT} {k:Nat}:∀ j,j≤k→zcb data f (ts.take k) (l.take k) (m.take k) j=zcb data f ts l m j:=by
 intro j
 induction j with
 | zero=>intro _;rfl
 | succ j ih=>
  intro h
  rw[zgv,zgv,ih (by omega)]
  simp[List.getD_eq_getElem?_getD,List.getElem?_take,show j<k by omega]
theorem zo0 {s:List (List IT × Nat)} {p:List IT × Nat} (h:p∈s):p.2≤zbw (fun _=>1) s:=by
 induction s with
 | nil=>simp at h
 | cons q s ih=>
  rw[zeX]
  rcases List.mem_cons.1 h with rfl | h
  ·omega
  ·have:=ih h;omega
theorem zoV {s:List (List IT × Nat)} (h:∀ p∈s,0<p.2):s.length≤zbw (fun _=>1) s:=by
 induction s with
 | nil=>simp
 | cons q s ih=>
  have h1:=ih fun p hp=>h p (by simp[hp])
  have h2:=h q (by simp)
  rw[zeX,List.length_cons];omega
theorem zdL {a:Int} (h:a≤6):3 ^ a.toNat≤729:=Nat.le_trans (Nat.pow_le_pow_right (by omega) (show a.toNat≤6 by omega)) (by decide)
theorem zFq {data:List Dat} (h8:∀ D∈data,D.cons.length≤8) {f:Nat} {ts:List VT} {l m:List IT} (hf:IT.nodesL l+IT.nodesL m≤f) (hl:l.length=ts.length) (hm:m.length=ts.length) (hA:0≤rdA data l ts 0) (hB:0≤rdA data m ts 0) (h6:rdA data l ts 0+rdA data m ts 0≤6) (k:Nat) (hk:k≤ts.length) :
  (∀ r∈zcb data f ts l m k,0<r.2∧r.2≤729∧IT.nodesL r.1≤IT.nodesL l+IT.nodesL m)∧(zcb data f ts l m k).length≤729:=by
 have a1:=zdN l ts 0 k hl (by omega) hA
 have b1:=zdN m ts 0 k hm (by omega) hB
 have n1:=IT.nodesL_take_le l k
 have n2:=IT.nodesL_take_le m k
 obtain⟨h1,h2⟩:=(zdu h8 (f+1)).2.1 (ts.take k) (l.take k) (m.take k) (by omega) (by simp;omega) (by simp;omega) a1.1 b1.1 (by omega)
 have e:zcd data (f+1) (ts.take k) (l.take k) (m.take k)=zcb data f ts l m k:=by
  rw[zjb,List.length_take,Nat.min_eq_left hk,zFs k (Nat.le_refl _)]
 rw[e]at h1 h2
 have hN:zbw (fun _=>1) (zcb data f ts l m k)≤729:=Nat.le_trans h2 (zdL (by omega))
 refine⟨fun r hr=>?_,Nat.le_trans (zoV fun p hp=>(h1 p hp).1) hN⟩
 obtain⟨q1,_,_,_,_,_,q6⟩:=h1 r hr
 have:=zo0 hr
 exact⟨q1,by omega,by omega⟩
def zn5 (data:List Dat) (f:Nat):Prop:=∀ (t:VT) (i j:IT),i.nodes+j.nodes≤f→t.nodes≤1000→zaR data 0 t=true→0≤rdV data i t→0≤rdV data j t→rdV data i t+rdV data j t≤6→i.nodes+j.nodes≤300 →
 ∀ (H:zaa) (K:Kt),K (.sl (zbE (zbv data f t i j)) .none) H→ACalls tP zjH [.sl (data.map Dat.cs) .none,.agg t.cs,.agg i.cs,.agg j.cs] H K
def ziL (data:List Dat) (f:Nat):Prop:=∀ (ts:List VT) (l m:List IT),IT.nodesL l+IT.nodesL m+1≤f→l.length=ts.length→m.length=ts.length→ts.length≤1000→(∀ x∈ts,x.nodes≤1000∧zaR data 0 x=true)→0≤rdA data l ts 0→0≤rdA data m ts 0→rdA data l ts 0+rdA data m ts 0≤6→IT.nodesL l+IT.nodesL m≤300 →
 ∀ (H:zaa) (K:Kt),K (.sl (zbK (zcd data f ts l m)) .none) H→ACalls tP zjf [.sl (data.map Dat.cs) .none,.sl (VT.css ts) .none,.sl (IT.css l) .none,.sl (IT.css m) .none] H K
def ziK (data:List Dat) (f:Nat):Prop:=∀ (t:VT) (l m:List IT),IT.nodesL l+IT.nodesL m+1≤f→t.nodes≤1000→zaR data 0 t=true→t.kind=5→0≤rdE data l t 0→0≤rdE data m t 0→rdE data l t 0+rdE data m t 0≤6→IT.nodesL l+IT.nodesL m≤300 →
 ∀ (H:zaa) (K:Kt),K (.sl (zbE (zaK data f t l m)) .none) H→ACalls tP zgh [.sl (data.map Dat.cs) .none,.agg t.cs,.sl (IT.css l) .none,.sl (IT.css m) .none] H K
theorem zFv {out:List (List IT × Nat)} {ws:List (IT × Nat)} {j:Nat} (h:j<ws.length):zbL out (ws.take (j+1))=zbL out (ws.take j)++out.map fun r=>(r.1++[ws[j].1],r.2*ws[j].2):=by
 rw[List.take_succ_eq_append_getElem h];simp only[zbL,List.flatMap_append,List.flatMap_cons,List.flatMap_nil,List.append_nil]
theorem zxh (out:List (List IT × Nat)):∀ ws:List (IT × Nat),(zbL out ws).length=ws.length*out.length
 | []=>by simp[zbL]
 | w::ws=>by
  have:=zxh out ws
  unfold zbL at this ⊢
  rw[List.flatMap_cons,List.length_append,this,List.length_map,List.length_cons,Nat.succ_mul];omega
theorem zED {data:List Dat} (h8:∀ D∈data,D.cons.length≤8) {f:Nat} (hM:zn5 data f):ziL data (f+1):=by
 intro ts l m hf hl hm htl htv hA hB h6 hn H K hK
 rw[zjb]at hK
 refine ACalls.out (zHP fun hs=>?_)
 have hr1:AV.sl ([[.sl [] .none]++zak 1]) .full=.sl (zbK (zcb data f ts l m 0)) .full:=by simp[zgw,zbK,IT.css]
 simp[zyK,Nat.add_assoc]
 refine zcr 1 (by omega) _ _ ?_
 simp[zaz,zaV,zaB,zbf,zaF,AV.pd,AV.known,zj3,Nat.add_assoc]
 have hr1:([[AV.sl [] .none]++zak 1]:List (List AV))=zbK (zcb data f ts l m 0):=by simp[zgw,zbK,IT.css]
 have hr2:([AV.sl [] .none::zak 1]:List (List AV))=zbK (zcb data f ts l m 0):=hr1
 rw[hr2]
 refine zHM (Inv:=fun q t9 t21 H'=>∃ (k:Nat) (J:zaa) (tok:Tok),k≤ts.length∧ts.length-k=q∧t21=.int .i64 k∧t9=.sl (zbK (zcb data f ts l m k)) tok∧H'=H++J) ts.length ?_ ?_
 ·intro _;exact⟨0,[],.full,by omega,rfl,rfl,rfl,by simp⟩
 ·rintro q t9 t21 H' ⟨k,J,tok,hk,rfl,rfl,rfl,rfl⟩ hsc' hlen hsF Kb hKb
  have hbnd:=zFq (f:=f) h8 (by omega) hl hm hA hB h6 k hk
  obtain⟨out,hout⟩:∃ out,out=zcb data f ts l m k:=⟨_,rfl⟩
  rw[←hout]at hbnd hsF ⊢
  obtain⟨b1,b2⟩:=hbnd
  by_cases hlt:k<ts.length
  ·have h3:k<l.length:=by omega
   have h4:k<m.length:=by omega
   obtain⟨x1,x2,x3,hvx,hx1,hx2,hx3⟩:=zaO ts[k]
   obtain⟨y1,y2,hvy,hy1,hy2⟩:=zb2 l[k]
   obtain⟨z1,z2,hvz,hz1,hz2⟩:=zb2 m[k]
   have n1:=zgq h3
   have n2:=zgq h4
   have d1:=(zd2 (data:=data) l ts 0 (by omega) hl hA).1 k h3 hlt
   have d2:=(zd2 (data:=data) m ts 0 (by omega) hm hB).1 k h4 hlt
   have a1:=zdN l ts 0 k hl (by omega) hA
   have a2:=zdN l ts 0 (k+1) hl (by omega) hA
   have c1:=zdN m ts 0 k hm (by omega) hB
   have c2:=zdN m ts 0 (k+1) hm (by omega) hB
   have sl:=zgs (data:=data) l[k] ts[k] (l.take k) (ts.take k) 0 (by simp;omega) (by omega) a1.1
   have sm:=zgs (data:=data) m[k] ts[k] (m.take k) (ts.take k) 0 (by simp;omega) (by omega) c1.1
   rw[←List.take_succ_eq_append_getElem h3,←List.take_succ_eq_append_getElem hlt]at sl
   rw[←List.take_succ_eq_append_getElem h4,←List.take_succ_eq_append_getElem hlt]at sm
   have dd:rdV data l[k] ts[k]+rdV data m[k] ts[k]≤6:=by
    by_cases cl:rdV data l[k] ts[k]<0∨rdA data (l.take k) (ts.take k) 0+rdV data l[k] ts[k]>6
    ·rw[if_pos cl]at sl;omega
    ·rw[if_neg cl]at sl
     by_cases cm:rdV data m[k] ts[k]<0∨rdA data (m.take k) (ts.take k) 0+rdV data m[k] ts[k]>6
     ·rw[if_pos cm]at sm;omega
     ·rw[if_neg cm]at sm;omega
   obtain⟨hv1,hv2⟩:=htv _ (List.getElem_mem hlt)
   obtain⟨ws,hws⟩:∃ ws,ws=zbv data f ts[k] l[k] m[k]:=⟨_,rfl⟩
   obtain⟨p1,p2⟩:=(zdu h8 f).1 ts[k] l[k] m[k] (by omega) d1 d2 dd
   rw[←hws]at p1 p2
   have p3:zaG (fun _=>1) ws≤729:=Nat.le_trans p2 (zdL dd)
   have p4:ws.length≤729:=Nat.le_trans (zeJ fun p hp=>(p1 p hp).1) p3
   have hnext:zcb data f ts l m (k+1)=zbL out ws:=by
    rw[zgv,←hout];simp[List.getD_eq_getElem?_getD,hlt,h3,h4,hws]
   simp[zqZ,hlt,h3,h4,hvx,hvy,hvz,Nat.add_assoc]
   rw[←hvx,←hvy,←hvz]
   refine zaH (.sl (zbE ws) .none) (fun J=>by rw[hws];exact hM ts[k] l[k] m[k] (by omega) hv1 hv2 d1 d2 dd (by omega) _ _ ⟨rfl,rfl⟩) ?_
   simp[Nat.add_assoc]
   unfold zkI
   refine ALoop.own 11 zdv 4 rfl ?_
   generalize hHB:H++J=HB at *
   show zkI _ _ _ _ _ (.sl (zbK (zbL out (ws.take 0))) (.own HB.length)) _ _ _ _ _ (HB++[.perm zdv 4 0]) _ _
   have hp7:∀ n,HSc (HB++[.perm zdv 4 n]):=fun n=>hsc'.append (by simp[AB.sc])
   have hsF9:∀ J,(AV.sl (zbK out) tok).sc (HB++J).length=true:=fun J=>by
    have h0:(AV.sl (zbK out) tok).sc HB.length=true:=by
     rw[List.all_eq_true]at hsF
     exact hsF _ (by simp[zif,ux])
    exact zcf (by simp) h0
   refine zHN (Inv:=fun q t11 t39 H'=>∃ j:Nat,j≤ws.length∧ws.length-j=q∧t39=.int .i64 j∧t11=.sl (zbK (zbL out (ws.take j))) (.own HB.length)∧H'=HB++[.perm zdv 4 (zbL out (ws.take j)).length]) ws.length ?_ ?_
   ·intro _;exact⟨0,by omega,rfl,rfl,rfl,by simp[zbL]⟩
   ·rintro q t11 t39 H' ⟨j,hj,rfl,rfl,rfl,rfl⟩ hsc7 hlen7 hsF7 Kb7 hKb7
    have hsl:(zbL out (ws.take j)).length≤729*729:=by
     rw[zxh]
     exact Nat.mul_le_mul (by simp;omega) b2
    by_cases hjl:j<ws.length
    ·obtain⟨w1,w2,w3,w4,w5,w6⟩:=p1 ws[j] (List.getElem_mem hjl)
     have w7:=zeN (List.getElem_mem hjl)
     obtain⟨u1,u2,hvu,hu1,hu2⟩:=zb2 ws[j].1
     have hstep:=zFv (out:=out) hjl
     have tk5:List.take 5 (tmC ws[j])=tmC ws[j]:=List.take_of_length_le (by simp)
     have tk2:List.take 2 (tmC ws[j])=ws[j].1.cs:=by rw[tmC,List.take_left' (by simp)]
     have tk3:List.take 3 (List.drop 2 (tmC ws[j]))=zak (ws[j].2:Int):=by rw[tmC,List.drop_left' (by simp),List.take_of_length_le (by simp[zak])]
     have tkn:∀ x∈tmC ws[j],x.known=true:=List.all_eq_true.1 (by rw[tmC,List.all_append,IT.cs_known,zh0];rfl)
     have tsc:∀ n,(tmC ws[j]).all (AV.scA n)=true:=fun n=>by rw[tmC,List.all_append,IT.cs_scA,zp6];rfl
     simp[zq0,hjl,tk5,Nat.add_assoc]
     refine⟨tkn,?_⟩
     have hp10:∀ n,HSc (HB++[.perm zdv 4 n,.cells (tmC ws[j])]):=fun n=>hsc'.append (by simp only[AB.sc,List.all_cons,List.all_nil,tsc];rfl)
     obtain⟨acc,hacc⟩:∃ acc,acc=zbL out (ws.take j):=⟨_,rfl⟩
     rw[←hacc]at hsl hstep ⊢
     obtain⟨g,hg⟩:∃ g:List IT × Nat→List IT × Nat,g=fun r=>(r.1++[ws[j].1],r.2*ws[j].2):=⟨_,rfl⟩
     rw[←hg]at hstep
     refine zHL (Inv:=fun q t11 t45 H'=>∃ i:Nat,i≤out.length∧out.length-i=q∧t45=.int .i64 i∧t11=.sl (zbK (acc++(out.take i).map g)) (.own HB.length)∧H'=HB++[.perm zdv 4 (acc.length+i),.cells (tmC ws[j])]) out.length ?_ ?_
     ·intro _;exact⟨0,by omega,rfl,rfl,by simp,rfl⟩
     ·rintro q t11 t45 H' ⟨i,hi,rfl,rfl,rfl,rfl⟩ hsc10 hlen10 hsF10 Kb10 hKb10
      have hal:(acc++(out.take i).map g).length=acc.length+i:=by simp;omega
      by_cases hil:i<out.length
      ·obtain⟨r1,r2,r3⟩:=b1 out[i] (List.getElem_mem hil)
       have hgi:acc++(out.take (i+1)).map g=(acc++(out.take i).map g)++[g out[i]]:=by
        rw[List.take_succ_eq_append_getElem hil];simp only[List.map_append,List.map_cons,List.map_nil,List.append_assoc]
       have hll:=IT.len_le out[i].1
       simp[zqY,hil,tk2,tk3,Nat.add_assoc]
       have hw2:Sm (ws[j].2:Int):=zc1 (Nat.lt_of_le_of_lt (show ws[j].2≤729 by omega) (by decide))
       have hr2:Sm (out[i].2:Int):=zc1 (Nat.lt_of_le_of_lt r2 (by decide))
       have hci:∀ (a:List IT) (x:IT),IT.css a++[x.cs]=IT.css (a++[x]):=fun a x=>by rw[IT.css_map,IT.css_map,List.map_append];rfl
       simp only[zax,zaY,zaM]
       have hc2:∀ (a:List IT),∀ c∈IT.css a,c.length=2:=fun a c hc=>by
        rw[IT.css_map]at hc
        obtain⟨v,_,rfl⟩:=List.mem_map.1 hc
        simp
       refine⟨hc2 _,?_⟩
       simp[tk2,tk3,zaB,zbf,zaF,AV.pd,zwU,List.set_append_right,hci,Nat.add_assoc]
       refine⟨⟨by omega,by omega⟩,⟨by omega,by omega⟩,?_⟩
       refine zaH (.agg (zak ((out[i].2*ws[j].2:Nat):Int))) (fun J=>zdR _ _ hr2 hw2 _ _ ⟨by rw[Int.natCast_mul],rfl⟩) ?_
       have hpl:zaF (AV.sl (IT.css (out[i].1++[ws[j].1])) (.own (HB.length+3))::zak ((out[i].2*ws[j].2:Nat):Int))=some (.sl (IT.css (out[i].1++[ws[j].1])) .none::zak ((out[i].2*ws[j].2:Nat):Int)):=by
        simp[zaF,AV.pd,zj3]
       have hrq:zbK (acc++(out.take i).map g)++[.sl (IT.css (out[i].1++[ws[j].1])) .none::zak ((out[i].2*ws[j].2:Nat):Int)]=zbK (acc++(out.take (i+1)).map g):=by
        rw[hgi,zFt _ [g out[i]],hg];rfl
       rw[Int.natCast_mul]at hpl hrq
       simp only[List.map_take]at hrq
       have hmin:min i out.length=i:=by omega
       simp[zaz,zaV,hpl,wi i (by omega),hmin]
       refine⟨⟨by omega,by omega⟩,?_⟩
       rw[hrq]
       exact hKb10 _ _ ⟨out.length-(i+1),by omega,Back.at (J:=[.cells (.sl (IT.css out[i].1) .none::zak (out[i].2:Int)),.perm zbl 2 (out[i].1.length+1)]) (H2:=HB++[.perm zdv 4 (acc.length+(i+1)),.cells (tmC ws[j])]) (by simp) (by simp) (hp10 _) (by
        have:=hsF9 [.perm zdv 4 (acc.length+(i+1)),.cells (tmC ws[j])]
        simp only[zkG,ux,List.all_cons,List.all_append,List.all_replicate,List.all_nil,this]
        simp[AV.sc,AV.scA,AV.scB,AV.scV]) ⟨_,_,rfl,i+1,by omega,rfl,rfl,by simp only[List.map_take],rfl⟩⟩
      ·obtain rfl:i=out.length:=by omega
       rw[List.take_length,←hstep]
       simp[zqY,wi j (by omega)]
       have hlen10:acc.length+out.length=(zbL out (ws.take (j+1))).length:=by rw[hstep];simp
       exact hKb7 _ _ ⟨ws.length-(j+1),by omega,Back.at (J:=[.cells (tmC ws[j])]) (H2:=HB++[.perm zdv 4 (zbL out (ws.take (j+1))).length]) (by rw[←hlen10];simp) (by simp) (hp7 _) (by
        have:=hsF9 [.perm zdv 4 (zbL out (ws.take (j+1))).length]
        simp only[zkH,ux,List.all_cons,List.all_append,List.all_replicate,List.all_nil,this]
        simp[AV.sc,AV.scA,AV.scB,AV.scV]) ⟨_,_,rfl,j+1,by omega,rfl,rfl,rfl,rfl⟩⟩
    ·obtain rfl:j=ws.length:=by omega
     rw[List.take_length]at hsl ⊢
     simp[zq0,wi k (by omega)]
     exact hKb _ _ ⟨ts.length-(k+1),by omega,Back.here (by simp;omega) (hp7 _) (by simp[zif,ux,AV.sc,AV.scA,AV.scB,AV.scV]) ⟨_,_,rfl,k+1,J++[.perm zdv 4 (zbL out ws).length],.own HB.length,by omega,rfl,rfl,by rw[hnext],by rw[←hHB];simp⟩⟩
  ·obtain rfl:k=ts.length:=by omega
   rw[←hout]at hK
   simp[zqZ]
   exact Out.at (b:=.sl (zbK out) .none) rfl (Nat.le_refl _) hs (.atom (.sl _ _)) rfl rfl hK
def Gd (s:List (IT × Nat)):Prop:=∀ p∈s,p.1.nodes≤1000∧0<p.2
theorem Gd.add {s:List (IT × Nat)} (h:Gd s) {i:IT} (hi:i.nodes≤1000) (c:Nat):Gd (zbd s i c):=by
 intro p hp
 rcases zod p hp with ⟨q,hq,he,hle⟩ | ⟨h0,he,hle⟩
 ·have:=h q hq;rw[←he];omega
 ·rw[he];omega
theorem Gd.nil:Gd []:=fun p hp=>by simp at hp
theorem zfd {s:List (IT × Nat)} (hG:Gd s) (hN:zaG (fun _=>1) s≤100000) (i:IT) (hi:i.nodes≤1000) (c:Nat) (hc:c≤100000) (id:Nat) (H:zaa) (K:Kt)
  (hid:H[id]?=some (.vec za5 5 s.length (tms s))) (hK:K (.ov id (zbd s i c).length) (H.set id (.vec za5 5 (zbd s i c).length (tms (zbd s i c))))) :
  ACalls tP zdc [.ov id s.length,.agg i.cs,.agg (zak (c:Int))] H K:=by
 have hl:=zeJ (fun p hp=>(hG p hp).2)
 refine zHX s i c hi (fun p hp=>⟨(hG p hp).1,(hG p hp).2,?_⟩) (Nat.lt_of_le_of_lt hc (by decide)) (by omega) id H K hid hK
 exact Nat.lt_of_le_of_lt (Nat.le_trans (zeN hp) hN) (by decide)
theorem zdr {s:List (IT × Nat)} {β:Type} (h:β→IT × Nat) (L:List β) {j:Nat} (hj:j<L.length):zaD s ((L.take (j+1)).map h)=zbd (zaD s ((L.take j).map h)) (h L[j]).1 (h L[j]).2:=by
 rw[List.take_succ_eq_append_getElem hj,List.map_append,List.map_cons,List.map_nil,zDi]
theorem zef (s L:List (IT × Nat)):zaG (fun _=>1) (zaD s L)=zaG (fun _=>1) s+zaG (fun _=>1) L:=zcy _ _ _
theorem zoe (i:IT) (hi:i.nodes≤1000) (H0:zaa) (B:zaa) (hs:HSc H0) (K:Kt) (hK:K (.sl (zbE [(i,1)]) .none) H0) :
  ACalls tP zdc [.snil,.agg i.cs,.agg (zak 1)] (H0++B) (fun r H=>Out H0.length K r H):=by
 refine ACalls.vecA (us:=[.agg i.cs,.agg (zak 1)]) za5 5 ?_
 have:=zfd (s:=[]) Gd.nil (by simp) i hi 1 (by omega) (H0++B).length (H0++B++[.vec za5 5 0 []]) (fun r H=>Out H0.length K r H) (by simp[tms]) ?_
 ·simpa using this
 ·have e:zbd [] i 1=[(i,1)]:=by simp[zbd,zch]
  rw[e]
  have e2:(H0++B++[AB.vec za5 5 0 []]).set (H0++B).length (.vec za5 5 [(i,1)].length (tms [(i,1)]))=H0++(B++[.vec za5 5 [(i,1)].length (tms [(i,1)])]):=by
   rw[List.set_append_right _ _ (Nat.le_refl _)];simp
  rw[e2]
  exact zpV [(i,1)] (H0++B).length (by simp) (by rw[←List.append_assoc];simp) hs hK
theorem zhU:∀ x:IT,x.nodes=IT.nodesL (zaC x)+1
 | .mk _ _=>rfl
theorem zgB (h:IT→IT) (L:List (IT × Nat)):zaG (fun _=>1) (L.map fun w=>(h w.1,w.2))=zaG (fun _=>1) L:=by
 rw[zdP _ (fun _=>1) h 1 (fun x=>by simp),Nat.one_mul]
theorem zfE (p:IT × Nat):List.take 5 (tmC p)=tmC p:=List.take_of_length_le (by simp)
theorem zgD (p:IT × Nat):List.take 2 (tmC p)=p.1.cs:=by rw[tmC,List.take_left' (by simp)]
theorem zgE (p:IT × Nat):List.take 3 (List.drop 2 (tmC p))=zak (p.2:Int):=by rw[tmC,List.drop_left' (by simp),List.take_of_length_le (by simp[zak])]
theorem zgF (p:IT × Nat):∀ x∈tmC p,x.known=true:=List.all_eq_true.1 (by rw[tmC,List.all_append,IT.cs_known,zh0];rfl)
def hpM (H:zaa) (tn:Int) (tks:List VT) (s:List (IT × Nat)):zaa:=H++[.cells [.int .i64 5,.int .i64 tn,.sl (VT.css tks) .none],.vec za5 5 s.length (tms s)]
theorem zi5 {H:zaa} (hs:HSc H) {tn:Int} {tks:List VT} {s:List (IT × Nat)}:HSc (hpM H tn tks s):=
 hs.append (by simp only[AB.sc,List.all_cons,List.all_nil,zqC];simp[AV.scA,AV.scB])
theorem zoP {H:zaa} {tn:Int} {tks:List VT} {s s':List (IT × Nat)} {J:zaa}:(hpM H tn tks s++J).set (H.length+1) (.vec za5 5 s'.length (tms s'))=hpM H tn tks s'++J:=by
 simp[hpM,List.set_append]
theorem zoO {H:zaa} {tn:Int} {tks:List VT} {s:List (IT × Nat)} {J:zaa}:(hpM H tn tks s++J)[H.length+1]?=some (.vec za5 5 s.length (tms s)):=by
 simp[hpM,List.getElem?_append]
@[simp] theorem zEj {H:zaa} {tn:Int} {tks:List VT} {s:List (IT × Nat)}:(hpM H tn tks s).length=H.length+2:=by simp[hpM]
@[simp] theorem zWY {H:zaa} {tn:Int} {tks:List VT} {s:List (IT × Nat)} {c:AB} {J:zaa}:(hpM H tn tks s++c::J)[H.length+2]?=some c:=by
 rw[←zEj (H:=H) (tn:=tn) (tks:=tks) (s:=s)];simp
@[simp] theorem zWW {H:zaa} {tn:Int} {tks:List VT} {s:List (IT × Nat)} {J:zaa}:(hpM H tn tks s++J)[H.length]?=some (.cells [.int .i64 5,.int .i64 tn,.sl (VT.css tks) .none]):=by
 simp[hpM,List.getElem?_append]
@[simp] theorem zWX {H:zaa} {tn:Int} {tks:List VT} {s:List (IT × Nat)}:(hpM H tn tks s)[H.length]?=some (.cells [.int .i64 5,.int .i64 tn,.sl (VT.css tks) .none]):=by
 simp[hpM,List.getElem?_append]
@[simp] theorem zWZ {H:zaa} {tn:Int} {tks:List VT} {s:List (IT × Nat)} (h:H.length<(hpM H tn tks s).length):(hpM H tn tks s)[H.length]=.cells [.int .i64 5,.int .i64 tn,.sl (VT.css tks) .none]:=by
 simp[hpM,List.getElem_append]
theorem zqv (g:List IT→Nat):∀ (l:List (List IT × Nat)) (k:Nat),zbw g (l.take k)≤zbw g l
 | l,0=>by simp
 | [],k+1=>by simp
 | r::l,k+1=>by
  have:=zqv g l k
  simp only[List.take_succ_cons,zeX];omega
theorem zxT (ca:Int) (C:List (IT × Nat)):∀ R:List (List IT × Nat),zaG (fun _=>1) (R.flatMap fun r=>C.map fun w=>(bef (.mk ca r.1) w.1,r.2*w.2))=zbw (fun _=>1) R*zaG (fun _=>1) C
 | []=>by simp
 | r::R=>by
  rw[List.flatMap_cons,zfB,zxT ca C R,zh9,zgB (bef (.mk ca r.1)),zeX,Nat.add_mul]
  simp
theorem zDh (s a b:List (IT × Nat)):zaD s (a++b)=zaD (zaD s a) b:=by simp[zaD]
theorem zu2 {s:List (IT × Nat)} (F:List IT × Nat→List (IT × Nat)) (R:List (List IT × Nat)) {j:Nat} (hj:j<R.length):zaD s ((R.take (j+1)).flatMap F)=zaD (zaD s ((R.take j).flatMap F)) (F R[j]):=by
 rw[List.take_succ_eq_append_getElem hj,List.flatMap_append,zDh,List.flatMap_cons,List.flatMap_nil,List.append_nil]
theorem zEz {data:List Dat} (hk:za2 data) (h8:∀ D∈data,D.cons.length≤8) (hD:zbe data=true) {f:Nat} (hQ:ziL data f) (hM:ziK data f):ziK data (f+1):=by
 intro t l m hf htn htv ht5 hl hm h6 hn H K hK
 obtain⟨k,tn,tks⟩:=t
 simp only[VT.kind]at ht5
 subst ht5
 refine ACalls.out (zIi fun hs=>?_)
 have hTc:(VT.mk 5 tn tks).cs=[.int .i64 5,.int .i64 tn,.sl (VT.css tks) .none]:=rfl
 cases l with
 | nil=>
  have e:zaK data (f+1) (.mk 5 tn tks) [] m=[(.mk 0 m,1)]:=by rw[zaK]
  rw[e]at hK
  simp[zkP,IT.css,zaz,zaV,zfn,AV.known,hTc,Nat.add_assoc]
  refine zcr 1 (by omega) _ _ ?_
  exact zoe (.mk 0 m) (by simp only[IT.nodes,IT.nodesL]at hn ⊢;omega) H [_] hs K hK
 | cons a l=>
  cases m with
  | nil=>
   have e:zaK data (f+1) (.mk 5 tn tks) (a::l) []=[(.mk 0 (a::l),1)]:=by rw[zaK]
   rw[e]at hK
   have hb:(((l.length:Int)+1) == 0)=false:=by simp;omega
   simp[zkP,zaz,zaV,zfn,AV.known,hTc,hb,Nat.add_assoc]
   refine zcr 1 (by omega) _ _ ?_
   exact zoe (.mk 0 (a::l)) (by simp only[IT.nodes,IT.nodesL]at hn ⊢;omega) H [_] hs K hK
  | cons b m=>
   obtain⟨ca,pa⟩:=a
   obtain⟨cb,pb⟩:=b
   obtain⟨la,ll,el⟩:=zka h8 _ _ l hl
   obtain⟨mb,mm,em⟩:=zka h8 _ _ m hm
   obtain⟨ca0,ca8,psa,hpa,hla,hra,ea⟩:=zj9 la
   obtain⟨cb0,cb8,psb,hpb,hlb,hrb,eb⟩:=zj9 mb
   have na:=(IT.mk ca pa).nodes_pos
   have nb:=(IT.mk cb pb).nodes_pos
   simp only[IT.nodesL]at hf hn
   obtain⟨A,hA⟩:∃ A,A=zaK data f (.mk 5 tn tks) l (.mk cb pb::m):=⟨_,rfl⟩
   obtain⟨B,hB⟩:∃ B,B=zaK data f (.mk 5 tn tks) (.mk ca pa::l) m:=⟨_,rfl⟩
   obtain⟨C,hC⟩:∃ C,C=zaK data f (.mk 5 tn tks) l m:=⟨_,rfl⟩
   obtain⟨A1,A2⟩:=(zdu h8 f).2.2 (.mk 5 tn tks) l (.mk cb pb::m) (by simp only[IT.nodesL];omega) ll hm (by omega)
   obtain⟨B1,B2⟩:=(zdu h8 f).2.2 (.mk 5 tn tks) (.mk ca pa::l) m (by simp only[IT.nodesL];omega) hl mm (by omega)
   obtain⟨C1,C2⟩:=(zdu h8 f).2.2 (.mk 5 tn tks) l m (by omega) ll mm (by omega)
   rw[←hA]at A1 A2
   rw[←hB]at B1 B2
   rw[←hC]at C1 C2
   simp only[IT.nodesL]at A1 B1
   replace A2:=Nat.le_trans A2 (zdL (by omega))
   replace B2:=Nat.le_trans B2 (zdL (by omega))
   replace C2:=Nat.le_trans C2 (zdL (by omega))
   have Al:=zeJ fun p hp=>(A1 p hp).1
   have Bl:=zeJ fun p hp=>(B1 p hp).1
   have Cl:=zeJ fun p hp=>(C1 p hp).1
   have hll:=IT.len_le l
   have hml:=IT.len_le m
   have hb1:(((l.length:Int)+1) == 0)=false:=by simp;omega
   have hb2:(((m.length:Int)+1) == 0)=false:=by simp;omega
   have h2c:∀ (x:List IT),∀ c∈IT.css x,c.length=2:=fun x c hc=>by
    rw[IT.css_map]at hc
    obtain⟨v,_,rfl⟩:=List.mem_map.1 hc
    simp
   have hsA:∀ j≤A.length,Gd (zaD [] ((A.take j).map fun w=>(bef (.mk ca pa) w.1,w.2))):=by
    intro j
    induction j with
    | zero=>intro _;exact Gd.nil
    | succ j ih=>
     intro hj
     rw[zdr _ _ (show j<A.length by omega)]
     have:=(A1 A[j] (List.getElem_mem (by omega))).2.2.2.2.2.2
     exact (ih (by omega)).add (by simp only[bef,IT.nodes,IT.nodesL]at this ⊢;simp only[IT.nodes]at hn;omega) _
   have tl1:(List.take (l.length+1) (IT.css (.mk ca pa::l))).tail=IT.css l:=by simp[IT.css,List.take_of_length_le]
   have tl2:(List.take (m.length+1) (IT.css (.mk cb pb::m))).tail=IT.css m:=by simp[IT.css,List.take_of_length_le]
   have hbe:∀ (e:IT) (w:IT),IT.nodesL (zaC w)≤320→e.nodes≤320→(bef e w).nodes≤1000:=fun e w h1 h2=>by
    simp only[bef,IT.nodes,IT.nodesL];omega
   simp[zkP,zaz,zaV,zfn,AV.known,hTc,hb1,hb2,Nat.add_assoc]
   refine⟨h2c _,?_⟩
   rw[tl1,←hTc]
   refine zaH (.sl (zbE A) .none) (fun J=>by rw[hA];exact hM _ l (.mk cb pb::m) (by simp only[IT.nodesL];omega) htn htv rfl ll hm (by omega) (by simp only[IT.nodesL];omega) _ _ ⟨rfl,rfl⟩) ?_
   simp[Nat.add_assoc]
   unfold zkV
   refine ALoop.vec 9 za5 5 rfl ?_
   have hlen1:(H++[AB.cells (VT.mk 5 tn tks).cs]).length=H.length+1:=by simp
   rw[hlen1,List.append_assoc]
   show zkV _ _ _ _ (.ov (H.length+1) (zaD [] ((A.take 0).map fun w=>(bef (.mk ca pa) w.1,w.2))).length) _ _ _ (hpM H tn tks (zaD [] ((A.take 0).map fun w=>(bef (.mk ca pa) w.1,w.2)))) _
   refine zIe (Inv:=fun q t9 t44 H'=>∃ j:Nat,j≤A.length∧A.length-j=q∧t44=.int .i64 j∧t9=.ov (H.length+1) (zaD [] ((A.take j).map fun w=>(bef (.mk ca pa) w.1,w.2))).length∧H'=hpM H tn tks (zaD [] ((A.take j).map fun w=>(bef (.mk ca pa) w.1,w.2)))) A.length ?_ ?_
   ·intro _;exact⟨0,by omega,rfl,rfl,rfl,rfl⟩
   ·rintro q t9 t44 H' ⟨j,hj,rfl,rfl,rfl,rfl⟩ hsc7 hlen7 hsF7 Kb7 hKb7
    by_cases hjl:j<A.length
    ·have hw:=A1 A[j] (List.getElem_mem hjl)
     have hwc:=zeN (List.getElem_mem hjl)
     have hstep:=zdr (s:=[]) (fun w:IT × Nat=>(bef (.mk ca pa) w.1,w.2)) A hjl
     have hNj:zaG (fun _=>1) (zaD [] ((A.take j).map fun w=>(bef (.mk ca pa) w.1,w.2)))≤729:=by
      rw[zef,zcQ,Nat.zero_add,zgB]
      exact Nat.le_trans (zfD _ _ _) A2
     have hG:=hsA j (by omega)
     generalize hsd:zaD [] ((A.take j).map fun w=>(bef (.mk ca pa) w.1,w.2))=s at *
     simp[zrd,hjl,zfE,zgD,zgE,wi j (by omega)]
     refine⟨zgF _,?_⟩
     have hbw:(bef (.mk ca pa) A[j].1).nodes≤1000:=hbe _ _ (by omega) (by omega)
     have hwn:A[j].1.nodes≤1000:=by
      have:=hw.2.2.2.2.2.2
      have:=zhU A[j].1
      omega
     refine zaH (.agg (bef (.mk ca pa) A[j].1).cs) (fun J=>zoo _ _ hwn _ _ ⟨rfl,rfl⟩) ?_
     refine zfd hG (by omega) (bef (.mk ca pa) A[j].1) hbw A[j].2 (by omega) (H.length+1) _ _ zoO ?_
     rw[zoP]
     exact hKb7 _ _ ⟨A.length-(j+1),by omega,Back.at (J:=[.cells (tmC A[j])]) (H2:=hpM H tn tks (zbd s (bef (.mk ca pa) A[j].1) A[j].2)) rfl (by simp) (zi5 hs) (by simp[zkU,ux,AV.sc,AV.scA,AV.scB,AV.scV]) ⟨_,_,rfl,j+1,by omega,rfl,rfl,by rw[hstep],by rw[hstep]⟩⟩
    ·obtain rfl:j=A.length:=by omega
     rw[List.take_length]
     obtain⟨s1,hs1⟩:∃ s1,s1=zaD [] (A.map fun w=>(bef (.mk ca pa) w.1,w.2)):=⟨_,rfl⟩
     have hG1:Gd s1:=by
      have:=hsA A.length (Nat.le_refl _)
      rw[List.take_length,←hs1]at this
      exact this
     have hN1:zaG (fun _=>1) s1≤729:=by rw[hs1,zef,zcQ,Nat.zero_add,zgB];exact A2
     rw[←hs1]
     have hsB:∀ j≤B.length,Gd (zaD s1 ((B.take j).map fun w=>(bef (.mk cb pb) w.1,w.2))):=by
      intro j
      induction j with
      | zero=>intro _;exact hG1
      | succ j ih=>
       intro hj
       rw[zdr _ _ (show j<B.length by omega)]
       have:=(B1 B[j] (List.getElem_mem (by omega))).2.2.2.2.2.2
       exact (ih (by omega)).add (hbe _ _ (by omega) (by omega)) _
     simp[zrd,Nat.add_assoc]
     refine⟨h2c _,?_⟩
     rw[tl2,←hTc]
     refine zaH (.sl (zbE B) .none) (fun J=>by rw[hB];exact hM _ (.mk ca pa::l) m (by simp only[IT.nodesL];omega) htn htv rfl hl mm (by omega) (by simp only[IT.nodesL];omega) _ _ ⟨rfl,rfl⟩) ?_
     simp[Nat.add_assoc]
     show zrf _ _ _ _ (.ov (H.length+1) (zaD s1 ((B.take 0).map fun w=>(bef (.mk cb pb) w.1,w.2))).length) _ _ _ (hpM H tn tks (zaD s1 ((B.take 0).map fun w=>(bef (.mk cb pb) w.1,w.2)))) _
     refine zIb (Inv:=fun q t9 t66 H'=>∃ j:Nat,j≤B.length∧B.length-j=q∧t66=.int .i64 j∧t9=.ov (H.length+1) (zaD s1 ((B.take j).map fun w=>(bef (.mk cb pb) w.1,w.2))).length∧H'=hpM H tn tks (zaD s1 ((B.take j).map fun w=>(bef (.mk cb pb) w.1,w.2)))) B.length ?_ ?_
     ·intro _;exact⟨0,by omega,rfl,rfl,rfl,rfl⟩
     ·rintro q t9 t66 H' ⟨j,hj,rfl,rfl,rfl,rfl⟩ hsc12 hlen12 hsF12 Kb12 hKb12
      by_cases hjl:j<B.length
      ·have hw:=B1 B[j] (List.getElem_mem hjl)
       have hwc:=zeN (List.getElem_mem hjl)
       have hstep:=zdr (s:=s1) (fun w:IT × Nat=>(bef (.mk cb pb) w.1,w.2)) B hjl
       have hNj:zaG (fun _=>1) (zaD s1 ((B.take j).map fun w=>(bef (.mk cb pb) w.1,w.2)))≤1500:=by
        rw[zef,zgB]
        have:=zfD (fun _=>1) B j
        omega
       have hG:=hsB j (by omega)
       generalize hsd:zaD s1 ((B.take j).map fun w=>(bef (.mk cb pb) w.1,w.2))=s at *
       simp[zkQ,hjl,zfE,zgD,zgE,wi j (by omega)]
       refine⟨zgF _,?_⟩
       have hbw:(bef (.mk cb pb) B[j].1).nodes≤1000:=hbe _ _ (by omega) (by omega)
       have hwn:B[j].1.nodes≤1000:=by
        have:=hw.2.2.2.2.2.2
        have:=zhU B[j].1
        omega
       refine zaH (.agg (bef (.mk cb pb) B[j].1).cs) (fun J=>zoo _ _ hwn _ _ ⟨rfl,rfl⟩) ?_
       refine zfd hG (by omega) (bef (.mk cb pb) B[j].1) hbw B[j].2 (by omega) (H.length+1) _ _ zoO ?_
       rw[zoP]
       exact hKb12 _ _ ⟨B.length-(j+1),by omega,Back.at (J:=[.cells (tmC B[j])]) (H2:=hpM H tn tks (zbd s (bef (.mk cb pb) B[j].1) B[j].2)) rfl (by simp) (zi5 hs) (by simp[zkR,ux,AV.sc,AV.scA,AV.scB,AV.scV]) ⟨_,_,rfl,j+1,by omega,rfl,rfl,by rw[hstep],by rw[hstep]⟩⟩
      ·obtain rfl:j=B.length:=by omega
       rw[List.take_length]
       obtain⟨s2,hs2⟩:∃ s2,s2=zaD s1 (B.map fun w=>(bef (.mk cb pb) w.1,w.2)):=⟨_,rfl⟩
       have hG2:Gd s2:=by
        have:=hsB B.length (Nat.le_refl _)
        rw[List.take_length,←hs2]at this
        exact this
       have hN2:zaG (fun _=>1) s2≤1500:=by rw[hs2,zef,zgB];omega
       rw[←hs2]
       have hout:∀ (s:List (IT × Nat)) (J:zaa),s=zaK data (f+1) (.mk 5 tn tks) (.mk ca pa::l) (.mk cb pb::m)→Out H.length K (.ov (H.length+1) s.length) (hpM H tn tks s++J):=by
        intro s J hs'
        subst hs'
        have:=zpV (H:=H) (J:=[.cells [.int .i64 5,.int .i64 tn,.sl (VT.css tks) .none],.vec za5 5 (zaK data (f+1) (.mk 5 tn tks) (.mk ca pa::l) (.mk cb pb::m)).length (tms (zaK data (f+1) (.mk 5 tn tks) (.mk ca pa::l) (.mk cb pb::m)))]++J) (K:=K) (zaK data (f+1) (.mk 5 tn tks) (.mk ca pa::l) (.mk cb pb::m)) (H.length+1) (by omega) (by simp[List.getElem?_append]) hs hK
        simpa[hpM]using this
       by_cases hab:ca=cb
       ·subst hab
        have hmf:zaK data (f+1) (.mk 5 tn tks) (.mk ca pa::l) (.mk ca pb::m)=zaD s2 ((zcd data f ((za8 data (.mk 5 tn tks) ca).getD []) pa pb).flatMap fun r=>C.map fun w=>(bef (.mk ca r.1) w.1,r.2*w.2)):=by
         rw[zaK,if_neg (by simp[zaW]),hs2,hs1,hA,hB,hC];rfl
        rw[hpa]at hpb
        cases hpb
        obtain⟨lf,hff⟩:∃ lf,zaU data (.mk 5 tn tks) ca=some lf:=by
         cases hff:zaU data (.mk 5 tn tks) ca with
         | none=>simp[za8,hff]at hpa
         | some lf=>exact⟨lf,rfl⟩
        obtain⟨bs,hbs,hlb2,hl8,hpay,h200,_⟩:=zj2 hk hff
        rw[hpa]at hpay
        have hps:psa=pick lf bs:=Option.some.inj hpay
        have hpsl:psa.length≤8:=by rw[hps];have:=zp1 lf bs;omega
        have hpsv:∀ x∈psa,x.nodes≤1000∧zaR data 0 x=true:=fun x hx=>by
         rw[hps]at hx
         have hm:=zeS hx
         have:=h200 x hm
         exact⟨by omega,zga hD (zqH htv) hff _ hm⟩
        obtain⟨R,hR⟩:∃ R,R=zcd data f psa pa pb:=⟨_,rfl⟩
        obtain⟨R1,R2⟩:=(zdu h8 f).2.1 psa pa pb (by simp only[IT.nodes]at hf;omega) hla.symm hlb.symm hra hrb (by omega)
        rw[←hR]at R1 R2
        have C3:=((zdu h8 f).2.2 (.mk 5 tn tks) l m (by omega) ll mm (by omega)).2
        rw[←hC]at C3
        have hRC:zbw (fun _=>1) R*zaG (fun _=>1) C≤729:=by
         refine Nat.le_trans (Nat.mul_le_mul R2 C3) ?_
         rw[←zpY (by omega) (by omega)]
         exact zdL (by omega)
        have hR7:zbw (fun _=>1) R≤729:=Nat.le_trans R2 (zdL (by omega))
        have Rl:=zoV fun p hp=>(R1 p hp).1
        rw[hpa,Option.getD_some,←hR]at hmf
        simp[zkQ,IT.cs,Nat.add_assoc]
        refine zaH (.tup [.sl (VT.css psa) .none,.bool true]) (fun J=>by
         have:=zuE data hk (.mk 5 tn tks) htn ca (hpM H tn tks s2++J) (fun v H'=>v=.tup [.sl (VT.css psa) .none,.bool true]∧H'=hpM H tn tks s2++J) (by rw[hpa];exact⟨rfl,rfl⟩)
         exact this) ?_
        simp
        refine⟨h2c _,h2c _,?_⟩
        rw[tl1,tl2,←hTc]
        refine zaH (.sl (zbE C) .none) (fun J=>by rw[hC];exact hM _ l m (by omega) htn htv rfl ll mm (by omega) (by omega) _ _ ⟨rfl,rfl⟩) ?_
        refine zaH (.sl (zbK R) .none) (fun J=>by rw[hR];exact hQ psa pa pb (by simp only[IT.nodes]at hf;omega) hla.symm hlb.symm (by omega) hpsv hra hrb (by omega) (by simp only[IT.nodes]at hn;omega) _ _ ⟨rfl,rfl⟩) ?_
        simp
        obtain⟨F,hF⟩:∃ F:List IT × Nat→List (IT × Nat),F=fun r=>C.map fun w=>(bef (.mk ca r.1) w.1,r.2*w.2):=⟨_,rfl⟩
        have hFN:∀ L,zaG (fun _=>1) (List.flatMap F L)=zbw (fun _=>1) L*zaG (fun _=>1) C:=fun L=>by rw[hF];exact zxT ca C L
        have hFg:∀ r∈R,∀ (i:Nat) (s:List (IT × Nat)),i≤C.length→Gd s→Gd (zaD s ((C.take i).map fun w=>(bef (.mk ca r.1) w.1,r.2*w.2))):=by
         intro r hr i s hi hs
         induction i with
         | zero=>exact hs
         | succ i ih=>
          rw[zdr _ _ (show i<C.length by omega)]
          have h1:=(R1 r hr).2.2.2.2.2.2
          have h2:=(C1 C[i] (List.getElem_mem (by omega))).2.2.2.2.2.2
          exact (ih (by omega)).add (hbe _ _ (by omega) (by simp only[IT.nodes]at hn ⊢;omega)) _
        have hsR:∀ j≤R.length,Gd (zaD s2 ((R.take j).flatMap F)):=by
         intro j
         induction j with
         | zero=>intro _;exact hG2
         | succ j ih=>
          intro hj
          rw[zu2 _ _ (show j<R.length by omega)]
          have:=hFg R[j] (List.getElem_mem (by omega)) C.length _ (Nat.le_refl _) (ih (by omega))
          rw[List.take_length]at this
          rw[hF]at this ⊢
          exact this
        show zrg _ (.ov (H.length+1) (zaD s2 ((R.take 0).flatMap F)).length) _ _ _ _ (hpM H tn tks (zaD s2 ((R.take 0).flatMap F))) _
        refine zIc (Inv:=fun q t9 t120 H'=>∃ j:Nat,j≤R.length∧R.length-j=q∧t120=.int .i64 j∧t9=.ov (H.length+1) (zaD s2 ((R.take j).flatMap F)).length∧H'=hpM H tn tks (zaD s2 ((R.take j).flatMap F))) R.length ?_ ?_
        ·intro _;exact⟨0,by omega,rfl,rfl,rfl,rfl⟩
        ·rintro q t9 t120 H' ⟨j,hj,rfl,rfl,rfl,rfl⟩ hsc21 hlen21 hsF21 Kb21 hKb21
         by_cases hjl:j<R.length
         ·have hr:=R1 R[j] (List.getElem_mem hjl)
          have hrc:=zo0 (List.getElem_mem hjl)
          have hstep:=zu2 (s:=s2) F R hjl
          have hNj:zaG (fun _=>1) (zaD s2 ((R.take j).flatMap F))≤2300:=by
           rw[zef,hFN]
           have:=Nat.mul_le_mul_right (zaG (fun _=>1) C) (zqv (fun _=>1) R j)
           omega
          have hG:=hsR j (by omega)
          generalize hsd:zaD s2 ((R.take j).flatMap F)=s at *
          simp[zrb,hjl]
          obtain⟨cr,hcr⟩:∃ cr:List AV,cr=.sl (IT.css R[j].1) .none::zak (R[j].2:Int):=⟨_,rfl⟩
          have cr1:cr[0]?=some (.sl (IT.css R[j].1) .none):=by rw[hcr];rfl
          have cr3:List.take 3 (List.drop 1 cr)=zak (R[j].2:Int):=by rw[hcr];simp[List.take_of_length_le]
          have crl:cr.length=4:=by rw[hcr];simp
          have crs:∀ n,cr.all (AV.scA n)=true:=fun n=>by rw[hcr];simp[AV.scA,AV.scB,zak]
          rw[←hcr]
          have hp24:∀ s',HSc (hpM H tn tks s'++[.cells cr]):=fun s'=>(zi5 hs).append (by simp only[AB.sc,List.all_cons,List.all_nil,crs];rfl)
          have hat3:∀ s' c,(hpM H tn tks s'++[.cells cr,c])[H.length+3]?=some c:=fun s' c=>by
           have e:H.length+3=(hpM H tn tks s'++[AB.cells cr]).length:=by simp
           rw[e,show hpM H tn tks s'++[AB.cells cr,c]=(hpM H tn tks s'++[.cells cr])++[c] by simp,List.getElem?_append_right (Nat.le_refl _)]
           simp
          have hrn:=hr.2.2.2.2.2.2
          refine zId (Inv:=fun q t9 t126 H'=>∃ i:Nat,i≤C.length∧C.length-i=q∧t126=.int .i64 i∧t9=.ov (H.length+1) (zaD s ((C.take i).map fun w=>(bef (.mk ca R[j].1) w.1,R[j].2*w.2))).length∧H'=hpM H tn tks (zaD s ((C.take i).map fun w=>(bef (.mk ca R[j].1) w.1,R[j].2*w.2)))++[.cells cr]) C.length ?_ ?_
          ·intro _;exact⟨0,by omega,rfl,rfl,rfl,rfl⟩
          ·rintro q t9 t126 H' ⟨i,hi,rfl,rfl,rfl,rfl⟩ hsc24 hlen24 hsF24 Kb24 hKb24
           by_cases hil:i<C.length
           ·have hw:=C1 C[i] (List.getElem_mem hil)
            have hwc:=zeN (List.getElem_mem hil)
            have hstep2:=zdr (s:=s) (fun w:IT × Nat=>(bef (.mk ca R[j].1) w.1,R[j].2*w.2)) C hil
            have hprod:R[j].2*C[i].2≤729:=Nat.le_trans (Nat.mul_le_mul hrc hwc) hRC
            have hNi:zaG (fun _=>1) (zaD s ((C.take i).map fun w=>(bef (.mk ca R[j].1) w.1,R[j].2*w.2)))≤3100:=by
             rw[zef,zh9,zgB (bef (.mk ca R[j].1))]
             have:=Nat.mul_le_mul hrc (zfD (fun _=>1) C i)
             omega
            have hGi:=hFg R[j] (List.getElem_mem hjl) i s (by omega) hG
            generalize hsd2:zaD s ((C.take i).map fun w=>(bef (.mk ca R[j].1) w.1,R[j].2*w.2))=s' at *
            have hr2:Sm (R[j].2:Int):=zc1 (Nat.lt_of_le_of_lt (show R[j].2≤729 by omega) (by decide))
            have hw2:Sm (C[i].2:Int):=zc1 (Nat.lt_of_le_of_lt (show C[i].2≤729 by omega) (by decide))
            have cra:∀ k,zbi false 1 0 cr k=k (.sl (IT.css R[j].1) .none):=fun k=>by rw[hcr];simp
            have crt:List.take 3 cr.tail=zak (R[j].2:Int):=by rw[hcr];simp[List.take_of_length_le]
            have hbc:([.int .i64 ca,.sl (IT.css R[j].1) .none]:List AV)=(IT.mk ca R[j].1).cs:=rfl
            simp[zrc,hil,zfE,zgD,zgE,hat3,cra,crt,crl,IT.cs,zaz,zaV,wi i (by omega)]
            refine⟨zgF _,?_⟩
            rw[hbc]
            have hbw:(bef (.mk ca R[j].1) C[i].1).nodes≤1000:=hbe _ _ (by omega) (by simp only[IT.nodes]at hn ⊢;omega)
            have hwn:C[i].1.nodes≤1000:=by
             have:=hw.2.2.2.2.2.2
             have:=zhU C[i].1
             omega
            refine zaH (.agg (bef (.mk ca R[j].1) C[i].1).cs) (fun J=>zoo _ _ hwn _ _ ⟨rfl,rfl⟩) ?_
            refine zaH (.agg (zak ((R[j].2*C[i].2:Nat):Int))) (fun J=>zdR _ _ hr2 hw2 _ _ ⟨by rw[Int.natCast_mul],rfl⟩) ?_
            refine zfd hGi (by omega) (bef (.mk ca R[j].1) C[i].1) hbw (R[j].2*C[i].2) (by omega) (H.length+1) _ _ zoO ?_
            rw[zoP]
            exact hKb24 _ _ ⟨C.length-(i+1),by omega,Back.at (J:=[.cells (tmC C[i])]) (H2:=hpM H tn tks (zbd s' (bef (.mk ca R[j].1) C[i].1) (R[j].2*C[i].2))++[.cells cr]) (by simp) (by simp) (hp24 _) (by simp[zkT,ux,AV.sc,AV.scA,AV.scB,AV.scV]) ⟨_,_,rfl,i+1,by omega,rfl,rfl,by rw[hstep2],by rw[hstep2]⟩⟩
           ·obtain rfl:i=C.length:=by omega
            rw[List.take_length]
            have hFj:F R[j]=C.map fun w=>(bef (.mk ca R[j].1) w.1,R[j].2*w.2):=by rw[hF]
            rw[hFj]at hstep
            simp[zrc,wi j (by omega)]
            exact hKb21 _ _ ⟨R.length-(j+1),by omega,Back.at (J:=[.cells cr]) (H2:=hpM H tn tks (zaD s (C.map fun w=>(bef (.mk ca R[j].1) w.1,R[j].2*w.2)))) rfl (by simp) (zi5 hs) (by simp[zkS,ux,AV.sc,AV.scA,AV.scB,AV.scV]) ⟨_,_,rfl,j+1,by omega,rfl,rfl,by rw[hstep],by rw[hstep]⟩⟩
         ·obtain rfl:j=R.length:=by omega
          rw[List.take_length]
          have:=hout (zaD s2 (R.flatMap F)) [] (by rw[hmf,hF])
          simp[zrb]
          simpa using this
       ·have hmf:zaK data (f+1) (.mk 5 tn tks) (.mk ca pa::l) (.mk cb pb::m)=s2:=by
         rw[zaK,if_pos (by simpa[zaW]using hab),hs2,hs1,hA,hB]
        have hcb:(ca != cb)=true:=by simpa using hab
        have:=hout s2 [] hmf.symm
        simp[zkQ,IT.cs,hcb,Nat.add_assoc]
        simpa using this
theorem zhj:∀ n,n<13→fct n≤479001600:=by decide
theorem zlq (n:Nat) (hn:n≤12) (H:zaa) (K:Kt) (hK:K (.agg (zak (fct n:Int))) H):ACalls tP zgj [.int .i64 n] H K:=by
 refine ACalls.out (zJ7 fun hs=>?_)
 simp[zzq,Nat.add_assoc]
 refine zcr 1 (by omega) _ _ ?_
 simp[Nat.add_assoc,zbU]
 have hsc:∀ z:Int,HSc (H++[.cells [.bool false,.snil,.snil],.cells (zak z)]):=fun z=>hs.append (by simp[AB.sc,zak,AV.scA,AV.scB])
 refine zJ5 (Inv:=fun q t4 H'=>∃ i:Nat,1≤i∧i≤12∧(i≤n∨i=1)∧n-i=q∧t4=.int .i64 ((i+1:Nat):Int)∧H'=H++[.cells [.bool false,.snil,.snil],.cells (zak (fct i:Int))]) (n-1) ?_ ?_
 ·intro _;exact⟨1,by omega,by omega,by omega,rfl,rfl,rfl⟩
 ·rintro q t4 H' ⟨i,hi1,hi2,hi3,rfl,rfl,rfl⟩ hsc' hlen hsF Kb hKb
  by_cases hlt:i+1≤n
  ·have hlt':((i+1:Nat):Int)≤(n:Int):=by omega
   have hlt'':(i:Int)+1≤(n:Int):=by omega
   have hf:=zhj i (by omega)
   simp[zrJ,hlt'']
   refine zaH (.agg (zak ((i+1:Nat):Int))) (fun J=>by
    have:=zcr (i+1) (by omega) (H++[.cells [.bool false,.snil,.snil],.cells (zak (fct i:Int))]++J) (fun v H'=>v=.agg (zak ((i+1:Nat):Int))∧H'=H++[.cells [.bool false,.snil,.snil],.cells (zak (fct i:Int))]++J) ⟨rfl,rfl⟩
    simpa using this) ?_
   refine zaH (.agg (zak (fct (i+1):Int))) (fun J=>zdR _ _ (zc1 (Nat.lt_of_le_of_lt hf (by decide))) (zc1 (Nat.lt_of_le_of_lt (show i+1≤13 by omega) (by decide))) _ _ ⟨by rw[fct,Int.natCast_mul,Int.mul_comm],rfl⟩) ?_
   have w:IntKind.i64.wrap ((i:Int)+1+1)=((i+1+1:Nat):Int):=by rw[zau (by omega) (by omega)];omega
   simp[Nat.add_assoc,zbU,w]
   exact hKb _ _ ⟨n-(i+1),by omega,Back.here (by simp) (hsc _) (by simp[zlp,ux,AV.sc,AV.scA,AV.scB,AV.scV]) ⟨_,rfl,i+1,by omega,by omega,by omega,rfl,by simp;omega,rfl⟩⟩
  ·have hlt'':¬ ((i:Int)+1≤(n:Int)):=by omega
   have he:fct i=fct n:=by
    by_cases h:i=n
    ·rw[h]
    ·have:n=0∧i=1:=by omega
     rw[this.1,this.2];rfl
   rw[←he]at hK
   simp[zrJ,hlt'',Nat.add_assoc,zbU]
   exact zcF hs hK
theorem zE9:∀ a,a<7→∀ b,b<7→∀ k,k<13→(k≤a+b∧max a b≤k→(fct k=pcf a b k*(fct (k-a)*fct (k-b)*fct (a+b-k))∧fct (k-a)*fct (k-b)*fct (a+b-k)<1000000000∧0<fct (k-a)*fct (k-b)*fct (a+b-k))):=by
 have:=(by decide +kernel:((List.range 7).all fun a=>(List.range 7).all fun b=>(List.range 13).all fun k=>decide (¬ (k≤a+b∧max a b≤k)∨(fct k=pcf a b k*(fct (k-a)*fct (k-b)*fct (a+b-k))∧fct (k-a)*fct (k-b)*fct (a+b-k)<1000000000∧0<fct (k-a)*fct (k-b)*fct (a+b-k))))=true)
 intro a ha b hb k hk h
 have h1:=List.all_eq_true.mp this a (List.mem_range.mpr ha)
 have h2:=List.all_eq_true.mp h1 b (List.mem_range.mpr hb)
 have h3:=List.all_eq_true.mp h2 k (List.mem_range.mpr hk)
 rcases of_decide_eq_true h3 with h4 | h4
 ·exact absurd h h4
 ·exact h4
def zcN (l:List Nat):List (List AV):=l.map fun (z:Nat)=>zak (z:Int)
@[simp] theorem zXd (l:List Nat):(zcN l).length=l.length:=by simp[zcN]
@[simp] theorem zXc {l:List Nat} {i:Nat} (h:i<(zcN l).length):(zcN l)[i]=zak ((l[i]'(by simpa using h):Nat):Int):=by simp[zcN]
def zcG (a b n:Nat):List Nat:=(List.range n).map (pcf a b)
theorem zH4 (a b:Nat) (ha:a≤6) (hb:b≤6) (H:zaa) (K:Kt) (hK:K (.tup [.sl (zcN (zcG a b (a+b+1))) .none,.bool true]) H):ACalls tP zo4 [.int .i64 a,.int .i64 b] H K:=by
 refine ACalls.out (zH2 fun hs=>?_)
 have c1:¬ ((a:Int)<0):=by omega
 have c2:¬ ((b:Int)<0):=by omega
 have c3:¬ ((16:Int)<(a:Int)):=by omega
 have c4:¬ ((16:Int)<(b:Int)):=by omega
 simp[zyT,c1,c2,c3,c4]
 unfold zkO
 refine ALoop.own 6 zfj 3 rfl ?_
 show zkO (.int .i64 a) (.int .i64 b) (.sl (zcN (zcG a b 0)) (.own H.length)) (.int .i64 0) (H++[.perm zfj 3 0]) _
 have hsc:∀ n,HSc (H++[.perm zfj 3 n]):=fun n=>hs.append (by simp[AB.sc])
 refine zH0 (Inv:=fun q t6 t7 H'=>∃ k:Nat,k≤a+b+1∧a+b+1-k=q∧t7=.int .i64 k∧t6=.sl (zcN (zcG a b k)) (.own H.length)∧H'=H++[.perm zfj 3 k]) (a+b+1) ?_ ?_
 ·intro _;exact⟨0,by omega,rfl,rfl,rfl,rfl⟩
 ·rintro q t6 t7 H' ⟨k,hk,rfl,rfl,rfl,rfl⟩ hsc' hlen hsF Kb hKb
  have wab:IntKind.i64.wrap ((a:Int)+(b:Int))=((a+b:Nat):Int):=by rw[zau (by omega) (by omega)];omega
  by_cases hlt:k≤a+b
  ·have hlt':(k:Int)≤(a:Int)+(b:Int):=by omega
   have hpl:(zcG a b k).length=k:=by simp[zcG]
   have hstep:zcN (zcG a b k)++[zak (pcf a b k:Int)]=zcN (zcG a b (k+1)):=by simp[zcN,zcG,List.range_succ]
   have hj:∀ (z:Nat) (J:zaa),z=pcf a b k→zkN (.int .i64 a) (.int .i64 b) (.sl (zcN (zcG a b k)) (.own H.length)) (.int .i64 k) (.ptr (H.length+1) 0) (H++([.perm zfj 3 k,.cells (zak (z:Int))]++J)) (Out H.length K) Kb:=by
    intro z J hz
    subst hz
    simp[zkN,zaB,zbf,zaF,AV.pd,zj3,wi k (by omega),zbU]
    simp only[zax,zaY,zaM]
    simp[hpl,List.set_append_right]
    refine⟨⟨by omega,by omega⟩,?_⟩
    rw[hstep]
    exact hKb _ _ ⟨a+b+1-(k+1),by omega,Back.at (J:=.cells (zak (pcf a b k:Int))::J) (H2:=H++[.perm zfj 3 (k+1)]) (by simp) (by simp) (hsc _) (by simp[zkM,ux,AV.sc,AV.scA,AV.scB,AV.scV]) ⟨_,_,rfl,k+1,by omega,rfl,rfl,rfl,rfl⟩⟩
   simp[zq8,wab,hlt',Nat.add_assoc]
   refine zcr 0 (by omega) _ _ ?_
   have hmx:(if (b:Int)>(a:Int) then (b:Int) else (a:Int))=((max a b:Nat):Int):=by
    split <;> omega
   have hmx':(if a<b then (b:Int) else (a:Int))=((max a b:Nat):Int):=by
    split <;> omega
   simp[Nat.add_assoc,zbU,hmx']
   by_cases hm:max a b≤k
   ·obtain⟨d1,d2,d3⟩:=zE9 a (by omega) b (by omega) k (by omega) ⟨hlt,hm⟩
    have hm':((max a b:Nat):Int)≤(k:Int):=by omega
    have w1:IntKind.i64.wrap ((k:Int)-(a:Int))=((k-a:Nat):Int):=by rw[zau (by omega) (by omega)];omega
    have w2:IntKind.i64.wrap ((k:Int)-(b:Int))=((k-b:Nat):Int):=by rw[zau (by omega) (by omega)];omega
    have w3:IntKind.i64.wrap ((a:Int)+(b:Int)-(k:Int))=((a+b-k:Nat):Int):=by rw[zau (by omega) (by omega)];omega
    have f1:=zhj (k-a) (by omega)
    have f2:=zhj (k-b) (by omega)
    have f3:=zhj (a+b-k) (by omega)
    have hmul:∀ x y:Nat,x*y<1000000000→Sm ((x*y:Nat):Int):=fun x y h=>zc1 (Nat.lt_trans h (by decide))
    have hsm:∀ i:Nat,fct i≤479001600→Sm (fct i:Int):=fun i h=>zc1 (Nat.lt_of_le_of_lt h (by decide))
    have p3:0<fct (a+b-k):=by
     rcases Nat.eq_zero_or_pos (fct (a+b-k)) with h | h
     ·rw[h]at d3;omega
     ·exact h
    have d4:fct (k-a)*fct (k-b)<1000000000:=Nat.lt_of_le_of_lt (Nat.le_mul_of_pos_right _ p3) d2
    simp[hm,w1,w2,w3]
    refine zlq (k-a) (by omega) _ _ ?_
    refine zlq (k-b) (by omega) _ _ ?_
    refine zdR _ _ (hsm _ f1) (hsm _ f2) _ _ ?_
    refine zlq (a+b-k) (by omega) _ _ ?_
    rw[←Int.natCast_mul]
    refine zdR _ _ (hmul _ _ d4) (hsm _ f3) _ _ ?_
    rw[←Int.natCast_mul]
    generalize hd:fct (k-a)*fct (k-b)*fct (a+b-k)=d at d1 d2 d3 ⊢
    simp[Nat.add_assoc,zbU]
    refine zaH (.agg (zak (fct k:Int))) (fun J=>zlq k (by omega) _ _ ⟨rfl,rfl⟩) ?_
    have f4:=zhj k (by omega)
    refine zaH (.tup [.agg (zak (pcf a b k:Int)),.bool true]) (fun J=>by
     rw[d1]at f4 ⊢
     exact zzt (pcf a b k) d (Nat.lt_of_le_of_lt f4 (by decide)) d3 d2 _ _ ⟨rfl,rfl⟩) ?_
    simp[Nat.add_assoc,zbU]
    exact hj (pcf a b k) [.cells (zak (d:Int))] rfl
   ·have hz:pcf a b k=0:=by simp[pcf];omega
    have hm':¬ (((max a b:Nat):Int)≤(k:Int)):=by omega
    simp[hm]
    exact hj 0 [] hz.symm
  ·obtain rfl:k=a+b+1:=by omega
   have hlt':¬ ((a:Int)+(b:Int)+1≤(a:Int)+(b:Int)):=by omega
   simp[zq8,wab,hlt']
   exact⟨⟨rfl,rfl⟩,Out.tup (bs:=[.sl (zcN (zcG a b (a+b+1))) .none,.bool true]) hs hK ⟨slV,za4 rfl rfl,trivial⟩⟩
end Go.Proofs.YtjkkonpjecoieaaGreat

import Derived.Test.YtdmamdnkcefmmaaGreatDoorKNum
import Derived.Test.YtdmamdnkcefmmaaGreatDoorProg
import Derived.KernelRfl
import Derived.Test.YtdmamdnkcefmmaaGreatDoorKGT2
import Derived.Test.YtdmamdnkcefmmaaGreatDoorKZ2
import Derived.Test.YtdmamdnkcefmmaaGreatDoorIT
import Derived.Test.YtdmamdnkcefmmaaGreatDoorAbsL
set_option linter.unusedSimpArgs false
set_option linter.unusedVariables false
set_option maxRecDepth 8000
namespace Go.Proofs.YtdmamdnkcefmmaaGreatDoor
open Go Go.Abs
set_option maxRecDepth 100000
section
variable (t0 t8 t16:AV) (H:zaa) (K:Kt)
def zQj (_:Nat):List Bool:=[]
noncomputable def zQk:Code:=Tryz.f262.body.getD .skip
def zcv:Prop:=zag t16 (zaR 0 0 t0 none (some (.int .i64 1)) λt31=>K t31 H) (K (.str []) H)
def zmu:Prop:=zaR 0 0 t0 none (some (.int .i64 1)) λt15=>zac .eql false t15 (.str [40]) λt17=>zag t17 (zcv t0 t17 H K) (zac .eql false t15 (.str [41]) λt18=>zag t18 (zcv t0 t18 H K) (zac .eql false t15 (.str [44]) λt19=>zag t19 (zcv t0 t19 H K) (zac .eql false t15 (.str [61]) λt20=>zag t20 (zcv t0 t20 H K) (zac .eql false t15 (.str [124]) λt21=>zag t21 (zcv t0 t21 H K) (zac .eql false t15 (.str [43]) λt22=>zag t22 (zcv t0 t22 H K) (zac .eql false t15 (.str [45]) λt23=>zag t23 (zcv t0 t23 H K) (zac .eql false t15 (.str [42]) λt24=>zag t24 (zcv t0 t24 H K) (zac .eql false t15 (.str [47]) λt25=>zag t25 (zcv t0 t25 H K) (zac .eql false t15 (.str [37]) λt26=>zag t26 (zcv t0 t26 H K) (zac .eql false t15 (.str [60]) λt27=>zag t27 (zcv t0 t27 H K) (zac .eql false t15 (.str [59]) λt28=>zag t28 (zcv t0 t28 H K) (zac .eql false t15 (.str [95]) λt29=>zcv t0 t29 H K))))))))))))
def zfE:Prop:=zag t8 (zaR 0 0 t0 none (some (.int .i64 2)) λt13=>K t13 H) (zmu t0 H K)
def zgw:Prop:=zah 0 t0 λt4=>zac .geq false t4 (.int .i64 2) λt5=>zag t5 (zaR 0 0 t0 none (some (.int .i64 2)) λt7=>zac .eql false t7 (.str [45,62]) λt9=>zag t9 (zfE t0 t9 H K) (zac .eql false t7 (.str [60,61]) λt10=>zag t10 (zfE t0 t10 H K) (zac .eql false t7 (.str [61,61]) λt11=>zfE t0 t11 H K))) (zmu t0 H K)
def zOi (_:Nat):List Bool:=[]
noncomputable def zOj:Code:=Tryz.f200.body.getD .skip
def zAN:Prop:=ACalls tP zpf [t0] H λt8 H=>zaz t8 0 λt9=>zaz t8 1 λt10=>zaz t8 2 λt11=>zac .eql false t11 (.int .i64 0) λt13=>zad t13 true H (λK'=>K' t9 H) λt15 H=>zad t13 true H (λK'=>zah 1 t15 (K' · H)) λt16 H=>zad t13 true H (λK'=>zac .eql false t16 (.int .i64 2) (K' · H)) λt17 H=>zaj t13 t17 (.bool false) λt18=>zad t18 true H (λK'=>K' t9 H) λt20 H=>zad t18 true H (λK'=>zai 3 t20 (.int .i64 0) (K' · H)) λt21 H=>zad t18 true H (λK'=>zaf 0 t21 (K' · H)) λt22 H=>zad t18 true H (λK'=>zae false 1 t22 H (K' · H)) λt23 H=>zad t18 true H (λK'=>zac .eql false t23 (.int .i64 2) (K' · H)) λt24 H=>zaj t18 t24 (.bool false) λt25=>zad t25 true H (λK'=>K' t9 H) λt27 H=>zad t25 true H (λK'=>zai 3 t27 (.int .i64 0) (K' · H)) λt28 H=>zad t25 true H (λK'=>zaf 1 t28 (K' · H)) λt29 H=>zad t25 true H (λK'=>zae false 1 t29 H (K' · H)) λt30 H=>zad t25 true H (λK'=>K' t0 H) λt31 H=>zad t25 true H (λK'=>zac .eql false t30 t31 (K' · H)) λt32 H=>zaj t25 t32 (.bool false) λt33=>K t33 H
def zTU (_:Nat):List Bool:=[]
noncomputable def zTV:Code:=Tryz.f92.body.getD .skip
def zCD:Prop:=ACalls tP zoW [t0] H λt8 H=>zaz t8 0 λt9=>zaz t8 1 λt10=>zaz t8 2 λt11=>zac .eql false t11 (.int .i64 0) λt13=>zad t13 true H (λK'=>K' t9 H) λt15 H=>zad t13 true H (λK'=>zah 1 t15 (K' · H)) λt16 H=>zad t13 true H (λK'=>zac .eql false t16 (.int .i64 2) (K' · H)) λt17 H=>zaj t13 t17 (.bool false) λt18=>zad t18 true H (λK'=>K' t9 H) λt20 H=>zad t18 true H (λK'=>zai 3 t20 (.int .i64 0) (K' · H)) λt21 H=>zad t18 true H (λK'=>zaf 0 t21 (K' · H)) λt22 H=>zad t18 true H (λK'=>zae false 1 t22 H (K' · H)) λt23 H=>zad t18 true H (λK'=>zac .eql false t23 (.int .i64 2) (K' · H)) λt24 H=>zaj t18 t24 (.bool false) λt25=>zad t25 true H (λK'=>K' t9 H) λt27 H=>zad t25 true H (λK'=>zai 3 t27 (.int .i64 0) (K' · H)) λt28 H=>zad t25 true H (λK'=>zaf 1 t28 (K' · H)) λt29 H=>zad t25 true H (λK'=>zae false 1 t29 H (K' · H)) λt30 H=>zad t25 true H (λK'=>K' t0 H) λt31 H=>zad t25 true H (λK'=>zac .eql false t30 t31 (K' · H)) λt32 H=>zaj t25 t32 (.bool false) λt33=>K t33 H
variable {t0 t8 t16} {H} {K}
theorem zQl (h:HSc H→zgw t0 H K):ACalls tP zpl [t0] H K:=
 acb zQj Tryz.func262 zQk (by kernel_rfl) (by kernel_rfl) h
theorem zOk (h:HSc H→zAN t0 H K):ACalls tP zi5 [t0] H K:=
 acb zOi Tryz.func200 zOj (by kernel_rfl) (by kernel_rfl) h
theorem zTW (h:HSc H→zCD t0 H K):ACalls tP zjs [t0] H K:=
 acb zTU Tryz.func92 zTV (by kernel_rfl) (by kernel_rfl) h
end
end Go.Proofs.YtdmamdnkcefmmaaGreatDoor
section


end
namespace Go.Proofs.YtdmamdnkcefmmaaGreatDoor
open Go Go.Abs
def kwds:List (List UInt8):=[[97,114,114,97,121],[98,111,111,108],[99,97,116,99,104],[100,97,116,97],[101,108,115,101],[101,110,100],[102,97,108,115,101],[102,110],[102,117,110],[103,101,116],[105,102],[105,110],[105,110,116],[108,101,110],[108,101,116],[109,97,116,99,104],[110,101,119],[114,97,105,115,101],[114,101,97,100],[114,101,102],[115,101,116],[116,104,101,110],[116,105,99,107],[116,114,117,101],[116,114,121],[117,110,105,116],[119,105,116,104],[119,114,105,116,101]]
def kwF (ws:List (List UInt8)) (s:List UInt8):Bool:=ws.any (s == ·)
theorem zcS {H:zaa} {K:AV→zaa→Prop} {r:AV} (hsc:HSc H) (hv:r.isV=true) (hr:r.scV H.length=true) (h:K r H):Out H.length K r H:=by have:=Out.same (J:=[]) rfl hsc hv hr h;simpa using this
theorem zcu (b c:UInt8):((b.toNat:Int) == (c.toNat:Int))=(b == c):=by
 rw[Bool.eq_iff_iff];simp only[beq_iff_eq];constructor
 ·intro h;exact UInt8.toNat_inj.mp (by omega)
 ·rintro rfl;rfl
theorem zv2 (b:UInt8) (H:zaa) (K:AV→zaa→Prop) (hK:K (.bool (zbZ b)) H):ACalls tP zi0 [.int .u8 b.toNat] H K:=by refine ACalls.out (zNq λhs=>?_);have hO:=zcS (K:=K) (H:=H) (r:=.bool (zbZ b)) hs rfl rfl hK;unfold zbZ at hO;cases h1:decide (97≤(b.toNat:Int)) <;> simp[zAv,h1] <;> simpa[h1]using hO
theorem zj6 (b:UInt8) (H:zaa) (K:AV→zaa→Prop) (hK:K (.bool (bUp b)) H):ACalls tP zf1 [.int .u8 b.toNat] H K:=by refine ACalls.out (zNt λhs=>?_);have hO:=zcS (K:=K) (H:=H) (r:=.bool (bUp b)) hs rfl rfl hK;unfold bUp at hO;cases h1:decide (65≤(b.toNat:Int)) <;> simp[zAw,h1] <;> simpa[h1]using hO
theorem zoa (b:UInt8) (H:zaa) (K:AV→zaa→Prop) (hK:K (.bool (za2 b)) H):ACalls tP zhf [.int .u8 b.toNat] H K:=by refine ACalls.out (zNw λhs=>?_);have hO:=zcS (K:=K) (H:=H) (r:=.bool (za2 b)) hs rfl rfl hK;unfold za2 at hO;cases h1:decide (48≤(b.toNat:Int)) <;> simp[zAx,h1] <;> simpa[h1]using hO
theorem zov (b:UInt8) (H:zaa) (K:AV→zaa→Prop) (hK:K (.bool (zbZ b)) H):ACalls tP zjc [.int .u8 b.toNat] H K:=by refine ACalls.out (zPU λhs=>?_);have hO:=zcS (K:=K) (H:=H) (r:=.bool (zbZ b)) hs rfl rfl hK;unfold zbZ at hO;cases h1:decide (97≤(b.toNat:Int)) <;> simp[zBg,h1] <;> simpa[h1]using hO
theorem zj7 (b:UInt8) (H:zaa) (K:AV→zaa→Prop) (hK:K (.bool (bUp b)) H):ACalls tP zhi [.int .u8 b.toNat] H K:=by refine ACalls.out (zPX λhs=>?_);have hO:=zcS (K:=K) (H:=H) (r:=.bool (bUp b)) hs rfl rfl hK;unfold bUp at hO;cases h1:decide (65≤(b.toNat:Int)) <;> simp[zBh,h1] <;> simpa[h1]using hO
theorem zob (b:UInt8) (H:zaa) (K:AV→zaa→Prop) (hK:K (.bool (za2 b)) H):ACalls tP zff [.int .u8 b.toNat] H K:=by refine ACalls.out (zQc λhs=>?_);have hO:=zcS (K:=K) (H:=H) (r:=.bool (za2 b)) hs rfl rfl hK;unfold za2 at hO;cases h1:decide (48≤(b.toNat:Int)) <;> simp[zBm,h1] <;> simpa[h1]using hO
theorem zDG (b:UInt8) (H:zaa) (K:AV→zaa→Prop) (hK:K (.bool (zdj b)) H):ACalls tP zpi [.int .u8 b.toNat] H K:=by refine ACalls.out (zPC λhs=>?_);have hO:=zcS (K:=K) (H:=H) (r:=.bool (zdj b)) hs rfl rfl hK;unfold zdj at hO;have e1:((b.toNat:Int) == 9)=(b == 9):=zcu b 9;have e2:((b.toNat:Int) == 10)=(b == 10):=zcu b 10;have e3:((b.toNat:Int) == 13)=(b == 13):=zcu b 13;have e4:((b.toNat:Int) == 32)=(b == 32):=zcu b 32;cases h1:(b == 9) <;> cases h2:(b == 10) <;> cases h3:(b == 13) <;> simp[zA9,e1,e2,e3,e4,h1,h2,h3] <;> simpa[h1,h2,h3]using hO
theorem zHV (b:UInt8) (H:zaa) (K:AV→zaa→Prop) (hK:K (.bool (bIn b)) H):ACalls tP zhj [.int .u8 b.toNat] H K:=by
 refine ACalls.out (zP6 λhs=>?_);have hO:=zcS (K:=K) (H:=H) (r:=.bool (bIn b)) hs rfl rfl hK;unfold bIn at hO;have e1:((b.toNat:Int) == 95)=(b == 95):=zcu b 95;unfold zBk;refine zov b _ _ ?_;cases h1:zbZ b with
 | true=>simp;simpa[h1]using hO
 | false=>
  simp;refine zj7 b _ _ ?_;cases h2:bUp b with
  | true=>simp;simpa[h1,h2]using hO
  | false=>
   simp;refine zob b _ _ ?_;cases h3:za2 b with
   | true=>simp;simpa[h1,h2,h3]using hO
   | false=>simp[e1];simpa[h1,h2,h3]using hO
theorem zEQ (s:List UInt8) (H:zaa) (K:AV→zaa→Prop) (hK:K (.bool (kwF kwds s)) H):ACalls tP zpk [.str s] H K:=by
 refine ACalls.out (zP9 λhs=>?_);have hO:=zcS (K:=K) (H:=H) (r:=.bool (kwF kwds s)) hs rfl rfl hK;have step:∀ (w:List UInt8) (ws:List (List UInt8)) (rest:Prop),(Out H.length K (.bool (kwF ws s)) H→rest)→Out H.length K (.bool (kwF (w::ws) s)) H →
   zac .eql false (.str s) (.str w) λt=>zag t (zbn t H (Out H.length K)) rest:=by
  intro w ws rest h h';simp only[kwF,List.any_cons]at h h';cases e:(s == w) with
  | true=>simpa[zbn,e]using h'
  | false=>rw[e,Bool.false_or]at h';simpa[zbn,e]using h h'
 unfold zBl
 revert hO
 unfold kwds
 iterate 27 refine step _ _ _ ?_
 intro h';simp only[kwF,List.any_cons,List.any_nil,Bool.or_false]at h';cases e:(s == [119,114,105,116,101]) <;> rw[e]at h' <;> simpa[zbn,e]using h'
theorem zER (s:List UInt8) (H:zaa) (K:AV→zaa→Prop) (hK:K (.bool (kwF kwds s)) H):ACalls tP zi1 [.str s] H K:=by
 refine ACalls.out (zNB λhs=>?_);have hO:=zcS (K:=K) (H:=H) (r:=.bool (kwF kwds s)) hs rfl rfl hK;have e:zAy (.str s) H (Out H.length K)=zsb (.str s) (.sl (kwds.map λw=>[.str w]) .full) (.int .i64 0) H (Out H.length K):=rfl;rw[e];have am:kwds.length=28:=rfl;generalize kwds=ws at *;refine zNz (Inv:=λq t4 H'=>∃ i:Nat,i≤ws.length∧q=ws.length-i∧t4=.int .i64 i∧kwF (ws.drop i) s=kwF ws s∧H'=H) ws.length ?_ ?_
 ·intro _;exact⟨0,by omega,by omega,rfl,by simp,rfl⟩
 ·rintro q t8 H' ⟨i,hi,rfl,rfl,ho,rfl⟩ hsc _ aP Kb ar;by_cases ak:i<ws.length
  ·rw[List.drop_eq_getElem_cons ak]at ho;simp only[kwF,List.any_cons]at ho;cases hz:(ws[i] == s) with
   | true=>
    have gy:(s == ws[i])=true:=by rw[beq_iff_eq]at hz ⊢;exact hz.symm
    rw[gy,Bool.true_or]at ho;simp[zlR,ak,hz];unfold kwF at hO;rw[←ho]at hO;exact hO
   | false=>
    have gy:(s == ws[i])=false:=by rw[beq_eq_false_iff_ne]at hz ⊢;exact λh=>hz h.symm
    rw[gy,Bool.false_or]at ho;simp[zlR,ak,hz];rw[zat (by omega) (by omega)];refine ar _ _ ⟨ws.length-(i+1),by omega,Back.here (Nat.le_refl _) hs ?_ ⟨_,rfl,i+1,by omega,rfl,by simp,ho,rfl⟩⟩;simp[zlS,AV.sc,AV.scV,AV.scA,AV.scB]
  ·simp[zlR,ak];obtain rfl:i=ws.length:=by omega
   rw[List.drop_length]at ho;rw[←ho]at hO;exact hO
theorem zuX {b:UInt8} (h:za2 b=true):48≤(b.toNat:Int)∧(b.toNat:Int)≤57:=by simpa[za2]using h
theorem zGF (s:List UInt8) (hd:∀ b∈s,za2 b=true) (hl:s.length≤1000000) (H:zaa) (K:AV→zaa→Prop) (hK:K (.bool (zb8 s 0)) H):ACalls tP zhk [.str s] H K:=by
 refine ACalls.out (zQh λhs=>?_);have hO:=zcS (K:=K) (H:=H) (r:=.bool (zb8 s 0)) hs rfl rfl hK;simp[zBn];refine zQf (Inv:=λq t3 t7 H'=>∃ (i:Nat) (n:Int),i≤s.length∧q=s.length-i∧t7=.int .i64 i∧t3=.int .i64 n∧0≤n∧n≤1000000∧zb8 (s.drop i) n=zb8 s 0∧H'=H) s.length ?_ ?_
 ·intro _;exact⟨0,0,by omega,by omega,rfl,rfl,by omega,by omega,by simp,rfl⟩
 ·rintro q t3 t7 H' ⟨i,n,hi,rfl,rfl,rfl,dW,ep,ho,rfl⟩ hsc _ aP Kb ar;by_cases ak:i<s.length
  ·have hb:=zuX (hd s[i] (List.getElem_mem ak));rw[List.drop_eq_getElem_cons ak,zb8]at ho;simp[zsY,ak];rw[IntWalk.u8_in _ (by omega),zat (n:=n*10) (by omega) (by omega),zat (n:=(s[i].toNat:Int)-48) (by omega) (by omega),zat (by omega) (by omega),zat (by omega) (by omega)];by_cases hg:1000000<n*10+((s[i].toNat:Int)-48)
   ·rw[if_pos hg]at ho;have eH:decide (1000000<n*10+((s[i].toNat:Int)-48))=true:=by simpa using hg
    rw[←ho]at hO;rw[eH];simpa using hO
   ·rw[if_neg hg]at ho;have eH:decide (1000000<n*10+((s[i].toNat:Int)-48))=false:=by simpa using hg
    rw[eH];simp only[zuB,Bool.false_eq_true,if_false];refine ar _ _ ⟨s.length-(i+1),by omega,Back.here (Nat.le_refl _) hs ?_ ⟨_,_,rfl,i+1,_,by omega,rfl,by simp,rfl,by omega,by omega,ho,rfl⟩⟩;simp[zmt,AV.sc,AV.scV,AV.scA,AV.scB]
  ·simp[zsY,ak];obtain rfl:i=s.length:=by omega
   rw[List.drop_length,zb8]at ho;rw[←ho]at hO;exact hO
theorem zw2 (cl:UInt8→Bool) (f:FuncId) (bo:zd7 tP f=true) (hf:∀ (b:UInt8) (H:zaa) (K:AV→zaa→Prop),K (.bool (cl b)) H→ACalls tP f [.int .u8 b.toNat] H K)
  (s:List UInt8) (hl:s.length≤1000000) (H:zaa) (K:AV→zaa→Prop) (hK:K (.str (s.takeWhile cl)) H):ACalls tP zjd [.str s,.fn f []] H K:=by
 refine ACalls.out (zP2 λhs=>?_);have hO:=zcS (K:=K) (H:=H) (r:=.str (s.takeWhile cl)) hs rfl rfl hK;simp[zBi];refine zP0 (Inv:=λq t5 H'=>∃ i:Nat,i≤s.length∧q=s.length-i∧t5=.int .i64 i∧s.take i++(s.drop i).takeWhile cl=s.takeWhile cl∧H'=H) s.length ?_ ?_
 ·intro _;exact⟨0,by omega,by omega,rfl,by simp,rfl⟩
 ·rintro q t5 H' ⟨i,hi,rfl,rfl,ho,rfl⟩ hsc _ aP Kb ar;by_cases ak:i<s.length
  ·rw[List.drop_eq_getElem_cons ak,List.takeWhile_cons]at ho;simp[zsW,ak];simp only[aCallV,bo,List.append_nil];refine hf _ _ _ ?_;cases hc:cl s[i] with
   | true=>rw[hc,if_pos rfl,List.append_cons,←List.take_succ_eq_append_getElem ak]at ho;simp;rw[zat (by omega) (by omega)];refine ar _ _ ⟨s.length-(i+1),by omega,Back.here (Nat.le_refl _) hs ?_ ⟨_,rfl,i+1,by omega,rfl,by simp,ho,rfl⟩⟩;simp[zmr,AV.sc,AV.scV,AV.scA,AV.scB]
   | false=>rw[hc,if_neg (by simp),List.append_nil]at ho;rw[←ho]at hO;simp[hi];exact hO
  ·simp[zsW,ak];obtain rfl:i=s.length:=by omega
   rw[List.drop_length,List.takeWhile_nil,List.append_nil,List.take_length]at ho;rw[←ho]at hO;simpa using hO
theorem zHO (s:List UInt8) (hd:∀ b∈s,za2 b=true) (hl:s.length≤1000000) (H:zaa) (K:AV→zaa→Prop) (hK:∀ n,K (.tup [.int .i64 n,.bool (zb8 s 0)]) H):ACalls tP zf2 [.str s] H K:=by
 refine ACalls.out (zNH λhs=>?_);have hO:∀ n,Out H.length K (.tup [.int .i64 n,.bool (zb8 s 0)]) H:=λn=>Out.tup0 hs (hK n) ⟨zaW rfl rfl,zaW rfl rfl,trivial⟩;simp only[zAA];refine zNF (Inv:=λq t3 t7 H'=>∃ (i:Nat) (n:Int),i≤s.length∧q=s.length-i∧t7=.int .i64 i∧t3=.int .i64 n∧0≤n∧n≤1000000∧zb8 (s.drop i) n=zb8 s 0∧H'=H) s.length ?_ ?_
 ·intro _;exact⟨0,0,by omega,by omega,rfl,rfl,by omega,by omega,by simp,rfl⟩
 ·rintro q t3 t7 H' ⟨i,n,hi,rfl,rfl,rfl,dW,ep,ho,rfl⟩ hsc _ aP Kb ar;by_cases ak:i<s.length
  ·have hb:=zuX (hd s[i] (List.getElem_mem ak));rw[List.drop_eq_getElem_cons ak,zb8]at ho;simp[zsc,ak];rw[IntWalk.u8_in _ (by omega),zat (n:=n*10) (by omega) (by omega),zat (n:=(s[i].toNat:Int)-48) (by omega) (by omega),zat (by omega) (by omega),zat (by omega) (by omega)];by_cases hg:1000000<n*10+((s[i].toNat:Int)-48)
   ·rw[if_pos hg]at ho;have eH:decide (1000000<n*10+((s[i].toNat:Int)-48))=true:=by simpa using hg
    rw[←ho]at hO;rw[eH];simpa[AV.isV]using hO 0
   ·rw[if_neg hg]at ho;have eH:decide (1000000<n*10+((s[i].toNat:Int)-48))=false:=by simpa using hg
    rw[eH];simp only[zuB,Bool.false_eq_true,if_false];refine ar _ _ ⟨s.length-(i+1),by omega,Back.here (Nat.le_refl _) hs ?_ ⟨_,_,rfl,i+1,_,by omega,rfl,by simp,rfl,by omega,by omega,ho,rfl⟩⟩;simp[zlU,AV.sc,AV.scV,AV.scA,AV.scB]
  ·simp[zsc,ak,AV.isV];obtain rfl:i=s.length:=by omega
   rw[List.drop_length,zb8]at ho;rw[←ho]at hO;exact hO n
theorem zHy (b:UInt8) (r:List UInt8):(b::r).take 1=[b]:=by simp
theorem zp4 {s:List UInt8} (h:¬ 2≤s.length):zdp s=false:=by
 match s,h with
 | [],_=>rfl
 | [b],_=>simp[zdp]
 | _::_::_,h=>simp at h
theorem zxu (b:UInt8) (r:List UInt8) (h:zdp (b::r)=false):sgn (b::r)=if sgns.contains b=true then 1 else 0:=by simp[sgn,h]
theorem zGu (b:UInt8) (r:List UInt8) (H:zaa) (K:AV→zaa→Prop) (hK:K (.str ((b::r).take (sgn (b::r)))) H):ACalls tP zpl [.str (b::r)] H K:=by
 refine ACalls.out (zQl λhs=>?_);have hO:=zcS (K:=K) (H:=H) (r:=.str ((b::r).take (sgn (b::r)))) hs rfl rfl hK;have one:zdp (b::r)=false→zmu (.str (b::r)) H (Out H.length K):=by
  intro h2;rw[zxu b r h2]at hO;have hO:Out H.length K (.str (if sgns.contains b=true then [b] else [])) H:=by cases hc:sgns.contains b <;> rw[hc]at hO <;> simpa using hO
  have step:∀ (c:UInt8) (cs:List UInt8) (rest:Prop),(Out H.length K (.str (if cs.contains b=true then [b] else [])) H→rest)→Out H.length K (.str (if (c::cs).contains b=true then [b] else [])) H →
    zac .eql false (.str [b]) (.str [c]) λt=>zag t (zcv (.str (b::r)) t H (Out H.length K)) rest:=by
   intro c cs rest h h';rw[List.contains_cons]at h';cases e:(b == c) with
   | true=>rw[e]at h';simpa[zcv,e]using h'
   | false=>rw[e,Bool.false_or]at h';simpa[zcv,e]using h h'
  unfold zmu;simp only[zDi,zDb,zDa,Int.toNat_one,zHy,List.drop_zero];refine⟨by decide,⟨by omega,by simp⟩,?_⟩
  revert hO
  unfold sgns
  iterate 12 refine step _ _ _ ?_
  intro h';rw[List.contains_cons]at h';cases e:(b == 95) <;> rw[e]at h' <;> simpa[zcv,e]using h'
 by_cases hl:2≤(b::r).length
 ·have ck:(2:Int)≤r.length+1:=by simp only[List.length_cons]at hl;omega
  have et:1≤r.length:=by simp only[List.length_cons]at hl;omega
  cases h2:zdp (b::r) with
  | true=>
   have h3:sgn (b::r)=2:=by simp[sgn,h2]
   rw[h3]at hO;unfold zdp at h2;simp only[List.take_succ_cons]at h2 hO;cases e1:(b::List.take 1 r == [45,62]) with
   | true=>simpa[zgw,ck,et,zfE,e1]using hO
   | false=>
    cases e2:(b::List.take 1 r == [60,61]) with
    | true=>simpa[zgw,ck,et,zfE,e1,e2]using hO
    | false=>rw[e1,e2]at h2;simp only[Bool.false_or]at h2;simpa[zgw,ck,et,zfE,e1,e2,h2]using hO
  | false=>have ho:=one h2;unfold zdp at h2;simp only[List.take_succ_cons]at h2;rw[Bool.or_eq_false_iff,Bool.or_eq_false_iff]at h2;simpa[zgw,ck,et,zfE,h2.1.1,h2.1.2,h2.2]using ho
 ·have ho:=one (zp4 hl);have:¬ ((2:Int)≤r.length+1):=by simp only[List.length_cons]at hl;omega
  simpa[zgw,this]using ho
theorem zGt (b:UInt8) (r:List UInt8) (H:zaa) (K:AV→zaa→Prop) (hK:K (.int .i64 (sgn (b::r))) H):ACalls tP zo8 [.str (b::r)] H K:=by
 refine ACalls.out (zNN λhs=>?_);have hO:=zcS (K:=K) (H:=H) (r:=.int .i64 (sgn (b::r))) hs rfl rfl hK;have one:zdp (b::r)=false→zsf (.str (b::r)) (.str sgns) (.int .i64 0) H (Out H.length K):=by
  intro h2;rw[zxu b r h2]at hO;have am:sgns.length=13:=rfl;generalize sgns=ws at *;refine zNL (Inv:=λq t4 H'=>∃ i:Nat,i≤ws.length∧q=ws.length-i∧t4=.int .i64 i∧(ws.drop i).contains b=ws.contains b∧H'=H) ws.length ?_ ?_
  ·intro _;exact⟨0,by omega,by omega,rfl,by simp,rfl⟩
  ·rintro q t8 H' ⟨i,hi,rfl,rfl,ho,rfl⟩ hsc _ aP Kb ar;by_cases ak:i<ws.length
   ·rw[List.drop_eq_getElem_cons ak,List.contains_cons]at ho;have e1:=zcu b ws[i];cases hz:(b == ws[i]) with
    | true=>rw[hz,Bool.true_or]at ho;rw[←ho]at hO;simpa[zlW,ak,e1,hz]using hO
    | false=>rw[hz,Bool.false_or]at ho;simp[zlW,ak,e1,hz];rw[zat (by omega) (by omega)];refine ar _ _ ⟨ws.length-(i+1),by omega,Back.here (Nat.le_refl _) hs ?_ ⟨_,rfl,i+1,by omega,rfl,by simp,ho,rfl⟩⟩;simp[zlX,AV.sc,AV.scV,AV.scA,AV.scB]
   ·obtain rfl:i=ws.length:=by omega
    rw[List.drop_length]at ho;rw[←ho]at hO;simpa[zlW,ak]using hO
 by_cases hl:2≤(b::r).length
 ·have ck:(2:Int)≤r.length+1:=by simp only[List.length_cons]at hl;omega
  have et:1≤r.length:=by simp only[List.length_cons]at hl;omega
  cases h2:zdp (b::r) with
  | true=>
   have h3:sgn (b::r)=2:=by simp[sgn,h2]
   rw[h3]at hO;unfold zdp at h2;simp only[List.take_succ_cons]at h2 hO;cases e1:(b::List.take 1 r == [45,62]) with
   | true=>simpa[zgr,ck,et,e1]using hO
   | false=>
    cases e2:(b::List.take 1 r == [60,61]) with
    | true=>simpa[zgr,ck,et,e1,e2]using hO
    | false=>rw[e1,e2]at h2;simp only[Bool.false_or]at h2;simpa[zgr,ck,et,e1,e2,h2]using hO
  | false=>have ho:=one h2;unfold sgns at ho;unfold zdp at h2;simp only[List.take_succ_cons]at h2;rw[Bool.or_eq_false_iff,Bool.or_eq_false_iff]at h2;simpa[zgr,ck,et,h2.1.1,h2.1.2,h2.2]using ho
 ·have ho:=one (zp4 hl);unfold sgns at ho;have:¬ ((2:Int)≤r.length+1):=by simp only[List.length_cons]at hl;omega
  simpa[zgr,this]using ho

def Tk.cs (t:Tk):List AV:=[.int .i64 t.kind,.str t.text,.int .i64 t.pos]
def zjP (kw:List UInt8→Bool) (b:UInt8) (r:List UInt8) (i:Nat):AV:=
 match tok kw b r with
 | .error e=>.tup [.agg [.int .i64 0,.str [],.int .i64 0],.int .i64 e]
 | .ok (k,n)=>.tup [.agg (Tk.cs ⟨k,(b::r).take n,i⟩),.int .i64 0]
theorem zj0 {p:UInt8→Bool} (b:UInt8) (r:List UInt8):(b::r).take ((r.takeWhile p).length+1)=b::r.takeWhile p:=by
 rw[List.take_succ_cons];congr 1;induction r with
 | nil=>simp
 | cons c r ih=>by_cases h:p c=true <;> simp[h,ih]
theorem zES:zd7 tP zhj=true:=by kernel_rfl
theorem zET:zd7 tP zff=true:=by kernel_rfl
theorem zwK {H J:zaa} {K:AV→zaa→Prop} {k p e:Int} {t:List UInt8} (hs:HSc H) (h:K (.tup [.agg [.int .i64 k,.str t,.int .i64 p],.int .i64 e]) H) :
  Out H.length K (.tup [.agg [.int .i64 k,.str t,.int .i64 p],.int .i64 e]) (H++J):=Out.tup hs h ⟨zaW rfl rfl,zaW rfl rfl,trivial⟩
def zmm (t4 t6:AV) (H:zaa) (K:AV→zaa→Prop):Prop:=
 zaf 1 t6 λt69=>
 zae false 1 t69 H λt70=>
 ACalls tP zhk [t70] H λt71 H=>
 aUn .not t71 λt72=>
 zag t72
 (zar [(.int .i64 0),(.str []),(.int .i64 0)] [(0,1),(1,1),(2,1)] [] λt73=>
 zan 3 t4 t73 H λH=>
 zae true 3 t4 H λr0=>
 zaD [r0,(.int .i64 9)] (K · H))
 (zgv t4 t6 H K)
theorem zGj (s:List UInt8) (hl:s.length≤1000000) (i:Nat) (hi:i<s.length) (H:zaa) (K:AV→zaa→Prop) (hK:K (zjP (kwF kwds) s[i] (s.drop (i+1)) i) H):ACalls tP zpj [.str s,.int .i64 i] H K:=by
 refine ACalls.out (zPF λhs=>?_);have bv:=List.drop_eq_getElem_cons hi;have eK:(s.drop i).length≤1000000:=by simp;omega
 generalize hb:s[i]=b at *;generalize hr:s.drop (i+1)=r at *;have jJ:s[i]?.getD 0=b:=by simp[hi,hb]
 have post:∀ (k:Int) (n:Nat),tok (kwF kwds) b r=.ok (k,n)→∀ t,(b::r).take n=t→zgv (.ptr H.length 0) (.ptr (H.length+1) 0) (H++[.cells [.int .i64 0,.str [],.int .i64 0],.cells [.int .i64 k,.str t,.int .i64 i]]) (Out H.length K):=by intro k n ht t lE;subst lE;simp[zjP,ht,Tk.cs]at hK;simp[zgv,zBa,AV.known,AV.isV];exact zwK hs hK
 have bad:∀ e:Int,tok (kwF kwds) b r=.error e→∀ J,Out H.length K (.tup [.agg [.int .i64 0,.str [],.int .i64 0],.int .i64 e]) (H++J):=by intro e ht J;simp[zjP,ht]at hK;exact zwK hs hK
 have cM:=Nat.le_of_lt hi;by_cases cj:(zbZ b || bUp b)=true
 ·have iu:bIn b=true:=by simp[bIn,cj]
  simp[zsQ,hi,hb,cM,zar,zaJ,AV.known];refine zov b _ _ ?_;have hc:zbZ b=true∨(zbZ b=false∧bUp b=true):=by cases hL:zbZ b <;> simp[hL]at cj ⊢;exact cj
  have bz:=λk=>post k ((r.takeWhile bIn).length+1);simp only[tok,cj,if_true,zj0]at bz;rcases hc with hL | ⟨hL,hU⟩
  case' inl=>simp[hL]
  case' inr=>simp[hL];refine zj7 b _ _ ?_;simp[hU]
  all_goals
   rw[bv];refine zw2 bIn zhj zES zHV (b::r) (by rw[←bv];exact eK) _ _ ?_;simp[iu,AV.known];by_cases hn:(r.takeWhile bIn).length+1>24
   ·have bM:(24:Int)<(r.takeWhile bIn).length+1:=by omega
    have:=bad 9 (by simp only[tok,cj,if_true];rw[if_pos hn]);simp[bM,AV.known,AV.isV];exact this _
   ·have bM:¬ (24:Int)<(r.takeWhile bIn).length+1:=by omega
    simp[bM];refine zj7 b _ _ ?_;rw[if_neg hn]at bz;cases hU:bUp b with
    | true=>simp[AV.known,zgu];exact bz 2 (by simp[hU]) _ rfl
    | false=>
     simp[AV.known];refine zEQ _ _ _ ?_;cases jK:kwF kwds (b::r.takeWhile bIn) with
     | true=>simp[AV.known,zgu];exact bz 4 (by simp[hU,jK]) _ rfl
     | false=>simp[AV.known,zgu];exact bz 1 (by simp[hU,jK]) _ rfl
 ·have hL:zbZ b=false:=by simp at cj;exact cj.1
  have hU:bUp b=false:=by simp at cj;exact cj.2
  simp[zsQ,hi,hb,zar,zaJ,AV.known];refine zov b _ _ ?_;simp[hL];refine zj7 b _ _ ?_;simp[hU];refine zob b _ _ ?_;cases hD:za2 b with
  | true=>
   simp[cM,AV.known];rw[bv];refine zw2 za2 zff zET zob (b::r) (by rw[←bv];exact eK) _ _ ?_;have e1:((b.toNat:Int) == 48)=(b == 48):=zcu b 48;have bf:tok (kwF kwds) b r=if (b == 48 && decide ((r.takeWhile za2).length+1>1))=true then .error 2 else if zb8 (b::r.takeWhile za2) 0=true then .ok (3,(r.takeWhile za2).length+1) else .error 9:=by simp only[tok,cj,hD,if_true,zj0];rfl
   have fC:∀ J,ACalls tP zhk [.str (b::r.takeWhile za2)] (H++J) λt H'=>t=.bool (zb8 (b::r.takeWhile za2) 0)∧H'=H++J:=by
    intro J;refine zGF _ ?_ ?_ _ _ ⟨rfl,rfl⟩
    ·intro c hc;rcases List.mem_cons.1 hc with rfl | hc
     ·exact hD
     ·exact List.all_eq_true.1 (List.all_takeWhile) c hc
    ·have h1:(r.takeWhile za2).length≤r.length:=(List.takeWhile_sublist _).length_le;rw[bv]at eK;simp at eK ⊢;omega
   simp[hD,AV.known,e1];have bz:=post 3 ((r.takeWhile za2).length+1);rw[zj0]at bz;rw[bf]at bz bad;have last:∀ J,(¬ (b == 48 && decide ((r.takeWhile za2).length+1>1))=true)→J=[.cells [.int .i64 0,.str [],.int .i64 0],.cells [.int .i64 3,.str (b::r.takeWhile za2),.int .i64 i]]→zmm (.ptr H.length 0) (.ptr (H.length+1) 0) (H++J) (Out H.length K):=by
    rintro J aB rfl;rw[if_neg aB]at bz bad;simp[zmm];refine (fC _).mono ?_;rintro _ _ ⟨rfl,rfl⟩;cases hv:zb8 (b::r.takeWhile za2) 0 with
    | true=>simp;exact bz (by simp[hv]) _ rfl
    | false=>simp[AV.known,zar,zaJ,AV.isV];exact bad 9 (by simp[hv]) _
   cases hz:(b == 48) with
   | true=>
    simp[hz];by_cases hn:1<(r.takeWhile za2).length+1
    ·have bM:(1:Int)<(r.takeWhile za2).length+1:=by omega
     have hd:decide ((r.takeWhile za2).length+1>1)=true:=decide_eq_true hn;have:=bad 2 (by rw[hz,hd];rfl);simp[bM,AV.known,AV.isV];exact this _
    ·have bM:¬ (1:Int)<(r.takeWhile za2).length+1:=by omega
     have hd:decide ((r.takeWhile za2).length+1>1)=false:=decide_eq_false hn;have:=last _ (by rw[hz,hd];decide) rfl;simp[zmm,zar,zaJ]at this;simp[bM];exact this
   | false=>have:=last _ (by simp[hz]) rfl;simp[zmm,zar,zaJ]at this;simp[hz];exact this
  | false=>
   simp[cM,AV.known];rw[bv];refine zGu b r _ _ ?_;simp[AV.known];have bf:tok (kwF kwds) b r=if sgn (b::r)=0 then .error 2 else .ok (5,sgn (b::r)):=by simp only[tok,cj,hD];rfl
   by_cases hz:sgn (b::r)=0
   ·have:=bad 2 (by rw[bf,if_pos hz]);simp[hz,AV.isV];exact this _
   ·have:=post 5 (sgn (b::r)) (by rw[bf,if_neg hz]) _ rfl;have he:(List.take (sgn (b::r)) (b::r)).isEmpty=false:=by
     cases h:sgn (b::r) with
     | zero=>exact absurd h hz
     | succ n=>simp
    simp[he];exact this
def cat (l:List Tk):Except (Nat × Int) (List Tk)→Except (Nat × Int) (List Tk)
 | .error e=>.error e
 | .ok m=>.ok (l++m)
theorem zu8 (l m:List Tk) (r:Except (Nat × Int) (List Tk)):cat l (cat m r)=cat (l++m) r:=by cases r <;> simp[cat]
@[simp] theorem zXn (r:Except (Nat × Int) (List Tk)):cat [] r=r:=by cases r <;> rfl
def zek (r:List UInt8):List UInt8:=r.dropWhile (· != 10)
def zel (r:List UInt8):Nat:=(r.takeWhile (· != 10)).length
section
variable (kw:List UInt8→Bool)
theorem zqp (p:Nat):zbB kw [] p=.ok [⟨6,[],p⟩]:=by unfold zbB;rfl
theorem zx1 {b:UInt8} (h:zdj b=true) (r:List UInt8) (p:Nat):zbB kw (b::r) p=zbB kw r (p+1):=by
 conv=>lhs;unfold zbB
 simp[h]
theorem zx3 {b:UInt8} (h0:zdj b=false) (h:(b == 35)=true) (r:List UInt8) (p:Nat):zbB kw (b::r) p=zbB kw (zek r) (p+1+zel r):=by
 conv=>lhs;unfold zbB
 simp only[h0,h,Bool.false_eq_true,if_false,if_true];rfl
theorem zx2 {b:UInt8} (h0:zdj b=false) (h:(b == 35)=false) {r:List UInt8} {p:Nat} {e:Int} (ht:tok kw b r=.error e):zbB kw (b::r) p=.error (p,e):=by
 conv=>lhs;unfold zbB
 simp only[h0,h,Bool.false_eq_true,if_false,ht]
theorem zx4 {b:UInt8} (h0:zdj b=false) (h:(b == 35)=false) {r:List UInt8} {p:Nat} {k:Int} {n:Nat} (ht:tok kw b r=.ok (k,n)) :
  zbB kw (b::r) p=cat [⟨k,(b::r).take n,p⟩] (zbB kw ((b::r).drop n) (p+n)):=by
 conv=>lhs;unfold zbB
 have hn:=zqo ht;obtain⟨m,rfl⟩:∃ m,n=m+1:=⟨n-1,by omega⟩;simp only[h0,h,Bool.false_eq_true,if_false,ht,Nat.add_sub_cancel,List.drop_succ_cons];cases zbB kw (r.drop m) (p+(m+1)) <;> rfl
end
theorem zjR {b:UInt8} (h:(b == 10)=false) (r:List UInt8):zek (b::r)=zek r∧zel (b::r)=1+zel r:=by
 have hb:b≠10:=by simpa using h
 constructor
 ·simp[zek,hb]
 ·simp[zel,hb];omega
theorem zxv {b:UInt8} (h:(b == 10)=true) (r:List UInt8):zek (b::r)=b::r∧zel (b::r)=0:=by
 have hb:b=10:=by simpa using h
 constructor
 ·simp[zek,hb]
 ·simp[zel,hb]
theorem skipC_nil:zek []=[]∧zel []=0:=⟨rfl,rfl⟩
theorem zqn {kw:List UInt8→Bool} {b:UInt8} {r:List UInt8} {k:Int} {n:Nat} (h:tok kw b r=.ok (k,n)):n≤(b::r).length:=by
 have tw:∀ p:UInt8→Bool,(r.takeWhile p).length≤r.length:=λp=>(List.takeWhile_sublist _).length_le;unfold tok at h;split at h
 ·simp only at h;split at h <;> simp at h;have:=tw bIn;simp;omega
 ·split at h
  ·simp only at h;split at h
   ·simp at h
   ·split at h <;> simp at h;have:=tw za2;simp;omega
  ·simp only at h;split at h <;> simp at h
   obtain⟨_,rfl⟩:=h;unfold sgn;split
   ·rename_i h2;by_cases hl:2≤(b::r).length
    ·exact hl
    ·rw[zp4 hl]at h2;cases h2
   ·split
    ·simp
    ·split <;> simp
theorem zHE {kw:List UInt8→Bool} {b:UInt8} {r:List UInt8} {e:Int} (h:tok kw b r=.error e):e=2∨e=9:=by
 unfold tok at h;split at h
 ·simp only at h;split at h <;> simp at h;omega
 ·split at h
  ·simp only at h;split at h
   ·simp at h;omega
   ·split at h <;> simp at h;omega
  ·simp only at h;split at h <;> simp at h;omega
def zeL (s:List UInt8):AV:=
 if s.length>16384 then .tup [.sl [] .none,.int .i64 0,.int .i64 9] else
 match zbB (kwF kwds) s 0 with
 | .error (p,e)=>.tup [.sl [] .none,.int .i64 p,.int .i64 e]
 | .ok l=>.tup [.sl (l.map Tk.cs) .none,.int .i64 0,.int .i64 0]
theorem two {H:zaa} {x y:AB}:H++[x,y]=(H++[x])++[y]:=by simp
theorem zwJ {H J:zaa} {K:AV→zaa→Prop} {p e:Int} (hs:HSc H) (hK:K (.tup [.sl [] .none,.int .i64 p,.int .i64 e]) H):Out H.length K (.tup [.snil,.int .i64 p,.int .i64 e]) (H++J):=
 Out.tup hs hK ⟨zdr,zaW rfl rfl,zaW rfl rfl,trivial⟩
theorem zHh (s:List UInt8) (H:zaa) (K:AV→zaa→Prop) (hK:K (zeL s) H):ACalls tP zpf [.str s] H K:=by
 refine ACalls.out (zPl λhs=>?_);by_cases hl:s.length>16384
 ·have ck:(16384:Int)<s.length:=by omega
  simp[zsG,ck,AV.isV];unfold zeL at hK;rw[if_pos hl]at hK;exact Out.tup0 hs hK ⟨zdr,zaW rfl rfl,zaW rfl rfl,trivial⟩
 have ck:¬ (16384:Int)<s.length:=by omega
 unfold zeL at hK;rw[if_neg hl]at hK;simp[zsG,ck];have aH:∀ n,HSc (H++[.perm zeB 3 n]):=λn=>hs.append rfl;unfold zmj;refine ALoop.own 5 zeB 3 rfl ?_;show zmj (.str s) (.sl [] (.own H.length)) (.int .i64 0) (H++[.perm zeB 3 0]) (Out H.length K);refine zPi (Inv:=λq t5 t6 H'=>∃ (i:Nat) (l:List Tk),i≤s.length∧l.length≤i∧q=s.length-i∧t6=.int .i64 i∧t5=.sl (l.map Tk.cs) (.own H.length)∧H'=H++[.perm zeB 3 l.length]∧cat l (zbB (kwF kwds) (s.drop i) i)=zbB (kwF kwds) s 0) s.length ?_ ?_
 ·intro _;exact⟨0,[],by omega,by simp,by omega,rfl,rfl,rfl,by simp⟩
 ·rintro q t5 t6 H' ⟨i,l,hi,bn,rfl,rfl,rfl,rfl,ho⟩ hsc am aP Kb ar;have done:cat l (.ok [⟨6,[],s.length⟩])=zbB (kwF kwds) s 0→zmi (.str s) (.sl (l.map Tk.cs) (.own H.length)) (H++[.perm zeB 3 l.length]) (Out H.length K):=by intro ho;rw[←ho]at hK;simp[zmi,zA3,zar,zaJ,zau,zaV,plain,AV.pd,zaw,zaL,zaI,AV.isV];refine⟨by omega,?_⟩;simp[cat,Tk.cs]at hK;exact Out.tup hs hK ⟨slV,zaW rfl rfl,zaW rfl rfl,trivial⟩
  by_cases ak:i<s.length
  ·have bv:=List.drop_eq_getElem_cons ak;simp[zsH,ak];refine zDG _ _ _ ?_;have e35:((s[i].toNat:Int) == 35)=(s[i] == 35):=zcu s[i] 35;cases cC:zdj s[i] with
   | true=>rw[bv,zx1 _ cC]at ho;simp[zgt];rw[zat (by omega) (by omega)];refine ar _ _ ⟨s.length-(i+1),by omega,Back.here (by simp) (aH _) ?_ ⟨_,_,rfl,i+1,l,by omega,by omega,rfl,by simp,rfl,rfl,ho⟩⟩;simp[zgs,AV.sc,AV.scV,AV.scA,AV.scB]
   | false=>
    simp[e35];cases aR:(s[i] == 35) with
    | true=>
     simp;rw[bv,zx3 _ cC aR]at ho;have eB:(s[i] == 10)=false:=by rw[beq_iff_eq]at aR;rw[aR];rfl
     obtain⟨c1,c2⟩:=zjR eB (s.drop (i+1));rw[Nat.add_assoc,←c1,←c2,←bv]at ho;refine zPj (Inv:=λq t6 H'=>∃ (j:Nat),i≤j∧j≤s.length∧q=s.length-j∧t6=.int .i64 j∧H'=H++[.perm zeB 3 l.length]∧cat l (zbB (kwF kwds) (zek (s.drop j)) (j+zel (s.drop j)))=zbB (kwF kwds) s 0) (s.length-i) ?_ ?_
     ·intro _;exact⟨i,by omega,by omega,by omega,rfl,rfl,ho⟩
     ·rintro q t6 H' ⟨j,lF,hj,rfl,rfl,rfl,ho⟩ hsc am aP Kb9 fJ;by_cases cD:j<s.length
      ·have ec:=List.drop_eq_getElem_cons cD;have e10:((s[j].toNat:Int) == 10)=(s[j] == 10):=zcu s[j] 10;simp[zsI,cD,e10];cases hz:(s[j] == 10) with
       | true=>
        obtain⟨d1,d2⟩:=zxv hz (s.drop (j+1));rw[ec,d1,d2,←ec,Nat.add_zero]at ho;have hij':i≠j:=by rintro rfl;rw[eB]at hz;cases hz
        simp[zgt];refine ar _ _ ⟨s.length-j,by omega,Back.here (by simp) (aH _) ?_ ⟨_,_,rfl,j,l,by omega,by omega,rfl,by simp,rfl,rfl,ho⟩⟩;simp[zgs,AV.sc,AV.scV,AV.scA,AV.scB]
       | false=>obtain⟨d1,d2⟩:=zjR hz (s.drop (j+1));rw[ec,d1,d2,←Nat.add_assoc]at ho;simp;rw[zat (by omega) (by omega)];refine fJ _ _ ⟨s.length-(j+1),by omega,Back.here (by simp) (aH _) ?_ ⟨_,rfl,j+1,by omega,by omega,rfl,by simp,rfl,ho⟩⟩;simp[zmh,AV.sc,AV.scV,AV.scA,AV.scB]
      ·obtain rfl:j=s.length:=by omega
       simp[zsI];rw[List.drop_length,skipC_nil.1,skipC_nil.2,Nat.add_zero,zqp]at ho;exact done ho
    | false=>
     simp;refine zGj s (by omega) i ak _ _ ?_;unfold zjP;cases ht:tok (kwF kwds) s[i] (s.drop (i+1)) with
     | error e=>
      rw[bv,zx2 _ cC aR ht]at ho;have he:(e != 0)=true:=by rcases zHE ht with rfl | rfl <;> rfl
      rw[←ho]at hK;simp[AV.known,AV.isV,he];exact zwJ hs hK
     | ok kn=>
      obtain⟨k,n⟩:=kn;rw[bv,zx4 _ cC aR ht,zu8,←bv]at ho;have hn:=zqn ht;rw[←bv]at hn;simp at hn;have dW:=zqo ht;simp[Tk.cs,AV.known,zau,zaV,plain,AV.pd,zaw,zaL,zaI,zgt];refine⟨by omega,?_⟩;rw[show min n (s.length-i)=n by omega,zat (by omega) (by omega),two];refine ar _ _ ⟨s.length-(i+n),by omega,Back.same (by simp) (aH _) ?_ ⟨_,_,rfl,i+n,l++[⟨k,(s.drop i).take n,i⟩],by omega,by simp;omega,rfl,by simp,by simp[Tk.cs],by simp,?_⟩⟩
      ·simp[zgs,AV.sc,AV.scV,AV.scA,AV.scB]
      ·rw[List.drop_drop]at ho;exact ho
  ·obtain rfl:i=s.length:=by omega
   rw[List.drop_length,zqp]at ho;simpa[zsH]using done ho
theorem zj1 (s:List UInt8) (i n:Nat):List.drop i (List.take (i+n) s)=List.take n (List.drop i s):=by rw[List.drop_take];congr 1;omega
def zgm (t0 t5 t6 t7 t8:AV) (H:zaa) (K:AV→zaa→Prop) (Kb5:List AV→zaa→Prop):Prop:=
 zac .gtr false t8 (.int .i64 24) λt118=>
 zag t118
 (zaD [.snil,t6,(.int .i64 9)] (K · H))
 (ACalls tP zf1 [t7] H λt121 H=>
 zag t121
 (zeP t0 t5 t6 t8 (.int .i64 2) H K Kb5)
 (zac .add false t6 t8 λt126=>
 zaR 0 0 t0 (some t6) (some t126) λt127=>
 ACalls tP zi1 [t127] H λt128 H=>
 zag t128
 (zeP t0 t5 t6 t8 (.int .i64 4) H K Kb5)
 (zeP t0 t5 t6 t8 (.int .i64 1) H K Kb5)))
section
variable (s:List UInt8) (hl:¬ s.length>16384) (i:Nat) (ak:i<s.length) (H:zaa) (l:List Tk) (bn:l.length≤i) (aH:∀ n,HSc (H++[.perm zbt 3 n])) (K:AV→zaa→Prop) (Kb:List AV→zaa→Prop)
include hl ak bn aH
theorem zHW (cj:(zbZ s[i] || bUp s[i])=true)
  (app:∀ (k:Int) (n:Nat),tok (kwF kwds) s[i] (s.drop (i+1))=.ok (k,n)→∀ t,(s.drop i).take n=t→zhY (.str s) (.sl (l.map Tk.cs++[[.int .i64 k,.str t,.int .i64 i]]) (.own H.length)) (.int .i64 i) (.int .i64 n) (H++[.perm zbt 3 (l.length+1)]) (Out H.length K) Kb)
  (bad:∀ e:Int,tok (kwF kwds) s[i] (s.drop (i+1))=.error e→Out H.length K (.tup [.snil,.int .i64 i,.int .i64 e]) (H++[.perm zbt 3 l.length])) :
  zro (.str s) (.sl (l.map Tk.cs) (.own H.length)) (.int .i64 i) (.int .u8 s[i].toNat) (.int .i64 1) (H++[.perm zbt 3 l.length]) (Out H.length K) Kb:=by
 refine zKK (Inv:=λq t8 H'=>∃ (j:Nat),i+j≤s.length∧0<j∧q=s.length-j∧t8=.int .i64 j∧H'=H++[.perm zbt 3 l.length]∧j+((s.drop (i+j)).takeWhile bIn).length=((s.drop (i+1)).takeWhile bIn).length+1) (s.length-1) ?_ ?_
 ·intro _;exact⟨1,by omega,by omega,by omega,rfl,rfl,by omega⟩
 ·rintro q t8 H' ⟨j,lF,hj0,rfl,rfl,rfl,hn⟩ hsc am aP Kb18 fK;have w1:IntKind.i64.wrap ((i:Int)+j)=i+j:=zat (by omega) (by omega);have w2:IntKind.i64.wrap ((j:Int)+1)=j+1:=zat (by omega) (by omega);have fin:((s.drop (i+j)).takeWhile bIn).length=0→zgm (.str s) (.sl (l.map Tk.cs) (.own H.length)) (.int .i64 i) (.int .u8 s[i].toNat) (.int .i64 j) (H++[.perm zbt 3 l.length]) (Out H.length K) Kb:=by
   intro h0;rw[h0]at hn;have bf:tok (kwF kwds) s[i] (s.drop (i+1))=if j>24 then .error 9 else .ok (if bUp s[i]=true then 2 else if kwF kwds ((s.drop i).take j)=true then 4 else 1,j):=by rw[List.drop_eq_getElem_cons ak];simp only[tok,cj,if_true,←hn,Nat.add_zero]
   by_cases h24:j>24
   ·have iL:(24:Int)<j:=by omega
    rw[if_pos h24]at bf;simp[zgm,iL,AV.isV];exact bad 9 bf
   ·have iL:¬ (24:Int)<j:=by omega
    rw[if_neg h24]at bf;simp[zgm,iL];refine zj6 _ _ _ ?_;have fin2:∀ k,k=(if bUp s[i]=true then 2 else if kwF kwds ((s.drop i).take j)=true then 4 else 1:Int)→zeP (.str s) (.sl (l.map Tk.cs) (.own H.length)) (.int .i64 i) (.int .i64 j) (.int .i64 k) (H++[.perm zbt 3 l.length]) (Out H.length K) Kb:=by intro k hk;rw[←hk]at bf;have:=app k j bf _ rfl;simp[zeP,w1,w2,zar,zaJ,zau,zaV,plain,AV.pd,zaw,zaL,zaI,zeQ];refine⟨by omega,by omega,by omega,?_⟩;rw[show ((i:Int)+j).toNat=i+j by omega,zj1];exact this
    cases hU:bUp s[i] with
    | true=>simp;exact fin2 2 (by simp[hU])
    | false=>
     simp[w1,w2];refine⟨by omega,by omega,?_⟩;rw[show ((i:Int)+j).toNat=i+j by omega,zj1];refine zER _ _ _ ?_;cases jK:kwF kwds ((s.drop i).take j) with
     | true=>simp;exact fin2 4 (by simp[hU,jK])
     | false=>simp;exact fin2 1 (by simp[hU,jK])
  by_cases cD:i+j<s.length
  ·have e95:((s[i+j].toNat:Int) == 95)=(s[i+j] == 95):=zcu s[i+j] 95;have bA:(i+j:Int)<s.length:=by omega
   rw[List.drop_eq_getElem_cons cD,List.takeWhile_cons]at hn fin;have key:bIn s[i+j]=true→Kb18 (zhX (.str s) (.sl (l.map Tk.cs) (.own H.length)) (.int .i64 i) (.int .u8 s[i].toNat) (.int .i64 (j+1))) (H++[.perm zbt 3 l.length]):=by intro iM;rw[iM]at hn;simp at hn;refine fK _ _ ⟨s.length-(j+1),by omega,Back.here (by simp) (aH _) ?_ ⟨_,rfl,j+1,by omega,by omega,rfl,by simp,rfl,by rw[←Nat.add_assoc];omega⟩⟩;simp[zhX,AV.sc,AV.scV,AV.scA,AV.scB]
   have no:bIn s[i+j]=false→zgm (.str s) (.sl (l.map Tk.cs) (.own H.length)) (.int .i64 i) (.int .u8 s[i].toNat) (.int .i64 j) (H++[.perm zbt 3 l.length]) (Out H.length K) Kb:=by intro iM;rw[iM]at fin;exact fin (by simp)
   have aA:s[((i:Int)+j).toNat]?.getD 0=s[i+j]:=by rw[show ((i:Int)+j).toNat=i+j by omega];simp[cD]
   unfold bIn at key no;simp[zrl,w1,w2,bA,aA];refine⟨by omega,?_⟩;refine zv2 _ _ _ ?_;cases hL:zbZ s[i+j] with
   | true=>simpa using key (by simp[hL])
   | false=>
    simp[w1,w2,bA,aA];refine⟨by omega,zj6 _ _ _ ?_⟩;cases hU:bUp s[i+j] with
    | true=>simpa using key (by simp[hU])
    | false=>
     simp[w1,w2,bA,aA];refine⟨by omega,zoa _ _ _ ?_⟩;cases hD:za2 s[i+j] with
     | true=>simpa using key (by simp[hD])
     | false=>
      simp[w1,w2,bA,aA,e95];refine⟨by omega,?_⟩;cases h95:(s[i+j] == 95) with
      | true=>simpa using key (by simp[h95])
      | false=>simpa[zgm,w1]using no (by simp[hL,hU,hD,h95])
  ·have bA:¬ (i+j:Int)<s.length:=by omega
   have:s.drop (i+j)=[]:=List.drop_eq_nil_of_le (by omega);rw[this]at fin;have:=fin rfl;simp[zrl,w1,w2,bA];simpa[zgm,w1]using this
end
def zk1 (t0 t5 t6 t8:AV) (H:zaa) (K:AV→zaa→Prop) (Kb5:List AV→zaa→Prop):Prop:=
 zac .add false t6 t8 λt172=>
 zaR 0 0 t0 (some t6) (some t172) λt173=>
 ACalls tP zf2 [t173] H λt174 H=>
 zaz t174 0 λt175=>
 zaz t174 1 λt176=>
 aUn .not t176 λt178=>
 zag t178
 (zaD [.snil,t6,(.int .i64 9)] (K · H))
 (zac .add false t6 t8 λt185=>
 zaR 0 0 t0 (some t6) (some t185) λt186=>
 zar [(.int .i64 0),(.str []),(.int .i64 0)] [(0,1),(1,1),(2,1)] [(0,(.int .i64 3)),(1,t186),(2,t6)] λt188=>
 zau 3 [(.int .i64 0),(.str []),(.int .i64 0)] 1 [(0,t188)] λt189=>
 zaw zbt 3 32 t5 t189 H λt190 H=>
 zeQ t0 t190 t6 t8 H K Kb5)
def zgn (t0 t5 t6 t7 t8:AV) (H:zaa) (K:AV→zaa→Prop) (Kb5:List AV→zaa→Prop):Prop:=
 zac .gtr false t8 (.int .i64 1) λt161=>
 zad t161 true H (λK'=>K' t7 H) λt163 H=>
 zad t161 true H (λK'=>zac .eql false t163 (.int .u8 48) (K' · H)) λt164 H=>
 zaj t161 t164 (.bool false) λt165=>
 zag t165
 (zaD [.snil,t6,(.int .i64 2)] (K · H))
 (zac .add false t6 t8 λt172=>
 zaR 0 0 t0 (some t6) (some t172) λt173=>
 ACalls tP zf2 [t173] H λt174 H=>
 zaz t174 0 λt175=>
 zaz t174 1 λt176=>
 aUn .not t176 λt178=>
 zag t178
 (zaD [.snil,t6,(.int .i64 9)] (K · H))
 (zac .add false t6 t8 λt185=>
 zaR 0 0 t0 (some t6) (some t185) λt186=>
 zar [(.int .i64 0),(.str []),(.int .i64 0)] [(0,1),(1,1),(2,1)] [(0,(.int .i64 3)),(1,t186),(2,t6)] λt188=>
 zau 3 [(.int .i64 0),(.str []),(.int .i64 0)] 1 [(0,t188)] λt189=>
 zaw zbt 3 32 t5 t189 H λt190 H=>
 zeQ t0 t190 t6 t8 H K Kb5))
section
variable (s:List UInt8) (hl:¬ s.length>16384) (i:Nat) (ak:i<s.length) (H:zaa) (l:List Tk) (bn:l.length≤i) (aH:∀ n,HSc (H++[.perm zbt 3 n])) (K:AV→zaa→Prop) (Kb:List AV→zaa→Prop)
include hl ak bn aH
theorem zFg (cj:¬ (zbZ s[i] || bUp s[i])=true) (hD:za2 s[i]=true)
  (app:∀ (k:Int) (n:Nat),tok (kwF kwds) s[i] (s.drop (i+1))=.ok (k,n)→∀ t,(s.drop i).take n=t→zhY (.str s) (.sl (l.map Tk.cs++[[.int .i64 k,.str t,.int .i64 i]]) (.own H.length)) (.int .i64 i) (.int .i64 n) (H++[.perm zbt 3 (l.length+1)]) (Out H.length K) Kb)
  (bad:∀ e:Int,tok (kwF kwds) s[i] (s.drop (i+1))=.error e→Out H.length K (.tup [.snil,.int .i64 i,.int .i64 e]) (H++[.perm zbt 3 l.length])) :
  zrp (.str s) (.sl (l.map Tk.cs) (.own H.length)) (.int .i64 i) (.int .u8 s[i].toNat) (.int .i64 1) (H++[.perm zbt 3 l.length]) (Out H.length K) Kb:=by
 refine zKL (Inv:=λq t8 H'=>∃ (j:Nat),i+j≤s.length∧0<j∧q=s.length-j∧t8=.int .i64 j∧H'=H++[.perm zbt 3 l.length]∧j+((s.drop (i+j)).takeWhile za2).length=((s.drop (i+1)).takeWhile za2).length+1) (s.length-1) ?_ ?_
 ·intro _;exact⟨1,by omega,by omega,by omega,rfl,rfl,by omega⟩
 ·rintro q t8 H' ⟨j,lF,hj0,rfl,rfl,rfl,hn⟩ hsc am aP Kb18 fK;have w1:IntKind.i64.wrap ((i:Int)+j)=i+j:=zat (by omega) (by omega);have w2:IntKind.i64.wrap ((j:Int)+1)=j+1:=zat (by omega) (by omega);have e48:((s[i].toNat:Int) == 48)=(s[i] == 48):=zcu s[i] 48;have fin:((s.drop (i+j)).takeWhile za2).length=0→zgn (.str s) (.sl (l.map Tk.cs) (.own H.length)) (.int .i64 i) (.int .u8 s[i].toNat) (.int .i64 j) (H++[.perm zbt 3 l.length]) (Out H.length K) Kb:=by
   intro h0;rw[h0]at hn;have gY:(s.drop i).take j=s[i]::(s.drop (i+1)).takeWhile za2:=by rw[List.drop_eq_getElem_cons ak,show j=((s.drop (i+1)).takeWhile za2).length+1 by omega,zj0]
   have bf:tok (kwF kwds) s[i] (s.drop (i+1))=if (s[i] == 48 && decide (j>1))=true then .error 2 else if zb8 ((s.drop i).take j) 0=true then .ok (3,j) else .error 9:=by rw[List.drop_eq_getElem_cons ak];simp only[tok,cj,hD,if_true,←hn,Nat.add_zero];rfl
   have eU:∀ (K:AV→zaa→Prop) (H:zaa),(∀ n,K (.tup [.int .i64 n,.bool (zb8 ((s.drop i).take j) 0)]) H)→ACalls tP zf2 [.str ((s.drop i).take j)] H K:=by
    intro K H hK;refine zHO _ ?_ (by simp;omega) _ _ hK;intro c hc;rw[gY]at hc;rcases List.mem_cons.1 hc with rfl | hc
    ·exact hD
    ·exact List.all_eq_true.1 (List.all_takeWhile) c hc
   have rest:¬ (s[i] == 48 && decide (j>1))=true→zk1 (.str s) (.sl (l.map Tk.cs) (.own H.length)) (.int .i64 i) (.int .i64 j) (H++[.perm zbt 3 l.length]) (Out H.length K) Kb:=by
    intro aB;rw[if_neg aB]at bf;simp[zk1,w1];refine⟨by omega,by omega,?_⟩;rw[show ((i:Int)+j).toNat=i+j by omega,zj1];refine eU _ _ λn=>?_;cases hv:zb8 ((s.drop i).take j) 0 with
    | false=>rw[hv]at bf;simp[AV.isV];exact bad 9 bf
    | true=>rw[hv]at bf;have:=app 3 j bf _ rfl;simp[zar,zaJ,zau,zaV,plain,AV.pd,zaw,zaL,zaI,zeQ];refine⟨by omega,by omega,by omega,?_⟩;exact this
   by_cases h1:j>1
   ·have ce:(1:Int)<j:=by omega
    have hd:decide (j>1)=true:=decide_eq_true h1;rw[hd]at rest bf;cases hz:(s[i] == 48) with
    | true=>rw[hz]at bf;simp[zgn,ce,e48,hz,AV.isV];exact bad 2 bf
    | false=>have:=rest (by rw[hz];decide);simp[zgn,ce,e48,hz];simpa[zk1]using this
   ·have ce:¬ (1:Int)<j:=by omega
    have:=rest (by rw[decide_eq_false h1];simp);simp[zgn,ce];simpa[zk1]using this
  by_cases cD:i+j<s.length
  ·have bA:(i+j:Int)<s.length:=by omega
   rw[List.drop_eq_getElem_cons cD,List.takeWhile_cons]at hn fin;have aA:s[((i:Int)+j).toNat]?.getD 0=s[i+j]:=by rw[show ((i:Int)+j).toNat=i+j by omega];simp[cD]
   simp[zrm,w1,w2,bA,aA];refine⟨by omega,?_⟩;refine zoa _ _ _ ?_;cases hb:za2 s[i+j] with
   | true=>rw[hb]at hn;simp at hn;simp[w1,w2];refine fK _ _ ⟨s.length-(j+1),by omega,Back.here (by simp) (aH _) ?_ ⟨_,rfl,j+1,by omega,by omega,rfl,by simp,rfl,by rw[←Nat.add_assoc];omega⟩⟩;simp[zk3,AV.sc,AV.scV,AV.scA,AV.scB]
   | false=>rw[hb]at fin;have:=fin (by simp);simp[w1,w2];simpa[zgn,w1]using this
  ·have bA:¬ (i+j:Int)<s.length:=by omega
   have:s.drop (i+j)=[]:=List.drop_eq_nil_of_le (by omega);rw[this]at fin;have:=fin rfl;simp[zrm,w1,w2,bA];simpa[zgn,w1]using this
end
theorem zHi (s:List UInt8) (H:zaa) (K:AV→zaa→Prop) (hK:K (zeL s) H):ACalls tP zoW [.str s] H K:=by
 refine ACalls.out (zKQ λhs=>?_);by_cases hl:s.length>16384
 ·have ck:(16384:Int)<s.length:=by omega
  simp[zrj,ck,AV.isV];unfold zeL at hK;rw[if_pos hl]at hK;exact Out.tup0 hs hK ⟨zdr,zaW rfl rfl,zaW rfl rfl,trivial⟩
 have ck:¬ (16384:Int)<s.length:=by omega
 unfold zeL at hK;rw[if_neg hl]at hK;simp[zrj,ck];have aH:∀ n,HSc (H++[.perm zbt 3 n]):=λn=>hs.append rfl;unfold zk4;refine ALoop.own 5 zbt 3 rfl ?_;show zk4 (.str s) (.sl [] (.own H.length)) (.int .i64 0) (H++[.perm zbt 3 0]) (Out H.length K);refine zKM (Inv:=λq t5 t6 H'=>∃ (i:Nat) (l:List Tk),i≤s.length∧l.length≤i∧q=s.length-i∧t6=.int .i64 i∧t5=.sl (l.map Tk.cs) (.own H.length)∧H'=H++[.perm zbt 3 l.length]∧cat l (zbB (kwF kwds) (s.drop i) i)=zbB (kwF kwds) s 0) s.length ?_ ?_
 ·intro _;exact⟨0,[],by omega,by simp,by omega,rfl,rfl,rfl,by simp⟩
 ·rintro q t5 t6 H' ⟨i,l,hi,bn,rfl,rfl,rfl,rfl,ho⟩ hsc am aP Kb ar;by_cases ak:i<s.length
  ·have bv:=List.drop_eq_getElem_cons ak;have e9:((s[i].toNat:Int) == 9)=(s[i] == 9):=zcu s[i] 9;have e10:((s[i].toNat:Int) == 10)=(s[i] == 10):=zcu s[i] 10;have e13:((s[i].toNat:Int) == 13)=(s[i] == 13):=zcu s[i] 13;have e32:((s[i].toNat:Int) == 32)=(s[i] == 32):=zcu s[i] 32;have e35:((s[i].toNat:Int) == 35)=(s[i] == 35):=zcu s[i] 35;cases cC:zdj s[i] with
   | true=>
    rw[bv,zx1 _ cC]at ho;have key:zeO (.str s) (.sl (l.map Tk.cs) (.own H.length)) (.int .i64 (IntKind.i64.wrap (i+1))) (H++[.perm zbt 3 l.length]) (Out H.length K) Kb:=by simp[zeO];rw[zat (by omega) (by omega)];refine ar _ _ ⟨s.length-(i+1),by omega,Back.here (by simp) (aH _) ?_ ⟨_,_,rfl,i+1,l,by omega,by omega,rfl,by simp,rfl,rfl,ho⟩⟩;simp[zfw,AV.sc,AV.scV,AV.scA,AV.scB]
    unfold zdj at cC;cases h9:(s[i] == 9) <;> cases eB:(s[i] == 10) <;> cases kq:(s[i] == 13) <;> cases gS:(s[i] == 32) <;> simp[h9,eB,kq,gS]at cC <;> simpa[zk0,ak,e9,e10,e13,e32,h9,eB,kq,gS]using key
   | false=>
    have iN:=cC;unfold zdj at iN;simp only[Bool.or_eq_false_iff]at iN;obtain⟨⟨⟨h9,eB⟩,kq⟩,gS⟩:=iN;have app:∀ (k:Int) (n:Nat),tok (kwF kwds) s[i] (s.drop (i+1))=.ok (k,n)→(s[i] == 35)=false→∀ t,(s.drop i).take n=t→zhY (.str s) (.sl (l.map Tk.cs++[[.int .i64 k,.str t,.int .i64 i]]) (.own H.length)) (.int .i64 i) (.int .i64 n) (H++[.perm zbt 3 (l.length+1)]) (Out H.length K) Kb:=by
     intro k n ht aR t lE;subst lE;rw[bv,zx4 _ cC aR ht,zu8,←bv]at ho;have hn:=zqn ht;rw[←bv]at hn;simp at hn;have dW:=zqo ht;simp[zhY,zeO];rw[zat (by omega) (by omega)];refine ar _ _ ⟨s.length-(i+n),by omega,Back.here (by simp) (aH _) ?_ ⟨_,_,rfl,i+n,l++[⟨k,(s.drop i).take n,i⟩],by omega,by simp;omega,rfl,by simp,by simp[Tk.cs],by simp,?_⟩⟩
     ·simp[zfw,AV.sc,AV.scV,AV.scA,AV.scB]
     ·rw[List.drop_drop]at ho;exact ho
    have bad:∀ e:Int,tok (kwF kwds) s[i] (s.drop (i+1))=.error e→(s[i] == 35)=false→Out H.length K (.tup [.snil,.int .i64 i,.int .i64 e]) (H++[.perm zbt 3 l.length]):=by intro e ht aR;rw[bv,zx2 _ cC aR ht]at ho;rw[←ho]at hK;exact zwJ hs hK
    simp[zk0,ak,e9,e10,e13,e32,e35,h9,eB,kq,gS];cases aR:(s[i] == 35) with
    | true=>
     simp;rw[bv,zx3 _ cC aR]at ho;obtain⟨c1,c2⟩:=zjR eB (s.drop (i+1));rw[Nat.add_assoc,←c1,←c2,←bv]at ho;refine zKJ (Inv:=λq t6 H'=>∃ (j:Nat),i≤j∧j≤s.length∧q=s.length-j∧t6=.int .i64 j∧H'=H++[.perm zbt 3 l.length]∧cat l (zbB (kwF kwds) (zek (s.drop j)) (j+zel (s.drop j)))=zbB (kwF kwds) s 0) (s.length-i) ?_ ?_
     ·intro _;exact⟨i,by omega,by omega,by omega,rfl,rfl,ho⟩
     ·rintro q t6 H' ⟨j,lF,hj,rfl,rfl,rfl,ho⟩ hsc am aP Kb9 fJ;by_cases cD:j<s.length
      ·have ec:=List.drop_eq_getElem_cons cD;have e10:((s[j].toNat:Int) != 10)=!(s[j] == 10):=by rw[←zcu s[j] 10];rfl
       simp[zrk,cD,e10];cases hz:(s[j] == 10) with
       | true=>
        obtain⟨d1,d2⟩:=zxv hz (s.drop (j+1));rw[ec,d1,d2,←ec,Nat.add_zero]at ho;have hij':i≠j:=by rintro rfl;rw[eB]at hz;cases hz
        simp[zeO];refine ar _ _ ⟨s.length-j,by omega,Back.here (by simp) (aH _) ?_ ⟨_,_,rfl,j,l,by omega,by omega,rfl,by simp,rfl,rfl,ho⟩⟩;simp[zfw,AV.sc,AV.scV,AV.scA,AV.scB]
       | false=>obtain⟨d1,d2⟩:=zjR hz (s.drop (j+1));rw[ec,d1,d2,←Nat.add_assoc]at ho;simp;rw[zat (by omega) (by omega)];refine fJ _ _ ⟨s.length-(j+1),by omega,Back.here (by simp) (aH _) ?_ ⟨_,rfl,j+1,by omega,by omega,rfl,by simp,rfl,ho⟩⟩;simp[zk2,AV.sc,AV.scV,AV.scA,AV.scB]
      ·obtain rfl:j=s.length:=by omega
       simp[zrk,zeO];rw[List.drop_length,skipC_nil.1,skipC_nil.2,Nat.add_zero]at ho;refine ar _ _ ⟨0,by omega,Back.here (by simp) (aH _) ?_ ⟨_,_,rfl,s.length,l,by omega,by omega,by omega,by simp,rfl,rfl,by rw[List.drop_length];exact ho⟩⟩;simp[zfw,AV.sc,AV.scV,AV.scA,AV.scB]
    | false=>
     replace app:=λk n h=>app k n h aR
     replace bad:=λe h=>bad e h aR
     simp;refine zv2 _ _ _ ?_;by_cases cj:(zbZ s[i] || bUp s[i])=true
     ·have hc:zbZ s[i]=true∨(zbZ s[i]=false∧bUp s[i]=true):=by cases hL:zbZ s[i] <;> simp[hL]at cj ⊢;exact cj
      rcases hc with hL | ⟨hL,hU⟩;case' inl=>simp[hL]
      case' inr=>simp[hL];refine zj6 _ _ _ ?_;simp[hU]
      all_goals exact zHW s hl i ak H l bn aH K Kb cj app bad
     ·have hL:zbZ s[i]=false:=by simp at cj;exact cj.1
      have hU:bUp s[i]=false:=by simp at cj;exact cj.2
      simp[hL];refine zj6 _ _ _ ?_;simp[hU];refine zoa _ _ _ ?_;cases hD:za2 s[i] with
      | true=>simp;exact zFg s hl i ak H l bn aH K Kb cj hD app bad
      | false=>
       simp;refine⟨by omega,?_⟩;have bf:tok (kwF kwds) s[i] (s.drop (i+1))=if sgn (s.drop i)=0 then .error 2 else .ok (5,sgn (s.drop i)):=by simp only[tok,cj,hD,bv];rfl
       rw[bv];refine zGt _ _ _ _ ?_;rw[←bv];by_cases hz:sgn (s.drop i)=0
       ·simp[hz,AV.isV];exact bad 2 (by rw[bf,if_pos hz])
       ·have gy:((sgn (s.drop i):Int) == 0)=false:=by simpa using hz
        have ht:=bf;rw[if_neg hz]at ht;have hn:=zqn ht;rw[←bv]at hn;simp at hn;have:=app 5 (sgn (s.drop i)) ht _ rfl;simp[gy];rw[zat (by omega) (by omega)];simp[zar,zaJ,zau,zaV,plain,AV.pd,zaw,zaL,zaI,zeQ];refine⟨by omega,by omega,by omega,?_⟩;rw[show ((i:Int)+(sgn (s.drop i):Int)).toNat=i+sgn (s.drop i) by omega,zj1];exact this
  ·obtain rfl:i=s.length:=by omega
   rw[List.drop_length,zqp]at ho;rw[←ho]at hK;simp[zk0,zar,zaJ,zau,zaV,plain,AV.pd,zaw,zaL,zaI,AV.isV];refine⟨by omega,?_⟩;simp[cat,Tk.cs]at hK;exact Out.tup hs hK ⟨slV,zaW rfl rfl,zaW rfl rfl,trivial⟩
end Go.Proofs.YtdmamdnkcefmmaaGreatDoor
namespace Go.Proofs.YtdmamdnkcefmmaaGreatDoor
open Go Go.Abs
set_option maxRecDepth 100000
section
variable (t0 t3 t4 t5 t6 t7 t93 t94 t95:AV) (H:zaa) (K:Kt) (Kb2 Kb5 Kb12 Kb18:Lt)
def zd0:Nat→List Bool | 5=>rl false [0,1,2,3,115] | 12=>rl false [0,1,2,5,113] | 18=>rl false [0,1,2,5,85,3,25] | _=>[]
noncomputable def ztp:Code:=Tryz.f48.body.getD .skip
noncomputable def zRC:List ResultVar:=Tryz.f48.results.toList
def zmS:List AV:=t0::ux 2 (t3::t4::t5::ux 115 [])
def zBS:List Bool:=zd0 5
noncomputable def ztr:Code:=zaq [1,1,1,0,1,0,0] ztp
def zBN:AExit→List AV→zaa→Prop:=zas tP zd0 [1,1,1,0,1,0] ztp (zay tP zRC K)
def zmU:Prop:=ALoop tP ztr (zBN K) (zmS t0 t3 t4 t5) H
def zmQ:List AV:=t0::ux 2 (t3::t4::t5::t6::t7::ux 113 [])
def zBR:List Bool:=zd0 12
noncomputable def ztq:Code:=zaq [1,0,0,1,1,1,1,0,0] ztr
def zBM:AExit→List AV→zaa→Prop:=zas tP zd0 [1,0,0,1,1,1,1,0] ztr (zb1 zBS Kb5 (zBN K))
def zBP:Prop:=ALoop tP ztq (zBM K Kb5) (zmQ t0 t3 t4 t5 t6 t7) H
def zmR:List AV:=t0::ux 2 (t3::t4::t5::t6::t7::ux 85 (t93::t94::t95::ux 25 []))
def zRA:List Bool:=zd0 18
noncomputable def zRw:Code:=zaq [1,0,0,1,1,1,0,0] ztq
def zRv:AExit→List AV→zaa→Prop:=zas tP zd0 [1,0,0,1,1,1,0] ztq (zb1 zBR Kb12 (zBM K Kb5))
def zBQ:Prop:=ALoop tP zRw (zRv K Kb5 Kb12) (zmR t0 t3 t4 t5 t6 t7 t93 t94 t95) H
def zBO (t0 t3 t4 t5 t6 t7 t93 t94 t95:AV) (H:zaa) (K:Kt) (Kb5:Lt) (Kb12:Lt) (Kb18:Lt):Prop:=zac .add false t95 (.int .i64 1) λt112=>Kb18 (zmR t0 t3 t4 t5 t6 t7 t93 t94 t112) H
def zmT:Prop:=zBO t0 t3 t4 t5 t6 t7 t93 t94 t95 H K Kb5 Kb12 Kb18
def zto:Prop:=zac .lss false t95 t94 λt96=>zag t96 (zai 3 t93 t95 λt97=>zae true 3 t97 H λt98=>zax [(.int .i64 0),(.int .i64 0),.snil] H λt9 H=>zan 3 t9 t98 H λH=>zae true 3 t9 H λt99=>zaf 1 t6 λt101=>zae false 1 t101 H λt102=>ACalls tP zjt [t99,t5,t102] H λt103 H=>zag t103 (zmT t0 t3 t4 t5 t6 t7 t93 t94 t95 H K Kb5 Kb12 Kb18) (zab H (λK'=>K' t0 H) λt104=>zab H (λK'=>K' t5 H) λt105=>zab H (λK'=>zaR 1 3 t104 none (some t105) (K' · H)) λt106=>zab H (λK'=>zak true 3 t9 H (K' · H)) λt107=>zab H (λK'=>zaf 1 t6 (K' · H)) λt108=>zab H (λK'=>zak false 1 t108 H (K' · H)) λt109=>zaE H (λH K'=>ACalls tP zjh [t106,t107,t109] H K') λt110=>zab H (λK'=>aUn .not t110 (K' · H)) λt111=>zag t111 (K (.bool false) H) (zmT t0 t3 t4 t5 t6 t7 t93 t94 t95 H K Kb5 Kb12 Kb18))) (zac .add false t7 (.int .i64 1) λt60=>Kb12 (zmQ t0 t3 t4 t5 t6 t60) H)
def ztn:Prop:=zaf 2 t6 λt55=>zae false 1 t55 H λt56=>zah 1 t56 λt57=>zac .lss false t7 t57 λt58=>zag t58 (zaf 2 t6 λt61=>zae false 1 t61 H λt62=>zai 2 t62 t7 λt64=>zaf 0 t64 λt65=>zae false 1 t65 H λt66=>ACalls tP zjs [t66] H λt67 H=>aUn .not t67 λt68=>zad t68 false H (λK'=>zaf 2 t6 (K' · H)) λt70 H=>zad t68 false H (λK'=>zae false 1 t70 H (K' · H)) λt71 H=>zad t68 false H (λK'=>K' t7 H) λt72 H=>zad t68 false H (λK'=>zai 2 t71 t72 (K' · H)) λt73 H=>zad t68 false H (λK'=>zaf 1 t73 (K' · H)) λt74 H=>zad t68 false H (λK'=>zae false 1 t74 H (K' · H)) λt75 H=>zad t68 false H (λK'=>zah 1 t75 (K' · H)) λt76 H=>zad t68 false H (λK'=>zac .gtr false t76 (.int .i64 6) (K' · H)) λt77 H=>zaj t68 (.bool true) t77 λt78=>zag t78 (K (.bool false) H) (zaf 2 t6 λt80=>zae false 1 t80 H λt81=>zai 2 t81 t7 λt83=>zaf 0 t83 λt84=>zae false 1 t84 H λt85=>zau 1 [(.str [])] 1 [(0,t85)] λt86=>zaw zb5 1 16 t4 t86 H λt87 H=>zaf 2 t6 λt88=>zae false 1 t88 H λt89=>zai 2 t89 t7 λt91=>zaf 1 t91 λt92=>zae false 1 t92 H λt93=>zah 1 t93 λt94=>zBQ t0 t3 t87 t5 t6 t7 t93 t94 (.int .i64 0) H K Kb5 Kb12)) (zac .add false t5 (.int .i64 1) λt18=>Kb5 (zmS t0 t3 t4 t18) H)
def zfI:Prop:=zah 1 t0 λt15=>zac .lss false t5 t15 λt16=>zag t16 (zai 3 t0 t5 λt21=>zae true 3 t21 H λt22=>zax [(.str []),(.int .i64 0),.snil] H λt6 H=>zan 3 t6 t22 H λH=>zaf 1 t6 λt23=>zae false 1 t23 H λt24=>zac .lss false t24 (.int .i64 0) λt25=>zad t25 false H (λK'=>zaf 1 t6 (K' · H)) λt27 H=>zad t25 false H (λK'=>zae false 1 t27 H (K' · H)) λt28 H=>zad t25 false H (λK'=>zac .gtr false t28 (.int .i64 6) (K' · H)) λt29 H=>zaj t25 (.bool true) t29 λt30=>zad t30 false H (λK'=>zaf 2 t6 (K' · H)) λt32 H=>zad t30 false H (λK'=>zae false 1 t32 H (K' · H)) λt33 H=>zad t30 false H (λK'=>zah 1 t33 (K' · H)) λt34 H=>zad t30 false H (λK'=>zac .lss false t34 (.int .i64 1) (K' · H)) λt35 H=>zaj t30 (.bool true) t35 λt36=>zad t36 false H (λK'=>zaf 2 t6 (K' · H)) λt38 H=>zad t36 false H (λK'=>zae false 1 t38 H (K' · H)) λt39 H=>zad t36 false H (λK'=>zah 1 t39 (K' · H)) λt40 H=>zad t36 false H (λK'=>zac .gtr false t40 (.int .i64 8) (K' · H)) λt41 H=>zaj t36 (.bool true) t41 λt42=>zad t42 false H (λK'=>zaf 0 t6 (K' · H)) λt44 H=>zad t42 false H (λK'=>zae false 1 t44 H (K' · H)) λt45 H=>zad t42 false H (λK'=>ACalls tP zjs [t45] H K') λt46 H=>zad t42 false H (λK'=>aUn .not t46 (K' · H)) λt47 H=>zaj t42 (.bool true) t47 λt48=>zag t48 (K (.bool false) H) (zaf 0 t6 λt50=>zae false 1 t50 H λt51=>zau 1 [(.str [])] 1 [(0,t51)] λt52=>zaw zb5 1 16 t3 t52 H λt53 H=>zBP t0 t53 t4 t5 t6 (.int .i64 0) H K Kb5)) (ACalls tP zhr [t3] H λt114 H=>aUn .not t114 λt115=>zad t115 true H (λK'=>K' t4 H) λt117 H=>zad t115 true H (λK'=>ACalls tP zhr [t117] H K') λt118 H=>zad t115 true H (λK'=>aUn .not t118 (K' · H)) λt119 H=>zaj t115 t119 (.bool false) λt120=>K t120 H)
def ztm:Prop:=zah 1 t0 λt11=>zac .gtr false t11 (.int .i64 12) λt12=>zag t12 (K (.bool false) H) (zmU t0 .snil .snil (.int .i64 0) H K)
def zfK:Nat→List Bool | 2=>rl false [0,1,2,1,21] | 5=>rl false [0,1,2,2,20] | _=>[]
noncomputable def zt0:Code:=Tryz.f94.body.getD .skip
noncomputable def zT9:List ResultVar:=Tryz.f94.results.toList
def znt:List AV:=t0::ux 2 (t3::ux 21 [])
def zCL:List Bool:=zfK 2
noncomputable def zt1:Code:=zaq [1,0,1,0,0] zt0
def zCI:AExit→List AV→zaa→Prop:=zas tP zfK [1,0,1,0] zt0 (zay tP zT9 K)
def zCJ:Prop:=ALoop tP zt1 (zCI K) (znt t0 t3) H
def znu:List AV:=t0::ux 2 (t3::t4::ux 20 [])
def zT7:List Bool:=zfK 5
noncomputable def zT4:Code:=zaq [1,0,0,1,0,0] zt1
def zT3:AExit→List AV→zaa→Prop:=zas tP zfK [1,0,0,1,0] zt1 (zb1 zCL Kb2 (zCI K))
def zCK:Prop:=ALoop tP zT4 (zT3 K Kb2) (znu t0 t3 t4) H
def ztZ:Prop:=zac .lss false t4 t3 λt13=>zag t13 (zab H (λK'=>K' t0 H) λt16=>zab H (λK'=>K' t3 H) λt17=>zab H (λK'=>zai 1 t16 t17 (K' · H)) λt18=>zab H (λK'=>zak false 1 t18 H (K' · H)) λt19=>zab H (λK'=>K' t0 H) λt20=>zab H (λK'=>K' t4 H) λt21=>zab H (λK'=>zai 1 t20 t21 (K' · H)) λt22=>zab H (λK'=>zak false 1 t22 H (K' · H)) λt23=>zab H (λK'=>zac .eql false t19 t23 (K' · H)) λt24=>zag t24 (K (.bool true) H) (zac .add false t4 (.int .i64 1) λt15=>Kb5 (znu t0 t3 t15) H)) (zac .add false t3 (.int .i64 1) λt10=>Kb2 (znt t0 t10) H)
def ztY:Prop:=zah 1 t0 λt7=>zac .lss false t3 t7 λt8=>zag t8 (zCK t0 t3 (.int .i64 0) H K Kb2) (K (.bool false) H)
def zCH:Prop:=zCJ t0 (.int .i64 0) H K
variable {t0 t3 t4 t5 t6 t7 t93 t94 t95} {H} {K} {Kb2 Kb5 Kb12 Kb18}
theorem zRy (Inv:Nat→AV→zaa→Prop) (n:Nat) (h0:HSc H→Inv n t95 H)
  (ac:Rd1 (λt95=>zmR t0 t3 t4 t5 t6 t7 t93 t94 t95) (λt95=>λH Kb18=>zto t0 t3 t4 t5 t6 t7 t93 t94 t95 H K Kb5 Kb12 Kb18) H Inv):zBQ t0 t3 t4 t5 t6 t7 t93 t94 t95 H K Kb5 Kb12:=
 lp1 (M:=zd0) zRA t95 (by kernel_rfl) Inv n h0 ac
theorem zRx (Inv:Nat→AV→AV→zaa→Prop) (n:Nat) (h0:HSc H→Inv n t4 t7 H)
  (ac:Rd2 (λt4=>λt7=>zmQ t0 t3 t4 t5 t6 t7) (λt4=>λt7=>λH Kb12=>ztn t0 t3 t4 t5 t6 t7 H K Kb5 Kb12) H Inv):zBP t0 t3 t4 t5 t6 t7 H K Kb5:=
 lp2 (M:=zd0) zBR t4 t7 (by kernel_rfl) Inv n h0 ac
theorem zRz (Inv:Nat→AV→AV→AV→zaa→Prop) (n:Nat) (h0:HSc H→Inv n t3 t4 t5 H)
  (ac:Rd3 (λt3=>λt4=>λt5=>zmS t0 t3 t4 t5) (λt3=>λt4=>λt5=>λH Kb5=>zfI t0 t3 t4 t5 H K Kb5) H Inv):zmU t0 t3 t4 t5 H K:=
 lp3 (M:=zd0) zBS t3 t4 t5 (by kernel_rfl) Inv n h0 ac
theorem zRB (h:HSc H→ztm t0 H K):ACalls tP zpq [t0] H K:=
 acb zd0 Tryz.func48 ztp (by kernel_rfl) (by kernel_rfl) h
theorem zT6 (Inv:Nat→AV→zaa→Prop) (n:Nat) (h0:HSc H→Inv n t4 H)
  (ac:Rd1 (λt4=>znu t0 t3 t4) (λt4=>λH Kb5=>ztZ t0 t3 t4 H K Kb2 Kb5) H Inv):zCK t0 t3 t4 H K Kb2:=
 lp1 (M:=zfK) zT7 t4 (by kernel_rfl) Inv n h0 ac
theorem zT5 (Inv:Nat→AV→zaa→Prop) (n:Nat) (h0:HSc H→Inv n t3 H)
  (ac:Rd1 (λt3=>znt t0 t3) (λt3=>λH Kb2=>ztY t0 t3 H K Kb2) H Inv):zCJ t0 t3 H K:=
 lp1 (M:=zfK) zCL t3 (by kernel_rfl) Inv n h0 ac
theorem zT8 (h:HSc H→zCH t0 H K):ACalls tP zhr [t0] H K:=
 acb zfK Tryz.func94 zt0 (by kernel_rfl) (by kernel_rfl) h
end
end Go.Proofs.YtdmamdnkcefmmaaGreatDoor
section


end
namespace Go.Proofs.YtdmamdnkcefmmaaGreatDoor
open Go Go.Abs
theorem zdd {k:AV→Prop} (a b:AV) (vs:List AV):zaz (.tup (a::b::vs)) 1 k=k b:=propext Iff.rfl
theorem zde {k:AV→Prop} (a b c:AV) (vs:List AV):zaz (.tup (a::b::c::vs)) 2 k=k c:=propext Iff.rfl
def zfn (s:List UInt8):List Tk × Int × Int:=
 if s.length>16384 then ([],0,9) else
 match zbB (kwF kwds) s 0 with
 | .error (p,e)=>([],p,e)
 | .ok l=>(l,0,0)
theorem zxA (s:List UInt8):zeL s=.tup [.sl ((zfn s).1.map Tk.cs) .none,.int .i64 (zfn s).2.1,.int .i64 (zfn s).2.2]:=by
 unfold zeL zfn;split
 ·rfl
 ·split <;> (rename_i h;simp[h])
def zb6 (s:List UInt8) (x:List Tk × Int × Int):Bool:=x.2.2 == 0 && match x.1 with
 | [a,_]=>a.kind == 2 && a.text == s
 | _=>false
def zcZ (s:List UInt8):Bool:=zb6 s (zfn s)
theorem zAO (s:List UInt8) (H:zaa) (K:AV→zaa→Prop) (hK:K (.bool (zcZ s)) H):ACalls tP zi5 [.str s] H K:=by
 refine ACalls.out (zOk λhs=>?_);have hO:Out H.length K (.bool (zcZ s)) H:=Out.bool (J:=[]) (by simp) (Nat.le_refl _) hs hK;simp only[zAN];refine zHh s _ _ ?_;rw[zxA];rw[zcZ]at hO;generalize zfn s=x at hO ⊢;obtain⟨l,p,e⟩:=x;clear hK;cases h0:e == 0 with
 | false=>rw[show zb6 s (l,p,e)=false by simp[zb6,h0]]at hO;simp[zdd,zde,h0];exact hO
 | true=>
 match l with
 | []=>rw[show zb6 s ([],p,e)=false by simp[zb6]]at hO;simp[zdd,zde,h0];exact hO
 | [x]=>rw[show zb6 s ([x],p,e)=false by simp[zb6]]at hO;simp[zdd,zde,h0];exact hO
 | [a,x]=>
  rw[show zb6 s ([a,x],p,e)=(a.kind == 2 && a.text == s) by simp[zb6,h0]]at hO;cases hk:a.kind == 2 with
  | false=>rw[hk]at hO;simp[zdd,zde,h0,Tk.cs,hk];exact hO
  | true=>rw[hk]at hO;simp[zdd,zde,h0,Tk.cs,hk];exact hO
 | a::b::c::r=>
  rw[show zb6 s (a::b::c::r,p,e)=false by simp[zb6]]at hO;have:¬ ((r.length:Int)+1+1+1=2):=by omega
  have h2:((r.length:Int)+1+1+1 == 2)=false:=by simpa using this
  simp[zdd,zde,h0,h2];exact hO
theorem zCE (s:List UInt8) (H:zaa) (K:AV→zaa→Prop) (hK:K (.bool (zcZ s)) H):ACalls tP zjs [.str s] H K:=by
 refine ACalls.out (zTW λhs=>?_);have hO:Out H.length K (.bool (zcZ s)) H:=Out.bool (J:=[]) (by simp) (Nat.le_refl _) hs hK;simp only[zCD];refine zHi s _ _ ?_;rw[zxA];rw[zcZ]at hO;generalize zfn s=x at hO ⊢;obtain⟨l,p,e⟩:=x;clear hK;cases h0:e == 0 with
 | false=>rw[show zb6 s (l,p,e)=false by simp[zb6,h0]]at hO;simp[zdd,zde,h0];exact hO
 | true=>
 match l with
 | []=>rw[show zb6 s ([],p,e)=false by simp[zb6]]at hO;simp[zdd,zde,h0];exact hO
 | [x]=>rw[show zb6 s ([x],p,e)=false by simp[zb6]]at hO;simp[zdd,zde,h0];exact hO
 | [a,x]=>
  rw[show zb6 s ([a,x],p,e)=(a.kind == 2 && a.text == s) by simp[zb6,h0]]at hO;cases hk:a.kind == 2 with
  | false=>rw[hk]at hO;simp[zdd,zde,h0,Tk.cs,hk];exact hO
  | true=>rw[hk]at hO;simp[zdd,zde,h0,Tk.cs,hk];exact hO
 | a::b::c::r=>
  rw[show zb6 s (a::b::c::r,p,e)=false by simp[zb6]]at hO;have:¬ ((r.length:Int)+1+1+1=2):=by omega
  have h2:((r.length:Int)+1+1+1 == 2)=false:=by simpa using this
  simp[zdd,zde,h0,h2];exact hO
def zck (l:List (List UInt8)):Bool:=!decide l.Nodup
def strs (l:List (List UInt8)):List (List AV):=l.map λs=>[.str s]
@[simp] theorem zYp (l:List (List UInt8)):(strs l).length=l.length:=by simp[strs]
theorem zHp {l:List (List UInt8)} {i:Nat} (h:i<(strs l).length):(strs l)[i]=[.str (l[i]'(by simpa using h))]:=by simp[strs]
theorem zF1 {l:List (List UInt8)} {i j:Nat} (hi:i<l.length) (hj:j<i) (h:l[i]=l[j]):zck l=true:=by simp only[zck,Bool.not_eq_true',decide_eq_false_iff_not];intro hn;exact (List.pairwise_iff_getElem.mp hn) j i (by omega) hi hj h.symm
theorem zUa (l:List (List UInt8)) (hl:l.length≤1000000) (H:zaa) (K:AV→zaa→Prop) (hK:K (.bool (zck l)) H):ACalls tP zhr [.sl (strs l) .none] H K:=by
 refine ACalls.out (zT8 λhs=>?_);have hO:Out H.length K (.bool (zck l)) H:=Out.bool (J:=[]) (by simp) (Nat.le_refl _) hs hK;simp[zCH];refine zT5 (Inv:=λq t3 H'=>∃ i:Nat,i≤l.length∧q=l.length-i∧t3=.int .i64 i∧(∀ a b (ha:a<i) (hb:b<a) (h':a<l.length),l[a]≠l[b])∧H=H') l.length ?_ ?_
 ·intro _;exact⟨0,by omega,by omega,rfl,by omega,rfl⟩
 ·rintro q t3 H' ⟨i,hi,rfl,rfl,aB,rfl⟩ hsc am aP Kb ar;by_cases ak:i<l.length
  ·simp[ztY,ak];refine zT6 (Inv:=λq t4 H'=>∃ j:Nat,j≤i∧q=i-j∧t4=.int .i64 j∧(∀ b (hb:b<j) (jJ:b<l.length),l[i]≠l[b])∧H=H') i ?_ ?_
   ·intro _;exact⟨0,by omega,by omega,rfl,by omega,rfl⟩
   ·rintro q t4 H' ⟨j,hj,rfl,rfl,lG,rfl⟩ iJ cg iK Kb1 d9;by_cases aV:j<i
    ·simp[ztZ,aV,ak,show j<l.length by omega,zHp];cases he:l[i] == l[j] with
     | true=>rw[zF1 ak aV (by simpa using he)]at hO;simpa using hO
     | false=>
      simp;rw[zat (by omega) (by omega)];refine d9 _ _ ⟨i-(j+1),by omega,Back.at (J:=[]) (H2:=H) (by simp) (Nat.le_refl _) hs ?_ ⟨_,rfl,j+1,by omega,rfl,by simp,?_,rfl⟩⟩
      ·simp[znu,AV.sc,AV.scV,AV.scA,AV.scB]
      ·intro b hb jJ;by_cases hbj:b=j
       ·subst hbj;simpa using he
       ·exact lG b (by omega) jJ
    ·obtain rfl:j=i:=by omega
     simp[ztZ];rw[zat (by omega) (by omega)];refine ar _ _ ⟨l.length-(j+1),by omega,Back.at (J:=[]) (H2:=H) (by simp) (Nat.le_refl _) hs ?_ ⟨_,rfl,j+1,by omega,rfl,by simp,?_,rfl⟩⟩
     ·simp[znt,AV.sc,AV.scV,AV.scA,AV.scB]
     ·intro a b ha hb h';by_cases haj:a=j
      ·subst haj;exact lG b hb (by omega)
      ·exact aB a b (by omega) hb h'
  ·obtain rfl:i=l.length:=by omega
   have:zck l=false:=by simp only[zck,Bool.not_eq_false',decide_eq_true_eq];refine List.pairwise_iff_getElem.mpr λa b ha hb bb he=>?_;exact aB b a hb bb hb he.symm
   rw[this]at hO;simp[ztY];exact hO
end Go.Proofs.YtdmamdnkcefmmaaGreatDoor
namespace Go.Proofs.YtdmamdnkcefmmaaGreatDoor
open Go Go.Abs
set_option maxRecDepth 100000
section
variable (t0 t1 t2 t3 t4 t5 t8 t14 t15 t27 t28 t29 t76 t77 t78:AV) (H:zaa) (K:Kt) (Kb5 Kb6 Kb13:Lt)
def zfx:Nat→List Bool | 5=>rl false [0,1,2,2,9,2,89] | 13=>rl false [0,1,2,3,8,2,60,3,26] | _=>[]
noncomputable def zrF:Code:=Tryz.f159.body.getD .skip
noncomputable def zLD:List ResultVar:=Tryz.f159.results.toList
def zlr:List AV:=t0::ux 2 (t3::t4::ux 9 (t14::t15::ux 89 []))
def zzF:List Bool:=zfx 5
noncomputable def zrG:Code:=zaq [1,1,1,0,1,0,0] zrF
def zzC:AExit→List AV→zaa→Prop:=zas tP zfx [1,1,1,0,1,0] zrF (zay tP zLD K)
def zzE:Prop:=ALoop tP zrG (zzC K) (zlr t0 t3 t4 t14 t15) H
def zlq:List AV:=t0::ux 2 (t3::t4::t5::ux 8 (t14::t15::ux 60 (t76::t77::t78::ux 26 [])))
def zLB:List Bool:=zfx 13
noncomputable def zLy:Code:=zaq [1,1,0,0,1,1,1,1,1,0,0] zrG
def zLx:AExit→List AV→zaa→Prop:=zas tP zfx [1,1,0,0,1,1,1,1,1,0] zrG (zb1 zzF Kb5 (zzC K))
def zzD:Prop:=ALoop tP zLy (zLx K Kb5) (zlq t0 t3 t4 t5 t14 t15 t76 t77 t78) H
def zrD:Prop:=zac .lss false t78 t77 λt79=>zag t79 (zai 2 t76 t78 λt81=>zae true 2 t81 H λt82=>zax [(.str []),.snil] H λt7 H=>zan 2 t7 t82 H λH=>zaf 0 t7 λt83=>zae false 1 t83 H λt84=>ACalls tP zi5 [t84] H λt85 H=>aUn .not t85 λt86=>zad t86 false H (λK'=>K' t4 H) λt88 H=>zad t86 false H (λK'=>zaf 0 t7 (K' · H)) λt89 H=>zad t86 false H (λK'=>zae false 1 t89 H (K' · H)) λt90 H=>zad t86 false H (λK'=>zdw (.bool false) false t88 t90 H (K' · H)) λt91 H=>zaj t86 (.bool true) t91 λt92=>zad t92 false H (λK'=>K' t0 H) λt94 H=>zad t92 false H (λK'=>K' t5 H) λt95 H=>zad t92 false H (λK'=>K' t78 H) λt96 H=>zad t92 false H (λK'=>ACalls tP zpa [t94,t95,t96] H K') λt97 H=>zad t92 false H (λK'=>aUn .not t97 (K' · H)) λt98 H=>zaj t92 (.bool true) t98 λt99=>zag t99 (K (.bool false) H) (zaf 0 t7 λt101=>zae false 1 t101 H λt102=>zcM t4 t102 (.bool true) H λH=>zac .add false t78 (.int .i64 1) λt103=>Kb13 (zlq t0 t3 t4 t5 t14 t15 t76 t77 t103) H)) (zac .add false t15 (.int .i64 1) λt104=>Kb5 (zlr t0 t3 t4 t14 t104) H)
def zrE:Prop:=zac .lss false t15 t14 λt16=>zag t16 (zai 3 t0 t15 λt20=>zaf 0 t20 λt21=>zae false 1 t21 H λt22=>ACalls tP zi5 [t22] H λt23 H=>aUn .not t23 λt24=>zad t24 false H (λK'=>K' t3 H) λt26 H=>zad t24 false H (λK'=>K' t0 H) λt27 H=>zad t24 false H (λK'=>K' t15 H) λt28 H=>zad t24 false H (λK'=>zai 3 t27 t28 (K' · H)) λt29 H=>zad t24 false H (λK'=>zaf 0 t29 (K' · H)) λt30 H=>zad t24 false H (λK'=>zae false 1 t30 H (K' · H)) λt31 H=>zad t24 false H (λK'=>zdw (.bool false) false t26 t31 H (K' · H)) λt32 H=>zaj t24 (.bool true) t32 λt33=>zad t33 false H (λK'=>K' t0 H) λt35 H=>zad t33 false H (λK'=>K' t15 H) λt36 H=>zad t33 false H (λK'=>zai 3 t35 t36 (K' · H)) λt37 H=>zad t33 false H (λK'=>zaf 1 t37 (K' · H)) λt38 H=>zad t33 false H (λK'=>zae false 1 t38 H (K' · H)) λt39 H=>zad t33 false H (λK'=>zac .lss false t39 (.int .i64 0) (K' · H)) λt40 H=>zaj t33 (.bool true) t40 λt41=>zad t41 false H (λK'=>K' t0 H) λt43 H=>zad t41 false H (λK'=>K' t15 H) λt44 H=>zad t41 false H (λK'=>zai 3 t43 t44 (K' · H)) λt45 H=>zad t41 false H (λK'=>zaf 1 t45 (K' · H)) λt46 H=>zad t41 false H (λK'=>zae false 1 t46 H (K' · H)) λt47 H=>zad t41 false H (λK'=>zac .gtr false t47 (.int .i64 6) (K' · H)) λt48 H=>zaj t41 (.bool true) t48 λt49=>zag t49 (K (.bool false) H) (zai 3 t0 t15 λt53=>zaf 0 t53 λt54=>zae false 1 t54 H λt55=>zcM t3 t55 (.bool true) H λH=>zai 3 t0 t15 λt58=>zaf 2 t58 λt59=>zae false 1 t59 H λt60=>zah 1 t60 λt61=>zac .lss false t61 (.int .i64 1) λt62=>zad t62 false H (λK'=>K' t0 H) λt64 H=>zad t62 false H (λK'=>K' t15 H) λt65 H=>zad t62 false H (λK'=>zai 3 t64 t65 (K' · H)) λt66 H=>zad t62 false H (λK'=>zaf 2 t66 (K' · H)) λt67 H=>zad t62 false H (λK'=>zae false 1 t67 H (K' · H)) λt68 H=>zad t62 false H (λK'=>zah 1 t68 (K' · H)) λt69 H=>zad t62 false H (λK'=>zac .gtr false t69 (.int .i64 8) (K' · H)) λt70 H=>zaj t62 (.bool true) t70 λt71=>zag t71 (K (.bool false) H) (zai 3 t0 t15 λt74=>zaf 2 t74 λt75=>zae false 1 t75 H λt76=>zah 1 t76 λt77=>zzD t0 t3 t4 t15 t14 t15 t76 t77 (.int .i64 0) H K Kb5))) (K (.bool true) H)
def zrB:Prop:=zah 1 t0 λt9=>zac .gtr false t9 (.int .i64 12) λt10=>zag t10 (K (.bool false) H) (zdM H λt11 H=>zdM H λt12 H=>zah 1 t0 λt14=>zzE t0 t11 t12 t14 (.int .i64 0) H K)
def zl5:Nat→List Bool | 6=>rl false [0,2,6,1,18,3,29] | _=>[]
noncomputable def zsr:Code:=Tryz.f201.body.getD .skip
noncomputable def zOq:List ResultVar:=Tryz.f201.results.toList
def zh5:List AV:=t0::t1::ux 6 (t8::ux 18 (t27::t28::t29::ux 29 []))
def zOo:List Bool:=zl5 6
noncomputable def zOm:Code:=zaq [1,1,1,1,0,1,0,0] zsr
def zOl:AExit→List AV→zaa→Prop:=zas tP zl5 [1,1,1,1,0,1,0] zsr (zay tP zOq K)
def zAQ:Prop:=ALoop tP zOm (zOl K) (zh5 t0 t1 t8 t27 t28 t29) H
def zsq:Prop:=zac .lss false t29 t28 λt30=>zag t30 (zai 3 t27 t29 λt32=>zae true 3 t32 H λt33=>zax [(.int .i64 0),(.int .i64 0),.snil] H λt10 H=>zan 3 t10 t33 H λH=>zab H (λK'=>K' t0 H) λt34=>zab H (λK'=>K' t1 H) λt35=>zab H (λK'=>zac .add false t35 (.int .i64 1) (K' · H)) λt36=>zab H (λK'=>zaR 1 3 t34 none (some t36) (K' · H)) λt37=>zab H (λK'=>zak true 3 t10 H (K' · H)) λt38=>zab H (λK'=>K' t0 H) λt39=>zab H (λK'=>K' t1 H) λt40=>zab H (λK'=>zai 3 t39 t40 (K' · H)) λt41=>zab H (λK'=>zaf 1 t41 (K' · H)) λt42=>zab H (λK'=>zak false 1 t42 H (K' · H)) λt43=>zaE H (λH K'=>ACalls tP zhd [t37,t38,t43] H K') λt44=>zab H (λK'=>aUn .not t44 (K' · H)) λt45=>zab H (λK'=>K' t45 H) λt46=>zad t46 false H (λK'=>zab H (λK''=>K'' t8 H) (K' · H)) λt47 H=>zad t46 false H (λK'=>zab H (λK''=>K'' t29 H) (K' · H)) λt48 H=>zad t46 false H (λK'=>zab H (λK''=>zai 1 t47 t48 (K'' · H)) (K' · H)) λt49 H=>zad t46 false H (λK'=>zab H (λK''=>zak false 1 t49 H (K'' · H)) (K' · H)) λt50 H=>zad t46 false H (λK'=>zab H (λK''=>aUn .not t50 (K'' · H)) (K' · H)) λt51 H=>zad t46 false H (λK'=>zab H (λK''=>K'' t51 H) (K' · H)) λt52 H=>zad t52 true H (λK'=>zab H (λK''=>zak true 3 t10 H (K'' · H)) (K' · H)) λt53 H=>zad t52 true H (λK'=>zab H (λK''=>K'' t1 H) (K' · H)) λt54 H=>zad t52 true H (λK'=>zaE H (λH K''=>ACalls tP zja [t53,t54] H K'') (K' · H)) λt55 H=>zad t46 false H (λK'=>zab H (λK''=>zaj t52 t55 (.bool false) (K'' · H)) (K' · H)) λt56 H=>zab H (λK'=>zaj t46 (.bool true) t56 (K' · H)) λt57=>zag t57 (K (.bool false) H) (zac .add false t29 (.int .i64 1) λt58=>Kb6 (zh5 t0 t1 t8 t27 t28 t58) H)) (K (.bool true) H)
def zAP:Prop:=zai 3 t0 t1 λt13=>zaf 2 t13 λt14=>zae false 1 t14 H λt15=>zai 2 t15 t2 λt17=>zaf 1 t17 λt18=>zae false 1 t18 H λt19=>zah 1 t19 λt21=>zac .gtr false t21 (.int .i64 6) λt22=>zag t22 (K (.bool false) H) (ACalls tP zfd [t0,t1,t2] H λt26 H=>zah 1 t19 λt28=>zAQ t0 t1 t26 t19 t28 (.int .i64 0) H K)
variable {t0 t1 t2 t3 t4 t5 t8 t14 t15 t27 t28 t29 t76 t77 t78} {H} {K} {Kb5 Kb6 Kb13}
theorem zLz (Inv:Nat→AV→zaa→Prop) (n:Nat) (h0:HSc H→Inv n t78 H)
  (ac:Rd1 (λt78=>zlq t0 t3 t4 t5 t14 t15 t76 t77 t78) (λt78=>λH Kb13=>zrD t0 t3 t4 t5 t14 t15 t76 t77 t78 H K Kb5 Kb13) H Inv):zzD t0 t3 t4 t5 t14 t15 t76 t77 t78 H K Kb5:=
 lp1 (M:=zfx) zLB t78 (by kernel_rfl) Inv n h0 ac
theorem zLA (Inv:Nat→AV→zaa→Prop) (n:Nat) (h0:HSc H→Inv n t15 H)
  (ac:Rd1 (λt15=>zlr t0 t3 t4 t14 t15) (λt15=>λH Kb5=>zrE t0 t3 t4 t14 t15 H K Kb5) H Inv):zzE t0 t3 t4 t14 t15 H K:=
 lp1 (M:=zfx) zzF t15 (by kernel_rfl) Inv n h0 ac
theorem zLC (h:HSc H→zrB t0 H K):ACalls tP zoZ [t0] H K:=
 acb zfx Tryz.func159 zrF (by kernel_rfl) (by kernel_rfl) h
theorem zOn (Inv:Nat→AV→zaa→Prop) (n:Nat) (h0:HSc H→Inv n t29 H)
  (ac:Rd1 (λt29=>zh5 t0 t1 t8 t27 t28 t29) (λt29=>λH Kb6=>zsq t0 t1 t8 t27 t28 t29 H K Kb6) H Inv):zAQ t0 t1 t8 t27 t28 t29 H K:=
 lp1 (M:=zl5) zOo t29 (by kernel_rfl) Inv n h0 ac
theorem zOp (h:HSc H→zAP t0 t1 t2 H K):ACalls tP zpa [t0,t1,t2] H K:=
 acb zl5 Tryz.func201 zsr (by kernel_rfl) (by kernel_rfl) h
end
end Go.Proofs.YtdmamdnkcefmmaaGreatDoor
section


end
namespace Go.Proofs.YtdmamdnkcefmmaaGreatDoor
open Go Go.Abs
def zdN (aa:List Dat) (d:Nat) (vars:Int) (t:VT):Bool:=za1 (aa.take (d+1)) vars t && (zb0 d vars t || !zcq d t)
theorem zOr (aa:List Dat) (d:Nat) (c:Nat) (hd:d<aa.length) (hc:c<(aa[d]).cons.length) (hl:aa.length≤1000000) (bo:(aa[d]).cons.length≤1000000) (dz:((aa[d]).cons[c]).args.length≤1000000)
  (hb:∀ x∈((aa[d]).cons[c]).args,x.nodes≤1000000) (H:zaa) (K:AV→zaa→Prop)
  (hK:K (.bool (decide (((aa[d]).cons[c]).args.length≤6) && ((aa[d]).cons[c]).args.all (zdN aa d (aa[d]).vars))) H) :
  ACalls tP zpa [.sl (aa.map Dat.cs) .none,.int .i64 d,.int .i64 c] H K:=by
 refine ACalls.out (zOp λhs=>?_);have e1:(aa.map Dat.cs)[d]?=some (aa[d]).cs:=by simp[hd]
 have e2:((aa[d]).cons.map Con.cs)[c]?=some ((aa[d]).cons[c]).cs:=by simp[hc]
 have ed:=zr3 aa d c hd hc hl bo dz hb;generalize hD:aa[d]=D at *;generalize hA:D.cons[c]=C at *;have hO:∀ J,Out H.length K (.bool (decide (C.args.length≤6) && C.args.all (zdN aa d D.vars))) (H++J):=λJ=>Out.bool rfl (Nat.le_refl _) hs hK;simp[zAP,e1,e2,Dat.cs,Con.cs,hd,hD,hc,hA];by_cases h6:C.args.length≤6
 ·have cR:¬ (6:Int)<C.args.length:=by omega
  have iO:¬ 6<C.args.length:=by omega
  simp[cR,iO];refine ed _ _ ?_;simp[h6]at hO;refine zOn (Inv:=λq t29 H'=>∃ i:Nat,i≤C.args.length∧q=C.args.length-i∧t29=.int .i64 i∧(C.args.drop i).all (zdN aa d D.vars)=C.args.all (zdN aa d D.vars)∧H=H') C.args.length ?_ ?_
  ·intro _;exact⟨0,by omega,by omega,rfl,by simp,rfl⟩
  ·rintro q t29 H' ⟨i,hi,rfl,rfl,ho,rfl⟩ hsc am aP Kb ar;by_cases ak:i<C.args.length
   ·rw[List.drop_eq_getElem_cons ak,List.all_cons]at ho;have fB:=hb _ (List.getElem_mem ak);obtain⟨x1,x2,x3,az,bI,bh,bK⟩:=zbh C.args[i];simp[zsq,ak,az,e1,hd,hD,Dat.cs];refine⟨⟨bI,bh,bK⟩,?_⟩;rw[zat (by omega) (by omega),show ((d:Int)+1).toNat=d+1 by omega,←List.map_take];refine⟨by omega,by omega,?_⟩;rw[←az];refine zaC (.bool (za1 (aa.take (d+1)) D.vars C.args[i])) (λJ=>zy1 (aa.take (d+1)) D.vars _ (by omega) _ _ ⟨rfl,rfl⟩) ?_;have hao:zdN aa d D.vars C.args[i]=(za1 (aa.take (d+1)) D.vars C.args[i] && (zb0 d D.vars C.args[i] || !zcq d C.args[i])):=rfl;rw[hao]at ho;cases hv:za1 (aa.take (d+1)) D.vars C.args[i] with
    | false=>rw[hv]at ho;simp only[Bool.false_and]at ho;rw[←ho]at hO;simp;exact hO _
    | true=>
    rw[hv]at ho;cases kr:zb0 d D.vars C.args[i] with
    | true=>rw[kr]at ho;simp[ak,kr];rw[zat (by omega) (by omega)];refine ar _ _ ⟨C.args.length-(i+1),by omega,Back.same (by simp) hs ?_ ⟨_,rfl,i+1,by omega,rfl,by simp,by simpa using ho,rfl⟩⟩;simp[zh5,AV.sc,AV.scV,AV.scA,AV.scB]
    | false=>
     rw[kr]at ho;simp[ak,kr];refine zaC (.bool (zcq d C.args[i])) (λJ=>zPq d _ _ (Nat.le_refl _) (by omega) _ _ ⟨rfl,rfl⟩) ?_;cases hm:zcq d C.args[i] with
     | true=>rw[hm]at ho;simp only[Bool.not_true,Bool.or_false,Bool.and_false,Bool.false_and]at ho;rw[←ho]at hO;simp;exact hO _
     | false=>rw[hm]at ho;simp;rw[zat (by omega) (by omega)];refine ar _ _ ⟨C.args.length-(i+1),by omega,Back.same (by simp) hs ?_ ⟨_,rfl,i+1,by omega,rfl,by simp,by simpa using ho,rfl⟩⟩;simp[zh5,AV.sc,AV.scV,AV.scA,AV.scB]
   ·obtain rfl:i=C.args.length:=by omega
    rw[List.drop_length,List.all_nil]at ho;rw[←ho]at hO;simp[zsq];simpa using hO []
 ·have cR:(6:Int)<C.args.length:=by omega
  have iO:6<C.args.length:=by omega
  simp[cR,iO];simp[h6]at hO;simpa using hO []
def zb2 (l:List (List UInt8)):List (List UInt8 × AV):=l.map λs=>(s,.bool true)
theorem zfm (s:List UInt8):∀ l:List (List UInt8),(zbL (zb2 l) s).getD (.bool false)=.bool (decide (s∈l))
 | []=>by simp[zb2,zbL]
 | a::l=>by
  have:=zfm s l;cases h:a == s with
  | true=>
   have h':a=s:=by simpa using h
   simp[zb2,zbL,h,h']
  | false=>
   have h':a≠s:=by simpa using h
   have h'':s≠a:=λe=>h' e.symm;simp only[zb2,List.map_cons,zbL,h]at this ⊢;rw[this];simp[h'']
theorem zp3 (s:List UInt8):∀ l:List (List UInt8),s ∉ l→zcz (zb2 l) s (.bool true)=zb2 (l++[s])
 | [],_=>rfl
 | a::l,h=>by
  have h1:(a == s)=false:=by simp at h;simpa using λe=>h.1 e.symm
  have:=zp3 s l (by simp at h;exact h.2);simp only[zb2,List.map_cons,zcz,h1,List.cons_append]at this ⊢;rw[this]
theorem zGm (m:Nat) (l:List (List UInt8)):(AB.map (zb2 l)).sc m=true:=by simp[AB.sc,zb2,AV.scV]
def zby (aa:List Dat):List (List UInt8):=aa.map Dat.name
def zaS (aa:List Dat):List (List UInt8):=aa.flatMap λD=>D.cons.map Con.name
def zdk (aa:List Dat) (d:Nat) (vars:Int) (c:Con):Bool:=zcZ c.name && (decide (c.args.length≤6) && c.args.all (zdN aa d vars))
def zcE (aa:List Dat) (d:Nat) (D:Dat):Bool:=zcZ D.name && decide (0≤D.vars) && decide (D.vars≤6) && decide (1≤D.cons.length) && decide (D.cons.length≤8) && D.cons.all (zdk aa d D.vars)
def zcP (aa:List Dat):List Dat→Nat→Bool
 | [],_=>true
 | D::l,d=>zcE aa d D && zcP aa l (d+1)
def zbx (aa:List Dat):Bool:=decide (aa.length≤12) && zcP aa aa 0 && !zck (zby aa) && !zck (zaS aa)
theorem zw8 {A R:List (List UInt8)} {s:List UInt8} (h:s∈A):zck (A++s::R)=true:=by simp only[zck,Bool.not_eq_true',decide_eq_false_iff_not,List.nodup_append];rintro⟨_,_,h3⟩;exact h3 s h s (by simp) rfl
theorem zpS {l:List (List UInt8)} (h:l.Nodup):zck l=false:=by simp[zck,h]
theorem zwu {A:List (List UInt8)} {s:List UInt8} (h:A.Nodup) (hs:s ∉ A):(A++[s]).Nodup:=by rw[List.nodup_append];refine⟨h,by simp,?_⟩;intro a ha b hb;simp at hb;subst hb;exact λe=>hs (e ▸ ha)
def zgy (aa:List Dat):Prop:=∀ D∈aa,D.cons.length≤1000000∧∀ c∈D.cons,c.args.length≤1000000∧∀ x∈c.args,x.nodes≤1000000
theorem zLE (aa:List Dat) (hB:zgy aa) (hl:aa.length≤1000000) (H:zaa) (K:AV→zaa→Prop) (hK:K (.bool (zbx aa)) H):ACalls tP zoZ [.sl (aa.map Dat.cs) .none] H K:=by
 refine ACalls.out (zLC λhs=>?_);have hO:∀ J,Out H.length K (.bool (zbx aa)) (H++J):=λJ=>Out.bool rfl (Nat.le_refl _) hs hK;by_cases lH:aa.length≤12
 ·have ee:¬ (12:Int)<aa.length:=by omega
  have fL:¬ 12<aa.length:=by omega
  have gZ:zcP aa aa 0=false→∀ J,Out H.length K (.bool false) (H++J):=λh J=>by have:=hO J;rwa [show zbx aa=false by simp[zbx,h]]at this
  have hD1:zck (zby aa)=true→∀ J,Out H.length K (.bool false) (H++J):=λh J=>by have:=hO J;rwa [show zbx aa=false by simp[zbx,h]]at this
  have hD2:zck (zaS aa)=true→∀ J,Out H.length K (.bool false) (H++J):=λh J=>by have:=hO J;rwa [show zbx aa=false by simp[zbx,h]]at this
  simp[zrB,ee,fL];refine zLA (Inv:=λq t15 H'=>∃ i:Nat,i≤aa.length∧q=aa.length-i∧t15=.int .i64 i∧zcP aa (aa.drop i) i=zcP aa aa 0∧(zby (aa.take i)).Nodup∧(zaS (aa.take i)).Nodup∧H'=H++[.map (zb2 (zby (aa.take i))),.map (zb2 (zaS (aa.take i)))]) aa.length ?_ ?_
  ·intro _;exact⟨0,by omega,by omega,rfl,by simp,by simp[zby],by simp[zaS],by simp[zby,zaS,zb2]⟩
  ·rintro q t15 H' ⟨i,hi,rfl,rfl,ho,lI,cc,rfl⟩ hsc am aP Kb ar;by_cases ak:i<aa.length
   ·have e1:(aa.map Dat.cs)[i]?=some (aa[i]).cs:=by simp[ak]
    obtain⟨ku,jL⟩:=hB _ (List.getElem_mem ak);have bj:=λc hc=>zOr aa i c ak hc hl ku (jL _ (List.getElem_mem hc)).1 (jL _ (List.getElem_mem hc)).2;rw[List.drop_eq_getElem_cons ak,zcP]at ho;have bf:aa.take (i+1)=aa.take i++[aa[i]]:=by rw[List.take_append_getElem ak]
    have a6:aa=aa.take i++aa[i]::aa.drop (i+1):=by rw[List.getElem_cons_drop,List.take_append_drop]
    generalize hD:aa[i]=D at *;have bk:zcE aa i D=false→zcP aa aa 0=false:=λh=>by rw[←ho,h,Bool.false_and]
    have cV:∀ J,zcE aa i D=false→Out H.length K (.bool false) (H++[.map (zb2 (zby (aa.take i))),.map (zb2 (zaS (aa.take i)))]++J):=λJ h=>by rw[List.append_assoc];exact gZ (bk h) _
    simp[zrE,ak,e1,hD,Dat.cs];refine zAO _ _ _ ?_;cases hu:zcZ D.name with
    | false=>simp;exact gZ (bk (by simp[zcE,hu])) _
    | true=>
    by_cases bc:D.name∈zby (aa.take i)
    ·simp[ak,e1,hD,Dat.cs,zfm,bc];refine hD1 ?_ _;rw[a6];simp only[zby,List.map_append,List.map_cons];exact zw8 bc
    by_cases da:D.vars<0
    ·simp[ak,e1,hD,Dat.cs,zfm,bc,da];exact gZ (bk (by simp[zcE,show ¬ 0≤D.vars by omega])) _
    by_cases iP:6<D.vars
    ·simp[ak,e1,hD,Dat.cs,zfm,bc,da,iP];exact gZ (bk (by simp[zcE,show ¬ D.vars≤6 by omega])) _
    simp[ak,e1,hD,Dat.cs,zfm,bc,da,iP,zp3 _ _ bc];by_cases bH:D.cons.length<1
    ·have bF:(D.cons.length:Int)<1:=by omega
     simp[bF];exact gZ (bk (by simp[zcE,show ¬ 1≤D.cons.length by omega])) _
    have bF:¬ (D.cons.length:Int)<1:=by omega
    by_cases lJ:8<D.cons.length
    ·have ef:(8:Int)<D.cons.length:=by omega
     simp[ak,e1,hD,Dat.cs,bF,ef,lJ];exact gZ (bk (by simp[zcE,show ¬ D.cons.length≤8 by omega])) _
    have ef:¬ (8:Int)<D.cons.length:=by omega
    have hdat:zcE aa i D=D.cons.all (zdk aa i D.vars):=by simp[zcE,hu,show 0≤D.vars by omega,show D.vars≤6 by omega,show 1≤D.cons.length by omega,show D.cons.length≤8 by omega]
    simp[ak,e1,hD,Dat.cs,bF,ef,lJ];have hdn':(zby (aa.take (i+1))).Nodup:=by rw[bf];simp only[zby,List.map_append,List.map_cons,List.map_nil];exact zwu lI bc
    have hde:zby (aa.take i)++[D.name]=zby (aa.take (i+1)):=by rw[bf];simp[zby]
    rw[hde];refine zLz (Inv:=λq t78 H'=>∃ j:Nat,j≤D.cons.length∧q=D.cons.length-j∧t78=.int .i64 j∧(D.cons.drop j).all (zdk aa i D.vars)=D.cons.all (zdk aa i D.vars)∧(zaS (aa.take i)++(D.cons.take j).map Con.name).Nodup∧H'=H++[.map (zb2 (zby (aa.take (i+1)))),.map (zb2 (zaS (aa.take i)++(D.cons.take j).map Con.name))]) D.cons.length ?_ ?_
    ·intro _;exact⟨0,by omega,by omega,rfl,by simp,by simpa using cc,by simp⟩
    ·rintro q t78 H' ⟨j,hj,rfl,rfl,fY,jr,rfl⟩ iJ cg iK Kb1 d9;have hscH:∀ A B,HSc (H++[.map (zb2 A),.map (zb2 B)]):=λA B=>hs.append (by simp[zGm]);by_cases aV:j<D.cons.length
     ·have e2:(D.cons.map Con.cs)[j]?=some (D.cons[j]).cs:=by simp[aV]
      have hargs':=bj j aV;rw[List.drop_eq_getElem_cons aV,List.all_cons]at fY;have htj:zaS (aa.take i)++(D.cons.take (j+1)).map Con.name=(zaS (aa.take i)++(D.cons.take j).map Con.name)++[(D.cons[j]).name]:=by rw[←List.take_append_getElem aV,List.map_append,List.append_assoc];rfl
      have aK:zaS aa=(zaS (aa.take i)++(D.cons.take j).map Con.name)++(D.cons[j]).name::((D.cons.drop (j+1)).map Con.name++zaS (aa.drop (i+1))):=by
       have h1:D.cons.map Con.name=(D.cons.take j).map Con.name++(D.cons[j]).name::(D.cons.drop (j+1)).map Con.name:=by rw[←List.map_cons (f:=Con.name),List.getElem_cons_drop,←List.map_append,List.take_append_drop]
       conv=>lhs;rw[a6]
       simp only[zaS,List.flatMap_append,List.flatMap_cons,List.append_assoc,h1,List.cons_append]
      generalize hC:D.cons[j]=C at *;have hbad':zdk aa i D.vars C=false→zcP aa aa 0=false:=λh=>bk (by rw[hdat,←fY,h,Bool.false_and]);generalize hA:zaS (aa.take i)++(D.cons.take j).map Con.name=A at *;simp only[zrD];simp[aV,hC,Con.cs,Nat.add_assoc];refine zAO _ _ _ ?_;cases hu2:zcZ C.name with
      | false=>simp;exact gZ (hbad' (by simp[zdk,hu2])) _
      | true=>
      by_cases jM:C.name∈A
      ·simp[zfm,jM];exact hD2 (by rw[aK];exact zw8 jM) _
      ·simp[zfm,jM];refine hargs' _ _ ?_;have lK:zdk aa i D.vars C=(decide (C.args.length≤6) && C.args.all (zdN aa i D.vars)):=by simp[zdk,hu2]
       rw[←lK];cases dj:zdk aa i D.vars C with
       | false=>simp;exact gZ (hbad' dj) _
       | true=>
        rw[dj,Bool.true_and]at fY;simp[zp3 _ _ jM];rw[zat (by omega) (by omega)];refine d9 _ _ ⟨D.cons.length-(j+1),by omega,Back.at (J:=[.cells [.str C.name,.sl (VT.css C.args) .none]]) (H2:=H++[.map (zb2 (zby (aa.take (i+1)))),.map (zb2 (A++[C.name]))]) (by simp) (by simp) (hscH _ _) ?_ ⟨_,rfl,j+1,by omega,rfl,by simp,fY,?_,?_⟩⟩
        ·simp[zlq,AV.sc,AV.scV,AV.scA,AV.scB]
        ·rw[htj];exact zwu jr jM
        ·rw[htj]
     ·obtain rfl:j=D.cons.length:=by omega
      rw[List.drop_length,List.all_nil]at fY;rw[List.take_length]at *;simp[zrD];rw[zat (by omega) (by omega)];have lK:zaS (aa.take i)++D.cons.map Con.name=zaS (aa.take (i+1)):=by rw[bf];simp[zaS]
      rw[lK]at jr ⊢;refine ar _ _ ⟨aa.length-(i+1),by omega,Back.at (J:=[]) (by simp) (by simp) (hscH _ _) ?_ ⟨_,rfl,i+1,by omega,rfl,by simp,?_,hdn',jr,rfl⟩⟩
      ·simp[zlr,AV.sc,AV.scV,AV.scA,AV.scB]
      ·rw[←ho,hdat,←fY,Bool.true_and]
   ·obtain rfl:i=aa.length:=by omega
    rw[List.drop_length,zcP]at ho;rw[List.take_length]at *;simp[zrE];have:=hO [.map (zb2 (zby aa)),.map (zb2 (zaS aa))];rwa [show zbx aa=true by simp[zbx,lH,←ho,zpS lI,zpS cc]]at this
 ·have ee:(12:Int)<aa.length:=by omega
  have fL:12<aa.length:=by omega
  rw[show zbx aa=false by simp[zbx,lH]]at hO;simp[zrB,ee,fL];simpa using hO []
def zug (c:Con):Prop:=c.name.length≤40∧c.args.length≤8∧∀ t∈c.args,t.nodes≤20
def znH (d:Dat):Prop:=d.name.length≤40∧d.cons.length≤10∧∀ c∈d.cons,zug c
def zbr (ds:List Dat):Prop:=ds.length≤14∧∀ d∈ds,znH d
theorem zg9 {α:Type} {l:List α} {i:Nat} (h:i<l.length) {p:α→Prop} (h1:∀ x∈l.take i,p x) (h2:p l[i]):∀ x∈l.take (i+1),p x:=by
 rw[List.take_succ_eq_append_getElem h];intro x hx;rcases List.mem_append.1 hx with hx | hx
 ·exact h1 x hx
 ·simp at hx;subst hx;exact h2
theorem zv3 {α:Type} {cs:α→List AV} {l:List α} {i:Nat} (h:i<l.length):(l.map cs)[i]?.getD []=cs l[i]:=by simp[h]
theorem vt3 (v:VT):∃ a b c,v.cs=[a,b,c]∧a.known=true∧b.known=true∧c.known=true:=by obtain⟨k,n,ks⟩:=v;exact⟨_,_,_,rfl,rfl,rfl,rfl⟩
theorem zQL (ds:List Dat) (H:zaa) (K:AV→zaa→Prop) (am:ds.length≤9223372036854775807) (hK:∀ b,(b=true→zbr ds)→K (.bool b) H):ACalls tP zpo [.sl (ds.map Dat.cs) .none] H K:=by
 refine ACalls.out (zQJ λhs=>?_);have hF:∀ J,Out H.length K (.bool false) (H++J):=λJ=>Out.bool rfl (Nat.le_refl _) hs (hK false λh=>by cases h);have hF0:Out H.length K (.bool false) H:=by simpa using hF []
 by_cases h14:ds.length>14
 ·have:(14:Int)<ds.length:=by omega
  simp[zs2,this];exact hF0
 have:¬ (14:Int)<ds.length:=by omega
 simp[zs2,this];refine zQG (Inv:=λq t15 H'=>∃ i:Nat,i≤ds.length∧q=ds.length-i∧t15=.int .i64 i∧(∀ d∈ds.take i,znH d)∧H=H') ds.length ?_ ?_
 ·intro _;exact⟨0,by omega,by omega,rfl,by simp,rfl⟩
 ·rintro q t15 H' ⟨i,hi,rfl,rfl,ha,rfl⟩ hsc hl aP Kb4 hKb4;by_cases bm:i<ds.length
  ·have a7:(ds.map Dat.cs)[i]?.getD []=[.str ds[i].name,.int .i64 ds[i].vars,.sl (ds[i].cons.map Con.cs) .none]:=zv3 bm;have next:znH ds[i]→∀ J,Kb4 (zh8 (.sl (ds.map Dat.cs) .none) (.int .i64 ds.length) (.int .i64 (i+1))) (H++J):=by intro hd J;refine hKb4 _ _ ⟨ds.length-(i+1),by omega,Back.same (Nat.le_refl _) hs ?_ ⟨_,rfl,i+1,by omega,rfl,by simp,zg9 bm ha hd,rfl⟩⟩;simp[zh8,AV.sc,AV.scV,AV.scA,AV.scB]
   generalize cL:ds[i]=d at *;simp[zs4,bm,a7,AV.known,cL,Dat.cs];by_cases hn:d.name.length>40
   ·have:(40:Int)<d.name.length:=by omega
    simp[this];exact hF _
   have bM:¬ (40:Int)<d.name.length:=by omega
   by_cases hc:d.cons.length>10
   ·have:(10:Int)<d.cons.length:=by omega
    simp[bM,this];exact hF _
   have ji:¬ (10:Int)<d.cons.length:=by omega
   simp[bM,ji];refine zQH (Inv:=λq t32 H'=>∃ j:Nat,j≤d.cons.length∧q=d.cons.length-j∧t32=.int .i64 j∧(∀ c∈d.cons.take j,zug c)∧H'=H++[.cells [.str d.name,.int .i64 d.vars,.sl (d.cons.map Con.cs) .none]]) d.cons.length ?_ ?_
   ·intro _;exact⟨0,by omega,by omega,rfl,by simp,rfl⟩
   ·rintro q t32 H' ⟨j,hj,rfl,rfl,hb,rfl⟩ hsc9 hl9 gA Kb9 fJ;by_cases aV:j<d.cons.length
    ·have a7:(d.cons.map Con.cs)[j]?.getD []=[.str d.cons[j].name,.sl (VT.css d.cons[j].args) .none]:=zv3 aV;generalize bX:d.cons[j]=c at *;simp[zs5,aV,a7,AV.known,bX,Con.cs];by_cases hn:c.name.length>40
     ·have:(40:Int)<c.name.length:=by omega
      simp[this];exact hF _
     have bM:¬ (40:Int)<c.name.length:=by omega
     by_cases hc:c.args.length>8
     ·have:(8:Int)<c.args.length:=by omega
      simp[bM,this];exact hF _
     have ji:¬ (8:Int)<c.args.length:=by omega
     simp[bM,ji];refine zQF (Inv:=λq t49 H'=>∃ (k:Nat) (l:Int),k≤c.args.length∧q=c.args.length-k∧t49=.int .i64 k∧-1≤l∧l≤20∧(∀ t∈c.args.take k,t.nodes≤20)∧H'=H++[.cells [.str d.name,.int .i64 d.vars,.sl (d.cons.map Con.cs) .none],.cells [.str c.name,.sl (VT.css c.args) .none],.cells [.int .i64 l]]) c.args.length ?_ ?_
     ·intro _;exact⟨0,20,by omega,by omega,rfl,by omega,by omega,by simp,rfl⟩
     ·rintro q t49 H' ⟨k,l,hk,rfl,rfl,dQ,d8,iQ,rfl⟩ hsc15 hl15 hsF15 Kb15 fM;by_cases dL:k<c.args.length
      ·obtain⟨x,y,z,hv,hx,hy,hz⟩:=vt3 c.args[k];simp[zs3,dL,hv,hx,hy,hz];rw[←hv];refine zCb _ _ (Nat.le_refl _) l (by omega) dQ _ (H.length+2) (by simp) _ ?_ ?_
       ·intro aS;simp;rw[zat (by omega) (by omega)];refine fM _ _ ⟨c.args.length-(k+1),by omega,Back.at (J:=[_]) (H2:=H++[.cells [.str d.name,.int .i64 d.vars,.sl (d.cons.map Con.cs) .none],.cells [.str c.name,.sl (VT.css c.args) .none],.cells [.int .i64 (l-c.args[k].nodes)]]) (by simp;rfl) (by simp) (hs.append rfl) ?_ ⟨_,rfl,k+1,l-c.args[k].nodes,by omega,rfl,by simp,by omega,by omega,zg9 dL iQ (by omega),rfl⟩⟩;simp[zmz,AV.sc,AV.scV,AV.scA,AV.scB]
       ·intro aS l';simp;exact hF _
      ·obtain rfl:k=c.args.length:=by omega
       rw[List.take_length]at iQ;simp[zs3];rw[zat (by omega) (by omega)];refine fJ _ _ ⟨d.cons.length-(j+1),by omega,Back.at (J:=[_,_]) (H2:=H++[.cells [.str d.name,.int .i64 d.vars,.sl (d.cons.map Con.cs) .none]]) (by simp;exact⟨rfl,rfl⟩) (by simp) (hs.append rfl) ?_ ⟨_,rfl,j+1,by omega,rfl,by simp,zg9 aV hb (by rw[bX];exact⟨by omega,by omega,iQ⟩),rfl⟩⟩;simp[zmA,AV.sc,AV.scV,AV.scA,AV.scB]
    ·obtain rfl:j=d.cons.length:=by omega
     rw[List.take_length]at hb;simp[zs5];rw[zat (by omega) (by omega)];exact next ⟨by omega,by omega,hb⟩ _
  ·obtain rfl:i=ds.length:=by omega
   rw[List.take_length]at ha;simp[zs4];exact Out.bool (J:=[]) (by simp) (Nat.le_refl _) hs (hK true λ_=>⟨by omega,ha⟩)
def zej (aa:List Dat) (d:Nat) (vars:Int) (t:VT):Bool:=zb0 d vars t || za1 (aa.take d) vars t
structure RCon (aa:List Dat) (d:Nat) (vars:Int) (c:Con):Prop where
 up:zcZ c.name=true
 len:c.args.length≤6
 args:∀ x∈c.args,zej aa d vars x=true
structure RDat (aa:List Dat) (d:Nat) (D:Dat):Prop where
 v0:0≤D.vars
 v6:D.vars≤6
 c1:1≤D.cons.length
 c8:D.cons.length≤8
 up:zcZ D.name=true
 cons:∀ c∈D.cons,RCon aa d D.vars c
structure RData (aa:List Dat):Prop where
 len:aa.length≤12
 dats:∀ d (h:d<aa.length),RDat aa d aa[d]
 names:(zby aa).Nodup
 cons:(zaS aa).Nodup
theorem zqi {α:Type} {l:List α} {i:Nat} (h:i<l.length):l.take (i+1)=l.take i++[l[i]]:=by rw[List.take_append_getElem h]
theorem zvf:∀ l:List Dat,(∀ D∈l,D.cons.length≤10)→(zaS l).length≤l.length*10
 | [],_=>by simp[zaS]
 | D::l,h=>by have h1:=zvf l (λD hD=>h D (by simp[hD]));have h2:=h D (by simp);rw[zaS]at h1 ⊢;rw[List.flatMap_cons,List.length_append,List.length_map,List.length_cons];omega
theorem zEh {aa:List Dat} {d:Nat} (h:d<aa.length):zby (aa.take (d+1))=zby (aa.take d)++[(aa[d]).name]:=by rw[zby,zqi h,List.map_append];rfl
theorem zDU {aa:List Dat} {d:Nat} (h:d<aa.length):zaS (aa.take (d+1))=zaS (aa.take d)++(aa[d]).cons.map Con.name:=by rw[zaS,zqi h,List.flatMap_append];simp[zaS]
theorem zxH (l:List (List UInt8)) (s:List UInt8):strs (l++[s])=strs l++[[.str s]]:=by simp[strs]
theorem zu3 {s:List UInt8} {k:AV→Prop}:zau 1 [.str []] 1 [(0,.str s)] k=k (.sl [[.str s]] .full):=propext Iff.rfl
theorem zw9 (l:List (List UInt8)) (hl:l.length≤1000000) {tok:Tok} (H:zaa) (K:AV→zaa→Prop) (hK:K (.bool (zck l)) H):ACalls tP zhr [.sl (strs l) tok] H K:=
 ACalls.wk (zUa l hl H K hK) ⟨.atom (.sl _ _),trivial⟩
theorem zD0 {D:Dat} {i:Nat} (h:i<D.cons.length):(D.cons.map Con.cs)[i]?.getD []=[.str (D.cons[i]).name,.sl (VT.css (D.cons[i]).args) .none]:=by simp[h,Con.cs]
theorem zRD (aa:List Dat) (jZ:zbr aa) (H:zaa) (K:AV→zaa→Prop) (hK:∀ b,(b=true↔RData aa)→K (.bool b) H):ACalls tP zpq [.sl (aa.map Dat.cs) .none] H K:=by
 refine ACalls.out (zRB λhs=>?_);obtain⟨kl,kd⟩:=jZ;have hF:¬ RData aa→∀ J,Out H.length K (.bool false) (H++J):=λh J=>Out.bool rfl (Nat.le_refl _) hs (hK _ (by simp[h]));have hT:∀ b:Bool,(b=true↔RData aa)→∀ J,Out H.length K (.bool b) (H++J):=λb h J=>Out.bool rfl (Nat.le_refl _) hs (hK _ h);by_cases lH:aa.length>12
 ·have ee:(12:Int)<aa.length:=by omega
  simp[ztm,ee];have:=hF (λh=>by have:=h.len;omega) [];simpa using this
 have ee:¬ (12:Int)<aa.length:=by omega
 simp[ztm,ee];unfold zmU;refine ALoop.own 3 zb5 1 rfl ?_;refine ALoop.own 4 zb5 1 rfl ?_;rw[List.append_assoc];have cc:∀ d,(zaS (aa.take d)).length≤140:=λd=>by have:=zvf (aa.take d) (λD hD=>(kd D (List.mem_of_mem_take hD)).2.1);rw[List.length_take]at this;have:min d aa.length*10≤14*10:=Nat.mul_le_mul_right _ (by omega);omega
 have d8:(H++[AB.perm zb5 1 0]).length=H.length+1:=by simp
 rw[d8];show zmU (.sl (aa.map Dat.cs) .none) (.sl [] (.own H.length)) (.sl [] (.own (H.length+1))) (.int .i64 0) (H++[.perm zb5 1 0,.perm zb5 1 0]) (Out H.length K);have hsP:∀ m n,HSc (H++[.perm zb5 1 m,.perm zb5 1 n]):=λm n=>hs.append rfl;refine zRz (Inv:=λq t3 t4 t5 H'=>∃ d:Nat,d≤aa.length∧q=aa.length-d∧t5=.int .i64 d∧t3=.sl (strs (zby (aa.take d))) (.own H.length)∧t4=.sl (strs (zaS (aa.take d))) (.own (H.length+1))∧(∀ j (h:j<aa.length),j<d→RDat aa j aa[j])∧H'=H++[.perm zb5 1 d,.perm zb5 1 (zaS (aa.take d)).length]) aa.length ?_ ?_
 ·intro _;exact⟨0,by omega,by omega,rfl,by simp[zby,strs],by simp[zaS,strs],by omega,by simp[zaS]⟩
 ·rintro q t3 t4 t5 H' ⟨d,hd,rfl,rfl,rfl,rfl,aw,rfl⟩ hsc am aP Kb ar;by_cases ak:d<aa.length
  ·have bk:¬ RDat aa d aa[d]→∀ J,Out H.length K (.bool false) (H++J):=λh=>hF λhh=>h (hh.dats d ak);have hcd:=cc d;have ei:=zEh ak;have aK:=zDU ak;obtain⟨kn,kc,kcc⟩:=kd _ (List.getElem_mem ak);have gM:(zby (aa.take d)).length=d:=by simp[zby];omega
   generalize hD:aa[d]=D at *;have dR:(aa.map Dat.cs)[d]?.getD []=[.str D.name,.int .i64 D.vars,.sl (D.cons.map Con.cs) .none]:=by simp[ak,hD,Dat.cs]
   by_cases da:D.vars<0
   ·simp[zfI,ak,hD,Dat.cs,da];exact bk (λh=>by have:=h.v0;omega) _
   by_cases iP:6<D.vars
   ·simp[zfI,ak,hD,Dat.cs,da,iP];exact bk (λh=>by have:=h.v6;omega) _
   by_cases bH:D.cons.length<1
   ·have bF:(D.cons.length:Int)<1:=by omega
    simp[zfI,ak,hD,Dat.cs,da,iP,bF];exact bk (λh=>by have:=h.c1;omega) _
   have bF:¬ (D.cons.length:Int)<1:=by omega
   by_cases lJ:8<D.cons.length
   ·have ef:(8:Int)<D.cons.length:=by omega
    simp[zfI,ak,hD,Dat.cs,da,iP,bF,ef];exact bk (λh=>by have:=h.c8;omega) _
   have ef:¬ (8:Int)<D.cons.length:=by omega
   simp[zfI,ak,hD,Dat.cs,da,iP,bF,ef];refine zCE _ _ _ ?_;cases hup:zcZ D.name with
   | false=>simp;exact bk (λh=>by have:=h.up;rw[hup]at this;cases this) _
   | true=>
   simp[zu3];simp[zaw,zaL,zaI,gM];refine⟨by omega,?_⟩;rw[←zxH,←ei];refine zRx (Inv:=λq t4 t7 H'=>∃ k:Nat,k≤D.cons.length∧q=D.cons.length-k∧t7=.int .i64 k∧t4=.sl (strs (zaS (aa.take d)++(D.cons.map Con.name).take k)) (.own (H.length+1))∧(∀ c∈D.cons.take k,RCon aa d D.vars c)∧H'=H++[.perm zb5 1 (d+1),.perm zb5 1 ((zaS (aa.take d)).length+k),.cells [.str D.name,.int .i64 D.vars,.sl (D.cons.map Con.cs) .none]]) D.cons.length ?_ ?_
   ·intro _;exact⟨0,by omega,by omega,rfl,by simp,by simp,by simp⟩
   ·rintro q t4 t7 H' ⟨k,hk,rfl,rfl,rfl,iR,rfl⟩ iJ cg iK Kb1 d9;have hlk:(zaS (aa.take d)++(D.cons.map Con.name).take k).length=(zaS (aa.take d)).length+k:=by simp;omega
    by_cases dL:k<D.cons.length
    ·have hkI:(k:Int)<D.cons.length:=by omega
     have hca:=zD0 dL;have fN:¬ RCon aa d D.vars D.cons[k]→∀ J,Out H.length K (.bool false) (H++J):=λh=>bk λhh=>h (hh.cons _ (List.getElem_mem dL));have kb:zaS (aa.take d)++(D.cons.map Con.name).take (k+1)=(zaS (aa.take d)++(D.cons.map Con.name).take k)++[(D.cons[k]).name]:=by rw[zqi (by simpa using dL)];simp
     obtain⟨_,ka,kan⟩:=kcc _ (List.getElem_mem dL);generalize hC:D.cons[k]=C at *;simp[ztn,dL,hC,Con.cs];refine zCE _ _ _ ?_;cases hupc:zcZ C.name with
     | false=>simp;exact fN (λh=>by have:=h.up;rw[hupc]at this;cases this) _
     | true=>
     by_cases kv:6<C.args.length
     ·have iS:(6:Int)<C.args.length:=by omega
      simp[dL,hC,Con.cs,iS];exact fN (λh=>by have:=h.len;omega) _
     have iS:¬ (6:Int)<C.args.length:=by omega
     simp[dL,hC,Con.cs,iS,zu3];generalize hA:zaS (aa.take d)++(D.cons.map Con.name).take k=A at *;have eP:A.length=(zaS (aa.take d)).length+k:=hlk;simp[zaw,zaL,zaI,eP,dL,hC,Con.cs];refine⟨by omega,?_⟩;rw[←zxH,←kb];refine zRy (Inv:=λq t95 H'=>∃ i:Nat,i≤C.args.length∧q=C.args.length-i∧t95=.int .i64 i∧(∀ x∈C.args.take i,zej aa d D.vars x=true)∧H'=H++[.perm zb5 1 (d+1),.perm zb5 1 ((zaS (aa.take d)).length+k+1),.cells [.str D.name,.int .i64 D.vars,.sl (D.cons.map Con.cs) .none]]) C.args.length ?_ ?_
     ·intro _;exact⟨0,by omega,by omega,rfl,by simp,rfl⟩
     ·rintro q t95 H' ⟨i,hi,rfl,rfl,hok3,rfl⟩ bZ dy gx Kb2 bQ;by_cases bm:i<C.args.length
      ·have hxn:=kan _ (List.getElem_mem bm);have habad:zej aa d D.vars C.args[i]=false→∀ J,Out H.length K (.bool false) (H++J):=λh=>fN λhh=>by have:=hh.args _ (List.getElem_mem bm);rw[h]at this;cases this
       obtain⟨x,y,z,az,hx,hy,hz⟩:=vt3 C.args[i];have good:zej aa d D.vars C.args[i]=true→zmT (.sl (aa.map Dat.cs) .none) (.sl (strs (zby (aa.take (d+1)))) (.own H.length)) (.sl (strs (zaS (aa.take d)++(D.cons.map Con.name).take (k+1))) (.own (H.length+1))) (.int .i64 d) (.ptr (H.length+2) 0) (.int .i64 k) (.sl (VT.css C.args) .none) (.int .i64 C.args.length) (.int .i64 i) (H++[.perm zb5 1 (d+1),.perm zb5 1 ((zaS (aa.take d)).length+k+1),.cells [.str D.name,.int .i64 D.vars,.sl (D.cons.map Con.cs) .none],.cells [x,y,z]]) (Out H.length K) Kb Kb1 Kb2:=λhg=>by simp[zmT,zBO];rw[zat (by omega) (by omega)];refine bQ _ _ ⟨C.args.length-(i+1),by omega,Back.at (J:=[_]) (H2:=H++[.perm zb5 1 (d+1),.perm zb5 1 ((zaS (aa.take d)).length+k+1),.cells [.str D.name,.int .i64 D.vars,.sl (D.cons.map Con.cs) .none]]) (by simp;rfl) (by simp) bZ ?_ ⟨_,rfl,i+1,by omega,rfl,by simp,zg9 bm hok3 hg,rfl⟩⟩;simp[zmR,AV.sc,AV.scV,AV.scA,AV.scB]
       simp[zto,bm,az,hx,hy,hz];rw[←az];refine zuf _ _ _ (by omega) _ _ ?_;cases eC:zb0 d D.vars C.args[i] with
       | true=>rw[az];simp;exact good (by simp[zej,eC])
       | false=>
        simp[az];refine⟨⟨by omega,λa _=>rfl⟩,?_⟩;rw[←List.map_take,←az];refine zaC (.bool (za1 (aa.take d) D.vars C.args[i])) (λJ=>zBU (aa.take d) (by simp;omega) _ _ (by omega) _ _ ⟨rfl,rfl⟩) ?_;cases kx:za1 (aa.take d) D.vars C.args[i] with
        | false=>simp;exact habad (by simp[zej,eC,kx]) _
        | true=>rw[az];simp;exact good (by simp[zej,kx])
      ·obtain rfl:i=C.args.length:=by omega
       rw[List.take_length]at *;simp[zto];rw[zat (by omega) (by omega)];refine d9 _ _ ⟨D.cons.length-(k+1),by omega,Back.here (by simp) bZ ?_ ⟨_,_,rfl,k+1,by omega,rfl,by simp,rfl,?_,by simp[Nat.add_assoc]⟩⟩
       ·simp[zmQ,AV.sc,AV.scV,AV.scA,AV.scB]
       ·exact zg9 dL iR (by rw[hC];exact⟨hupc,by omega,hok3⟩)
    ·obtain rfl:k=D.cons.length:=by omega
     rw[List.take_length]at *;simp[ztn];rw[zat (by omega) (by omega)];refine ar _ _ ⟨aa.length-(d+1),by omega,Back.at (J:=[_]) (H2:=H++[.perm zb5 1 (d+1),.perm zb5 1 (zaS (aa.take (d+1))).length]) (by rw[aK];simp;rfl) (by simp) (hsP _ _) ?_ ⟨_,_,_,rfl,d+1,by omega,rfl,by simp,rfl,by rw[aK];exact congrArg (λl=>AV.sl (strs (zaS (aa.take d)++l)) (.own (H.length+1))) (List.take_of_length_le (Nat.le_of_eq (List.length_map _))),λj hj cJ=>?_,rfl⟩⟩
     ·simp[zmS,AV.sc,AV.scV,AV.scA,AV.scB]
     ·by_cases hjd:j=d
      ·subst hjd;rw[hD];exact⟨by omega,by omega,by omega,by omega,hup,iR⟩
      ·exact aw j hj (by omega)
  ·obtain rfl:d=aa.length:=by omega
   rw[List.take_length]at *;have lI:(zby aa).length=aa.length:=by simp[zby]
   have hcn':=cc aa.length;rw[List.take_length]at hcn';simp[zfI];refine zw9 _ (by omega) _ _ ?_;cases hr:zck (zby aa) with
   | true=>simp;refine hT _ ?_ _;simp;intro h;have:=zpS h.names;rw[hr]at this;cases this
   | false=>simp;refine zw9 _ (by omega) _ _ ?_;refine hT _ ?_ _;simp only[zck,Bool.not_eq_false',decide_eq_true_eq,Bool.not_not]at hr ⊢;exact⟨λh=>⟨by omega,λj hj=>aw j hj hj,hr,h⟩,λh=>h.cons⟩
mutual
theorem zGh:∀ v w:VT,v.same w=true↔v=w
 | .mk k n ks,.mk k' n' ks'=>by have h:=zxk ks ks';simp only[VT.same,Bool.and_eq_true,beq_iff_eq,VT.mk.injEq,h,and_assoc]
theorem zxk:∀ v w:List VT,VT.sameL v w=true↔v=w
 | v::vs,w::ws=>by have h1:=zGh v w;have h2:=zxk vs ws;simp only[VT.sameL,Bool.and_eq_true,List.cons.injEq,h1,h2]
 | [],[]=>by simp[VT.sameL]
 | [],_::_=>by simp[VT.sameL]
 | _::_,[]=>by simp[VT.sameL]
end
theorem zjZ {α:Type} (l:List α) (d n:Nat):(l.take d)[n]?=if n<d then l[n]? else none:=by
 by_cases h:n<d
 ·rw[if_pos h,List.getElem?_take_of_lt h]
 ·rw[if_neg h,List.getElem?_eq_none (by rw[List.length_take];omega)]
theorem zGr {aa:List Dat} {d:Nat} {vars k n:Int} {len:Nat} (h:(k == 5 && n == (d:Int))=false):zbg (aa.take (d+1)) vars k n len=zbg (aa.take d) vars k n len:=by
 unfold zbg;by_cases h5:k=5
 ·subst h5;have hn:n≠d:=by simpa using h
  simp only[zjZ];by_cases h0:0≤n
  ·have:(n.toNat<d+1)=(n.toNat<d):=by apply propext;omega
   simp[this]
  ·simp[h0]
 ·have:(k == 5)=false:=by simpa using h5
  simp[this]
mutual
theorem zyd (aa:List Dat) (d:Nat) (vars:Int):∀ t:VT,zcq d t=false→za3 (aa.take (d+1)) vars t=za3 (aa.take d) vars t
 | .mk k n ks=>by intro h;simp only[zcq,Bool.or_eq_false_iff]at h;rw[za3,za3,zGr h.1,zya aa d vars ks h.2]
theorem zya (aa:List Dat) (d:Nat) (vars:Int):∀ l:List VT,zeF d l=false→zbf (aa.take (d+1)) vars l=zbf (aa.take d) vars l
 | []=>λ_=>rfl
 | t::ts=>by intro h;simp only[zeF,Bool.or_eq_false_iff]at h;rw[zbf,zbf,zyd aa d vars t h.1,zya aa d vars ts h.2]
end
mutual
theorem zv8 (aa:List Dat) (d:Nat) (vars:Int):∀ t:VT,za3 (aa.take d) vars t=true→zcq d t=false
 | .mk k n ks=>by
  intro h;rw[za3,Bool.and_eq_true]at h;rw[zcq,zv7 aa d vars ks h.2,Bool.or_false];by_cases h5:k=5
  ·subst h5;have h1:=h.1;simp[zbg,zjZ]at h1;obtain⟨h0,h2⟩:=h1;by_cases hn:n=d
   ·subst hn;simp at h2
   ·simpa using hn
  ·have:(k == 5)=false:=by simpa using h5
   simp[this]
theorem zv7 (aa:List Dat) (d:Nat) (vars:Int):∀ l:List VT,zbf (aa.take d) vars l=true→zeF d l=false
 | []=>λ_=>rfl
 | t::ts=>by intro h;rw[zbf,Bool.and_eq_true]at h;rw[zeF,zv8 aa d vars t h.1,zv7 aa d vars ts h.2];rfl
end
theorem zxm (aa:List Dat) (vars:Int):∀ (l:List VT) (i:Nat),zcH l i=true→((i+l.length:Nat):Int)≤vars→zbf aa vars l=true∧VT.nodesL l=l.length
 | [],i,_,_=>⟨rfl,rfl⟩
 | .mk k n ks::l,i,h,hv=>by
  rw[zcH,Bool.and_eq_true]at h;obtain⟨h1,h2⟩:=h;simp only[zg2,Bool.and_eq_true,beq_iff_eq]at h1;obtain⟨⟨rfl,rfl⟩,h3⟩:=h1;have hk:ks=[]:=List.eq_nil_of_length_eq_zero h3;subst hk;obtain⟨h4,h5⟩:=zxm aa vars l (i+1) h2 (by simp at hv ⊢;omega);simp at hv;constructor
  ·simp[zbf,za3,zbg,h4];omega
  ·simp[VT.nodesL,VT.nodes,h5];omega
theorem zuP (aa:List Dat) (d:Nat) (hd:d<aa.length) (h0:0≤(aa[d]).vars) (h6:(aa[d]).vars≤6) (t:VT):zdN aa d (aa[d]).vars t=zej aa d (aa[d]).vars t:=by
 unfold zdN zej;cases hs:zb0 d (aa[d]).vars t with
 | true=>
  obtain⟨k,n,ks⟩:=t;simp only[zb0,Bool.and_eq_true,beq_iff_eq]at hs;obtain⟨⟨⟨rfl,rfl⟩,hl⟩,hs⟩:=hs;obtain⟨h1,h2⟩:=zxm (aa.take (d+1)) (aa[d]).vars ks 0 hs (by simp;omega);have kx:za1 (aa.take (d+1)) (aa[d]).vars (.mk 5 d ks)=true:=by simp[za1,za3,h1,VT.nodes,h2,zbg,zjZ,hd,hl];omega
  simp[kx]
 | false=>
  simp only[Bool.false_or];unfold za1;cases hm:zcq d t with
  | false=>rw[zyd aa d _ t hm];simp
  | true=>
   have:za3 (aa.take d) (aa[d]).vars t=false:=by
    cases h:za3 (aa.take d) (aa[d]).vars t with
    | false=>rfl
    | true=>rw[zv8 aa d _ t h]at hm;cases hm
   simp[this]
theorem zn9 (aa:List Dat):∀ (l:List Dat) (d:Nat),zcP aa l d=true↔∀ j (h:j<l.length),zcE aa (d+j) l[j]=true
 | [],d=>by simp[zcP]
 | D::l,d=>by
  rw[zcP,Bool.and_eq_true,zn9 aa l (d+1)];constructor
  ·rintro⟨h1,h2⟩ j hj;cases j with
   | zero=>exact h1
   | succ j=>have:=h2 j (by simpa using hj);rw[show d+(j+1)=d+1+j by omega];simpa using this
  ·intro h;refine⟨h 0 (by simp),λj hj=>?_⟩;have:=h (j+1) (by simpa using hj);rw[show d+(j+1)=d+1+j by omega]at this;simpa using this
theorem zD7 (aa:List Dat):zbx aa=true↔RData aa:=by
 unfold zbx;simp only[Bool.and_eq_true,decide_eq_true_eq,zn9,zck,Bool.not_not,Nat.zero_add];constructor
 ·rintro⟨⟨⟨h1,h2⟩,h3⟩,h4⟩;refine⟨h1,λd hd=>?_,h3,h4⟩;have:=h2 d hd;simp only[zcE,Bool.and_eq_true,decide_eq_true_eq,List.all_eq_true]at this;obtain⟨⟨⟨⟨⟨q1,q2⟩,q3⟩,q4⟩,q5⟩,q6⟩:=this;refine⟨q2,q3,q4,q5,q1,λc hc=>?_⟩;have:=q6 c hc;simp only[zdk,Bool.and_eq_true,decide_eq_true_eq,List.all_eq_true]at this;exact⟨this.1,this.2.1,λx hx=>by rw[←zuP aa d hd q2 q3 x];exact this.2.2 x hx⟩
 ·rintro⟨h1,h2,h3,h4⟩;refine⟨⟨⟨h1,λd hd=>?_⟩,h3⟩,h4⟩;obtain⟨q2,q3,q4,q5,q1,q6⟩:=h2 d hd;simp only[zcE,Bool.and_eq_true,decide_eq_true_eq,List.all_eq_true];refine⟨⟨⟨⟨⟨q1,q2⟩,q3⟩,q4⟩,q5⟩,λc hc=>?_⟩;obtain⟨r1,r2,r3⟩:=q6 c hc;simp only[zdk,Bool.and_eq_true,decide_eq_true_eq,List.all_eq_true];exact⟨r1,r2,λx hx=>by rw[zuP aa d hd q2 q3 x];exact r3 x hx⟩
mutual
def zaT (aa:List Dat):VT→VT→Bool
 | .mk vk vn vks,.mk k n al=>
  if k=1 then vk == 3 && decide (-1099511627776≤vn) && decide (vn≤1099511627776) && vks.length == 0
  else if k=2 then vk == 2 && (vn == 0 || vn == 1) && vks.length == 0
  else if k=3 then vk == 1 && vn == 0 && vks.length == 0
  else if k=6 then vk == 4 && vn == 0 && zcy aa vks al
  else if k=5 then vk == 5 && decide (0≤vn) && decide (vn<8) && ze5 aa vks (zbm aa (.mk k n al) vn)
  else if k=7 then vk == 6 && vn == 0 && decide (vks.length≤4096) && zdy aa vks (al.getD 0 (.mk 0 0 []))
  else if k=8 then vk == 7 && vn == 0 && zcy aa vks al
  else vk == 8 && decide (0≤vn) && decide (vn<64) && vks.length == 0
def ze5 (aa:List Dat):List VT→Option (List VT)→Bool
 | _,none=>false
 | [],some ts=>ts.isEmpty
 | v::vs,some ts=>match ts with
  | []=>false
  | t::ts=>zaT aa v t && zcy aa vs ts
def zcy (aa:List Dat):List VT→List VT→Bool
 | [],ts=>ts.isEmpty
 | v::vs,ts=>match ts with
  | []=>false
  | t::ts=>zaT aa v t && zcy aa vs ts
def zdy (aa:List Dat):List VT→VT→Bool
 | [],_=>true
 | v::vs,t=>zaT aa v t && zdy aa vs t
end
theorem zEA (aa:List Dat) (vs ts:List VT):ze5 aa vs (some ts)=zcy aa vs ts:=by
 cases vs with
 | nil=>cases ts <;> rw[ze5,zcy]
 | cons v vs=>cases ts <;> simp only[ze5,zcy]
theorem zEz (aa:List Dat) (vs:List VT):ze5 aa vs none=false:=by cases vs <;> rw[ze5]
theorem zGs {aa:List Dat} {m:Nat} {vars k n:Int} {len:Nat} (h:zbg (aa.take m) vars k n len=true) (h4:k≠4):zbg aa 0 k n len=true:=by
 unfold zbg at h ⊢;have iG:(k == 4)=false:=by simpa using h4
 rw[iG]at h ⊢;by_cases h5:k=5
 ·subst h5;simp only[zjZ]at h;by_cases hm:n.toNat<m
  ·simpa[hm]using h
  ·simp[hm]at h
 ·have:(k == 5)=false:=by simpa using h5
  simpa[this]using h
theorem zxJ (ks:List VT):∀ l:List VT,(zaN ks l).length=l.length
 | []=>rfl
 | t::ts=>by simp[zaN,zxJ ks ts]
mutual
theorem zye {aa:List Dat} {m:Nat} {vars:Int} {ks:List VT} (hk:∀ x∈ks,za3 aa 0 x=true) (hl:(ks.length:Int)=vars):∀ a:VT,za3 (aa.take m) vars a=true→za3 aa 0 (subst ks a)=true
 | .mk k n al=>by
  intro h;rw[za3,Bool.and_eq_true]at h;unfold subst;by_cases h4:k=4
  ·have h1:=h.1;subst h4;simp[zbg]at h1;rw[if_pos ⟨rfl,by omega,by omega⟩];have hn:n.toNat<ks.length:=by omega
   rw[List.getElem?_eq_getElem hn];exact hk _ (List.getElem_mem hn)
  ·rw[if_neg (λh=>h4 h.1),za3,Bool.and_eq_true,zxJ];exact⟨zGs h.1 h4,zyb hk hl al h.2⟩
theorem zyb {aa:List Dat} {m:Nat} {vars:Int} {ks:List VT} (hk:∀ x∈ks,za3 aa 0 x=true) (hl:(ks.length:Int)=vars):∀ l:List VT,zbf (aa.take m) vars l=true→zbf aa 0 (zaN ks l)=true
 | []=>by intro _;simp[zaN,zbf]
 | t::ts=>by intro h;rw[zbf,Bool.and_eq_true]at h;rw[zaN,zbf,Bool.and_eq_true];exact⟨zye hk hl t h.1,zyb hk hl ts h.2⟩
end
theorem zx9 {aa:List Dat} {vars:Int}:∀ {l:List VT},zbf aa vars l=true→∀ x∈l,za3 aa vars x=true
 | [],_=>by simp
 | t::ts,h=>by
  rw[zbf,Bool.and_eq_true]at h;intro x hx;rcases List.mem_cons.1 hx with rfl | hx
  ·exact h.1
  ·exact zx9 h.2 x hx
theorem zyc {aa:List Dat} {vars:Int} {k n:Int} {ks:List VT} (h:za3 aa vars (.mk k n ks)=true):∀ x∈ks,za3 aa vars x=true:=by rw[za3,Bool.and_eq_true]at h;exact zx9 h.2
theorem zyf {aa:List Dat} {vars:Int} {k n:Int} {ks:List VT} (h:za1 aa vars (.mk k n ks)=true):∀ x∈ks,za1 aa vars x=true:=by rw[za1,Bool.and_eq_true,decide_eq_true_eq]at h;intro x hx;rw[za1,Bool.and_eq_true,decide_eq_true_eq];exact⟨Nat.le_trans (zg3 x hx) h.1,zyc h.2 x hx⟩
theorem zDZ {aa:List Dat} (hD:zbx aa=true) {d c:Nat} (hd:d<aa.length) (hc:c<aa[d].cons.length):∀ x∈(aa[d].cons[c]).args,za3 (aa.take (d+1)) aa[d].vars x=true:=by simp only[zbx,Bool.and_eq_true,zn9,Nat.zero_add]at hD;have h1:=hD.1.1.2 d hd;simp only[zcE,Bool.and_eq_true]at h1;have h2:=List.all_eq_true.1 h1.2 _ (List.getElem_mem hc);simp only[zdk,Bool.and_eq_true]at h2;intro x hx;have h3:=List.all_eq_true.1 h2.2.2 x hx;simp only[zdN,za1,Bool.and_eq_true]at h3;exact h3.1.2
theorem zgV {aa:List Dat} {k n:Int} {ks:List VT} {c:Int} {l:List VT} (h:zbm aa (.mk k n ks) c=some l) :
  k=5∧0≤n∧0≤c∧∃ (hn:n.toNat<aa.length) (hc:c.toNat<(aa[n.toNat]).cons.length),(ks.length:Int)=(aa[n.toNat]).vars∧l=((aa[n.toNat]).cons[c.toNat]).args.map (subst ks)∧∀ x∈l,x.nodes≤200:=by
 rw[zc3]at h;split at h
 ·rename_i h5;split at h
  ·rename_i D hD;obtain⟨hn,rfl⟩:=List.getElem?_eq_some_iff.1 hD;split at h
   ·rename_i hv;split at h
    ·rename_i C hC;obtain⟨hc,rfl⟩:=List.getElem?_eq_some_iff.1 hC;split at h
     ·rename_i ha;simp only[Option.some.injEq]at h;subst h;exact⟨h5.1,h5.2.1,h5.2.2,hn,hc,hv,rfl,λx hx=>of_decide_eq_true (List.all_eq_true.1 ha x hx)⟩
     ·cases h
    ·cases h
   ·cases h
  ·cases h
 ·cases h
theorem zvz {aa:List Dat} (hD:zbx aa=true) {t:VT} (ht:za3 aa 0 t=true) {c:Int} {l:List VT} (h:zbm aa t c=some l):∀ x∈l,za1 aa 0 x=true:=by obtain⟨k,n,ks⟩:=t;obtain⟨rfl,h0,dT,hn,hc,hv,rfl,aC⟩:=zgV h;intro x hx;rw[za1,Bool.and_eq_true,decide_eq_true_eq];refine⟨aC x hx,?_⟩;obtain⟨a,ha,rfl⟩:=List.mem_map.1 hx;exact zye (zyc ht) hv a (zDZ hD hn hc a ha)
theorem zxn {ks:List VT}:∀ (l:List VT) (i:Nat),zcH l i=true→i+l.length=ks.length→zaN ks l=ks.drop i
 | [],i,_,hl=>by simp at hl;subst hl;simp[zaN]
 | x::l,i,h,hl=>by
  rw[zcH,Bool.and_eq_true]at h;obtain⟨k,n,al⟩:=x;simp only[zg2,Bool.and_eq_true,beq_iff_eq]at h;obtain⟨⟨⟨rfl,rfl⟩,h3⟩,h4⟩:=h;simp at hl;have hi:i<ks.length:=by omega
  rw[List.drop_eq_getElem_cons hi,zaN,zxn l (i+1) h4 (by omega)];rw[subst,if_pos ⟨rfl,by omega,by omega⟩];simp[hi]
theorem zGn {ks:List VT} {d vars:Int} {a:VT} (h:zb0 d vars a=true) (hl:(ks.length:Int)=vars):subst ks a=.mk 5 d ks:=by obtain⟨k,n,al⟩:=a;simp only[zb0,Bool.and_eq_true,beq_iff_eq]at h;obtain⟨⟨⟨rfl,rfl⟩,h3⟩,h4⟩:=h;rw[subst,if_neg (λh=>by have:=h.1;omega)];have:=zxn (ks:=ks) al 0 h4 (by omega);rw[this,List.drop_zero]
def zcs (d:Nat) (D:Dat) (C:Con):List Bool:=C.args.map (zb0 d D.vars)
def zdF (aa:List Dat) (d:Nat):List (List Bool):=match aa[d]? with
 | some D=>D.cons.map (zcs d D)
 | none=>[]
mutual
def zfi (rs:List (List Bool)):VT→List VT
 | .mk k n ks=>.mk k n ks::zdR rs ks (rs.getD n.toNat [])
def zdR (rs:List (List Bool)):List VT→List Bool→List VT
 | [],_=>[]
 | v::vs,bs=>match bs with
  | []=>[]
  | b::bs=>(if b=true then zfi rs v else [])++zdR rs vs bs
end
mutual
theorem zw1 (rs:List (List Bool)):∀ v:VT,(zfi rs v).length≤v.nodes
 | .mk k n ks=>by have:=zw0 rs ks (rs.getD n.toNat []);simp only[zfi,VT.nodes,List.length_cons];omega
theorem zw0 (rs:List (List Bool)):∀ (vs:List VT) (bs:List Bool),(zdR rs vs bs).length≤VT.nodesL vs
 | [],_=>by simp[zdR,VT.nodesL]
 | v::vs,[]=>by simp[zdR]
 | v::vs,b::bs=>by
  have h1:=zw1 rs v;have h2:=zw0 rs vs bs;simp only[zdR,VT.nodesL,List.length_append];split
  ·omega
  ·simp;omega
end
def pick:List VT→List Bool→List VT
 | x::l,b::bs=>if b then pick l bs else x::pick l bs
 | _,_=>[]
def zbd (aa:List Dat) (t:VT) (c:Int):Option (List VT):=(zbm aa t c).map λl=>pick l ((zdF aa t.num.toNat).getD c.toNat [])
mutual
def zci (aa:List Dat):IT→VT→Int × Bool
 | .mk n ks,t=>
  if t.kind=6 then (if n=0 then (if t.kids.length=ks.length then zbV aa ks t.kids 0 else (0,false)) else (0,false))
  else if t.kind=7 then (n,decide (0≤n) && decide (n≤6) && decide (ks.length=0))
  else if t.kind=5 then (if n=0 then zcR aa ks t 0 else (0,false))
  else (0,decide (n=0) && decide (ks.length=0))
def zbV (aa:List Dat):List IT→List VT→Int→Int × Bool
 | [],_,a=>(a,decide (a≤6))
 | v::vs,ts,a=>match ts with
  | t::ts=>if (zci aa v t).2 then zbV aa vs ts (a+(zci aa v t).1) else (0,false)
  | []=>(0,false)
def zcR (aa:List Dat):List IT→VT→Int→Int × Bool
 | [],_,a=>(a,true)
 | .mk c ks::es,t,a=>match zbd aa t c with
  | none=>(0,false)
  | some ps=>if ps.length=ks.length then
    (if (zbV aa ks ps 0).2 && decide (a+(1+(zbV aa ks ps 0).1)≤6) then zcR aa es t (a+(1+(zbV aa ks ps 0).1)) else (0,false))
   else (0,false)
end
mutual
def rdV (aa:List Dat):IT→VT→Int
 | .mk n ks,t=>
  if t.kind=6 then (if n=0 then (if t.kids.length=ks.length then rdA aa ks t.kids 0 else -1) else -1)
  else if t.kind=7 then (if 0≤n∧n≤6∧ks.length=0 then n else -1)
  else if t.kind=5 then (if n=0∧ks.length≤6 then rdE aa ks t 0 else -1)
  else (if n=0∧ks.length=0 then 0 else -1)
def rdA (aa:List Dat):List IT→List VT→Int→Int
 | [],_,a=>a
 | v::vs,ts,a=>match ts with
  | t::ts=>if rdV aa v t<0∨a+rdV aa v t>6 then -1 else rdA aa vs ts (a+rdV aa v t)
  | []=>-1
def rdE (aa:List Dat):List IT→VT→Int→Int
 | [],_,a=>a
 | .mk c ks::es,t,a=>if c<0∨8≤c then -1 else match zbd aa t c with
  | none=>-1
  | some ps=>if ps.length=ks.length then
    (if rdA aa ks ps 0<0∨a+1+rdA aa ks ps 0>6 then -1 else rdE aa es t (a+(1+rdA aa ks ps 0)))
   else -1
end
theorem zFI {aa:List Dat} (h8:∀ D∈aa,D.cons.length≤8) {t:VT} {c:Int} {ps:List VT} (h:zbd aa t c=some ps):0≤c∧c<8:=by
 unfold zbd at h;cases hf:zbm aa t c with
 | none=>rw[hf]at h;cases h
 | some l=>obtain⟨_,k1,k2,hn,hc,_⟩:=zgV hf;have:=h8 _ (List.getElem_mem hn);omega
def agr (m:Int × Bool) (r:Int):Prop:=(m.2=true→m.1=r∧0≤r∧r≤6)∧(m.2=false→r=-1)
theorem zd4:agr (0,false) (-1):=⟨λh=>(by cases h),λ_=>rfl⟩
mutual
theorem zgF {aa:List Dat} (h8:∀ D∈aa,D.cons.length≤8):∀ (v:IT) (t:VT),agr (zci aa v t) (rdV aa v t)
 | .mk n ks,t=>by
  have hA:=(ziv h8 ks t.kids 0 (by omega)).1 (by omega);have hE:=zuK h8 ks t 0 (by omega) (by omega);unfold zci rdV;split
  ·split
   ·split
    ·exact hA
    ·exact zd4
   ·exact zd4
  ·split
   ·refine⟨λh=>?_,λh=>?_⟩
    ·simp at h;rw[if_pos ⟨h.1.1,h.1.2,by simpa using h.2⟩];exact⟨rfl,h.1.1,h.1.2⟩
    ·rw[if_neg];rintro⟨h1,h2,h3⟩;simp[h1,h2,h3]at h
   ·split
    ·by_cases hn:n=0
     ·simp only[hn,if_true,true_and];by_cases hl:ks.length≤6
      ·rw[if_pos hl];exact hE.1
      ·rw[if_neg hl];refine⟨λh=>?_,λ_=>rfl⟩;have:=hE.2 h;omega
     ·simp only[hn,if_false,false_and];exact zd4
    ·refine⟨λh=>?_,λh=>?_⟩
     ·simp at h;simp[h]
     ·rw[if_neg];rintro⟨h1,h2⟩;simp[h1,h2]at h
theorem ziv {aa:List Dat} (h8:∀ D∈aa,D.cons.length≤8):∀ (vs:List IT) (ts:List VT) (a:Int),0≤a→(a≤6→agr (zbV aa vs ts a) (rdA aa vs ts a))∧(6<a→(zbV aa vs ts a).2=false)
 | [],ts,a,ha=>by simp only[zbV,rdA];exact⟨λh=>⟨λ_=>⟨rfl,ha,h⟩,λh2=>by simp at h2;omega⟩,λh=>by simp;omega⟩
 | v::vs,ts,a,ha=>by
  match ts with
  | []=>simp only[zbV,rdA];exact⟨λ_=>zd4,λ_=>by trivial⟩
  | t::ts=>
   obtain⟨g1,g2⟩:=zgF h8 v t;simp only[zbV,rdA];cases hb:(zci aa v t).2 with
   | false=>rw[g2 hb];simp;exact λ_=>zd4
   | true=>
    obtain⟨e1,e2,e3⟩:=g1 hb;rw[e1];have hn:=ziv h8 vs ts (a+rdV aa v t) (by omega);simp only[if_true];refine⟨λh=>?_,λh=>hn.2 (by omega)⟩;by_cases h6:a+rdV aa v t>6
    ·rw[if_pos (.inr h6)];exact⟨λh=>(by rw[hn.2 (by omega)]at h;cases h),λ_=>rfl⟩
    ·rw[if_neg (by omega)];exact hn.1 (by omega)
theorem zuK {aa:List Dat} (h8:∀ D∈aa,D.cons.length≤8):∀ (es:List IT) (t:VT) (a:Int),0≤a→a≤6→agr (zcR aa es t a) (rdE aa es t a)∧((zcR aa es t a).2=true→a+es.length≤6)
 | [],t,a,h0,h6=>by simp only[zcR,rdE];exact⟨⟨λ_=>⟨rfl,h0,h6⟩,λh=>by cases h⟩,λ_=>by simpa using h6⟩
 | .mk c ks::es,t,a,h0,h6=>by
  simp only[zcR,rdE];cases hp:zbd aa t c with
  | none=>simp only[ite_self];exact⟨zd4,λh=>by cases h⟩
  | some ps=>
   obtain⟨c0,c8⟩:=zFI h8 hp;rw[if_neg (show ¬(c<0∨8≤c) by omega)];simp only;by_cases hl:ps.length=ks.length
   ·simp only[hl,if_true];obtain⟨g1,g2⟩:=(ziv h8 ks ps 0 (by omega)).1 (by omega);cases hb:(zbV aa ks ps 0).2 with
    | false=>rw[g2 hb];simp;exact zd4
    | true=>
     obtain⟨e1,e2,e3⟩:=g1 hb;rw[e1];by_cases hh:a+(1+rdA aa ks ps 0)≤6
     ·have hn:=zuK h8 es t (a+(1+rdA aa ks ps 0)) (by omega) hh;rw[if_neg (show ¬(rdA aa ks ps 0<0∨a+1+rdA aa ks ps 0>6) by omega)];simp only[hh,decide_true,Bool.and_self,if_true];refine⟨hn.1,λh=>?_⟩;have:=hn.2 h;simp only[List.length_cons];omega
     ·rw[if_pos (show rdA aa ks ps 0<0∨a+1+rdA aa ks ps 0>6 by omega)];simp[hh];exact zd4
   ·simp only[hl,if_false];exact⟨zd4,λh=>by cases h⟩
end
end Go.Proofs.YtdmamdnkcefmmaaGreatDoor
namespace Go.Abs
open Go
def fill:List IT→List Nat→List IT→List IT
 | row,p::ps,x::xs=>fill (row.set p x) ps xs
 | row,_,_=>row
@[simp] theorem zXE (row xs:List IT):fill row [] xs=row:=by cases xs <;> rfl
@[simp] theorem zEm:∀ (row:List IT) (ps:List Nat) (xs:List IT),(fill row ps xs).length=row.length
 | row,p::ps,x::xs=>by rw[fill,zEm];simp
 | row,[],_=>by simp[fill]
 | row,_::_,[]=>by simp[fill]
mutual
theorem IT.same_eq:∀ v w:IT,IT.same v w=true→v=w
 | .mk n ks,.mk n' ks',h=>by simp only[IT.same,Bool.and_eq_true,beq_iff_eq]at h;rw[h.1,IT.sameL_eq ks ks' h.2]
theorem IT.sameL_eq:∀ v w:List IT,IT.sameL v w=true→v=w
 | [],[],_=>rfl
 | v::vs,w::ws,h=>by simp only[IT.sameL,Bool.and_eq_true]at h;rw[IT.same_eq v w h.1,IT.sameL_eq vs ws h.2]
 | [],_::_,h=>by simp[IT.sameL]at h
 | _::_,[],h=>by simp[IT.sameL]at h
end
end Go.Abs
namespace Go.Proofs.YtdmamdnkcefmmaaGreatDoor
open Go Go.Abs
variable {aa:List Dat}
theorem zgd {h8:∀ D∈aa,D.cons.length≤8} (v:IT) (t:VT):-1≤rdV aa v t∧rdV aa v t≤6:=by
 obtain⟨h1,h2⟩:=zgF h8 v t;cases hb:(zci aa v t).2 with
 | true=>have:=h1 hb;omega
 | false=>have:=h2 hb;omega
def ad (a r:Int):Int:=if r<0 then -1 else if a+r>6 then -1 else a+r
theorem zeX {a r:Int} (h:0≤r) (h2:a+r≤6):ad a r=a+r:=by unfold ad;rw[if_neg (by omega),if_neg (by omega)]
theorem zc1 {a r:Int} (h:r<0∨a+r>6):ad a r=-1:=by
 unfold ad;by_cases h1:r<0
 ·rw[if_pos h1]
 ·rw[if_neg h1,if_pos (by omega)]
theorem zDo {a b r:Int} (hb:0≤b) (ha:0≤a):ad (a+b) r=ad a (ad b r):=by
 by_cases h1:r<0∨b+r>6
 ·rw[zc1 (a:=b) h1,zc1 (a:=a) (.inl (by omega)),zc1 (by omega)]
 ·rw[zeX (a:=b) (by omega) (by omega)];by_cases h2:a+(b+r)>6
  ·rw[zc1 (.inr h2),zc1 (.inr (by omega))]
  ·rw[zeX (by omega) (by omega),zeX (by omega) (by omega),Int.add_assoc]
theorem zw6 (v:IT) (vs:List IT) (t:VT) (ts:List VT) (a:Int):rdA aa (v::vs) (t::ts) a=if rdV aa v t<0∨a+rdV aa v t>6 then -1 else rdA aa vs ts (a+rdV aa v t):=by simp only[rdA]
theorem zei (c:Int) (ks es:List IT) (t:VT) (a:Int):rdE aa (.mk c ks::es) t a=if c<0∨8≤c then -1 else match zbd aa t c with
  | none=>-1
  | some ps=>if ps.length=ks.length then (if rdA aa ks ps 0<0∨a+1+rdA aa ks ps 0>6 then -1 else rdE aa es t (a+(1+rdA aa ks ps 0))) else -1:=by simp only[rdE] <;> rfl
theorem zjJ:∀ (es:List IT) (t:VT) (a:Int),0≤a→rdE aa es t a=-1∨a+es.length≤rdE aa es t a
 | [],_,a,h=>by simp[rdE]
 | .mk c ks::es,t,a,h=>by
  rw[zei];by_cases hc:c<0∨8≤c
  ·rw[if_pos hc];exact .inl rfl
  ·rw[if_neg hc];cases zbd aa t c with
   | none=>exact .inl rfl
   | some ps=>
    simp only;by_cases hl:ps.length=ks.length
    ·rw[if_pos hl];by_cases h0:rdA aa ks ps 0<0∨a+1+rdA aa ks ps 0>6
     ·rw[if_pos h0];exact .inl rfl
     ·rw[if_neg h0];rcases zjJ es t (a+(1+rdA aa ks ps 0)) (by omega) with h2 | h2
      ·exact .inl h2
      ·right;simp only[List.length_cons];omega
    ·rw[if_neg hl];exact .inl rfl
theorem zjI:∀ (es:List IT) (t:VT) (a:Int),0≤a→a≤6→rdE aa es t a=ad a (rdE aa es t 0)
 | [],_,a,h,h6=>by simp only[rdE];rw[zeX (by omega) (by omega),Int.add_zero]
 | .mk c ks::es,t,a,h,h6=>by
  rw[zei,zei];by_cases hc:c<0∨8≤c
  ·rw[if_pos hc,if_pos hc,zc1 (.inl (by omega))]
  ·rw[if_neg hc,if_neg hc];cases zbd aa t c with
   | none=>exact (zc1 (a:=a) (r:=-1) (.inl (by omega))).symm
   | some ps=>
    simp only;by_cases hl:ps.length=ks.length
    ·rw[if_pos hl,if_pos hl];by_cases h0:rdA aa ks ps 0<0∨0+1+rdA aa ks ps 0>6
     ·rw[if_pos h0,if_pos (by omega),zc1 (.inl (by omega))]
     ·rw[if_neg h0,zjI es t (0+(1+rdA aa ks ps 0)) (by omega) (by omega),Int.zero_add];have g2:=zjJ (aa:=aa) es t 0 (by omega);by_cases h3:a+1+rdA aa ks ps 0>6
      ·rw[if_pos (Or.inr h3)];generalize rdE aa es t 0=r at *;by_cases h4:r<0∨(1+rdA aa ks ps 0)+r>6
       ·rw[zc1 h4,zc1 (.inl (by omega))]
       ·rw[zeX (a:=1+rdA aa ks ps 0) (by omega) (by omega),zc1 (.inr (by omega))]
      ·rw[if_neg (by omega),zjI es t _ (by omega) (by omega),zDo (by omega) h]
    ·rw[if_neg hl,if_neg hl,zc1 (.inl (by omega))]
theorem zpP (h8:∀ D∈aa,D.cons.length≤8):∀ (xs ys:List IT) (t:VT) (a:Int),0≤a→a≤6→rdE aa (xs++ys) t a=(if rdE aa xs t a<0 then -1 else rdE aa ys t (rdE aa xs t a))
 | [],ys,t,a,h,_=>by rw[List.nil_append,if_neg (by simp only[rdE];omega)];simp only[rdE]
 | .mk c ks::es,ys,t,a,h,h6=>by
  rw[List.cons_append,zei,zei];by_cases hc:c<0∨8≤c
  ·rw[if_pos hc];simp[hc]
  ·rw[if_neg hc];simp only[if_neg hc];cases zbd aa t c with
   | none=>simp
   | some ps=>
    simp only;by_cases hl:ps.length=ks.length
    ·simp only[if_pos hl];by_cases h0:rdA aa ks ps 0<0∨a+1+rdA aa ks ps 0>6
     ·simp only[if_pos h0];simp
     ·simp only[if_neg h0];exact zpP h8 es ys t _ (by omega) (by omega)
    ·simp only[if_neg hl];simp
end Go.Proofs.YtdmamdnkcefmmaaGreatDoor
namespace Go.Abs
open Go Go.RowKit
variable {P:Program}
end Go.Abs
namespace Go.Proofs.YtdmamdnkcefmmaaGreatDoor
open Go Go.Abs
set_option maxRecDepth 100000
section
variable (t0:AV) (H:zaa) (K:Kt)
def zJG:Nat→List Bool | 300001=>rl false [0,1] | _=>[]
noncomputable def zJH:Code:=Tryz.f130.body.getD .skip
def zq2:Prop:=zgC true .eql t0 λt4=>zag t4 (K .snil H) (zau 2 [(.int .i64 0),.snil] 0 [] λt5=>zaw za7 2 32 t5 t0 H λt7 H=>K t7 H)
variable {t0} {H} {K}
theorem zJI (h:HSc H→zq2 t0 H K):ACalls tP zoO [t0] H K:=
 acb zJG Tryz.func130 zJH (by kernel_rfl) (by kernel_rfl) h
end
end Go.Proofs.YtdmamdnkcefmmaaGreatDoor
namespace Go.Proofs.YtdmamdnkcefmmaaGreatDoor
open Go Go.Abs
def RowA (H:zaa) (a:AV) (n:Nat) (ds:List AV):Prop:=
 ds.length=n*2∧ds.all AV.known=true∧((∃ id,a=.ms id 0 n n∧H[id]?=some (.cells ds))∨(0<n∧∃ id e,a=.ov id n∧H[id]?=some (.vec e 2 n ds)))
theorem RowA.app {H J:zaa} {a:AV} {n:Nat} {ds:List AV} (h:RowA H a n ds):RowA (H++J) a n ds:=by
 obtain⟨h1,h2,h3⟩:=h;refine⟨h1,h2,?_⟩;rcases h3 with ⟨id,rfl,h⟩ | ⟨h0,id,e,rfl,h⟩
 ·exact .inl ⟨id,rfl,by rw[List.getElem?_append_left (List.getElem?_eq_some_iff.1 h).1];exact h⟩
 ·exact .inr ⟨h0,id,e,rfl,by rw[List.getElem?_append_left (List.getElem?_eq_some_iff.1 h).1];exact h⟩
end Go.Proofs.YtdmamdnkcefmmaaGreatDoor
namespace Go.Proofs.YtdmamdnkcefmmaaGreatDoor
open Go Go.Abs
set_option maxRecDepth 100000
section
variable (t0 t1 t2 t3 t6 t7 t8 t10 t11 t12 t13:AV) (H:zaa) (K:Kt) (Kb2 Kb3 Kb4:Lt)
def zkv:Nat→List Bool | 4=>rl false [2,2,6,3,12] | _=>[]
noncomputable def zqQ:Code:=Tryz.f112.body.getD .skip
noncomputable def zIZ:List ResultVar:=Tryz.f112.results.toList
def zkw:List AV:=ux 2 (t2::t3::ux 6 (t10::t11::t12::ux 12 []))
def zIX:List Bool:=zkv 4
noncomputable def zIV:Code:=zaq [1,1,0,1,0,1,0,0] zqQ
def zIU:AExit→List AV→zaa→Prop:=zas tP zkv [1,1,0,1,0,1,0] zqQ (zay tP zIZ K)
def zky:Prop:=ALoop tP zIV (zIU K) (zkw t2 t3 t10 t11 t12) H
def zkx:Prop:=zae true 2 t3 H λt24=>zan 2 t2 t24 H λH=>zae true 2 t2 H λr0=>K r0 H
def zqP:Prop:=zac .lss false t12 t11 λt13=>zag t13 (zai 3 t10 t12 λt14=>zae true 3 t14 H λt15=>zax [(.int .i64 0),(.int .i64 0),.snil] H λt5 H=>zan 3 t5 t15 H λH=>zab H (λK'=>zaf 1 t3 (K' · H)) λt16=>zab H (λK'=>zak false 1 t16 H (K' · H)) λt17=>zab H (λK'=>zak true 3 t5 H (K' · H)) λt18=>zaE H (λH K'=>ACalls tP ziN [t18] H K') λt19=>zab H (λK'=>zau 2 [(.int .i64 0),.snil] 1 [(0,t19)] (K' · H)) λt20=>zaw za7 2 32 t17 t20 H λt21 H=>zab H (λK'=>zaf 1 t3 (K' · H)) λt22=>zan 1 t22 t21 H λH=>zac .add false t12 (.int .i64 1) λt23=>Kb4 (zkw t2 t3 t10 t11 t23) H) (zkx t2 t3 H K)
def zyQ:Prop:=zav t0 H λt1 H=>zax [(.int .i64 0),.snil] H λt2 H=>zax [(.int .i64 0),.snil] H λt3 H=>zaf 0 t1 λt6=>zae false 1 t6 H λt7=>zac .eql false t7 (.int .i64 6) λt8=>zag t8 (zaf 2 t1 λt9=>zae false 1 t9 H λt10=>zah 1 t10 λt11=>zky t2 t3 t10 t11 (.int .i64 0) H K) (zkx t2 t3 H K)
def zKr (_:Nat):List Bool:=[]
noncomputable def zKs:Code:=Tryz.f139.body.getD .skip
def zzo:Prop:=ACalls tP ziZ [t0] H λt8 H=>ACalls tP ziZ [t1] H λt10 H=>zag t8 (zag t10 (K (.int .i64 0) H) (K (.int .i64 (-1)) H)) (zag t10 (K (.int .i64 1) H) (zac .lss false t0 t1 λt16=>zag t16 (K (.int .i64 (-1)) H) (zac .gtr false t0 t1 λt19=>zag t19 (K (.int .i64 1) H) (K (.int .i64 0) H))))
def zkU:Nat→List Bool | 3=>rl false [3,1,2,3,9] | _=>[]
noncomputable def zrg:Code:=Tryz.f138.body.getD .skip
noncomputable def zKq:List ResultVar:=Tryz.f138.results.toList
def zkW:List AV:=ux 3 (t3::ux 2 (t6::t7::t8::ux 9 []))
def zKo:List Bool:=zkU 3
noncomputable def zKm:Code:=zaq [1,1,0,1,0,0] zrg
def zKl:AExit→List AV→zaa→Prop:=zas tP zkU [1,1,0,1,0] zrg (zay tP zKq K)
def zzn:Prop:=ALoop tP zKm (zKl K) (zkW t3 t6 t7 t8) H
def zkV:Prop:=zac .lss false t8 t7 λt9=>zag t9 (zai 1 t6 t8 λt10=>zae false 1 t10 H λt11=>zac .neq false t11 t3 λt14=>zag t14 (K t11 H) (zac .add false t8 (.int .i64 1) λt16=>Kb3 (zkW t3 t6 t7 t16) H)) (K t3 H)
def zzm:Prop:=zah 1 t0 λt7=>zzn (.int .i64 0) t0 t7 (.int .i64 0) H K
def zNl (_:Nat):List Bool:=[]
noncomputable def zNm:Code:=Tryz.f187.body.getD .skip
def zAu:Prop:=zac .neq false t0 t0 λt5=>K t5 H
def zTE (_:Nat):List Bool:=[]
noncomputable def zTF:Code:=Tryz.f86.body.getD .skip
def zCw:Prop:=zav t0 H λt2 H=>zav t1 H λt3 H=>zab H (λK'=>zaf 0 t2 (K' · H)) λt6=>zab H (λK'=>zak false 1 t6 H (K' · H)) λt7=>zab H (λK'=>zaf 0 t3 (K' · H)) λt8=>zab H (λK'=>zak false 1 t8 H (K' · H)) λt9=>zaE H (λH K'=>ACalls tP ziR [t7,t9] H K') λt10=>zab H (λK'=>zaf 1 t2 (K' · H)) λt11=>zab H (λK'=>zak false 1 t11 H (K' · H)) λt12=>zab H (λK'=>zah 1 t12 (K' · H)) λt13=>zab H (λK'=>zaf 1 t3 (K' · H)) λt14=>zab H (λK'=>zak false 1 t14 H (K' · H)) λt15=>zab H (λK'=>zah 1 t15 (K' · H)) λt16=>zaE H (λH K'=>ACalls tP ziR [t13,t16] H K') λt17=>zab H (λK'=>zau 1 [(.int .i64 0)] 2 [(0,t10),(1,t17)] (K' · H)) λt18=>zaE H (λH K'=>ACalls tP zoU [t18] H K') λt19=>zab H (λK'=>K' t19 H) λt5=>zac .neq false t5 (.int .i64 0) λt21=>zag t21 (K t5 H) (zaf 1 t2 λt23=>zae false 1 t23 H λt24=>zaf 1 t3 λt25=>zae false 1 t25 H λt26=>ACalls tP zoV [t24,t26,(.fn zf7 [])] H λt27 H=>K t27 H)
def zkX:Nat→List Bool | 2=>rl false [0,3,8,3,25] | _=>[]
noncomputable def zri:Code:=Tryz.f140.body.getD .skip
noncomputable def zKz:List ResultVar:=Tryz.f140.results.toList
def zkY:List AV:=t0::t1::t2::ux 8 (t11::t12::t13::ux 25 [])
def zKx:List Bool:=zkX 2
noncomputable def zKv:Code:=zaq [1,0,1,0,0] zri
def zKu:AExit→List AV→zaa→Prop:=zas tP zkX [1,0,1,0] zri (zay tP zKz K)
def zzq:Prop:=ALoop tP zKv (zKu K) (zkY t0 t1 t2 t11 t12 t13) H
def zrh:Prop:=zac .lss false t13 t12 λt14=>zag t14 (zai 2 t11 t13 λt16=>zae true 2 t16 H λt17=>zax [(.int .i64 0),.snil] H λt8 H=>zan 2 t8 t17 H λH=>zah 1 t1 λt20=>zac .geq false t13 t20 λt21=>zag t21 (K (.int .i64 1) H) (zai 2 t1 t13 λt24=>zae true 2 t24 H λt25=>zax [(.int .i64 0),.snil] H λt9 H=>zan 2 t9 t25 H λH=>zae true 2 t8 H λt27=>zae true 2 t9 H λt28=>aCallV tP t2 [t27,t28] H λt29 H=>zac .neq false t29 (.int .i64 0) λt31=>zag t31 (K t29 H) (zac .add false t13 (.int .i64 1) λt33=>Kb2 (zkY t0 t1 t2 t11 t12 t33) H))) (zah 1 t0 λt35=>zah 1 t1 λt37=>zac .lss false t35 t37 λt38=>zag t38 (K (.int .i64 (-1)) H) (K (.int .i64 0) H))
def zzp:Prop:=zah 1 t0 λt12=>zzq t0 t1 t2 t0 t12 (.int .i64 0) H K
def zR8 (_:Nat):List Bool:=[]
noncomputable def zR9:Code:=Tryz.f60.body.getD .skip
def zB1:Prop:=zav t1 H λt3 H=>zax [(.int .i64 0),.snil] H λt4 H=>zae true 3 t3 H λt7=>ACalls tP zjl [t0,t7] H λt8 H=>aUn .not t8 λt9=>zag t9 (zar [(.int .i64 0),.snil] [(0,1),(1,1)] [] λt10=>zan 2 t4 t10 H λH=>zae true 2 t4 H λr0=>zaD [r0,(.bool false)] (K · H)) (zae true 3 t3 H λt11=>ACalls tP ziN [t11] H λt12 H=>zan 2 t4 t12 H λH=>zae true 2 t4 H λr0=>zaD [r0,(.bool true)] (K · H))
variable {t0 t1 t2 t3 t6 t7 t8 t10 t11 t12 t13} {H} {K} {Kb2 Kb3 Kb4}
theorem zIW (Inv:Nat→AV→zaa→Prop) (n:Nat) (h0:HSc H→Inv n t12 H)
  (ac:Rd1 (λt12=>zkw t2 t3 t10 t11 t12) (λt12=>λH Kb4=>zqP t2 t3 t10 t11 t12 H K Kb4) H Inv):zky t2 t3 t10 t11 t12 H K:=
 lp1 (M:=zkv) zIX t12 (by kernel_rfl) Inv n h0 ac
theorem zIY (h:HSc H→zyQ t0 H K):ACalls tP ziN [t0] H K:=
 acb zkv Tryz.func112 zqQ (by kernel_rfl) (by kernel_rfl) h
theorem zKt (h:HSc H→zzo t0 t1 H K):ACalls tP ziR [t0,t1] H K:=
 acb zKr Tryz.func139 zKs (by kernel_rfl) (by kernel_rfl) h
theorem zKn (Inv:Nat→AV→zaa→Prop) (n:Nat) (h0:HSc H→Inv n t8 H)
  (ac:Rd1 (λt8=>zkW t3 t6 t7 t8) (λt8=>λH Kb3=>zkV t3 t6 t7 t8 H K Kb3) H Inv):zzn t3 t6 t7 t8 H K:=
 lp1 (M:=zkU) zKo t8 (by kernel_rfl) Inv n h0 ac
theorem zKp (h:HSc H→zzm t0 H K):ACalls tP zoU [t0] H K:=
 acb zkU Tryz.func138 zrg (by kernel_rfl) (by kernel_rfl) h
theorem zNn (h:HSc H→zAu t0 H K):ACalls tP ziZ [t0] H K:=
 acb zNl Tryz.func187 zNm (by kernel_rfl) (by kernel_rfl) h
theorem zTG (h:HSc H→zCw t0 t1 H K):ACalls tP zf7 [t0,t1] H K:=
 acb zTE Tryz.func86 zTF (by kernel_rfl) (by kernel_rfl) h
theorem zKw (Inv:Nat→AV→zaa→Prop) (n:Nat) (h0:HSc H→Inv n t13 H)
  (ac:Rd1 (λt13=>zkY t0 t1 t2 t11 t12 t13) (λt13=>λH Kb2=>zrh t0 t1 t2 t11 t12 t13 H K Kb2) H Inv):zzq t0 t1 t2 t11 t12 t13 H K:=
 lp1 (M:=zkX) zKx t13 (by kernel_rfl) Inv n h0 ac
theorem zKy (h:HSc H→zzp t0 t1 t2 H K):ACalls tP zoV [t0,t1,t2] H K:=
 acb zkX Tryz.func140 zri (by kernel_rfl) (by kernel_rfl) h
theorem zSa (h:HSc H→zB1 t0 t1 H K):ACalls tP zpt [t0,t1] H K:=
 acb zR8 Tryz.func60 zR9 (by kernel_rfl) (by kernel_rfl) h
end
end Go.Proofs.YtdmamdnkcefmmaaGreatDoor
namespace Go.Proofs.YtdmamdnkcefmmaaGreatDoor
open Go Go.Abs
theorem zc5 (v:IT):∃ a b,v.cs=[a,b]∧a.known=true∧b.known=true:=by obtain⟨n,ks⟩:=v;exact⟨_,_,rfl,rfl,rfl⟩
theorem zn0 {v:IT} {k:AV→Prop}:zau 2 [.int .i64 0,.snil] 1 [(0,.agg v.cs)] k=k (.sl [v.cs] .full):=by cases v;exact propext Iff.rfl
theorem zEF {l:List IT} {i:Nat} (h:i<l.length):IT.css (l.take (i+1))=IT.css (l.take i)++[(l[i]).cs]:=by rw[IT.css_map,IT.css_map,List.take_succ_eq_append_getElem h,List.map_append];rfl
mutual
def zaG:VT→IT
 | .mk k _ ks=>.mk 0 (if k=6 then za9 ks else [])
def za9:List VT→List IT
 | []=>[]
 | t::ts=>zaG t::za9 ts
end
theorem zdH:∀ ts:List VT,za9 ts=ts.map zaG
 | []=>by simp[za9]
 | t::ts=>by simp[za9,zdH ts]
theorem zI0:∀ (m:Nat) (v:VT),v.nodes≤m→v.nodes≤1000000→∀ (H:zaa) (K:Kt),K (.agg (zaG v).cs) H→ACalls tP ziN [.agg v.cs] H K:=by
 intro m;induction m with
 | zero=>intro v h;have:=v.nodes_pos;omega
 | succ m ih=>
  intro v hm hb H K hK;obtain⟨k,n,ks⟩:=v;have bn:=VT.len_le ks;have dv:(VT.mk k n ks).nodes=VT.nodesL ks+1:=by simp[VT.nodes]
  refine ACalls.out (zIY λhs=>?_);simp[zyQ,VT.cs,zar,zaJ,AV.known,Nat.add_assoc];by_cases fO:k=6
  ·have hK:K (.agg [.int .i64 0,.sl (IT.css (za9 ks)) .none]) H:=by simpa[zaG,fO,IT.cs]using hK
   simp[fO];subst fO;unfold zky;refine ALoop.ownC (H.length+2) 1 za7 2 (cs:=[.int .i64 0,.snil]) (by simp) rfl ?_;have aU:(H++[AB.cells [.int .i64 6,.int .i64 n,.sl (VT.css ks) .none],.cells [.int .i64 0,.snil],.cells [.int .i64 0,.snil]]).set (H.length+2) (.cells ([AV.int .i64 0,.snil].set 1 (.sl [] (.own (H++[AB.cells [.int .i64 6,.int .i64 n,.sl (VT.css ks) .none],.cells [.int .i64 0,.snil],.cells [.int .i64 0,.snil]]).length))))++[.perm za7 2 0] =
     H++[.cells [.int .i64 6,.int .i64 n,.sl (VT.css ks) .none],.cells [.int .i64 0,.snil],.cells [.int .i64 0,.sl [] (.own (H.length+3))],.perm za7 2 0]:=by simp[List.set_append_right]
   rw[aU];show zky (.ptr (H.length+1) 0) (.ptr (H.length+2) 0) (.sl (VT.css ks) .none) (.int .i64 ks.length) (.int .i64 0) _ (Out H.length K);have hsc:∀ i,HSc (H++[.cells [.int .i64 6,.int .i64 n,.sl (VT.css ks) .none],.cells [.int .i64 0,.snil],.cells [.int .i64 0,.sl (IT.css (za9 (ks.take i))) (.own (H.length+3))],.perm za7 2 i]):=λi=>hs.append (by simp[AB.sc,AV.scA,AV.scB]);refine zIW (Inv:=λq t12 H'=>∃ i:Nat,i≤ks.length∧q=ks.length-i∧t12=.int .i64 i ∧
    H'=H++[.cells [.int .i64 6,.int .i64 n,.sl (VT.css ks) .none],.cells [.int .i64 0,.snil],.cells [.int .i64 0,.sl (IT.css (za9 (ks.take i))) (.own (H.length+3))],.perm za7 2 i]) ks.length ?_ ?_
   ·intro _;exact⟨0,by omega,by omega,rfl,by simp[za9,IT.css]⟩
   ·rintro q t12 H' ⟨i,hi,rfl,rfl,rfl⟩ aM am aP Kb ar;by_cases ak:i<ks.length
    ·obtain⟨x,y,z,az,hx,hy,hz⟩:=zbh ks[i];have cI:=VT.kid_lt (k:=6) (n:=n) ak;have ek:(za9 (ks.take i)).length=i:=by simp[zdH,Nat.min_eq_left hi]
     simp[zqP,ak,az,hx,hy,hz];rw[←az];refine zaC (.agg (zaG ks[i]).cs) (λJ=>ih ks[i] (by omega) (by omega) _ _ ⟨rfl,rfl⟩) ?_;rw[zn0];simp[zaw,zaL,zaI,ek,AV.known,List.set_append_right];refine⟨⟨by omega,by omega⟩,?_⟩;rw[zat (by omega) (by omega)];have aN:IT.css (za9 (ks.take i))++[(zaG ks[i]).cs]=IT.css (za9 (ks.take (i+1))):=by rw[zdH,zdH,List.take_succ_eq_append_getElem ak,IT.css_map,IT.css_map,List.map_append,List.map_append];rfl
     rw[aN];refine ar _ _ ⟨ks.length-(i+1),by omega,Back.at (J:=[.cells (ks[i]).cs]) (H2:=H++[.cells [.int .i64 6,.int .i64 n,.sl (VT.css ks) .none],.cells [.int .i64 0,.snil],.cells [.int .i64 0,.sl (IT.css (za9 (ks.take (i+1)))) (.own (H.length+3))],.perm za7 2 (i+1)]) (by simp) (by simp) (hsc _) ?_ ⟨_,rfl,i+1,by omega,rfl,by simp,rfl⟩⟩;simp[zkw,AV.sc,AV.scV,AV.scA,AV.scB]
    ·obtain rfl:i=ks.length:=by omega
     rw[List.take_length]at *;simp[zqP,zkx,AV.known,List.set_append_right];exact Out.at rfl (Nat.le_refl _) hs (WkV.agg (ds:=[.int .i64 0,.sl (IT.css (za9 ks)) .none]) ⟨.refl _,.sl _ _,trivial⟩) rfl (by simp[AV.scV,AV.scA,AV.scB]) hK
  ·have hK:K (.agg [.int .i64 0,.sl [] .none]) H:=by simpa[zaG,fO,IT.cs,IT.css]using hK
   have hb:(k == 6)=false:=by simpa using fO
   simp[hb,zkx,AV.known,List.set_append_right];exact Out.at rfl (Nat.le_refl _) hs (WkV.agg (ds:=[.int .i64 0,.sl [] .none]) ⟨.refl _,.snil,trivial⟩) rfl (by simp[AV.scV,AV.scA,AV.scB]) hK
end Go.Proofs.YtdmamdnkcefmmaaGreatDoor
namespace Go.Proofs.YtdmamdnkcefmmaaGreatDoor
open Go Go.Abs
set_option maxRecDepth 100000
section
variable (t0 t1 t2 t4 t5 t7 t8 t53 t54 t55 t56 t57 t58:AV) (H:zaa) (K:Kt) (Kb5 Kb13 Kb15:Lt)
def zUA (_:Nat):List Bool:=[]
noncomputable def zUB:Code:=Tryz.f11.body.getD .skip
def zq9:Prop:=zav t0 H λt1 H=>zax [(.int .i64 0)] H λt3 H=>zan 1 t3 (.int .i64 40) H λH=>zae true 2 t1 H λt4=>ACalls tP zjf [t4,t3] H λt5 H=>K t5 H
def zmB:Nat→List Bool | 5=>rl false [1,2,2,1,24] | _=>[]
noncomputable def zta:Code:=Tryz.f39.body.getD .skip
noncomputable def zQV:List ResultVar:=Tryz.f39.results.toList
def zmC:List AV:=ux 1 (t1::t2::ux 2 (t5::ux 24 []))
def zQT:List Bool:=zmB 5
noncomputable def zQR:Code:=zaq [1,1,1,0,1,0,0] zta
def zQQ:AExit→List AV→zaa→Prop:=zas tP zmB [1,1,1,0,1,0] zta (zay tP zQV K)
def zBD:Prop:=ALoop tP zQR (zQQ K) (zmC t1 t2 t5) H
def zs9:Prop:=zaf 1 t2 λt16=>zae false 1 t16 H λt17=>zah 1 t17 λt18=>zac .lss false t5 t18 λt19=>zag t19 (zaf 1 t2 λt22=>zae false 1 t22 H λt23=>zai 2 t23 t5 λt25=>zae true 2 t25 H λt26=>ACalls tP zjf [t26,t1] H λt28 H=>aUn .not t28 λt29=>zag t29 (K (.bool false) H) (zac .add false t5 (.int .i64 1) λt21=>Kb5 (zmC t1 t2 t21) H)) (K (.bool true) H)
def zBC:Prop:=zav t0 H λt2 H=>za5 t1 λt7=>zae false 1 t7 H λt8=>zac .sub false t8 (.int .i64 1) λt9=>za5 t1 λt10=>zan 1 t10 t9 H λH=>za5 t1 λt12=>zae false 1 t12 H λt13=>zac .lss false t13 (.int .i64 0) λt14=>zag t14 (K (.bool false) H) (zBD t1 t2 (.int .i64 0) H K)
def zQm (_:Nat):List Bool:=[]
noncomputable def zQn:Code:=Tryz.f28.body.getD .skip
def zBp:Prop:=zav t1 H λt4 H=>zav t2 H λt5 H=>zae true 3 t4 H λt8=>zae true 2 t5 H λt9=>ACalls tP zpb [t0,t8,t9] H λt10 H=>zac .geq false t10 (.int .i64 0) λt11=>K t11 H
def zQX (_:Nat):List Bool:=[]
noncomputable def zQY:Code:=Tryz.f40.body.getD .skip
def zBE:Prop:=zav t1 H λt4 H=>zav t2 H λt5 H=>zae true 3 t4 H λt10=>ACalls tP zjl [t0,t10] H λt11 H=>aUn .not t11 λt12=>zag t12 (K (.int .i64 (-1)) H) (zae true 3 t4 H λt15=>zae true 2 t5 H λt16=>ACalls tP zjm [t0,t15,t16] H λt17 H=>zaz t17 0 λt18=>zaz t17 1 λt19=>aUn .not t19 λt21=>zag t21 (K (.int .i64 (-1)) H) (K t18 H))
def zO0 (_:Nat):List Bool:=[]
noncomputable def zO1:Code:=Tryz.f23.body.getD .skip
def zAW:Prop:=zav t1 H λt4 H=>zav t2 H λt5 H=>zae true 3 t4 H λt8=>ACalls tP zps [t0,t8] H λt9 H=>aUn .not t9 λt10=>zag t10 (K (.int .i64 (-1)) H) (zae true 3 t4 H λt12=>zae true 2 t5 H λt13=>ACalls tP zjk [t0,t12,t13] H λt14 H=>K t14 H)
def zSK (_:Nat):List Bool:=[]
noncomputable def zSL:Code:=Tryz.f73.body.getD .skip
def zCc:Prop:=zav t1 H λt3 H=>zar [.snil,.snil,.snil,.snil] [(0,1),(1,1),(2,1),(3,1)] [(0,t0)] λt6=>ACalls tP zoK [t6] H λt7 H=>zad t7 true H (λK'=>K' t0 H) λt9 H=>zad t7 true H (λK'=>zae true 3 t3 H (K' · H)) λt10 H=>zad t7 true H (λK'=>ACalls tP zhd [t9,t10,(.int .i64 0)] H K') λt11 H=>zaj t7 t11 (.bool false) λt12=>K t12 H
def znc:Nat→List Bool | 13=>rl false [0,1,3,1,3,1,44,3,42] | _=>[]
noncomputable def ztI:Code:=Tryz.f74.body.getD .skip
noncomputable def zSS:List ResultVar:=Tryz.f74.results.toList
def znd:List AV:=t0::ux 3 (t4::ux 3 (t8::ux 44 (t53::t54::t55::ux 42 [])))
def zSQ:List Bool:=znc 13
noncomputable def zSO:Code:=zaq [1,0,1,0,1,1,1,1,1,0,1,1,0,1,0,0] ztI
def zSN:AExit→List AV→zaa→Prop:=zas tP znc [1,0,1,0,1,1,1,1,1,0,1,1,0,1,0] ztI (zay tP zSS K)
def zCe:Prop:=ALoop tP zSO (zSN K) (znd t0 t4 t8 t53 t54 t55) H
def ztH:Prop:=zac .lss false t55 t54 λt56=>zag t56 (zai 2 t53 t55 λt57=>zae true 2 t57 H λt58=>zax [(.int .i64 0),.snil] H λt10 H=>zan 2 t10 t58 H λH=>zae true 3 t4 H λt61=>zaf 0 t10 λt62=>zae false 1 t62 H λt63=>ACalls tP zoL [t0,t61,t63] H λt64 H=>zaz t64 0 λt65=>zaz t64 1 λt66=>aUn .not t66 λt68=>zag t68 (zaD [(.int .i64 0),(.bool false)] (K · H)) (zaf 1 t10 λt72=>zae false 1 t72 H λt73=>ACalls tP ziO [t0,t65,t73] H λt74 H=>zaz t74 0 λt75=>zaz t74 1 λt76=>zac .add false (.int .i64 1) t75 λt79=>zac .add false t8 t79 λt80=>aUn .not t76 λt82=>zad t82 false H (λK'=>K' t80 H) λt84 H=>zad t82 false H (λK'=>zac .gtr false t84 (.int .i64 6) (K' · H)) λt85 H=>zaj t82 (.bool true) t85 λt86=>zag t86 (zaD [(.int .i64 0),(.bool false)] (K · H)) (zac .add false t55 (.int .i64 1) λt87=>Kb13 (znd t0 t4 t80 t53 t54 t87) H))) (zaD [t8,(.bool true)] (K · H))
def zdu:Prop:=zav t1 H λt4 H=>zav t2 H λt5 H=>zaf 0 t4 λt14=>zae false 1 t14 H λt15=>zac .eql false t15 (.int .i64 6) λt17=>zag t17 (zaf 0 t5 λt18=>zae false 1 t18 H λt19=>zac .neq false t19 (.int .i64 0) λt20=>zag t20 (zaD [(.int .i64 0),(.bool false)] (K · H)) (zaf 2 t4 λt22=>zae false 1 t22 H λt23=>zaf 1 t5 λt24=>zae false 1 t24 H λt25=>ACalls tP ziO [t0,t23,t25] H λt26 H=>zaz t26 0 λt27=>zaz t26 1 λt28=>zaD [t27,t28] (K · H))) (zac .eql false t15 (.int .i64 7) λt30=>zag t30 (zab H (λK'=>zaf 0 t5 (K' · H)) λt31=>zab H (λK'=>zak false 1 t31 H (K' · H)) λt32=>zab H (λK'=>zaf 0 t5 (K' · H)) λt33=>zab H (λK'=>zak false 1 t33 H (K' · H)) λt34=>zab H (λK'=>zac .geq false t34 (.int .i64 0) (K' · H)) λt35=>zab H (λK'=>K' t35 H) λt36=>zad t36 true H (λK'=>zab H (λK''=>zaf 0 t5 (K'' · H)) (K' · H)) λt37 H=>zad t36 true H (λK'=>zab H (λK''=>zak false 1 t37 H (K'' · H)) (K' · H)) λt38 H=>zad t36 true H (λK'=>zab H (λK''=>zac .leq false t38 (.int .i64 6) (K'' · H)) (K' · H)) λt39 H=>zab H (λK'=>zaj t36 t39 (.bool false) (K' · H)) λt40=>zab H (λK'=>K' t40 H) λt41=>zad t41 true H (λK'=>zab H (λK''=>zaf 1 t5 (K'' · H)) (K' · H)) λt42 H=>zad t41 true H (λK'=>zab H (λK''=>zak false 1 t42 H (K'' · H)) (K' · H)) λt43 H=>zad t41 true H (λK'=>zab H (λK''=>zah 1 t43 (K'' · H)) (K' · H)) λt44 H=>zad t41 true H (λK'=>zab H (λK''=>zac .eql false t44 (.int .i64 0) (K'' · H)) (K' · H)) λt45 H=>zab H (λK'=>zaj t41 t45 (.bool false) (K' · H)) λt46=>zab H (λK'=>K' t32 H) λt6=>zab H (λK'=>K' t46 H) λt7=>zaD [t6,t7] (K · H)) (zac .eql false t15 (.int .i64 5) λt48=>zag t48 (zaf 0 t5 λt49=>zae false 1 t49 H λt50=>zac .neq false t50 (.int .i64 0) λt51=>zag t51 (zaD [(.int .i64 0),(.bool false)] (K · H)) (zaf 1 t5 λt52=>zae false 1 t52 H λt53=>zah 1 t53 λt54=>zCe t0 t4 (.int .i64 0) t53 t54 (.int .i64 0) H K)) (zab H (λK'=>zaf 0 t5 (K' · H)) λt89=>zab H (λK'=>zak false 1 t89 H (K' · H)) λt90=>zab H (λK'=>zac .eql false t90 (.int .i64 0) (K' · H)) λt91=>zab H (λK'=>K' t91 H) λt92=>zad t92 true H (λK'=>zab H (λK''=>zaf 1 t5 (K'' · H)) (K' · H)) λt93 H=>zad t92 true H (λK'=>zab H (λK''=>zak false 1 t93 H (K'' · H)) (K' · H)) λt94 H=>zad t92 true H (λK'=>zab H (λK''=>zah 1 t94 (K'' · H)) (K' · H)) λt95 H=>zad t92 true H (λK'=>zab H (λK''=>zac .eql false t95 (.int .i64 0) (K'' · H)) (K' · H)) λt96 H=>zab H (λK'=>zaj t92 t96 (.bool false) (K' · H)) λt97=>zab H (λK'=>K' (.int .i64 0) H) λt6=>zab H (λK'=>K' t97 H) λt7=>zaD [t6,t7] (K · H))))
def zRN (_:Nat):List Bool:=[]
noncomputable def zRO:Code:=Tryz.f53.body.getD .skip
def zBV:Prop:=zav t1 H λt3 H=>ACalls tP zpq [t0] H λt6 H=>zad t6 true H (λK'=>K' t0 H) λt8 H=>zad t6 true H (λK'=>zae true 3 t3 H (K' · H)) λt9 H=>zad t6 true H (λK'=>ACalls tP zjh [t8,t9,(.int .i64 0)] H K') λt10 H=>zaj t6 t10 (.bool false) λt11=>K t11 H
def zm0:Nat→List Bool | 15=>rl false [0,1,3,1,2,1,48,3,50] | _=>[]
noncomputable def ztx:Code:=Tryz.f59.body.getD .skip
noncomputable def zR6:List ResultVar:=Tryz.f59.results.toList
def zm1:List AV:=t0::ux 3 (t4::ux 2 (t7::ux 48 (t56::t57::t58::ux 50 [])))
def zR4:List Bool:=zm0 15
noncomputable def zR2:Code:=zaq [1,0,1,0,1,1,1,1,1,0,1,1,0,1,0,0] ztx
def zR1:AExit→List AV→zaa→Prop:=zas tP zm0 [1,0,1,0,1,1,1,1,1,0,1,1,0,1,0] ztx (zay tP zR6 K)
def zB0:Prop:=ALoop tP zR2 (zR1 K) (zm1 t0 t4 t7 t56 t57 t58) H
def zif:Prop:=zac .lss false t58 t57 λt59=>zag t59 (zai 2 t56 t58 λt60=>zae true 2 t60 H λt61=>zax [(.int .i64 0),.snil] H λt9 H=>zan 2 t9 t61 H λH=>zaf 0 t9 λt62=>zae false 1 t62 H λt63=>zac .lss false t63 (.int .i64 0) λt64=>zad t64 false H (λK'=>zaf 0 t9 (K' · H)) λt66 H=>zad t64 false H (λK'=>zae false 1 t66 H (K' · H)) λt67 H=>zad t64 false H (λK'=>zac .geq false t67 (.int .i64 8) (K' · H)) λt68 H=>zaj t64 (.bool true) t68 λt69=>zag t69 (K (.int .i64 (-1)) H) (zae true 3 t4 H λt72=>zaf 0 t9 λt73=>zae false 1 t73 H λt74=>ACalls tP zoG [t0,t72,t74] H λt75 H=>zaz t75 0 λt76=>zaz t75 1 λt77=>aUn .not t77 λt79=>zag t79 (K (.int .i64 (-1)) H) (zaf 1 t9 λt82=>zae false 1 t82 H λt83=>ACalls tP ziM [t0,t76,t83] H λt84 H=>zac .lss false t84 (.int .i64 0) λt86=>zad t86 false H (λK'=>K' t7 H) λt88 H=>zad t86 false H (λK'=>zac .add false t88 (.int .i64 1) (K' · H)) λt89 H=>zad t86 false H (λK'=>K' t84 H) λt90 H=>zad t86 false H (λK'=>zac .add false t89 t90 (K' · H)) λt91 H=>zad t86 false H (λK'=>zac .gtr false t91 (.int .i64 6) (K' · H)) λt92 H=>zaj t86 (.bool true) t92 λt93=>zag t93 (K (.int .i64 (-1)) H) (zac .add false (.int .i64 1) t84 λt96=>zac .add false t7 t96 λt97=>zac .add false t58 (.int .i64 1) λt98=>Kb15 (zm1 t0 t4 t97 t56 t57 t98) H)))) (K t7 H)
def zdc:Prop:=zav t1 H λt4 H=>zav t2 H λt5 H=>zaf 0 t4 λt13=>zae false 1 t13 H λt14=>zac .eql false t14 (.int .i64 6) λt16=>zag t16 (zaf 0 t5 λt17=>zae false 1 t17 H λt18=>zac .neq false t18 (.int .i64 0) λt19=>zag t19 (K (.int .i64 (-1)) H) (zaf 2 t4 λt21=>zae false 1 t21 H λt22=>zaf 1 t5 λt23=>zae false 1 t23 H λt24=>ACalls tP ziM [t0,t22,t24] H λt25 H=>K t25 H)) (zac .eql false t14 (.int .i64 7) λt27=>zag t27 (zaf 0 t5 λt28=>zae false 1 t28 H λt29=>zac .lss false t29 (.int .i64 0) λt30=>zad t30 false H (λK'=>zaf 0 t5 (K' · H)) λt32 H=>zad t30 false H (λK'=>zae false 1 t32 H (K' · H)) λt33 H=>zad t30 false H (λK'=>zac .gtr false t33 (.int .i64 6) (K' · H)) λt34 H=>zaj t30 (.bool true) t34 λt35=>zad t35 false H (λK'=>zaf 1 t5 (K' · H)) λt37 H=>zad t35 false H (λK'=>zae false 1 t37 H (K' · H)) λt38 H=>zad t35 false H (λK'=>zah 1 t38 (K' · H)) λt39 H=>zad t35 false H (λK'=>zac .gtr false t39 (.int .i64 0) (K' · H)) λt40 H=>zaj t35 (.bool true) t40 λt41=>zag t41 (K (.int .i64 (-1)) H) (zaf 0 t5 λt42=>zae false 1 t42 H λt43=>K t43 H)) (zac .eql false t14 (.int .i64 5) λt45=>zag t45 (zaf 0 t5 λt46=>zae false 1 t46 H λt47=>zac .neq false t47 (.int .i64 0) λt48=>zad t48 false H (λK'=>zaf 1 t5 (K' · H)) λt50 H=>zad t48 false H (λK'=>zae false 1 t50 H (K' · H)) λt51 H=>zad t48 false H (λK'=>zah 1 t51 (K' · H)) λt52 H=>zad t48 false H (λK'=>zac .gtr false t52 (.int .i64 6) (K' · H)) λt53 H=>zaj t48 (.bool true) t53 λt54=>zag t54 (K (.int .i64 (-1)) H) (zaf 1 t5 λt55=>zae false 1 t55 H λt56=>zah 1 t56 λt57=>zB0 t0 t4 (.int .i64 0) t56 t57 (.int .i64 0) H K)) (zaf 0 t5 λt100=>zae false 1 t100 H λt101=>zac .neq false t101 (.int .i64 0) λt102=>zad t102 false H (λK'=>zaf 1 t5 (K' · H)) λt104 H=>zad t102 false H (λK'=>zae false 1 t104 H (K' · H)) λt105 H=>zad t102 false H (λK'=>zah 1 t105 (K' · H)) λt106 H=>zad t102 false H (λK'=>zac .gtr false t106 (.int .i64 0) (K' · H)) λt107 H=>zaj t102 (.bool true) t107 λt108=>zag t108 (K (.int .i64 (-1)) H) (K (.int .i64 0) H))))
variable {t0 t1 t2 t4 t5 t7 t8 t53 t54 t55 t56 t57 t58} {H} {K} {Kb5 Kb13 Kb15}
theorem zUC (h:HSc H→zq9 t0 H K):ACalls tP zpB [t0] H K:=
 acb zUA Tryz.func11 zUB (by kernel_rfl) (by kernel_rfl) h
theorem zQS (Inv:Nat→AV→zaa→Prop) (n:Nat) (h0:HSc H→Inv n t5 H)
  (ac:Rd1 (λt5=>zmC t1 t2 t5) (λt5=>λH Kb5=>zs9 t1 t2 t5 H K Kb5) H Inv):zBD t1 t2 t5 H K:=
 lp1 (M:=zmB) zQT t5 (by kernel_rfl) Inv n h0 ac
theorem zQU (h:HSc H→zBC t0 t1 H K):ACalls tP zjf [t0,t1] H K:=
 acb zmB Tryz.func39 zta (by kernel_rfl) (by kernel_rfl) h
theorem zQo (h:HSc H→zBp t0 t1 t2 H K):ACalls tP zpm [t0,t1,t2] H K:=
 acb zQm Tryz.func28 zQn (by kernel_rfl) (by kernel_rfl) h
theorem zQZ (h:HSc H→zBE t0 t1 t2 H K):ACalls tP zf4 [t0,t1,t2] H K:=
 acb zQX Tryz.func40 zQY (by kernel_rfl) (by kernel_rfl) h
theorem zO2 (h:HSc H→zAW t0 t1 t2 H K):ACalls tP zpb [t0,t1,t2] H K:=
 acb zO0 Tryz.func23 zO1 (by kernel_rfl) (by kernel_rfl) h
theorem zSM (h:HSc H→zCc t0 t1 H K):ACalls tP zjl [t0,t1] H K:=
 acb zSK Tryz.func73 zSL (by kernel_rfl) (by kernel_rfl) h
theorem zSP (Inv:Nat→AV→AV→zaa→Prop) (n:Nat) (h0:HSc H→Inv n t8 t55 H)
  (ac:Rd2 (λt8=>λt55=>znd t0 t4 t8 t53 t54 t55) (λt8=>λt55=>λH Kb13=>ztH t0 t4 t8 t53 t54 t55 H K Kb13) H Inv):zCe t0 t4 t8 t53 t54 t55 H K:=
 lp2 (M:=znc) zSQ t8 t55 (by kernel_rfl) Inv n h0 ac
theorem zSR (h:HSc H→zdu t0 t1 t2 H K):ACalls tP zjm [t0,t1,t2] H K:=
 acb znc Tryz.func74 ztI (by kernel_rfl) (by kernel_rfl) h
theorem zRP (h:HSc H→zBV t0 t1 H K):ACalls tP zps [t0,t1] H K:=
 acb zRN Tryz.func53 zRO (by kernel_rfl) (by kernel_rfl) h
theorem zR3 (Inv:Nat→AV→AV→zaa→Prop) (n:Nat) (h0:HSc H→Inv n t7 t58 H)
  (ac:Rd2 (λt7=>λt58=>zm1 t0 t4 t7 t56 t57 t58) (λt7=>λt58=>λH Kb15=>zif t0 t4 t7 t56 t57 t58 H K Kb15) H Inv):zB0 t0 t4 t7 t56 t57 t58 H K:=
 lp2 (M:=zm0) zR4 t7 t58 (by kernel_rfl) Inv n h0 ac
theorem zR5 (h:HSc H→zdc t0 t1 t2 H K):ACalls tP zjk [t0,t1,t2] H K:=
 acb zm0 Tryz.func59 ztx (by kernel_rfl) (by kernel_rfl) h
end
section
variable (t0 t1 t2 t7 t8 t10 t11 t12 t13 t16 t17 t18 t19 t20 t26 t27 t28 t29 t30 t33 t34 t35:AV) (H:zaa) (K:Kt) (Kb5 Kb6 Kb7:Lt)
def zkB:Nat→List Bool | 5=>rl false [0,1,1,1,5,1,9,3,23] | _=>[]
noncomputable def zqZ:Code:=Tryz.f124.body.getD .skip
noncomputable def zJr:List ResultVar:=Tryz.f124.results.toList
def zkC:List AV:=t0::ux 1 (t2::ux 5 (t8::ux 9 (t18::t19::t20::ux 23 [])))
def zJp:List Bool:=zkB 5
noncomputable def zJn:Code:=zaq [1,1,1,0,1,0,0] zqZ
def zJm:AExit→List AV→zaa→Prop:=zas tP zkB [1,1,1,0,1,0] zqZ (zay tP zJr K)
def zy2:Prop:=ALoop tP zJn (zJm K) (zkC t0 t2 t8 t18 t19 t20) H
def zqY:Prop:=zac .lss false t20 t19 λt21=>zag t21 (zai 3 t18 t20 λt23=>zae true 3 t23 H λt24=>zax [(.int .i64 0),(.int .i64 0),.snil] H λt10 H=>zan 3 t10 t24 H λH=>zab H (λK'=>K' t0 H) λt26=>zab H (λK'=>zak true 3 t10 H (K' · H)) λt27=>zab H (λK'=>K' t2 H) λt28=>zab H (λK'=>K' t20 H) λt29=>zab H (λK'=>zai 2 t28 t29 (K' · H)) λt30=>zab H (λK'=>zak true 2 t30 H (K' · H)) λt31=>zaE H (λH K'=>ACalls tP zjm [t26,t27,t31] H K') λt32=>zab H (λK'=>K' t32 H) λt25=>zab H (λK'=>zaz t25 0 (K' · H)) λt33=>zab H (λK'=>zaz t25 1 (K' · H)) λt34=>zab H (λK'=>K' t33 H) λt11=>zab H (λK'=>K' t34 H) λt12=>aUn .not t12 λt36=>zag t36 (zaD [(.int .i64 0),(.bool false)] (K · H)) (zac .add false t8 t11 λt39=>zac .add false t20 (.int .i64 1) λt40=>Kb5 (zkC t0 t2 t39 t18 t19 t40) H)) (zac .leq false t8 (.int .i64 6) λt43=>zaD [t8,t43] (K · H))
def zqX:Prop:=zah 1 t1 λt14=>zah 1 t2 λt16=>zac .neq false t14 t16 λt17=>zag t17 (zaD [(.int .i64 0),(.bool false)] (K · H)) (zah 1 t1 λt19=>zy2 t0 t2 (.int .i64 0) t1 t19 (.int .i64 0) H K)
def zkD:Nat→List Bool | 6=>rl false [8,1,1,1,15,3,15] | _=>[]
noncomputable def zq1:Code:=Tryz.f125.body.getD .skip
noncomputable def zJx:List ResultVar:=Tryz.f125.results.toList
def zkE:List AV:=ux 8 (t8::ux 1 (t10::ux 15 (t26::t27::t28::ux 15 [])))
def zJv:List Bool:=zkD 6
noncomputable def zJt:Code:=zaq [1,1,1,1,0,1,0,0] zq1
def zJs:AExit→List AV→zaa→Prop:=zas tP zkD [1,1,1,1,0,1,0] zq1 (zay tP zJx K)
def zkG:Prop:=ALoop tP zJt (zJs K) (zkE t8 t10 t26 t27 t28) H
def zy5 (t8 t10 t26 t27 t28:AV) (H:zaa) (K:Kt) (Kb6:Lt):Prop:=zac .add false t28 (.int .i64 1) λt42=>Kb6 (zkE t8 t10 t26 t27 t42) H
def zkF:Prop:=zy5 t8 t10 t26 t27 t28 H K Kb6
def zq0:Prop:=zac .lss false t28 t27 λt29=>zag t29 (zai 1 t26 t28 λt31=>zae false 1 t31 H λt32=>aUn .not t32 λt34=>zag t34 (zai 3 t8 t28 λt38=>zae true 3 t38 H λt39=>zau 3 [(.int .i64 0),(.int .i64 0),.snil] 1 [(0,t39)] λt40=>zaw zaZ 3 40 t10 t40 H λt41 H=>zkF t8 t41 t26 t27 t28 H K Kb6) (zkF t8 t10 t26 t27 t28 H K Kb6)) (zaD [t10,(.bool true)] (K · H))
def zy4:Prop:=zav t1 H λt4 H=>zae true 3 t4 H λt15=>ACalls tP ziW [t0,t15,t2] H λt17 H=>zaz t17 0 λt18=>zaz t17 1 λt19=>aUn .not t19 λt21=>zag t21 (zaD [.snil,(.bool false)] (K · H)) (zaf 1 t4 λt23=>zae false 1 t23 H λt24=>ACalls tP zfd [t0,t24,t2] H λt26 H=>zah 1 t26 λt27=>zkG t18 .snil t26 t27 (.int .i64 0) H K)
def zkd:Nat→List Bool | 7=>rl false [8,1,4,1,19,3,12] | _=>[]
noncomputable def zqC:Code:=Tryz.f102.body.getD .skip
noncomputable def zId:List ResultVar:=Tryz.f102.results.toList
def zke:List AV:=ux 8 (t8::ux 4 (t13::ux 19 (t33::t34::t35::ux 12 [])))
def zIb:List Bool:=zkd 7
noncomputable def zH9:Code:=zaq [1,1,1,1,1,0,1,0,0] zqC
def zH8:AExit→List AV→zaa→Prop:=zas tP zkd [1,1,1,1,1,0,1,0] zqC (zay tP zId K)
def zkf:Prop:=ALoop tP zH9 (zH8 K) (zke t8 t13 t33 t34 t35) H
def zqB:Prop:=zac .lss false t35 t34 λt36=>zag t36 (zai 1 t33 t35 λt37=>zae false 1 t37 H λt38=>zai 3 t8 t38 λt42=>zae true 3 t42 H λt43=>zau 3 [(.int .i64 0),(.int .i64 0),.snil] 1 [(0,t43)] λt44=>zaw zaZ 3 40 t13 t44 H λt45 H=>zac .add false t35 (.int .i64 1) λt46=>Kb7 (zke t8 t45 t33 t34 t46) H) (zaD [t13,(.bool true)] (K · H))
def zyE:Prop:=zav t1 H λt4 H=>zae true 3 t4 H λt18=>ACalls tP zht [t0,t18,t2] H λt20 H=>zaz t20 0 λt21=>zaz t20 1 λt22=>aUn .not t22 λt24=>zag t24 (zaD [.snil,(.bool false)] (K · H)) (zae true 3 t4 H λt27=>ACalls tP zoX [t0,t27,t2] H λt29 H=>zaz t29 0 λt30=>zaz t29 1 λt31=>zaz t29 2 λt32=>zah 1 t30 λt34=>zkf t21 .snil t30 t34 (.int .i64 0) H K)
def zk8:Nat→List Bool | 6=>rl false [11,2,15,3,16] | _=>[]
noncomputable def zru:Code:=Tryz.f149.body.getD .skip
noncomputable def zK4:List ResultVar:=Tryz.f149.results.toList
def zla:List AV:=ux 11 (t11::t12::ux 15 (t28::t29::t30::ux 16 []))
def zK2:List Bool:=zk8 6
noncomputable def zK0:Code:=zaq [1,1,1,0,1,0,0] zru
def zKZ:AExit→List AV→zaa→Prop:=zas tP zk8 [1,1,1,0,1,0] zru (zay tP zK4 K)
def zlc:Prop:=ALoop tP zK0 (zKZ K) (zla t11 t12 t28 t29 t30) H
def zzt (t11 t12 t28 t29 t30:AV) (H:zaa) (K:Kt) (Kb6:Lt):Prop:=zac .add false t30 (.int .i64 1) λt44=>Kb6 (zla t11 t12 t28 t29 t44) H
def zlb:Prop:=zzt t11 t12 t28 t29 t30 H K Kb6
def zk9:Prop:=zac .lss false t30 t29 λt31=>zag t31 (zai 1 t28 t30 λt33=>zae false 1 t33 H λt34=>zag t34 (zau 1 [(.int .i64 0)] 1 [(0,t30)] λt38=>zaw zcF 1 8 t12 t38 H λt39 H=>zlb t11 t39 t28 t29 t30 H K Kb6) (zau 1 [(.int .i64 0)] 1 [(0,t30)] λt42=>zaw zcF 1 8 t11 t42 H λt43 H=>zlb t43 t12 t28 t29 t30 H K Kb6)) (zaD [t11,t12,(.bool true)] (K · H))
def zzs:Prop:=zav t1 H λt4 H=>zae true 3 t4 H λt17=>ACalls tP zht [t0,t17,t2] H λt19 H=>zaz t19 0 λt20=>zaz t19 1 λt21=>aUn .not t21 λt23=>zag t23 (zaD [.snil,.snil,(.bool false)] (K · H)) (zaf 1 t4 λt25=>zae false 1 t25 H λt26=>ACalls tP zf3 [t0,t26,t2] H λt28 H=>zah 1 t28 λt29=>zlc .snil .snil t28 t29 (.int .i64 0) H K)
def zkt:Nat→List Bool | 5=>rl false [0,3,4,1,8,2,25] | _=>[]
noncomputable def zqN:Code:=Tryz.f111.body.getD .skip
noncomputable def zIQ:List ResultVar:=Tryz.f111.results.toList
def zku:List AV:=t0::t1::t2::ux 4 (t7::ux 8 (t16::t17::ux 25 []))
def zIO:List Bool:=zkt 5
noncomputable def zIM:Code:=zaq [1,1,1,0,1,0,0] zqN
def zIL:AExit→List AV→zaa→Prop:=zas tP zkt [1,1,1,0,1,0] zqN (zay tP zIQ K)
def zyO:Prop:=ALoop tP zIM (zIL K) (zku t0 t1 t2 t7 t16 t17) H
def zqM:Prop:=zac .lss false t17 t16 λt18=>zag t18 (zab H (λK'=>K' t0 H) λt20=>zab H (λK'=>K' t1 H) λt21=>zab H (λK'=>K' t17 H) λt22=>zab H (λK'=>zai 3 t21 t22 (K' · H)) λt23=>zab H (λK'=>zak true 3 t23 H (K' · H)) λt24=>zab H (λK'=>K' t2 H) λt25=>zab H (λK'=>K' t17 H) λt26=>zab H (λK'=>zai 2 t25 t26 (K' · H)) λt27=>zab H (λK'=>zak true 2 t27 H (K' · H)) λt28=>zaE H (λH K'=>ACalls tP zjk [t20,t24,t28] H K') λt29=>zab H (λK'=>K' t29 H) λt9=>zac .lss false t9 (.int .i64 0) λt31=>zad t31 false H (λK'=>K' t7 H) λt33 H=>zad t31 false H (λK'=>K' t9 H) λt34 H=>zad t31 false H (λK'=>zac .add false t33 t34 (K' · H)) λt35 H=>zad t31 false H (λK'=>zac .gtr false t35 (.int .i64 6) (K' · H)) λt36 H=>zaj t31 (.bool true) t36 λt37=>zag t37 (K (.int .i64 (-1)) H) (zac .add false t7 t9 λt40=>zac .add false t17 (.int .i64 1) λt41=>Kb5 (zku t0 t1 t2 t40 t16 t41) H)) (K t7 H)
def zqL:Prop:=zah 1 t1 λt11=>zah 1 t2 λt13=>zac .neq false t11 t13 λt14=>zag t14 (K (.int .i64 (-1)) H) (zah 1 t1 λt16=>zyO t0 t1 t2 (.int .i64 0) t16 (.int .i64 0) H K)
variable {t0 t1 t2 t7 t8 t10 t11 t12 t13 t16 t17 t18 t19 t20 t26 t27 t28 t29 t30 t33 t34 t35} {H} {K} {Kb5 Kb6 Kb7}
theorem zJo (Inv:Nat→AV→AV→zaa→Prop) (n:Nat) (h0:HSc H→Inv n t8 t20 H)
  (ac:Rd2 (λt8=>λt20=>zkC t0 t2 t8 t18 t19 t20) (λt8=>λt20=>λH Kb5=>zqY t0 t2 t8 t18 t19 t20 H K Kb5) H Inv):zy2 t0 t2 t8 t18 t19 t20 H K:=
 lp2 (M:=zkB) zJp t8 t20 (by kernel_rfl) Inv n h0 ac
theorem zJq (h:HSc H→zqX t0 t1 t2 H K):ACalls tP ziO [t0,t1,t2] H K:=
 acb zkB Tryz.func124 zqZ (by kernel_rfl) (by kernel_rfl) h
theorem zJu (Inv:Nat→AV→AV→zaa→Prop) (n:Nat) (h0:HSc H→Inv n t10 t28 H)
  (ac:Rd2 (λt10=>λt28=>zkE t8 t10 t26 t27 t28) (λt10=>λt28=>λH Kb6=>zq0 t8 t10 t26 t27 t28 H K Kb6) H Inv):zkG t8 t10 t26 t27 t28 H K:=
 lp2 (M:=zkD) zJv t10 t28 (by kernel_rfl) Inv n h0 ac
theorem zJw (h:HSc H→zy4 t0 t1 t2 H K):ACalls tP zoL [t0,t1,t2] H K:=
 acb zkD Tryz.func125 zq1 (by kernel_rfl) (by kernel_rfl) h
theorem zIa (Inv:Nat→AV→AV→zaa→Prop) (n:Nat) (h0:HSc H→Inv n t13 t35 H)
  (ac:Rd2 (λt13=>λt35=>zke t8 t13 t33 t34 t35) (λt13=>λt35=>λH Kb7=>zqB t8 t13 t33 t34 t35 H K Kb7) H Inv):zkf t8 t13 t33 t34 t35 H K:=
 lp2 (M:=zkd) zIb t13 t35 (by kernel_rfl) Inv n h0 ac
theorem zIc (h:HSc H→zyE t0 t1 t2 H K):ACalls tP zoG [t0,t1,t2] H K:=
 acb zkd Tryz.func102 zqC (by kernel_rfl) (by kernel_rfl) h
theorem zK1 (Inv:Nat→AV→AV→AV→zaa→Prop) (n:Nat) (h0:HSc H→Inv n t11 t12 t30 H)
  (ac:Rd3 (λt11=>λt12=>λt30=>zla t11 t12 t28 t29 t30) (λt11=>λt12=>λt30=>λH Kb6=>zk9 t11 t12 t28 t29 t30 H K Kb6) H Inv):zlc t11 t12 t28 t29 t30 H K:=
 lp3 (M:=zk8) zK2 t11 t12 t30 (by kernel_rfl) Inv n h0 ac
theorem zK3 (h:HSc H→zzs t0 t1 t2 H K):ACalls tP zoX [t0,t1,t2] H K:=
 acb zk8 Tryz.func149 zru (by kernel_rfl) (by kernel_rfl) h
theorem zIN (Inv:Nat→AV→AV→zaa→Prop) (n:Nat) (h0:HSc H→Inv n t7 t17 H)
  (ac:Rd2 (λt7=>λt17=>zku t0 t1 t2 t7 t16 t17) (λt7=>λt17=>λH Kb5=>zqM t0 t1 t2 t7 t16 t17 H K Kb5) H Inv):zyO t0 t1 t2 t7 t16 t17 H K:=
 lp2 (M:=zkt) zIO t7 t17 (by kernel_rfl) Inv n h0 ac
theorem zIP (h:HSc H→zqL t0 t1 t2 H K):ACalls tP ziM [t0,t1,t2] H K:=
 acb zkt Tryz.func111 zqN (by kernel_rfl) (by kernel_rfl) h
end
end Go.Proofs.YtdmamdnkcefmmaaGreatDoor
section


end

import Derived.Test.YtdmamdnkcefmmaaGreatDoorKGT
import Derived.Test.YtdmamdnkcefmmaaGreatDoorKN4
import Derived.Test.YtdmamdnkcefmmaaGreatDoorKNum
import Derived.Test.YtdmamdnkcefmmaaGreatDoorProg
import Derived.KernelRfl
set_option linter.unusedSimpArgs false
set_option linter.unusedVariables false
set_option maxRecDepth 100000
namespace Go.Proofs.YtdmamdnkcefmmaaGreatDoor
def kwds:List (List UInt8):=[[97,114,114,97,121],[98,111,111,108],[99,97,116,99,104],[100,97,116,97],[101,108,115,101],[101,110,100],[102,97,108,115,101],[102,110],[102,117,110],[103,101,116],[105,102],[105,110],[105,110,116],[108,101,110],[108,101,116],[109,97,116,99,104],[110,101,119],[114,97,105,115,101],[114,101,97,100],[114,101,102],[115,101,116],[116,104,101,110],[116,105,99,107],[116,114,117,101],[116,114,121],[117,110,105,116],[119,105,116,104],[119,114,105,116,101]]
def kwF(ws:List (List UInt8))(s:List UInt8):Bool:=ws.any (s == ·)
theorem zdf{H:zaa}{K:AV→zaa→Prop}{r:AV}(hsc:HSc H)(hv:r.isV=true)(hr:r.scV H.length=true)(h:K r H):Out H.length K r H:=by have:=Out.same (J:=[]) rfl hsc hv hr h;simpa using this
theorem zcL(b c:UInt8):((b.toNat:Int) == (c.toNat:Int))=(b == c):=by
 rw[ct];simp only[ba];constructor
 ·intro h;exact UInt8.toNat_inj.mp (by omega)
 ·rintro rfl;rfl
theorem zzd(b:UInt8)(H:zaa)(K:AV→zaa→Prop)(hK:K (.bool (zcc b)) H):ACalls tP zkk [.int .u8 b.toNat] H K:=by refine ACalls.out (zSi λhs=>?_);have hO:=zdf (K:=K) (H:=H) (r:=.bool (zcc b)) hs rfl rfl hK;unfold zcc at hO;cases h1:decide (97≤(b.toNat:Int)) <;> simp[zD0,h1] <;> simpa[h1]using hO
theorem zlu(b:UInt8)(H:zaa)(K:AV→zaa→Prop)(hK:K (.bool (bUp b)) H):ACalls tP zgP [.int .u8 b.toNat] H K:=by refine ACalls.out (zSl λhs=>?_);have hO:=zdf (K:=K) (H:=H) (r:=.bool (bUp b)) hs rfl rfl hK;unfold bUp at hO;cases h1:decide (65≤(b.toNat:Int)) <;> simp[zD1,h1] <;> simpa[h1]using hO
theorem zqv(b:UInt8)(H:zaa)(K:AV→zaa→Prop)(hK:K (.bool (zba b)) H):ACalls tP zie [.int .u8 b.toNat] H K:=by refine ACalls.out (zSo λhs=>?_);have hO:=zdf (K:=K) (H:=H) (r:=.bool (zba b)) hs rfl rfl hK;unfold zba at hO;cases h1:decide (48≤(b.toNat:Int)) <;> simp[zD2,h1] <;> simpa[h1]using hO
theorem zqV(b:UInt8)(H:zaa)(K:AV→zaa→Prop)(hK:K (.bool (zcc b)) H):ACalls tP zky [.int .u8 b.toNat] H K:=by refine ACalls.out (zUQ λhs=>?_);have hO:=zdf (K:=K) (H:=H) (r:=.bool (zcc b)) hs rfl rfl hK;unfold zcc at hO;cases h1:decide (97≤(b.toNat:Int)) <;> simp[zEP,h1] <;> simpa[h1]using hO
theorem zlv(b:UInt8)(H:zaa)(K:AV→zaa→Prop)(hK:K (.bool (bUp b)) H):ACalls tP zii [.int .u8 b.toNat] H K:=by refine ACalls.out (zUT λhs=>?_);have hO:=zdf (K:=K) (H:=H) (r:=.bool (bUp b)) hs rfl rfl hK;unfold bUp at hO;cases h1:decide (65≤(b.toNat:Int)) <;> simp[zEQ,h1] <;> simpa[h1]using hO
theorem zqw(b:UInt8)(H:zaa)(K:AV→zaa→Prop)(hK:K (.bool (zba b)) H):ACalls tP zfS [.int .u8 b.toNat] H K:=by refine ACalls.out (zU8 λhs=>?_);have hO:=zdf (K:=K) (H:=H) (r:=.bool (zba b)) hs rfl rfl hK;unfold zba at hO;cases h1:decide (48≤(b.toNat:Int)) <;> simp[zEV,h1] <;> simpa[h1]using hO
theorem zHS(b:UInt8)(H:zaa)(K:AV→zaa→Prop)(hK:K (.bool (zdG b)) H):ACalls tP zrK [.int .u8 b.toNat] H K:=by refine ACalls.out (zUz λhs=>?_);have hO:=zdf (K:=K) (H:=H) (r:=.bool (zdG b)) hs rfl rfl hK;unfold zdG at hO;have e1:((b.toNat:Int) == 9)=(b == 9):=zcL b 9;have e2:((b.toNat:Int) == 10)=(b == 10):=zcL b 10;have e3:((b.toNat:Int) == 13)=(b == 13):=zcL b 13;have e4:((b.toNat:Int) == 32)=(b == 32):=zcL b 32;cases h1:(b == 9) <;> cases h2:(b == 10) <;> cases h3:(b == 13) <;> simp[zEI,e1,e2,e3,e4,h1,h2,h3] <;> simpa[h1,h2,h3]using hO
theorem zL2(b:UInt8)(H:zaa)(K:AV→zaa→Prop)(hK:K (.bool (bIn b)) H):ACalls tP zij [.int .u8 b.toNat] H K:=by
 refine ACalls.out (zU2 λhs=>?_);have hO:=zdf (K:=K) (H:=H) (r:=.bool (bIn b)) hs rfl rfl hK;unfold bIn at hO;have e1:((b.toNat:Int) == 95)=(b == 95):=zcL b 95;unfold zET;refine zqV b _ _ ?_;cases h1:zcc b with
 |true=>simp;simpa[h1]using hO
 |false=>
  simp;refine zlv b _ _ ?_;cases h2:bUp b with
  |true=>simp;simpa[h1,h2]using hO
  |false=>
   simp;refine zqw b _ _ ?_;cases h3:zba b with
   |true=>simp;simpa[h1,h2,h3]using hO
   |false=>simp[e1];simpa[h1,h2,h3]using hO
theorem zIX(s:List UInt8)(H:zaa)(K:AV→zaa→Prop)(hK:K (.bool (kwF kwds s)) H):ACalls tP zrM [.str s] H K:=by
 refine ACalls.out (zU5 λhs=>?_);have hO:=zdf (K:=K) (H:=H) (r:=.bool (kwF kwds s)) hs rfl rfl hK;have step:∀ (w:List UInt8) (ws:List (List UInt8)) (rest:Prop),(Out H.length K (.bool (kwF ws s)) H→rest)→Out H.length K (.bool (kwF (w::ws) s)) H →
   zac .eql false (.str s) (.str w) λt=>zag t (zbD t H (Out H.length K)) rest:=by
  intro w ws rest h h';simp only[kwF,List.any_cons]at h h';cases e:(s == w) with
  |true=>simpa[zbD,e]using h'
  |false=>rw[e,bt]at h';simpa[zbD,e]using h h'
 unfold zEU
 revert hO
 unfold kwds
 iterate 27 refine step _ _ _ ?_
 intro h';simp only[kwF,List.any_cons,List.any_nil,cC]at h';cases e:(s == [119,114,105,116,101]) <;> rw[e]at h' <;> simpa[zbD,e]using h'
theorem zIY(s:List UInt8)(H:zaa)(K:AV→zaa→Prop)(hK:K (.bool (kwF kwds s)) H):ACalls tP zkl [.str s] H K:=by
 refine ACalls.out (zSt λhs=>?_);have hO:=zdf (K:=K) (H:=H) (r:=.bool (kwF kwds s)) hs rfl rfl hK;have e:zD3 (.str s) H (Out H.length K)=zuJ (.str s) (.sl (kwds.map λw=>[.str w]) .full) (.int .i64 0) H (Out H.length K):=rfl;rw[e];have ek:kwds.length=28:=rfl;generalize kwds=ws at *;refine zSr (Inv:=λq t4 H'=>∃i:Nat,i≤ws.length∧q=ws.length-i∧t4=.int .i64 i∧kwF (ws.drop i) s=kwF ws s∧H'=H) ws.length ?_ ?_
 ·intro _;exact⟨0,by omega,by omega,rfl,by simp,rfl⟩
 ·rintro q t8 H' ⟨i,hi,rfl,rfl,ho,rfl⟩ hsc _ eK Kb eq;by_cases ei:i<ws.length
  ·rw[ag ei]at ho;simp only[kwF,List.any_cons]at ho;cases hz:(ws[i] == s) with
   |true=>
    have mH:(s == ws[i])=true:=by rw[ba]at hz ⊢;exact hz.symm
    rw[mH,dW]at ho;simp[znv,ei,hz];unfold kwF at hO;rw[←ho]at hO;exact hO
   |false=>
    have mH:(s == ws[i])=false:=by rw[cI]at hz ⊢;exactλh=>hz h.symm
    rw[mH,bt]at ho;simp[znv,ei,hz];rw[zay (by omega) (by omega)];refine eq _ _ ⟨ws.length-(i+1),by omega,Back.here (ac _) hs ?_ ⟨_,rfl,i+1,by omega,rfl,by simp,ho,rfl⟩⟩;simp[znw,AV.sc,AV.scV,AV.scA,AV.scB]
  ·simp[znv,ei];obtain rfl:i=ws.length:=by omega
   rw[aI]at ho;rw[←ho]at hO;exact hO
theorem zx6{b:UInt8}(h:zba b=true):48≤(b.toNat:Int)∧(b.toNat:Int)≤57:=by simpa[zba]using h
theorem zKN(s:List UInt8)(hd:∀b∈s,zba b=true)(hl:s.length≤1000000)(H:zaa)(K:AV→zaa→Prop)(hK:K (.bool (zcv s 0)) H):ACalls tP zik [.str s] H K:=by
 refine ACalls.out (zVd λhs=>?_);have hO:=zdf (K:=K) (H:=H) (r:=.bool (zcv s 0)) hs rfl rfl hK;simp[zEW];refine zVb (Inv:=λq t3 t7 H'=>∃(i:Nat) (n:Int),i≤s.length∧q=s.length-i∧t7=.int .i64 i∧t3=.int .i64 n∧0≤n∧n≤1000000∧zcv (s.drop i) n=zcv s 0∧H'=H) s.length ?_ ?_
 ·intro _;exact⟨0,0,by omega,by omega,rfl,rfl,by omega,by omega,by simp,rfl⟩
 ·rintro q t3 t7 H' ⟨i,n,hi,rfl,rfl,rfl,i5,jq,ho,rfl⟩ hsc _ eK Kb eq;by_cases ei:i<s.length
  ·have hb:=zx6 (hd s[i] (af ei));rw[ag ei,zcv]at ho;simp[zvv,ei];rw[IntWalk.u8_in _ (by omega),zay (n:=n*10) (by omega) (by omega),zay (n:=(s[i].toNat:Int)-48) (by omega) (by omega),zay (by omega) (by omega),zay (by omega) (by omega)];by_cases hg:1000000<n*10+((s[i].toNat:Int)-48)
   ·rw[az hg]at ho;have kr:decide (1000000<n*10+((s[i].toNat:Int)-48))=true:=by simpa using hg
    rw[←ho]at hO;rw[kr];simpa using hO
   ·rw[au hg]at ho;have kr:decide (1000000<n*10+((s[i].toNat:Int)-48))=false:=by simpa using hg
    rw[kr];simp only[zxH,aH,aN];refine eq _ _ ⟨s.length-(i+1),by omega,Back.here (ac _) hs ?_ ⟨_,_,rfl,i+1,_,by omega,rfl,by simp,rfl,by omega,by omega,ho,rfl⟩⟩;simp[zn7,AV.sc,AV.scV,AV.scA,AV.scB]
  ·simp[zvv,ei];obtain rfl:i=s.length:=by omega
   rw[aI,zcv]at ho;rw[←ho]at hO;exact hO
theorem zAj(cl:UInt8→Bool)(f:FuncId)(fV:zeD tP f=true)(hf:∀(b:UInt8) (H:zaa) (K:AV→zaa→Prop),K (.bool (cl b)) H→ACalls tP f [.int .u8 b.toNat] H K)(s:List UInt8)(hl:s.length≤1000000)(H:zaa)(K:AV→zaa→Prop)(hK:K (.str (s.takeWhile cl)) H):ACalls tP zkz [.str s,.fn f []] H K:=by
 refine ACalls.out (zUY λhs=>?_);have hO:=zdf (K:=K) (H:=H) (r:=.str (s.takeWhile cl)) hs rfl rfl hK;simp[zER];refine zUW (Inv:=λq t5 H'=>∃i:Nat,i≤s.length∧q=s.length-i∧t5=.int .i64 i∧s.take i++(s.drop i).takeWhile cl=s.takeWhile cl∧H'=H) s.length ?_ ?_
 ·intro _;exact⟨0,by omega,by omega,rfl,by simp,rfl⟩
 ·rintro q t5 H' ⟨i,hi,rfl,rfl,ho,rfl⟩ hsc _ eK Kb eq;by_cases ei:i<s.length
  ·rw[ag ei,dt]at ho;simp[zvt,ei];simp only[aCallV,fV,aG];refine hf _ _ _ ?_;cases hc:cl s[i] with
   |true=>rw[hc,az rfl,List.append_cons,←ae ei]at ho;simp;rw[zay (by omega) (by omega)];refine eq _ _ ⟨s.length-(i+1),by omega,Back.here (ac _) hs ?_ ⟨_,rfl,i+1,by omega,rfl,by simp,ho,rfl⟩⟩;simp[zn5,AV.sc,AV.scV,AV.scA,AV.scB]
   |false=>rw[hc,au (by simp),aG]at ho;rw[←ho]at hO;simp[hi];exact hO
  ·simp[zvt,ei];obtain rfl:i=s.length:=by omega
   rw[aI,List.takeWhile_nil,aG,ak]at ho;rw[←ho]at hO;simpa using hO
theorem zLV(s:List UInt8)(hd:∀b∈s,zba b=true)(hl:s.length≤1000000)(H:zaa)(K:AV→zaa→Prop)(hK:∀n,K (.tup [.int .i64 n,.bool (zcv s 0)]) H):ACalls tP zgQ [.str s] H K:=by
 refine ACalls.out (zSz λhs=>?_);have hO:∀n,Out H.length K (.tup [.int .i64 n,.bool (zcv s 0)]) H:=λn=>Out.tup0 hs (hK n) ⟨zaV rfl rfl,zaV rfl rfl,trivial⟩;simp only[zD5];refine zSx (Inv:=λq t3 t7 H'=>∃(i:Nat) (n:Int),i≤s.length∧q=s.length-i∧t7=.int .i64 i∧t3=.int .i64 n∧0≤n∧n≤1000000∧zcv (s.drop i) n=zcv s 0∧H'=H) s.length ?_ ?_
 ·intro _;exact⟨0,0,by omega,by omega,rfl,rfl,by omega,by omega,by simp,rfl⟩
 ·rintro q t3 t7 H' ⟨i,n,hi,rfl,rfl,rfl,i5,jq,ho,rfl⟩ hsc _ eK Kb eq;by_cases ei:i<s.length
  ·have hb:=zx6 (hd s[i] (af ei));rw[ag ei,zcv]at ho;simp[zuK,ei];rw[IntWalk.u8_in _ (by omega),zay (n:=n*10) (by omega) (by omega),zay (n:=(s[i].toNat:Int)-48) (by omega) (by omega),zay (by omega) (by omega),zay (by omega) (by omega)];by_cases hg:1000000<n*10+((s[i].toNat:Int)-48)
   ·rw[az hg]at ho;have kr:decide (1000000<n*10+((s[i].toNat:Int)-48))=true:=by simpa using hg
    rw[←ho]at hO;rw[kr];simpa[AV.isV]using hO 0
   ·rw[au hg]at ho;have kr:decide (1000000<n*10+((s[i].toNat:Int)-48))=false:=by simpa using hg
    rw[kr];simp only[zxH,aH,aN];refine eq _ _ ⟨s.length-(i+1),by omega,Back.here (ac _) hs ?_ ⟨_,_,rfl,i+1,_,by omega,rfl,by simp,rfl,by omega,by omega,ho,rfl⟩⟩;simp[zny,AV.sc,AV.scV,AV.scA,AV.scB]
  ·simp[zuK,ei,AV.isV];obtain rfl:i=s.length:=by omega
   rw[aI,zcv]at ho;rw[←ho]at hO;exact hO n
theorem zLG(b:UInt8)(r:List UInt8):(b::r).take 1=[b]:=by simp
theorem zst{s:List UInt8}(h:¬ 2≤s.length):zdP s=false:=by
 match s,h with
 |[],_=>rfl
 |[b],_=>simp[zdP]
 |_::_::_,h=>simp at h
theorem zAS(b:UInt8)(r:List UInt8)(h:zdP (b::r)=false):sgn (b::r)=if sgns.contains b=true then 1 else 0:=by simp[sgn,h]
theorem zKC(b:UInt8)(r:List UInt8)(H:zaa)(K:AV→zaa→Prop)(hK:K (.str ((b::r).take (sgn (b::r)))) H):ACalls tP zrN [.str (b::r)] H K:=by
 refine ACalls.out (zVh λhs=>?_);have hO:=zdf (K:=K) (H:=H) (r:=.str ((b::r).take (sgn (b::r)))) hs rfl rfl hK;have one:zdP (b::r)=false→zn8 (.str (b::r)) H (Out H.length K):=by
  intro h2;rw[zAS b r h2]at hO;have hO:Out H.length K (.str (if sgns.contains b=true then [b] else [])) H:=by cases hc:sgns.contains b <;> rw[hc]at hO <;> simpa using hO
  have step:∀ (c:UInt8) (cs:List UInt8) (rest:Prop),(Out H.length K (.str (if cs.contains b=true then [b] else [])) H→rest)→Out H.length K (.str (if (c::cs).contains b=true then [b] else [])) H →
    zac .eql false (.str [b]) (.str [c]) λt=>zag t (zcM (.str (b::r)) t H (Out H.length K)) rest:=by
   intro c cs rest h h';rw[dy]at h';cases e:(b == c) with
   |true=>rw[e]at h';simpa[zcM,e]using h'
   |false=>rw[e,bt]at h';simpa[zcM,e]using h h'
  unfold zn8;simp only[zHo,zHh,zHg,Int.toNat_one,zLG,bq];refine⟨by decide,⟨by omega,by simp⟩,?_⟩
  revert hO
  unfold sgns
  iterate 12 refine step _ _ _ ?_
  intro h';rw[dy]at h';cases e:(b == 95) <;> rw[e]at h' <;> simpa[zcM,e]using h'
 by_cases hl:2≤(b::r).length
 ·have gF:(2:Int)≤r.length+1:=by simp only[List.length_cons]at hl;omega
  have jY:1≤r.length:=by simp only[List.length_cons]at hl;omega
  cases h2:zdP (b::r) with
  |true=>
   have h3:sgn (b::r)=2:=by simp[sgn,h2]
   rw[h3]at hO;unfold zdP at h2;simp only[List.take_succ_cons]at h2 hO;cases e1:(b::List.take 1 r == [45,62]) with
   |true=>simpa[zhs,gF,jY,zgk,e1]using hO
   |false=>
    cases e2:(b::List.take 1 r == [60,61]) with
    |true=>simpa[zhs,gF,jY,zgk,e1,e2]using hO
    |false=>rw[e1,e2]at h2;simp only[bt]at h2;simpa[zhs,gF,jY,zgk,e1,e2,h2]using hO
  |false=>have ho:=one h2;unfold zdP at h2;simp only[List.take_succ_cons]at h2;rw[bG,bG]at h2;simpa[zhs,gF,jY,zgk,h2.1.1,h2.1.2,h2.2]using ho
 ·have ho:=one (zst hl);have:¬ ((2:Int)≤r.length+1):=by simp only[List.length_cons]at hl;omega
  simpa[zhs,this]using ho
theorem zKB(b:UInt8)(r:List UInt8)(H:zaa)(K:AV→zaa→Prop)(hK:K (.int .i64 (sgn (b::r))) H):ACalls tP zrz [.str (b::r)] H K:=by
 refine ACalls.out (zSF λhs=>?_);have hO:=zdf (K:=K) (H:=H) (r:=.int .i64 (sgn (b::r))) hs rfl rfl hK;have one:zdP (b::r)=false→zuN (.str (b::r)) (.str sgns) (.int .i64 0) H (Out H.length K):=by
  intro h2;rw[zAS b r h2]at hO;have ek:sgns.length=13:=rfl;generalize sgns=ws at *;refine zSD (Inv:=λq t4 H'=>∃i:Nat,i≤ws.length∧q=ws.length-i∧t4=.int .i64 i∧(ws.drop i).contains b=ws.contains b∧H'=H) ws.length ?_ ?_
  ·intro _;exact⟨0,by omega,by omega,rfl,by simp,rfl⟩
  ·rintro q t8 H' ⟨i,hi,rfl,rfl,ho,rfl⟩ hsc _ eK Kb eq;by_cases ei:i<ws.length
   ·rw[ag ei,dy]at ho;have e1:=zcL b ws[i];cases hz:(b == ws[i]) with
    |true=>rw[hz,dW]at ho;rw[←ho]at hO;simpa[znA,ei,e1,hz]using hO
    |false=>rw[hz,bt]at ho;simp[znA,ei,e1,hz];rw[zay (by omega) (by omega)];refine eq _ _ ⟨ws.length-(i+1),by omega,Back.here (ac _) hs ?_ ⟨_,rfl,i+1,by omega,rfl,by simp,ho,rfl⟩⟩;simp[znB,AV.sc,AV.scV,AV.scA,AV.scB]
   ·obtain rfl:i=ws.length:=by omega
    rw[aI]at ho;rw[←ho]at hO;simpa[znA,ei]using hO
 by_cases hl:2≤(b::r).length
 ·have gF:(2:Int)≤r.length+1:=by simp only[List.length_cons]at hl;omega
  have jY:1≤r.length:=by simp only[List.length_cons]at hl;omega
  cases h2:zdP (b::r) with
  |true=>
   have h3:sgn (b::r)=2:=by simp[sgn,h2]
   rw[h3]at hO;unfold zdP at h2;simp only[List.take_succ_cons]at h2 hO;cases e1:(b::List.take 1 r == [45,62]) with
   |true=>simpa[zhm,gF,jY,e1]using hO
   |false=>
    cases e2:(b::List.take 1 r == [60,61]) with
    |true=>simpa[zhm,gF,jY,e1,e2]using hO
    |false=>rw[e1,e2]at h2;simp only[bt]at h2;simpa[zhm,gF,jY,e1,e2,h2]using hO
  |false=>have ho:=one h2;unfold sgns at ho;unfold zdP at h2;simp only[List.take_succ_cons]at h2;rw[bG,bG]at h2;simpa[zhm,gF,jY,h2.1.1,h2.1.2,h2.2]using ho
 ·have ho:=one (zst hl);unfold sgns at ho;have:¬ ((2:Int)≤r.length+1):=by simp only[List.length_cons]at hl;omega
  simpa[zhm,this]using ho

def Tk.cs(t:Tk):List AV:=[.int .i64 t.kind,.str t.text,.int .i64 t.pos]
def zld(kw:List UInt8→Bool)(b:UInt8)(r:List UInt8)(i:Nat):AV:=
 match tok kw b r with
 |.error e=>.tup [.agg [.int .i64 0,.str [],.int .i64 0],.int .i64 e]
 |.ok (k,n)=>.tup [.agg (Tk.cs ⟨k,(b::r).take n,i⟩),.int .i64 0]
theorem zlp{p:UInt8→Bool}(b:UInt8)(r:List UInt8):(b::r).take ((r.takeWhile p).length+1)=b::r.takeWhile p:=by
 rw[List.take_succ_cons];congr 1;induction r with
 |nil=>simp
 |cons c r ih=>by_cases h:p c=true <;> simp[h,ih]
theorem zIZ:zeD tP zij=true:=by kernel_rfl
theorem zI0:zeD tP zfS=true:=by kernel_rfl
theorem zz0{H J:zaa}{K:AV→zaa→Prop}{k p e:Int}{t:List UInt8}(hs:HSc H)(h:K (.tup [.agg [.int .i64 k,.str t,.int .i64 p],.int .i64 e]) H):
  Out H.length K (.tup [.agg [.int .i64 k,.str t,.int .i64 p],.int .i64 e]) (H++J):=Out.tup hs h ⟨zaV rfl rfl,zaV rfl rfl,trivial⟩
def zn0(t4 t6:AV)(H:zaa)(K:AV→zaa→Prop):Prop:=
 zaf 1 t6 λt69=>
 zae false 1 t69 H λt70=>
 ACalls tP zik [t70] H λt71 H=>
 aUn .not t71 λt72=>
 zag t72
 (zaq [(.int .i64 0),(.str []),(.int .i64 0)] [(0,1),(1,1),(2,1)] [] λt73=>
 zan 3 t4 t73 H λH=>
 zae true 3 t4 H λr0=>
 zaF [r0,(.int .i64 9)] (K · H))
 (zhr t4 t6 H K)
theorem zKr(s:List UInt8)(hl:s.length≤1000000)(i:Nat)(hi:i<s.length)(H:zaa)(K:AV→zaa→Prop)(hK:K (zld (kwF kwds) s[i] (s.drop (i+1)) i) H):ACalls tP zrL [.str s,.int .i64 i] H K:=by
 refine ACalls.out (zUC λhs=>?_);have fM:=ag hi;have jT:(s.drop i).length≤1000000:=by simp;omega
 generalize hb:s[i]=b at *;generalize hr:s.drop (i+1)=r at *;have mf:s[i]?.getD 0=b:=by simp[hi,hb]
 have post:∀(k:Int) (n:Nat),tok (kwF kwds) b r=.ok (k,n)→∀t,(b::r).take n=t→zhr (.ptr H.length 0) (.ptr (H.length+1) 0) (H++[.cells [.int .i64 0,.str [],.int .i64 0],.cells [.int .i64 k,.str t,.int .i64 i]]) (Out H.length K):=by intro k n ht t qz;subst qz;simp[zld,ht,Tk.cs]at hK;simp[zhr,zEJ,AV.known,AV.isV];exact zz0 hs hK
 have bad:∀e:Int,tok (kwF kwds) b r=.error e→∀J,Out H.length K (.tup [.agg [.int .i64 0,.str [],.int .i64 0],.int .i64 e]) (H++J):=by intro e ht J;simp[zld,ht]at hK;exact zz0 hs hK
 have ie:=bO hi;by_cases gC:(zcc b || bUp b)=true
 ·have nw:bIn b=true:=by simp[bIn,gC]
  simp[zvn,hi,hb,ie,zaq,zaJ,AV.known];refine zqV b _ _ ?_;have hc:zcc b=true∨(zcc b=false∧bUp b=true):=by cases hL:zcc b <;> simp[hL]at gC ⊢;exact gC
  have fT:=λk=>post k ((r.takeWhile bIn).length+1);simp only[tok,gC,a6,zlp]at fT;rcases hc with hL|⟨hL,hU⟩
  case' inl=>simp[hL]
  case' inr=>simp[hL];refine zlv b _ _ ?_;simp[hU]
  all_goals
   rw[fM];refine zAj bIn zij zIZ zL2 (b::r) (by rw[←fM];exact jT) _ _ ?_;simp[nw,AV.known];by_cases hn:(r.takeWhile bIn).length+1>24
   ·have fN:(24:Int)<(r.takeWhile bIn).length+1:=by omega
    have:=bad 9 (by simp only[tok,gC,a6];rw[az hn]);simp[fN,AV.known,AV.isV];exact this _
   ·have fN:¬ (24:Int)<(r.takeWhile bIn).length+1:=by omega
    simp[fN];refine zlv b _ _ ?_;rw[au hn]at fT;cases hU:bUp b with
    |true=>simp[AV.known,zhq];exact fT 2 (by simp[hU]) _ rfl
    |false=>
     simp[AV.known];refine zIX _ _ _ ?_;cases o8:kwF kwds (b::r.takeWhile bIn) with
     |true=>simp[AV.known,zhq];exact fT 4 (by simp[hU,o8]) _ rfl
     |false=>simp[AV.known,zhq];exact fT 1 (by simp[hU,o8]) _ rfl
 ·have hL:zcc b=false:=by simp at gC;exact gC.1
  have hU:bUp b=false:=by simp at gC;exact gC.2
  simp[zvn,hi,hb,zaq,zaJ,AV.known];refine zqV b _ _ ?_;simp[hL];refine zlv b _ _ ?_;simp[hU];refine zqw b _ _ ?_;cases hD:zba b with
  |true=>
   simp[ie,AV.known];rw[fM];refine zAj zba zfS zI0 zqw (b::r) (by rw[←fM];exact jT) _ _ ?_;have e1:((b.toNat:Int) == 48)=(b == 48):=zcL b 48;have ff:tok (kwF kwds) b r=if (b == 48 && decide ((r.takeWhile zba).length+1>1))=true then .error 2 else if zcv (b::r.takeWhile zba) 0=true then .ok (3,(r.takeWhile zba).length+1) else .error 9:=by simp only[tok,gC,hD,a6,zlp];rfl
   have jD:∀J,ACalls tP zik [.str (b::r.takeWhile zba)] (H++J) λt H'=>t=.bool (zcv (b::r.takeWhile zba) 0)∧H'=H++J:=by
    intro J;refine zKN _ ?_ ?_ _ _ ⟨rfl,rfl⟩
    ·intro c hc;rcases aP.1 hc with rfl | hc
     ·exact hD
     ·exact am.1 (List.all_takeWhile) c hc
    ·have h1:(r.takeWhile zba).length≤r.length:=(dO _).length_le;rw[fM]at jT;simp at jT ⊢;omega
   simp[hD,AV.known,e1];have fT:=post 3 ((r.takeWhile zba).length+1);rw[zlp]at fT;rw[ff]at fT bad;have last:∀J,(¬(b == 48 && decide ((r.takeWhile zba).length+1>1))=true)→J=[.cells [.int .i64 0,.str [],.int .i64 0],.cells [.int .i64 3,.str (b::r.takeWhile zba),.int .i64 i]]→zn0 (.ptr H.length 0) (.ptr (H.length+1) 0) (H++J) (Out H.length K):=by
    rintro J ey rfl;rw[au ey]at fT bad;simp[zn0];refine(jD _).mono ?_;rintro _ _ ⟨rfl,rfl⟩;cases hv:zcv (b::r.takeWhile zba) 0 with
    |true=>simp;exact fT (by simp[hv]) _ rfl
    |false=>simp[AV.known,zaq,zaJ,AV.isV];exact bad 9 (by simp[hv]) _
   cases hz:(b == 48) with
   |true=>
    simp[hz];by_cases hn:1<(r.takeWhile zba).length+1
    ·have fN:(1:Int)<(r.takeWhile zba).length+1:=by omega
     have hd:decide ((r.takeWhile zba).length+1>1)=true:=br hn;have:=bad 2 (by rw[hz,hd];rfl);simp[fN,AV.known,AV.isV];exact this _
    ·have fN:¬ (1:Int)<(r.takeWhile zba).length+1:=by omega
     have hd:decide ((r.takeWhile zba).length+1>1)=false:=bg hn;have:=last _ (by rw[hz,hd];decide) rfl;simp[zn0,zaq,zaJ]at this;simp[fN];exact this
   |false=>have:=last _ (by simp[hz]) rfl;simp[zn0,zaq,zaJ]at this;simp[hz];exact this
  |false=>
   simp[ie,AV.known];rw[fM];refine zKC b r _ _ ?_;simp[AV.known];have ff:tok (kwF kwds) b r=if sgn (b::r)=0 then .error 2 else .ok (5,sgn (b::r)):=by simp only[tok,gC,hD];rfl
   by_cases hz:sgn (b::r)=0
   ·have:=bad 2 (by rw[ff,az hz]);simp[hz,AV.isV];exact this _
   ·have:=post 5 (sgn (b::r)) (by rw[ff,au hz]) _ rfl;have he:(List.take (sgn (b::r)) (b::r)).isEmpty=false:=by
     cases h:sgn (b::r) with
     |zero=>exact absurd h hz
     |succ n=>simp
    simp[he];exact this
def cat(l:List Tk):Except (Nat × Int) (List Tk)→Except (Nat × Int) (List Tk)
 |.error e=>.error e
 |.ok m=>.ok (l++m)
theorem zyi(l m:List Tk)(r:Except (Nat×Int) (List Tk)):cat l (cat m r)=cat (l++m) r:=by cases r <;> simp[cat]
@[simp] theorem ydF(r:Except (Nat×Int) (List Tk)):cat [] r=r:=by cases r <;> rfl
def zeS(r:List UInt8):List UInt8:=r.dropWhile (· != 10)
def zeT(r:List UInt8):Nat:=(r.takeWhile (· != 10)).length
section
variable (kw:List UInt8→Bool)
theorem zsN(p:Nat):zbQ kw [] p=.ok [⟨6,[],p⟩]:=by unfold zbQ;rfl
theorem zBp{b:UInt8}(h:zdG b=true)(r:List UInt8)(p:Nat):zbQ kw (b::r) p=zbQ kw r (p+1):=by
 conv=>lhs;unfold zbQ
 simp[h]
theorem zBr{b:UInt8}(h0:zdG b=false)(h:(b == 35)=true)(r:List UInt8)(p:Nat):zbQ kw (b::r) p=zbQ kw (zeS r) (p+1+zeT r):=by
 conv=>lhs;unfold zbQ
 simp only[h0,h,aH,aN,a6];rfl
theorem zBq{b:UInt8}(h0:zdG b=false)(h:(b == 35)=false){r:List UInt8}{p:Nat}{e:Int}(ht:tok kw b r=.error e):zbQ kw (b::r) p=.error (p,e):=by
 conv=>lhs;unfold zbQ
 simp only[h0,h,aH,aN,ht]
theorem zBs{b:UInt8}(h0:zdG b=false)(h:(b == 35)=false){r:List UInt8}{p:Nat}{k:Int}{n:Nat}(ht:tok kw b r=.ok (k,n)):
  zbQ kw (b::r) p=cat [⟨k,(b::r).take n,p⟩] (zbQ kw ((b::r).drop n) (p+n)):=by
 conv=>lhs;unfold zbQ
 have hn:=zsM ht;obtain⟨m,rfl⟩:∃m,n=m+1:=⟨n-1,by omega⟩;simp only[h0,h,aH,aN,ht,cp,List.drop_succ_cons];cases zbQ kw (r.drop m) (p+(m+1)) <;> rfl
end
theorem zlf{b:UInt8}(h:(b == 10)=false)(r:List UInt8):zeS (b::r)=zeS r∧zeT (b::r)=1+zeT r:=by
 have hb:b≠10:=by simpa using h
 constructor
 ·simp[zeS,hb]
 ·simp[zeT,hb];omega
theorem zAU{b:UInt8}(h:(b == 10)=true)(r:List UInt8):zeS (b::r)=b::r∧zeT (b::r)=0:=by
 have hb:b=10:=by simpa using h
 constructor
 ·simp[zeS,hb]
 ·simp[zeT,hb]
theorem skipC_nil:zeS []=[]∧zeT []=0:=⟨rfl,rfl⟩
theorem zsK{kw:List UInt8→Bool}{b:UInt8}{r:List UInt8}{k:Int}{n:Nat}(h:tok kw b r=.ok (k,n)):n≤(b::r).length:=by
 have tw:∀p:UInt8→Bool,(r.takeWhile p).length≤r.length:=λp=>(dO _).length_le;unfold tok at h;split at h
 ·simp only at h;split at h <;> simp at h;have:=tw bIn;simp;omega
 ·split at h
  ·simp only at h;split at h
   ·simp at h
   ·split at h <;> simp at h;have:=tw zba;simp;omega
  ·simp only at h;split at h <;> simp at h
   obtain⟨_,rfl⟩:=h;unfold sgn;split
   ·rename_i h2;by_cases hl:2≤(b::r).length
    ·exact hl
    ·rw[zst hl]at h2;cases h2
   ·split
    ·simp
    ·split <;> simp
theorem zLM{kw:List UInt8→Bool}{b:UInt8}{r:List UInt8}{e:Int}(h:tok kw b r=.error e):e=2∨e=9:=by
 unfold tok at h;split at h
 ·simp only at h;split at h <;> simp at h;omega
 ·split at h
  ·simp only at h;split at h
   ·simp at h;omega
   ·split at h <;> simp at h;omega
  ·simp only at h;split at h <;> simp at h;omega
def zfp(s:List UInt8):AV:=
 if s.length>16384 then .tup [.sl [] .none,.int .i64 0,.int .i64 9] else
 match zbQ (kwF kwds) s 0 with
 |.error (p,e)=>.tup [.sl [] .none,.int .i64 p,.int .i64 e]
 |.ok l=>.tup [.sl (l.map Tk.cs) .none,.int .i64 0,.int .i64 0]
theorem two{H:zaa}{x y:AB}:H++[x,y]=(H++[x])++[y]:=by simp
theorem zzZ{H J:zaa}{K:AV→zaa→Prop}{p e:Int}(hs:HSc H)(hK:K (.tup [.sl [] .none,.int .i64 p,.int .i64 e]) H):Out H.length K (.tup [.snil,.int .i64 p,.int .i64 e]) (H++J):=
 Out.tup hs hK ⟨zdj,zaV rfl rfl,zaV rfl rfl,trivial⟩
theorem zLp(s:List UInt8)(H:zaa)(K:AV→zaa→Prop)(hK:K (zfp s) H):ACalls tP zrH [.str s] H K:=by
 refine ACalls.out (zUf λhs=>?_);by_cases hl:s.length>16384
 ·have gF:(16384:Int)<s.length:=by omega
  simp[zve,gF,AV.isV];unfold zfp at hK;rw[az hl]at hK;exact Out.tup0 hs hK ⟨zdj,zaV rfl rfl,zaV rfl rfl,trivial⟩
 have gF:¬(16384:Int)<s.length:=by omega
 unfold zfp at hK;rw[au hl]at hK;simp[zve,gF];have eH:∀n,HSc (H++[.perm zfb 3 n]):=λn=>hs.append rfl;unfold znX;refine ALoop.own 5 zfb 3 rfl ?_;show znX (.str s) (.sl [] (.own H.length)) (.int .i64 0) (H++[.perm zfb 3 0]) (Out H.length K);refine zUc (Inv:=λq t5 t6 H'=>∃(i:Nat) (l:List Tk),i≤s.length∧l.length≤i∧q=s.length-i∧t6=.int .i64 i∧t5=.sl (l.map Tk.cs) (.own H.length)∧H'=H++[.perm zfb 3 l.length]∧cat l (zbQ (kwF kwds) (s.drop i) i)=zbQ (kwF kwds) s 0) s.length ?_ ?_
 ·intro _;exact⟨0,[],by omega,by simp,by omega,rfl,rfl,rfl,by simp⟩
 ·rintro q t5 t6 H' ⟨i,l,hi,fh,rfl,rfl,rfl,rfl,ho⟩ hsc ek eK Kb eq;have done:cat l (.ok [⟨6,[],s.length⟩])=zbQ (kwF kwds) s 0→znW (.str s) (.sl (l.map Tk.cs) (.own H.length)) (H++[.perm zfb 3 l.length]) (Out H.length K):=by intro ho;rw[←ho]at hK;simp[znW,zEB,zaq,zaJ,zaw,zaR,plain,AV.pd,zax,zaM,zaK,AV.isV];refine⟨by omega,?_⟩;simp[cat,Tk.cs]at hK;exact Out.tup hs hK ⟨slV,zaV rfl rfl,zaV rfl rfl,trivial⟩
  by_cases ei:i<s.length
  ·have fM:=ag ei;simp[zvf,ei];refine zHS _ _ _ ?_;have e35:((s[i].toNat:Int) == 35)=(s[i] == 35):=zcL s[i] 35;cases gV:zdG s[i] with
   |true=>rw[fM,zBp _ gV]at ho;simp[zhp];rw[zay (by omega) (by omega)];refine eq _ _ ⟨s.length-(i+1),by omega,Back.here (by simp) (eH _) ?_ ⟨_,_,rfl,i+1,l,by omega,by omega,rfl,by simp,rfl,rfl,ho⟩⟩;simp[zho,AV.sc,AV.scV,AV.scA,AV.scB]
   |false=>
    simp[e35];cases eS:(s[i] == 35) with
    |true=>
     simp;rw[fM,zBr _ gV eS]at ho;have ke:(s[i] == 10)=false:=by rw[ba]at eS;rw[eS];rfl
     obtain⟨c1,c2⟩:=zlf ke (s.drop (i+1));rw[aa,←c1,←c2,←fM]at ho;refine zUd (Inv:=λq t6 H'=>∃(j:Nat),i≤j∧j≤s.length∧q=s.length-j∧t6=.int .i64 j∧H'=H++[.perm zfb 3 l.length]∧cat l (zbQ (kwF kwds) (zeS (s.drop j)) (j+zeT (s.drop j)))=zbQ (kwF kwds) s 0) (s.length-i) ?_ ?_
     ·intro _;exact⟨i,by omega,by omega,by omega,rfl,rfl,ho⟩
     ·rintro q t6 H' ⟨j,qA,hj,rfl,rfl,rfl,ho⟩ hsc ek eK Kb9 lC;by_cases gW:j<s.length
      ·have jG:=ag gW;have e10:((s[j].toNat:Int) == 10)=(s[j] == 10):=zcL s[j] 10;simp[zvg,gW,e10];cases hz:(s[j] == 10) with
       |true=>
        obtain⟨d1,d2⟩:=zAU hz (s.drop (j+1));rw[jG,d1,d2,←jG,Nat.add_zero]at ho;have hij':i≠j:=by rintro rfl;rw[ke]at hz;cases hz
        simp[zhp];refine eq _ _ ⟨s.length-j,by omega,Back.here (by simp) (eH _) ?_ ⟨_,_,rfl,j,l,by omega,by omega,rfl,by simp,rfl,rfl,ho⟩⟩;simp[zho,AV.sc,AV.scV,AV.scA,AV.scB]
       |false=>obtain⟨d1,d2⟩:=zlf hz (s.drop (j+1));rw[jG,d1,d2,←aa]at ho;simp;rw[zay (by omega) (by omega)];refine lC _ _ ⟨s.length-(j+1),by omega,Back.here (by simp) (eH _) ?_ ⟨_,rfl,j+1,by omega,by omega,rfl,by simp,rfl,ho⟩⟩;simp[znV,AV.sc,AV.scV,AV.scA,AV.scB]
      ·obtain rfl:j=s.length:=by omega
       simp[zvg];rw[aI,skipC_nil.1,skipC_nil.2,Nat.add_zero,zsN]at ho;exact done ho
    |false=>
     simp;refine zKr s (by omega) i ei _ _ ?_;unfold zld;cases ht:tok (kwF kwds) s[i] (s.drop (i+1)) with
     |error e=>
      rw[fM,zBq _ gV eS ht]at ho;have he:(e != 0)=true:=by rcases zLM ht with rfl|rfl <;> rfl
      rw[←ho]at hK;simp[AV.known,AV.isV,he];exact zzZ hs hK
     |ok kn=>
      obtain⟨k,n⟩:=kn;rw[fM,zBs _ gV eS ht,zyi,←fM]at ho;have hn:=zsK ht;rw[←fM]at hn;simp at hn;have i5:=zsM ht;simp[Tk.cs,AV.known,zaw,zaR,plain,AV.pd,zax,zaM,zaK,zhp];refine⟨by omega,?_⟩;rw[show min n (s.length-i)=n by omega,zay (by omega) (by omega),two];refine eq _ _ ⟨s.length-(i+n),by omega,Back.same (by simp) (eH _) ?_ ⟨_,_,rfl,i+n,l++[⟨k,(s.drop i).take n,i⟩],by omega,by simp;omega,rfl,by simp,by simp[Tk.cs],by simp,?_⟩⟩
      ·simp[zho,AV.sc,AV.scV,AV.scA,AV.scB]
      ·rw[c5]at ho;exact ho
  ·obtain rfl:i=s.length:=by omega
   rw[aI,zsN]at ho;simpa[zvf]using done ho
theorem zlq(s:List UInt8)(i n:Nat):List.drop i (List.take (i+n) s)=List.take n (List.drop i s):=by rw[dz];congr 1;omega
def zhh(t0 t5 t6 t7 t8:AV)(H:zaa)(K:AV→zaa→Prop)(Kb5:List AV→zaa→Prop):Prop:=
 zac .gtr false t8 (.int .i64 24) λt118=>
 zag t118
 (zaF [.snil,t6,(.int .i64 9)] (K · H))
 (ACalls tP zgP [t7] H λt121 H=>
 zag t121
 (zft t0 t5 t6 t8 (.int .i64 2) H K Kb5)
 (zac .add false t6 t8 λt126=>
 zaN 0 0 t0 (some t6) (some t126) λt127=>
 ACalls tP zkl [t127] H λt128 H=>
 zag t128
 (zft t0 t5 t6 t8 (.int .i64 4) H K Kb5)
 (zft t0 t5 t6 t8 (.int .i64 1) H K Kb5)))
section
variable (s:List UInt8) (hl:¬s.length>16384) (i:Nat) (ei:i<s.length) (H:zaa) (l:List Tk) (fh:l.length≤i) (eH:∀n,HSc (H++[.perm zbH 3 n])) (K:AV→zaa→Prop) (Kb:List AV→zaa→Prop)
include hl ei fh eH
theorem zL3(gC:(zcc s[i] || bUp s[i])=true)(app:∀ (k:Int) (n:Nat),tok (kwF kwds) s[i] (s.drop (i+1))=.ok (k,n)→∀ t,(s.drop i).take n=t→zi1 (.str s) (.sl (l.map Tk.cs++[[.int .i64 k,.str t,.int .i64 i]]) (.own H.length)) (.int .i64 i) (.int .i64 n) (H++[.perm zbH 3 (l.length+1)]) (Out H.length K) Kb)(bad:∀ e:Int,tok (kwF kwds) s[i] (s.drop (i+1))=.error e→Out H.length K (.tup [.snil,.int .i64 i,.int .i64 e]) (H++[.perm zbH 3 l.length])):
  ztU (.str s) (.sl (l.map Tk.cs) (.own H.length)) (.int .i64 i) (.int .u8 s[i].toNat) (.int .i64 1) (H++[.perm zbH 3 l.length]) (Out H.length K) Kb:=by
 refine zPt (Inv:=λq t8 H'=>∃(j:Nat),i+j≤s.length∧0<j∧q=s.length-j∧t8=.int .i64 j∧H'=H++[.perm zbH 3 l.length]∧j+((s.drop (i+j)).takeWhile bIn).length=((s.drop (i+1)).takeWhile bIn).length+1) (s.length-1) ?_ ?_
 ·intro _;exact⟨1,by omega,by omega,by omega,rfl,rfl,by omega⟩
 ·rintro q t8 H' ⟨j,qA,kE,rfl,rfl,rfl,hn⟩ hsc ek eK Kb18 lD;have w1:IntKind.i64.wrap ((i:Int)+j)=i+j:=zay (by omega) (by omega);have w2:IntKind.i64.wrap ((j:Int)+1)=j+1:=zay (by omega) (by omega);have fin:((s.drop (i+j)).takeWhile bIn).length=0→zhh (.str s) (.sl (l.map Tk.cs) (.own H.length)) (.int .i64 i) (.int .u8 s[i].toNat) (.int .i64 j) (H++[.perm zbH 3 l.length]) (Out H.length K) Kb:=by
   intro h0;rw[h0]at hn;have ff:tok (kwF kwds) s[i] (s.drop (i+1))=if j>24 then .error 9 else .ok (if bUp s[i]=true then 2 else if kwF kwds ((s.drop i).take j)=true then 4 else 1,j):=by rw[ag ei];simp only[tok,gC,a6,←hn,Nat.add_zero]
   by_cases h24:j>24
   ·have nL:(24:Int)<j:=by omega
    rw[az h24]at ff;simp[zhh,nL,AV.isV];exact bad 9 ff
   ·have nL:¬ (24:Int)<j:=by omega
    rw[au h24]at ff;simp[zhh,nL];refine zlu _ _ _ ?_;have fin2:∀k,k=(if bUp s[i]=true then 2 else if kwF kwds ((s.drop i).take j)=true then 4 else 1:Int)→zft (.str s) (.sl (l.map Tk.cs) (.own H.length)) (.int .i64 i) (.int .i64 j) (.int .i64 k) (H++[.perm zbH 3 l.length]) (Out H.length K) Kb:=by intro k hk;rw[←hk]at ff;have:=app k j ff _ rfl;simp[zft,w1,w2,zaq,zaJ,zaw,zaR,plain,AV.pd,zax,zaM,zaK,zfu];refine⟨by omega,by omega,by omega,?_⟩;rw[show ((i:Int)+j).toNat=i+j by omega,zlq];exact this
    cases hU:bUp s[i] with
    |true=>simp;exact fin2 2 (by simp[hU])
    |false=>
     simp[w1,w2];refine⟨by omega,by omega,?_⟩;rw[show ((i:Int)+j).toNat=i+j by omega,zlq];refine zIY _ _ _ ?_;cases o8:kwF kwds ((s.drop i).take j) with
     |true=>simp;exact fin2 4 (by simp[hU,o8])
     |false=>simp;exact fin2 1 (by simp[hU,o8])
  by_cases gW:i+j<s.length
  ·have e95:((s[i+j].toNat:Int) == 95)=(s[i+j] == 95):=zcL s[i+j] 95;have fU:(i+j:Int)<s.length:=by omega
   rw[ag gW,dt]at hn fin;have key:bIn s[i+j]=true→Kb18 (zi0 (.str s) (.sl (l.map Tk.cs) (.own H.length)) (.int .i64 i) (.int .u8 s[i].toNat) (.int .i64 (j+1))) (H++[.perm zbH 3 l.length]):=by intro nM;rw[nM]at hn;simp at hn;refine lD _ _ ⟨s.length-(j+1),by omega,Back.here (by simp) (eH _) ?_ ⟨_,rfl,j+1,by omega,by omega,rfl,by simp,rfl,by rw[←aa];omega⟩⟩;simp[zi0,AV.sc,AV.scV,AV.scA,AV.scB]
   have no:bIn s[i+j]=false→zhh (.str s) (.sl (l.map Tk.cs) (.own H.length)) (.int .i64 i) (.int .u8 s[i].toNat) (.int .i64 j) (H++[.perm zbH 3 l.length]) (Out H.length K) Kb:=by intro nM;rw[nM]at fin;exact fin (by simp)
   have eA:s[((i:Int)+j).toNat]?.getD 0=s[i+j]:=by rw[show ((i:Int)+j).toNat=i+j by omega];simp[gW]
   unfold bIn at key no;simp[ztR,w1,w2,fU,eA];refine⟨by omega,?_⟩;refine zzd _ _ _ ?_;cases hL:zcc s[i+j] with
   |true=>simpa using key (by simp[hL])
   |false=>
    simp[w1,w2,fU,eA];refine⟨by omega,zlu _ _ _ ?_⟩;cases hU:bUp s[i+j] with
    |true=>simpa using key (by simp[hU])
    |false=>
     simp[w1,w2,fU,eA];refine⟨by omega,zqv _ _ _ ?_⟩;cases hD:zba s[i+j] with
     |true=>simpa using key (by simp[hD])
     |false=>
      simp[w1,w2,fU,eA,e95];refine⟨by omega,?_⟩;cases h95:(s[i+j] == 95) with
      |true=>simpa using key (by simp[h95])
      |false=>simpa[zhh,w1]using no (by simp[hL,hU,hD,h95])
  ·have fU:¬ (i+j:Int)<s.length:=by omega
   have:s.drop (i+j)=[]:=bJ (by omega);rw[this]at fin;have:=fin rfl;simp[ztR,w1,w2,fU];simpa[zhh,w1]using this
end
def zmD(t0 t5 t6 t8:AV)(H:zaa)(K:AV→zaa→Prop)(Kb5:List AV→zaa→Prop):Prop:=
 zac .add false t6 t8 λt172=>
 zaN 0 0 t0 (some t6) (some t172) λt173=>
 ACalls tP zgQ [t173] H λt174 H=>
 zaE t174 0 λt175=>
 zaE t174 1 λt176=>
 aUn .not t176 λt178=>
 zag t178
 (zaF [.snil,t6,(.int .i64 9)] (K · H))
 (zac .add false t6 t8 λt185=>
 zaN 0 0 t0 (some t6) (some t185) λt186=>
 zaq [(.int .i64 0),(.str []),(.int .i64 0)] [(0,1),(1,1),(2,1)] [(0,(.int .i64 3)),(1,t186),(2,t6)] λt188=>
 zaw 3 [(.int .i64 0),(.str []),(.int .i64 0)] 1 [(0,t188)] λt189=>
 zax zbH 3 32 t5 t189 H λt190 H=>
 zfu t0 t190 t6 t8 H K Kb5)
def zhi(t0 t5 t6 t7 t8:AV)(H:zaa)(K:AV→zaa→Prop)(Kb5:List AV→zaa→Prop):Prop:=
 zac .gtr false t8 (.int .i64 1) λt161=>
 zad t161 true H (λK'=>K' t7 H) λt163 H=>
 zad t161 true H (λK'=>zac .eql false t163 (.int .u8 48) (K' · H)) λt164 H=>
 zam t161 t164 (.bool false) λt165=>
 zag t165
 (zaF [.snil,t6,(.int .i64 2)] (K · H))
 (zac .add false t6 t8 λt172=>
 zaN 0 0 t0 (some t6) (some t172) λt173=>
 ACalls tP zgQ [t173] H λt174 H=>
 zaE t174 0 λt175=>
 zaE t174 1 λt176=>
 aUn .not t176 λt178=>
 zag t178
 (zaF [.snil,t6,(.int .i64 9)] (K · H))
 (zac .add false t6 t8 λt185=>
 zaN 0 0 t0 (some t6) (some t185) λt186=>
 zaq [(.int .i64 0),(.str []),(.int .i64 0)] [(0,1),(1,1),(2,1)] [(0,(.int .i64 3)),(1,t186),(2,t6)] λt188=>
 zaw 3 [(.int .i64 0),(.str []),(.int .i64 0)] 1 [(0,t188)] λt189=>
 zax zbH 3 32 t5 t189 H λt190 H=>
 zfu t0 t190 t6 t8 H K Kb5))
section
variable (s:List UInt8) (hl:¬s.length>16384) (i:Nat) (ei:i<s.length) (H:zaa) (l:List Tk) (fh:l.length≤i) (eH:∀n,HSc (H++[.perm zbH 3 n])) (K:AV→zaa→Prop) (Kb:List AV→zaa→Prop)
include hl ei fh eH
theorem zJp(gC:¬ (zcc s[i] || bUp s[i])=true)(hD:zba s[i]=true)(app:∀ (k:Int) (n:Nat),tok (kwF kwds) s[i] (s.drop (i+1))=.ok (k,n)→∀ t,(s.drop i).take n=t→zi1 (.str s) (.sl (l.map Tk.cs++[[.int .i64 k,.str t,.int .i64 i]]) (.own H.length)) (.int .i64 i) (.int .i64 n) (H++[.perm zbH 3 (l.length+1)]) (Out H.length K) Kb)(bad:∀ e:Int,tok (kwF kwds) s[i] (s.drop (i+1))=.error e→Out H.length K (.tup [.snil,.int .i64 i,.int .i64 e]) (H++[.perm zbH 3 l.length])):
  ztV (.str s) (.sl (l.map Tk.cs) (.own H.length)) (.int .i64 i) (.int .u8 s[i].toNat) (.int .i64 1) (H++[.perm zbH 3 l.length]) (Out H.length K) Kb:=by
 refine zPu (Inv:=λq t8 H'=>∃(j:Nat),i+j≤s.length∧0<j∧q=s.length-j∧t8=.int .i64 j∧H'=H++[.perm zbH 3 l.length]∧j+((s.drop (i+j)).takeWhile zba).length=((s.drop (i+1)).takeWhile zba).length+1) (s.length-1) ?_ ?_
 ·intro _;exact⟨1,by omega,by omega,by omega,rfl,rfl,by omega⟩
 ·rintro q t8 H' ⟨j,qA,kE,rfl,rfl,rfl,hn⟩ hsc ek eK Kb18 lD;have w1:IntKind.i64.wrap ((i:Int)+j)=i+j:=zay (by omega) (by omega);have w2:IntKind.i64.wrap ((j:Int)+1)=j+1:=zay (by omega) (by omega);have e48:((s[i].toNat:Int) == 48)=(s[i] == 48):=zcL s[i] 48;have fin:((s.drop (i+j)).takeWhile zba).length=0→zhi (.str s) (.sl (l.map Tk.cs) (.own H.length)) (.int .i64 i) (.int .u8 s[i].toNat) (.int .i64 j) (H++[.perm zbH 3 l.length]) (Out H.length K) Kb:=by
   intro h0;rw[h0]at hn;have m7:(s.drop i).take j=s[i]::(s.drop (i+1)).takeWhile zba:=by rw[ag ei,show j=((s.drop (i+1)).takeWhile zba).length+1 by omega,zlp]
   have ff:tok (kwF kwds) s[i] (s.drop (i+1))=if (s[i] == 48 && decide (j>1))=true then .error 2 else if zcv ((s.drop i).take j) 0=true then .ok (3,j) else .error 9:=by rw[ag ei];simp only[tok,gC,hD,a6,←hn,Nat.add_zero];rfl
   have jH:∀(K:AV→zaa→Prop) (H:zaa),(∀n,K (.tup [.int .i64 n,.bool (zcv ((s.drop i).take j) 0)]) H)→ACalls tP zgQ [.str ((s.drop i).take j)] H K:=by
    intro K H hK;refine zLV _ ?_ (by simp;omega) _ _ hK;intro c hc;rw[m7]at hc;rcases aP.1 hc with rfl|hc
    ·exact hD
    ·exact am.1 (List.all_takeWhile) c hc
   have rest:¬(s[i] == 48 && decide (j>1))=true→zmD (.str s) (.sl (l.map Tk.cs) (.own H.length)) (.int .i64 i) (.int .i64 j) (H++[.perm zbH 3 l.length]) (Out H.length K) Kb:=by
    intro ey;rw[au ey]at ff;simp[zmD,w1];refine⟨by omega,by omega,?_⟩;rw[show ((i:Int)+j).toNat=i+j by omega,zlq];refine jH _ _ λn=>?_;cases hv:zcv ((s.drop i).take j) 0 with
    |false=>rw[hv]at ff;simp[AV.isV];exact bad 9 ff
    |true=>rw[hv]at ff;have:=app 3 j ff _ rfl;simp[zaq,zaJ,zaw,zaR,plain,AV.pd,zax,zaM,zaK,zfu];refine⟨by omega,by omega,by omega,?_⟩;exact this
   by_cases h1:j>1
   ·have gz:(1:Int)<j:=by omega
    have hd:decide (j>1)=true:=br h1;rw[hd]at rest ff;cases hz:(s[i] == 48) with
    |true=>rw[hz]at ff;simp[zhi,gz,e48,hz,AV.isV];exact bad 2 ff
    |false=>have:=rest (by rw[hz];decide);simp[zhi,gz,e48,hz];simpa[zmD]using this
   ·have gz:¬ (1:Int)<j:=by omega
    have:=rest (by rw[bg h1];simp);simp[zhi,gz];simpa[zmD]using this
  by_cases gW:i+j<s.length
  ·have fU:(i+j:Int)<s.length:=by omega
   rw[ag gW,dt]at hn fin;have eA:s[((i:Int)+j).toNat]?.getD 0=s[i+j]:=by rw[show ((i:Int)+j).toNat=i+j by omega];simp[gW]
   simp[ztS,w1,w2,fU,eA];refine⟨by omega,?_⟩;refine zqv _ _ _ ?_;cases hb:zba s[i+j] with
   |true=>rw[hb]at hn;simp at hn;simp[w1,w2];refine lD _ _ ⟨s.length-(j+1),by omega,Back.here (by simp) (eH _) ?_ ⟨_,rfl,j+1,by omega,by omega,rfl,by simp,rfl,by rw[←aa];omega⟩⟩;simp[zmF,AV.sc,AV.scV,AV.scA,AV.scB]
   |false=>rw[hb]at fin;have:=fin (by simp);simp[w1,w2];simpa[zhi,w1]using this
  ·have fU:¬ (i+j:Int)<s.length:=by omega
   have:s.drop (i+j)=[]:=bJ (by omega);rw[this]at fin;have:=fin rfl;simp[ztS,w1,w2,fU];simpa[zhi,w1]using this
end
theorem zLq(s:List UInt8)(H:zaa)(K:AV→zaa→Prop)(hK:K (zfp s) H):ACalls tP zrm [.str s] H K:=by
 refine ACalls.out (zPz λhs=>?_);by_cases hl:s.length>16384
 ·have gF:(16384:Int)<s.length:=by omega
  simp[ztP,gF,AV.isV];unfold zfp at hK;rw[az hl]at hK;exact Out.tup0 hs hK ⟨zdj,zaV rfl rfl,zaV rfl rfl,trivial⟩
 have gF:¬(16384:Int)<s.length:=by omega
 unfold zfp at hK;rw[au hl]at hK;simp[ztP,gF];have eH:∀n,HSc (H++[.perm zbH 3 n]):=λn=>hs.append rfl;unfold zmG;refine ALoop.own 5 zbH 3 rfl ?_;show zmG (.str s) (.sl [] (.own H.length)) (.int .i64 0) (H++[.perm zbH 3 0]) (Out H.length K);refine zPv (Inv:=λq t5 t6 H'=>∃(i:Nat) (l:List Tk),i≤s.length∧l.length≤i∧q=s.length-i∧t6=.int .i64 i∧t5=.sl (l.map Tk.cs) (.own H.length)∧H'=H++[.perm zbH 3 l.length]∧cat l (zbQ (kwF kwds) (s.drop i) i)=zbQ (kwF kwds) s 0) s.length ?_ ?_
 ·intro _;exact⟨0,[],by omega,by simp,by omega,rfl,rfl,rfl,by simp⟩
 ·rintro q t5 t6 H' ⟨i,l,hi,fh,rfl,rfl,rfl,rfl,ho⟩ hsc ek eK Kb eq;by_cases ei:i<s.length
  ·have fM:=ag ei;have e9:((s[i].toNat:Int) == 9)=(s[i] == 9):=zcL s[i] 9;have e10:((s[i].toNat:Int) == 10)=(s[i] == 10):=zcL s[i] 10;have e13:((s[i].toNat:Int) == 13)=(s[i] == 13):=zcL s[i] 13;have e32:((s[i].toNat:Int) == 32)=(s[i] == 32):=zcL s[i] 32;have e35:((s[i].toNat:Int) == 35)=(s[i] == 35):=zcL s[i] 35;cases gV:zdG s[i] with
   |true=>
    rw[fM,zBp _ gV]at ho;have key:zfs (.str s) (.sl (l.map Tk.cs) (.own H.length)) (.int .i64 (IntKind.i64.wrap (i+1))) (H++[.perm zbH 3 l.length]) (Out H.length K) Kb:=by simp[zfs];rw[zay (by omega) (by omega)];refine eq _ _ ⟨s.length-(i+1),by omega,Back.here (by simp) (eH _) ?_ ⟨_,_,rfl,i+1,l,by omega,by omega,rfl,by simp,rfl,rfl,ho⟩⟩;simp[zgc,AV.sc,AV.scV,AV.scA,AV.scB]
    unfold zdG at gV;cases h9:(s[i] == 9) <;> cases ke:(s[i] == 10) <;> cases pH:(s[i] == 13) <;> cases m3:(s[i] == 32) <;> simp[h9,ke,pH,m3]at gV <;> simpa[zmC,ei,e9,e10,e13,e32,h9,ke,pH,m3]using key
   |false=>
    have nN:=gV;unfold zdG at nN;simp only[bG]at nN;obtain⟨⟨⟨h9,ke⟩,pH⟩,m3⟩:=nN;have app:∀(k:Int) (n:Nat),tok (kwF kwds) s[i] (s.drop (i+1))=.ok (k,n)→(s[i] == 35)=false→∀t,(s.drop i).take n=t→zi1 (.str s) (.sl (l.map Tk.cs++[[.int .i64 k,.str t,.int .i64 i]]) (.own H.length)) (.int .i64 i) (.int .i64 n) (H++[.perm zbH 3 (l.length+1)]) (Out H.length K) Kb:=by
     intro k n ht eS t qz;subst qz;rw[fM,zBs _ gV eS ht,zyi,←fM]at ho;have hn:=zsK ht;rw[←fM]at hn;simp at hn;have i5:=zsM ht;simp[zi1,zfs];rw[zay (by omega) (by omega)];refine eq _ _ ⟨s.length-(i+n),by omega,Back.here (by simp) (eH _) ?_ ⟨_,_,rfl,i+n,l++[⟨k,(s.drop i).take n,i⟩],by omega,by simp;omega,rfl,by simp,by simp[Tk.cs],by simp,?_⟩⟩
     ·simp[zgc,AV.sc,AV.scV,AV.scA,AV.scB]
     ·rw[c5]at ho;exact ho
    have bad:∀e:Int,tok (kwF kwds) s[i] (s.drop (i+1))=.error e→(s[i] == 35)=false→Out H.length K (.tup [.snil,.int .i64 i,.int .i64 e]) (H++[.perm zbH 3 l.length]):=by intro e ht eS;rw[fM,zBq _ gV eS ht]at ho;rw[←ho]at hK;exact zzZ hs hK
    simp[zmC,ei,e9,e10,e13,e32,e35,h9,ke,pH,m3];cases eS:(s[i] == 35) with
    |true=>
     simp;rw[fM,zBr _ gV eS]at ho;obtain⟨c1,c2⟩:=zlf ke (s.drop (i+1));rw[aa,←c1,←c2,←fM]at ho;refine zPs (Inv:=λq t6 H'=>∃(j:Nat),i≤j∧j≤s.length∧q=s.length-j∧t6=.int .i64 j∧H'=H++[.perm zbH 3 l.length]∧cat l (zbQ (kwF kwds) (zeS (s.drop j)) (j+zeT (s.drop j)))=zbQ (kwF kwds) s 0) (s.length-i) ?_ ?_
     ·intro _;exact⟨i,by omega,by omega,by omega,rfl,rfl,ho⟩
     ·rintro q t6 H' ⟨j,qA,hj,rfl,rfl,rfl,ho⟩ hsc ek eK Kb9 lC;by_cases gW:j<s.length
      ·have jG:=ag gW;have e10:((s[j].toNat:Int) != 10)=!(s[j] == 10):=by rw[←zcL s[j] 10];rfl
       simp[ztQ,gW,e10];cases hz:(s[j] == 10) with
       |true=>
        obtain⟨d1,d2⟩:=zAU hz (s.drop (j+1));rw[jG,d1,d2,←jG,Nat.add_zero]at ho;have hij':i≠j:=by rintro rfl;rw[ke]at hz;cases hz
        simp[zfs];refine eq _ _ ⟨s.length-j,by omega,Back.here (by simp) (eH _) ?_ ⟨_,_,rfl,j,l,by omega,by omega,rfl,by simp,rfl,rfl,ho⟩⟩;simp[zgc,AV.sc,AV.scV,AV.scA,AV.scB]
       |false=>obtain⟨d1,d2⟩:=zlf hz (s.drop (j+1));rw[jG,d1,d2,←aa]at ho;simp;rw[zay (by omega) (by omega)];refine lC _ _ ⟨s.length-(j+1),by omega,Back.here (by simp) (eH _) ?_ ⟨_,rfl,j+1,by omega,by omega,rfl,by simp,rfl,ho⟩⟩;simp[zmE,AV.sc,AV.scV,AV.scA,AV.scB]
      ·obtain rfl:j=s.length:=by omega
       simp[ztQ,zfs];rw[aI,skipC_nil.1,skipC_nil.2,Nat.add_zero]at ho;refine eq _ _ ⟨0,by omega,Back.here (by simp) (eH _) ?_ ⟨_,_,rfl,s.length,l,by omega,by omega,by omega,by simp,rfl,rfl,by rw[aI];exact ho⟩⟩;simp[zgc,AV.sc,AV.scV,AV.scA,AV.scB]
    |false=>
     replace app:=λk n h=>app k n h eS
     replace bad:=λe h=>bad e h eS
     simp;refine zzd _ _ _ ?_;by_cases gC:(zcc s[i] || bUp s[i])=true
     ·have hc:zcc s[i]=true∨(zcc s[i]=false∧bUp s[i]=true):=by cases hL:zcc s[i] <;> simp[hL]at gC ⊢;exact gC
      rcases hc with hL|⟨hL,hU⟩;case' inl=>simp[hL]
      case' inr=>simp[hL];refine zlu _ _ _ ?_;simp[hU]
      all_goals exact zL3 s hl i ei H l fh eH K Kb gC app bad
     ·have hL:zcc s[i]=false:=by simp at gC;exact gC.1
      have hU:bUp s[i]=false:=by simp at gC;exact gC.2
      simp[hL];refine zlu _ _ _ ?_;simp[hU];refine zqv _ _ _ ?_;cases hD:zba s[i] with
      |true=>simp;exact zJp s hl i ei H l fh eH K Kb gC hD app bad
      |false=>
       simp;refine⟨by omega,?_⟩;have ff:tok (kwF kwds) s[i] (s.drop (i+1))=if sgn (s.drop i)=0 then .error 2 else .ok (5,sgn (s.drop i)):=by simp only[tok,gC,hD,fM];rfl
       rw[fM];refine zKB _ _ _ _ ?_;rw[←fM];by_cases hz:sgn (s.drop i)=0
       ·simp[hz,AV.isV];exact bad 2 (by rw[ff,az hz])
       ·have mH:((sgn (s.drop i):Int) == 0)=false:=by simpa using hz
        have ht:=ff;rw[au hz]at ht;have hn:=zsK ht;rw[←fM]at hn;simp at hn;have:=app 5 (sgn (s.drop i)) ht _ rfl;simp[mH];rw[zay (by omega) (by omega)];simp[zaq,zaJ,zaw,zaR,plain,AV.pd,zax,zaM,zaK,zfu];refine⟨by omega,by omega,by omega,?_⟩;rw[show ((i:Int)+(sgn (s.drop i):Int)).toNat=i+sgn (s.drop i) by omega,zlq];exact this
  ·obtain rfl:i=s.length:=by omega
   rw[aI,zsN]at ho;rw[←ho]at hK;simp[zmC,zaq,zaJ,zaw,zaR,plain,AV.pd,zax,zaM,zaK,AV.isV];refine⟨by omega,?_⟩;simp[cat,Tk.cs]at hK;exact Out.tup hs hK ⟨slV,zaV rfl rfl,zaV rfl rfl,trivial⟩
section
variable (t0 t3 t4 t5 t6 t7 t93 t94 t95:AV) (H:zaa) (K:Kt) (Kb2 Kb5 Kb12 Kb18:Lt)
def zet:Nat→List Bool|5=>rl false [0,1,2,3,115]|12=>rl false [0,1,2,5,113]|18=>rl false [0,1,2,5,85,3,25]|_=>[]
noncomputable def zwa:=Tryz.f48.body.getD .skip
noncomputable def zWZ:=Tryz.f48.results.toList
def zoL:=t0::ux 2 (t3::t4::t5::ux 115 [])
def zFA:=zet 5
noncomputable def zwc:=zar [1,1,1,0,1,0,0] zwa
def zFv:=zas tP zet [1,1,1,0,1,0] zwa (zaB tP zWZ K)
def zoN:=ALoop tP zwc (zFv K) (zoL t0 t3 t4 t5) H
def zoJ:=t0::ux 2 (t3::t4::t5::t6::t7::ux 113 [])
def zFz:=zet 12
noncomputable def zwb:=zar [1,0,0,1,1,1,1,0,0] zwc
def zFu:=zas tP zet [1,0,0,1,1,1,1,0] zwc (zbC zFA Kb5 (zFv K))
def zFx:=ALoop tP zwb (zFu K Kb5) (zoJ t0 t3 t4 t5 t6 t7) H
def zoK:=t0::ux 2 (t3::t4::t5::t6::t7::ux 85 (t93::t94::t95::ux 25 []))
def zWX:=zet 18
noncomputable def zWT:=zar [1,0,0,1,1,1,0,0] zwb
def zWS:=zas tP zet [1,0,0,1,1,1,0] zwb (zbC zFz Kb12 (zFu K Kb5))
def zFy:=ALoop tP zWT (zWS K Kb5 Kb12) (zoK t0 t3 t4 t5 t6 t7 t93 t94 t95) H
def zFw(t0 t3 t4 t5 t6 t7 t93 t94 t95:AV)(H:zaa)(K:Kt)(Kb5:Lt)(Kb12:Lt)(Kb18:Lt):Prop:=zac .add false t95 (.int .i64 1) λt112=>Kb18 (zoK t0 t3 t4 t5 t6 t7 t93 t94 t112) H
def zoM:=zFw t0 t3 t4 t5 t6 t7 t93 t94 t95 H K Kb5 Kb12 Kb18
def zv9:=zac .lss false t95 t94 λt96=>zag t96 (zak 3 t93 t95 λt97=>zae true 3 t97 H λt98=>zaz [(.int .i64 0),(.int .i64 0),.snil] H λt9 H=>zan 3 t9 t98 H λH=>zae true 3 t9 H λt99=>zaf 1 t6 λt101=>zae false 1 t101 H λt102=>ACalls tP zkQ [t99,t5,t102] H λt103 H=>zag t103 (zoM t0 t3 t4 t5 t6 t7 t93 t94 t95 H K Kb5 Kb12 Kb18) (apm H t0 λt104=>apm H t5 λt105=>apu H (zaN 1 3 t104 none (some t105)) λt106=>apu H (zaj true 3 t9 H) λt107=>apu H (zaf 1 t6) λt108=>apu H (zaj false 1 t108 H) λt109=>zaC H (λH K'=>ACalls tP zkE [t106,t107,t109] H K') λt110=>apu H (aUn .not t110) λt111=>zag t111 (K (.bool false) H) (zoM t0 t3 t4 t5 t6 t7 t93 t94 t95 H K Kb5 Kb12 Kb18))) (zac .add false t7 (.int .i64 1) λt60=>Kb12 (zoJ t0 t3 t4 t5 t6 t60) H)
def zv8:=zaf 2 t6 λt55=>zae false 1 t55 H λt56=>zah 1 t56 λt57=>zac .lss false t7 t57 λt58=>zag t58 (zaf 2 t6 λt61=>zae false 1 t61 H λt62=>zak 2 t62 t7 λt64=>zaf 0 t64 λt65=>zae false 1 t65 H λt66=>ACalls tP zkP [t66] H λt67 H=>aUn .not t67 λt68=>zad t68 false H (λK'=>zaf 2 t6 (K' · H)) λt70 H=>zad t68 false H (λK'=>zae false 1 t70 H (K' · H)) λt71 H=>zad t68 false H (λK'=>K' t7 H) λt72 H=>zad t68 false H (λK'=>zak 2 t71 t72 (K' · H)) λt73 H=>zad t68 false H (λK'=>zaf 1 t73 (K' · H)) λt74 H=>zad t68 false H (λK'=>zae false 1 t74 H (K' · H)) λt75 H=>zad t68 false H (λK'=>zah 1 t75 (K' · H)) λt76 H=>zad t68 false H (λK'=>zac .gtr false t76 (.int .i64 6) (K' · H)) λt77 H=>zam t68 (.bool true) t77 λt78=>zag t78 (K (.bool false) H) (zaf 2 t6 λt80=>zae false 1 t80 H λt81=>zak 2 t81 t7 λt83=>zaf 0 t83 λt84=>zae false 1 t84 H λt85=>zaw 1 [(.str [])] 1 [(0,t85)] λt86=>zax zch 1 16 t4 t86 H λt87 H=>zaf 2 t6 λt88=>zae false 1 t88 H λt89=>zak 2 t89 t7 λt91=>zaf 1 t91 λt92=>zae false 1 t92 H λt93=>zah 1 t93 λt94=>zFy t0 t3 t87 t5 t6 t7 t93 t94 (.int .i64 0) H K Kb5 Kb12)) (zac .add false t5 (.int .i64 1) λt18=>Kb5 (zoL t0 t3 t4 t18) H)
def zgr:=zah 1 t0 λt15=>zac .lss false t5 t15 λt16=>zag t16 (zak 3 t0 t5 λt21=>zae true 3 t21 H λt22=>zaz [(.str []),(.int .i64 0),.snil] H λt6 H=>zan 3 t6 t22 H λH=>zaf 1 t6 λt23=>zae false 1 t23 H λt24=>zac .lss false t24 (.int .i64 0) λt25=>zad t25 false H (λK'=>zaf 1 t6 (K' · H)) λt27 H=>zad t25 false H (λK'=>zae false 1 t27 H (K' · H)) λt28 H=>zad t25 false H (λK'=>zac .gtr false t28 (.int .i64 6) (K' · H)) λt29 H=>zam t25 (.bool true) t29 λt30=>zad t30 false H (λK'=>zaf 2 t6 (K' · H)) λt32 H=>zad t30 false H (λK'=>zae false 1 t32 H (K' · H)) λt33 H=>zad t30 false H (λK'=>zah 1 t33 (K' · H)) λt34 H=>zad t30 false H (λK'=>zac .lss false t34 (.int .i64 1) (K' · H)) λt35 H=>zam t30 (.bool true) t35 λt36=>zad t36 false H (λK'=>zaf 2 t6 (K' · H)) λt38 H=>zad t36 false H (λK'=>zae false 1 t38 H (K' · H)) λt39 H=>zad t36 false H (λK'=>zah 1 t39 (K' · H)) λt40 H=>zad t36 false H (λK'=>zac .gtr false t40 (.int .i64 8) (K' · H)) λt41 H=>zam t36 (.bool true) t41 λt42=>zad t42 false H (λK'=>zaf 0 t6 (K' · H)) λt44 H=>zad t42 false H (λK'=>zae false 1 t44 H (K' · H)) λt45 H=>zad t42 false H (λK'=>ACalls tP zkP [t45] H K') λt46 H=>zad t42 false H (λK'=>aUn .not t46 (K' · H)) λt47 H=>zam t42 (.bool true) t47 λt48=>zag t48 (K (.bool false) H) (zaf 0 t6 λt50=>zae false 1 t50 H λt51=>zaw 1 [(.str [])] 1 [(0,t51)] λt52=>zax zch 1 16 t3 t52 H λt53 H=>zFx t0 t53 t4 t5 t6 (.int .i64 0) H K Kb5)) (ACalls tP zit [t3] H λt114 H=>aUn .not t114 λt115=>zad t115 true H (λK'=>K' t4 H) λt117 H=>zad t115 true H (λK'=>ACalls tP zit [t117] H K') λt118 H=>zad t115 true H (λK'=>aUn .not t118 (K' · H)) λt119 H=>zam t115 t119 (.bool false) λt120=>K t120 H)
def zv7:=zah 1 t0 λt11=>zac .gtr false t11 (.int .i64 12) λt12=>zag t12 (K (.bool false) H) (zoN t0 .snil .snil (.int .i64 0) H K)
def zgv:Nat→List Bool|2=>rl false [0,1,2,1,21]|5=>rl false [0,1,2,2,20]|_=>[]
noncomputable def zw6:=Tryz.f94.body.getD .skip
noncomputable def yao:=Tryz.f94.results.toList
def zpG:=t0::ux 2 (t3::ux 21 [])
def zGP:=zgv 2
noncomputable def zw7:=zar [1,0,1,0,0] zw6
def zGM:=zas tP zgv [1,0,1,0] zw6 (zaB tP yao K)
def zGN:=ALoop tP zw7 (zGM K) (zpG t0 t3) H
def zpH:=t0::ux 2 (t3::t4::ux 20 [])
def yam:=zgv 5
noncomputable def yaj:=zar [1,0,0,1,0,0] zw7
def yai:=zas tP zgv [1,0,0,1,0] zw7 (zbC zGP Kb2 (zGM K))
def zGO:=ALoop tP yaj (yai K Kb2) (zpH t0 t3 t4) H
def zw5:=zac .lss false t4 t3 λt13=>zag t13 (apm H t0 λt16=>apm H t3 λt17=>apu H (zak 1 t16 t17) λt18=>apu H (zaj false 1 t18 H) λt19=>apm H t0 λt20=>apm H t4 λt21=>apu H (zak 1 t20 t21) λt22=>apu H (zaj false 1 t22 H) λt23=>apu H (zac .eql false t19 t23) λt24=>zag t24 (K (.bool true) H) (zac .add false t4 (.int .i64 1) λt15=>Kb5 (zpH t0 t3 t15) H)) (zac .add false t3 (.int .i64 1) λt10=>Kb2 (zpG t0 t10) H)
def zw4:=zah 1 t0 λt7=>zac .lss false t3 t7 λt8=>zag t8 (zGO t0 t3 (.int .i64 0) H K Kb2) (K (.bool false) H)
def zGL:=zGN t0 (.int .i64 0) H K
variable {t0 t3 t4 t5 t6 t7 t93 t94 t95} {H} {K} {Kb2 Kb5 Kb12 Kb18}
theorem zWV:Lo1 (λt95=>zoK t0 t3 t4 t5 t6 t7 t93 t94 t95) (λt95 H Kb18=>zv9 t0 t3 t4 t5 t6 t7 t93 t94 t95 H K Kb5 Kb12 Kb18) t95 H (zFy t0 t3 t4 t5 t6 t7 t93 t94 t95 H K Kb5 Kb12):=lq1 zet zWX
theorem zWU:Lo2 (λt4 t7=>zoJ t0 t3 t4 t5 t6 t7) (λt4 t7 H Kb12=>zv8 t0 t3 t4 t5 t6 t7 H K Kb5 Kb12) t4 t7 H (zFx t0 t3 t4 t5 t6 t7 H K Kb5):=lq2 zet zFz
theorem zWW:Lo3 (λt3 t4 t5=>zoL t0 t3 t4 t5) (λt3 t4 t5 H Kb5=>zgr t0 t3 t4 t5 H K Kb5) t3 t4 t5 H (zoN t0 t3 t4 t5 H K):=lq3 zet zFA
theorem zWY(h:HSc H→zv7 t0 H K):ACalls tP zrS [t0] H K:=
 acb zet Tryz.func48 zwa h
theorem yal:Lo1 (λt4=>zpH t0 t3 t4) (λt4 H Kb5=>zw5 t0 t3 t4 H K Kb2 Kb5) t4 H (zGO t0 t3 t4 H K Kb2):=lq1 zgv yam
theorem yak:Lo1 (λt3=>zpG t0 t3) (λt3 H Kb2=>zw4 t0 t3 H K Kb2) t3 H (zGN t0 t3 H K):=lq1 zgv zGP
theorem yan(h:HSc H→zGL t0 H K):ACalls tP zit [t0] H K:=
 acb zgv Tryz.func94 zw6 h
end
end Go.Proofs.YtdmamdnkcefmmaaGreatDoor

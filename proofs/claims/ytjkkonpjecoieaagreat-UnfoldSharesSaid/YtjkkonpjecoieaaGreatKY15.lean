import Derived.Test.YtjkkonpjecoieaaGreatKTW3
import Derived.Test.YtjkkonpjecoieaaGreatKNum
import Derived.Test.YtjkkonpjecoieaaGreatProg
import Derived.KernelRfl
set_option linter.unusedSimpArgs false
set_option linter.unusedVariables false
namespace Go.Proofs.YtjkkonpjecoieaaGreat
open Go Go.Abs
set_option maxRecDepth 4000
theorem zFT (b:UInt8) (r:List UInt8) (H:zaa) (K:AV→zaa→Prop) (hK:K (.int .i64 (sgn (b::r))) H):ACalls tP zpq [.str (b::r)] H K:=by
 refine ACalls.out (zMg fun hs=>?_)
 have hO:=zcY (K:=K) (H:=H) (r:=.int .i64 (sgn (b::r))) hs rfl rfl hK
 have one:zdA (b::r)=false→zsl (.str (b::r)) (.str sgns) (.int .i64 0) H (Out H.length K):=by
  intro h2
  rw[zxC b r h2]at hO
  have hlen:sgns.length=13:=rfl
  generalize sgns=ws at *
  refine zMe (Inv:=fun q t4 H'=>∃ i:Nat,i≤ws.length∧q=ws.length-i∧t4=.int .i64 i∧(ws.drop i).contains b=ws.contains b∧H'=H) ws.length ?_ ?_
  ·intro _;exact⟨0,by omega,by omega,rfl,by simp,rfl⟩
  ·rintro q t8 H' ⟨i,hi,rfl,rfl,ho,rfl⟩ hsc _ hsF Kb hKb
   by_cases hlt:i<ws.length
   ·rw[List.drop_eq_getElem_cons hlt,List.contains_cons]at ho
    have e1:=zcz b ws[i]
    cases hz:(b == ws[i]) with
    | true=>
     rw[hz,Bool.true_or]at ho
     rw[←ho]at hO
     simpa[zlM,hlt,e1,hz]using hO
    | false=>
     rw[hz,Bool.false_or]at ho
     simp[zlM,hlt,e1,hz]
     rw[zau (by omega) (by omega)]
     refine hKb _ _ ⟨ws.length-(i+1),by omega,Back.here (Nat.le_refl _) hs ?_ ⟨_,rfl,i+1,by omega,rfl,by simp,ho,rfl⟩⟩
     simp[zlN,AV.sc,AV.scV,AV.scA,AV.scB]
   ·obtain rfl:i=ws.length:=by omega
    rw[List.drop_length]at ho
    rw[←ho]at hO
    simpa[zlM,hlt]using hO
 by_cases hl:2≤(b::r).length
 ·have hl':(2:Int)≤r.length+1:=by simp only[List.length_cons]at hl;omega
  have hl2:1≤r.length:=by simp only[List.length_cons]at hl;omega
  cases h2:zdA (b::r) with
  | true=>
   have h3:sgn (b::r)=2:=by simp[sgn,h2]
   rw[h3]at hO
   unfold zdA at h2
   simp only[List.take_succ_cons]at h2 hO
   cases e1:(b::List.take 1 r == [45,62]) with
   | true=>simpa[zgM,hl',hl2,e1]using hO
   | false=>
    cases e2:(b::List.take 1 r == [60,61]) with
    | true=>simpa[zgM,hl',hl2,e1,e2]using hO
    | false=>
     rw[e1,e2]at h2
     simp only[Bool.false_or]at h2
     simpa[zgM,hl',hl2,e1,e2,h2]using hO
  | false=>
   have ho:=one h2
   unfold sgns at ho
   unfold zdA at h2
   simp only[List.take_succ_cons]at h2
   rw[Bool.or_eq_false_iff,Bool.or_eq_false_iff]at h2
   simpa[zgM,hl',hl2,h2.1.1,h2.1.2,h2.2]using ho
 ·have ho:=one (zqp hl)
  unfold sgns at ho
  have:¬ ((2:Int)≤r.length+1):=by simp only[List.length_cons]at hl;omega
  simpa[zgM,this]using ho

def Tk.cs (t:Tk):List AV:=[.int .i64 t.kind,.str t.text,.int .i64 t.pos]
def zkc (kw:List UInt8→Bool) (b:UInt8) (r:List UInt8) (i:Nat):AV:=
 match tok kw b r with
 | .error e=>.tup [.agg [.int .i64 0,.str [],.int .i64 0],.int .i64 e]
 | .ok (k,n)=>.tup [.agg (Tk.cs ⟨k,(b::r).take n,i⟩),.int .i64 0]
theorem zkk {p:UInt8→Bool} (b:UInt8) (r:List UInt8):(b::r).take ((r.takeWhile p).length+1)=b::r.takeWhile p:=by
 rw[List.take_succ_cons]
 congr 1
 induction r with
 | nil=>simp
 | cons c r ih=>by_cases h:p c=true <;> simp[h,ih]
theorem zEt:zdY tP zhE=true:=by kernel_rfl
theorem zEu:zdY tP zft=true:=by kernel_rfl
theorem zwM {H J:zaa} {K:AV→zaa→Prop} {k p e:Int} {t:List UInt8} (hs:HSc H) (h:K (.tup [.agg [.int .i64 k,.str t,.int .i64 p],.int .i64 e]) H) :
  Out H.length K (.tup [.agg [.int .i64 k,.str t,.int .i64 p],.int .i64 e]) (H++J):=Out.tup hs h ⟨za4 rfl rfl,za4 rfl rfl,trivial⟩
def zl6 (t4 t6:AV) (H:zaa) (K:AV→zaa→Prop):Prop:=
 zaf 1 t6 fun t69=>
 zae false 1 t69 H fun t70=>
 ACalls tP zhF [t70] H fun t71 H=>
 aUn .not t71 fun t72=>
 zag t72
 (zaz [(.int .i64 0),(.str []),(.int .i64 0)] [(0,1),(1,1),(2,1)] [] fun t73=>
 zam 3 t4 t73 H fun H=>
 zae true 3 t4 H fun r0=>
 zaI [r0,(.int .i64 9)] (K · H))
 (zgQ t4 t6 H K)
theorem zFL (s:List UInt8) (hl:s.length≤1000000) (i:Nat) (hi:i<s.length) (H:zaa) (K:AV→zaa→Prop) (hK:K (zkc (kwF kwds) s[i] (s.drop (i+1)) i) H):ACalls tP zpx [.str s,.int .i64 i] H K:=by
 refine ACalls.out (zNv fun hs=>?_)
 have hdr:=List.drop_eq_getElem_cons hi
 have hrl:(s.drop i).length≤1000000:=by simp;omega
 generalize hb:s[i]=b at *
 generalize hr:s.drop (i+1)=r at *
 have hb':s[i]?.getD 0=b:=by simp[hi,hb]
 have post:∀ (k:Int) (n:Nat),tok (kwF kwds) b r=.ok (k,n)→∀ t,(b::r).take n=t→zgQ (.ptr H.length 0) (.ptr (H.length+1) 0) (H++[.cells [.int .i64 0,.str [],.int .i64 0],.cells [.int .i64 k,.str t,.int .i64 i]]) (Out H.length K):=by
  intro k n ht t hte
  subst hte
  simp[zkc,ht,Tk.cs]at hK
  simp[zgQ,zAO,AV.known,AV.isV]
  exact zwM hs hK
 have bad:∀ e:Int,tok (kwF kwds) b r=.error e→∀ J,Out H.length K (.tup [.agg [.int .i64 0,.str [],.int .i64 0],.int .i64 e]) (H++J):=by
  intro e ht J
  simp[zkc,ht]at hK
  exact zwM hs hK
 have hi':=Nat.le_of_lt hi
 by_cases hLU:(zbZ b || bUp b)=true
 ·have hin:bIn b=true:=by simp[bIn,hLU]
  simp[zsF,hi,hb,hi',zaz,zaV,AV.known]
  refine zoX b _ _ ?_
  have hc:zbZ b=true∨(zbZ b=false∧bUp b=true):=by cases hL:zbZ b <;> simp[hL]at hLU ⊢;exact hLU
  have hpost:=fun k=>post k ((r.takeWhile bIn).length+1)
  simp only[tok,hLU,if_true,zkk]at hpost
  rcases hc with hL | ⟨hL,hU⟩
  case' inl=>simp[hL]
  case' inr=>simp[hL];refine zks b _ _ ?_;simp[hU]
  all_goals
   rw[hdr]
   refine zw2 bIn zhE zEt zG7 (b::r) (by rw[←hdr];exact hrl) _ _ ?_
   simp[hin,AV.known]
   by_cases hn:(r.takeWhile bIn).length+1>24
   ·have hn':(24:Int)<(r.takeWhile bIn).length+1:=by omega
    have:=bad 9 (by simp only[tok,hLU,if_true];rw[if_pos hn])
    simp[hn',AV.known,AV.isV]
    exact this _
   ·have hn':¬ (24:Int)<(r.takeWhile bIn).length+1:=by omega
    simp[hn']
    refine zks b _ _ ?_
    rw[if_neg hn]at hpost
    cases hU:bUp b with
    | true=>
     simp[AV.known,zgP]
     exact hpost 2 (by simp[hU]) _ rfl
    | false=>
     simp[AV.known]
     refine zEr _ _ _ ?_
     cases hkw:kwF kwds (b::r.takeWhile bIn) with
     | true=>
      simp[AV.known,zgP]
      exact hpost 4 (by simp[hU,hkw]) _ rfl
     | false=>
      simp[AV.known,zgP]
      exact hpost 1 (by simp[hU,hkw]) _ rfl
 ·have hL:zbZ b=false:=by simp at hLU;exact hLU.1
  have hU:bUp b=false:=by simp at hLU;exact hLU.2
  simp[zsF,hi,hb,zaz,zaV,AV.known]
  refine zoX b _ _ ?_
  simp[hL]
  refine zks b _ _ ?_
  simp[hU]
  refine zoF b _ _ ?_
  cases hD:za3 b with
  | true=>
   simp[hi',AV.known]
   rw[hdr]
   refine zw2 za3 zft zEu zoF (b::r) (by rw[←hdr];exact hrl) _ _ ?_
   have e1:((b.toNat:Int) == 48)=(b == 48):=zcz b 48
   have htk:tok (kwF kwds) b r=if (b == 48 && decide ((r.takeWhile za3).length+1>1))=true then .error 2 else if zcg (b::r.takeWhile za3) 0=true then .ok (3,(r.takeWhile za3).length+1) else .error 9:=by
    simp only[tok,hLU,hD,if_true,zkk]
    rfl
   have hsm:∀ J,ACalls tP zhF [.str (b::r.takeWhile za3)] (H++J) fun t H'=>t=.bool (zcg (b::r.takeWhile za3) 0)∧H'=H++J:=by
    intro J
    refine zFX _ ?_ ?_ _ _ ⟨rfl,rfl⟩
    ·intro c hc
     rcases List.mem_cons.1 hc with rfl | hc
     ·exact hD
     ·exact List.all_eq_true.1 (List.all_takeWhile) c hc
    ·have h1:(r.takeWhile za3).length≤r.length:=(List.takeWhile_sublist _).length_le
     rw[hdr]at hrl
     simp at hrl ⊢
     omega
   simp[hD,AV.known,e1]
   have hpost:=post 3 ((r.takeWhile za3).length+1)
   rw[zkk]at hpost
   rw[htk]at hpost bad
   have last:∀ J,(¬ (b == 48 && decide ((r.takeWhile za3).length+1>1))=true)→J=[.cells [.int .i64 0,.str [],.int .i64 0],.cells [.int .i64 3,.str (b::r.takeWhile za3),.int .i64 i]]→zl6 (.ptr H.length 0) (.ptr (H.length+1) 0) (H++J) (Out H.length K):=by
    rintro J hne rfl
    rw[if_neg hne]at hpost bad
    simp[zl6]
    refine (hsm _).mono ?_
    rintro _ _ ⟨rfl,rfl⟩
    cases hv:zcg (b::r.takeWhile za3) 0 with
    | true=>
     simp
     exact hpost (by simp[hv]) _ rfl
    | false=>
     simp[AV.known,zaz,zaV,AV.isV]
     exact bad 9 (by simp[hv]) _
   cases hz:(b == 48) with
   | true=>
    simp[hz]
    by_cases hn:1<(r.takeWhile za3).length+1
    ·have hn':(1:Int)<(r.takeWhile za3).length+1:=by omega
     have hd:decide ((r.takeWhile za3).length+1>1)=true:=decide_eq_true hn
     have:=bad 2 (by rw[hz,hd];rfl)
     simp[hn',AV.known,AV.isV]
     exact this _
    ·have hn':¬ (1:Int)<(r.takeWhile za3).length+1:=by omega
     have hd:decide ((r.takeWhile za3).length+1>1)=false:=decide_eq_false hn
     have:=last _ (by rw[hz,hd];decide) rfl
     simp[zl6,zaz,zaV]at this
     simp[hn']
     exact this
   | false=>
    have:=last _ (by simp[hz]) rfl
    simp[zl6,zaz,zaV]at this
    simp[hz]
    exact this
  | false=>
   simp[hi',AV.known]
   rw[hdr]
   refine zFU b r _ _ ?_
   simp[AV.known]
   have htk:tok (kwF kwds) b r=if sgn (b::r)=0 then .error 2 else .ok (5,sgn (b::r)):=by
    simp only[tok,hLU,hD]
    rfl
   by_cases hz:sgn (b::r)=0
   ·have:=bad 2 (by rw[htk,if_pos hz])
    simp[hz,AV.isV]
    exact this _
   ·have:=post 5 (sgn (b::r)) (by rw[htk,if_neg hz]) _ rfl
    have he:(List.take (sgn (b::r)) (b::r)).isEmpty=false:=by
     cases h:sgn (b::r) with
     | zero=>exact absurd h hz
     | succ n=>simp
    simp[he]
    exact this
def cat (l:List Tk):Except (Nat × Int) (List Tk)→Except (Nat × Int) (List Tk)
 | .error e=>.error e
 | .ok m=>.ok (l++m)
theorem zvn (l m:List Tk) (r:Except (Nat × Int) (List Tk)):cat l (cat m r)=cat (l++m) r:=by cases r <;> simp[cat]
@[simp] theorem zWB (r:Except (Nat × Int) (List Tk)):cat [] r=r:=by cases r <;> rfl
def zep (r:List UInt8):List UInt8:=r.dropWhile (· != 10)
def zeq (r:List UInt8):Nat:=(r.takeWhile (· != 10)).length
section
variable (kw:List UInt8→Bool)
theorem zqG (p:Nat):zbB kw [] p=.ok [⟨6,[],p⟩]:=by unfold zbB;rfl
theorem zx5 {b:UInt8} (h:zds b=true) (r:List UInt8) (p:Nat):zbB kw (b::r) p=zbB kw r (p+1):=by
 conv=>lhs;unfold zbB
 simp[h]
theorem zx7 {b:UInt8} (h0:zds b=false) (h:(b == 35)=true) (r:List UInt8) (p:Nat):zbB kw (b::r) p=zbB kw (zep r) (p+1+zeq r):=by
 conv=>lhs;unfold zbB
 simp only[h0,h,Bool.false_eq_true,if_false,if_true]
 rfl
theorem zx6 {b:UInt8} (h0:zds b=false) (h:(b == 35)=false) {r:List UInt8} {p:Nat} {e:Int} (ht:tok kw b r=.error e):zbB kw (b::r) p=.error (p,e):=by
 conv=>lhs;unfold zbB
 simp only[h0,h,Bool.false_eq_true,if_false,ht]
theorem zx8 {b:UInt8} (h0:zds b=false) (h:(b == 35)=false) {r:List UInt8} {p:Nat} {k:Int} {n:Nat} (ht:tok kw b r=.ok (k,n)) :
  zbB kw (b::r) p=cat [⟨k,(b::r).take n,p⟩] (zbB kw ((b::r).drop n) (p+n)):=by
 conv=>lhs;unfold zbB
 have hn:=zqF ht
 obtain⟨m,rfl⟩:∃ m,n=m+1:=⟨n-1,by omega⟩
 simp only[h0,h,Bool.false_eq_true,if_false,ht,Nat.add_sub_cancel,List.drop_succ_cons]
 cases zbB kw (r.drop m) (p+(m+1)) <;> rfl
end
theorem zkf {b:UInt8} (h:(b == 10)=false) (r:List UInt8):zep (b::r)=zep r∧zeq (b::r)=1+zeq r:=by
 have hb:b≠10:=by simpa using h
 constructor
 ·simp[zep,hb]
 ·simp[zeq,hb];omega
theorem zxE {b:UInt8} (h:(b == 10)=true) (r:List UInt8):zep (b::r)=b::r∧zeq (b::r)=0:=by
 have hb:b=10:=by simpa using h
 constructor
 ·simp[zep,hb]
 ·simp[zeq,hb]
theorem skipC_nil:zep []=[]∧zeq []=0:=⟨rfl,rfl⟩
theorem zqE {kw:List UInt8→Bool} {b:UInt8} {r:List UInt8} {k:Int} {n:Nat} (h:tok kw b r=.ok (k,n)):n≤(b::r).length:=by
 have tw:∀ p:UInt8→Bool,(r.takeWhile p).length≤r.length:=fun p=>(List.takeWhile_sublist _).length_le
 unfold tok at h
 split at h
 ·simp only at h;split at h <;> simp at h;have:=tw bIn;simp;omega
 ·split at h
  ·simp only at h;split at h
   ·simp at h
   ·split at h <;> simp at h;have:=tw za3;simp;omega
  ·simp only at h
   split at h <;> simp at h
   obtain⟨_,rfl⟩:=h
   unfold sgn
   split
   ·rename_i h2
    by_cases hl:2≤(b::r).length
    ·exact hl
    ·rw[zqp hl]at h2;cases h2
   ·split
    ·simp
    ·split <;> simp
theorem zGQ {kw:List UInt8→Bool} {b:UInt8} {r:List UInt8} {e:Int} (h:tok kw b r=.error e):e=2∨e=9:=by
 unfold tok at h
 split at h
 ·simp only at h;split at h <;> simp at h;omega
 ·split at h
  ·simp only at h;split at h
   ·simp at h;omega
   ·split at h <;> simp at h;omega
  ·simp only at h
   split at h <;> simp at h;omega
def zeW (s:List UInt8):AV:=
 if s.length>16384 then .tup [.sl [] .none,.int .i64 0,.int .i64 9] else
 match zbB (kwF kwds) s 0 with
 | .error (p,e)=>.tup [.sl [] .none,.int .i64 p,.int .i64 e]
 | .ok l=>.tup [.sl (l.map Tk.cs) .none,.int .i64 0,.int .i64 0]
theorem two {H:zaa} {x y:AB}:H++[x,y]=(H++[x])++[y]:=by simp
theorem zwL {H J:zaa} {K:AV→zaa→Prop} {p e:Int} (hs:HSc H) (hK:K (.tup [.sl [] .none,.int .i64 p,.int .i64 e]) H):Out H.length K (.tup [.snil,.int .i64 p,.int .i64 e]) (H++J):=
 Out.tup hs hK ⟨zer,za4 rfl rfl,za4 rfl rfl,trivial⟩
theorem zGx (s:List UInt8) (H:zaa) (K:AV→zaa→Prop) (hK:K (zeW s) H):ACalls tP zpu [.str s] H K:=by
 refine ACalls.out (zNb fun hs=>?_)
 by_cases hl:s.length>16384
 ·have hl':(16384:Int)<s.length:=by omega
  simp[zsy,hl',AV.isV]
  unfold zeW at hK
  rw[if_pos hl]at hK
  exact Out.tup0 hs hK ⟨zer,za4 rfl rfl,za4 rfl rfl,trivial⟩
 have hl':¬ (16384:Int)<s.length:=by omega
 unfold zeW at hK
 rw[if_neg hl]at hK
 simp[zsy,hl']
 have hperm:∀ n,HSc (H++[.perm zeG 3 n]):=fun n=>hs.append rfl
 unfold zl3
 refine ALoop.own 5 zeG 3 rfl ?_
 show zl3 (.str s) (.sl [] (.own H.length)) (.int .i64 0) (H++[.perm zeG 3 0]) (Out H.length K)
 refine zM8 (Inv:=fun q t5 t6 H'=>∃ (i:Nat) (l:List Tk),i≤s.length∧l.length≤i∧q=s.length-i∧t6=.int .i64 i∧t5=.sl (l.map Tk.cs) (.own H.length)∧H'=H++[.perm zeG 3 l.length]∧cat l (zbB (kwF kwds) (s.drop i) i)=zbB (kwF kwds) s 0) s.length ?_ ?_
 ·intro _;exact⟨0,[],by omega,by simp,by omega,rfl,rfl,rfl,by simp⟩
 ·rintro q t5 t6 H' ⟨i,l,hi,hll,rfl,rfl,rfl,rfl,ho⟩ hsc hlen hsF Kb hKb
  have done:cat l (.ok [⟨6,[],s.length⟩])=zbB (kwF kwds) s 0→zl2 (.str s) (.sl (l.map Tk.cs) (.own H.length)) (H++[.perm zeG 3 l.length]) (Out H.length K):=by
   intro ho
   rw[←ho]at hK
   simp[zl2,zAH,zaz,zaV,zaB,zbf,zaF,AV.pd,zax,zaY,zaM,AV.isV]
   refine⟨by omega,?_⟩
   simp[cat,Tk.cs]at hK
   exact Out.tup hs hK ⟨slV,za4 rfl rfl,za4 rfl rfl,trivial⟩
  by_cases hlt:i<s.length
  ·have hdr:=List.drop_eq_getElem_cons hlt
   simp[zsz,hlt]
   refine zDA _ _ _ ?_
   have e35:((s[i].toNat:Int) == 35)=(s[i] == 35):=zcz s[i] 35
   cases hbl:zds s[i] with
   | true=>
    rw[hdr,zx5 _ hbl]at ho
    simp[zgO]
    rw[zau (by omega) (by omega)]
    refine hKb _ _ ⟨s.length-(i+1),by omega,Back.here (by simp) (hperm _) ?_ ⟨_,_,rfl,i+1,l,by omega,by omega,rfl,by simp,rfl,rfl,ho⟩⟩
    simp[zgN,AV.sc,AV.scV,AV.scA,AV.scB]
   | false=>
    simp[e35]
    cases hsh:(s[i] == 35) with
    | true=>
     simp
     rw[hdr,zx7 _ hbl hsh]at ho
     have h10:(s[i] == 10)=false:=by
      rw[beq_iff_eq]at hsh;rw[hsh];rfl
     obtain⟨c1,c2⟩:=zkf h10 (s.drop (i+1))
     rw[Nat.add_assoc,←c1,←c2,←hdr]at ho
     refine zM9 (Inv:=fun q t6 H'=>∃ (j:Nat),i≤j∧j≤s.length∧q=s.length-j∧t6=.int .i64 j∧H'=H++[.perm zeG 3 l.length]∧cat l (zbB (kwF kwds) (zep (s.drop j)) (j+zeq (s.drop j)))=zbB (kwF kwds) s 0) (s.length-i) ?_ ?_
     ·intro _;exact⟨i,by omega,by omega,by omega,rfl,rfl,ho⟩
     ·rintro q t6 H' ⟨j,hij,hj,rfl,rfl,rfl,ho⟩ hsc hlen hsF Kb9 hKb9
      by_cases hjlt:j<s.length
      ·have hdrj:=List.drop_eq_getElem_cons hjlt
       have e10:((s[j].toNat:Int) == 10)=(s[j] == 10):=zcz s[j] 10
       simp[zsA,hjlt,e10]
       cases hz:(s[j] == 10) with
       | true=>
        obtain⟨d1,d2⟩:=zxE hz (s.drop (j+1))
        rw[hdrj,d1,d2,←hdrj,Nat.add_zero]at ho
        have hij':i≠j:=by rintro rfl;rw[h10]at hz;cases hz
        simp[zgO]
        refine hKb _ _ ⟨s.length-j,by omega,Back.here (by simp) (hperm _) ?_ ⟨_,_,rfl,j,l,by omega,by omega,rfl,by simp,rfl,rfl,ho⟩⟩
        simp[zgN,AV.sc,AV.scV,AV.scA,AV.scB]
       | false=>
        obtain⟨d1,d2⟩:=zkf hz (s.drop (j+1))
        rw[hdrj,d1,d2,←Nat.add_assoc]at ho
        simp
        rw[zau (by omega) (by omega)]
        refine hKb9 _ _ ⟨s.length-(j+1),by omega,Back.here (by simp) (hperm _) ?_ ⟨_,rfl,j+1,by omega,by omega,rfl,by simp,rfl,ho⟩⟩
        simp[zl1,AV.sc,AV.scV,AV.scA,AV.scB]
      ·obtain rfl:j=s.length:=by omega
       simp[zsA]
       rw[List.drop_length,skipC_nil.1,skipC_nil.2,Nat.add_zero,zqG]at ho
       exact done ho
    | false=>
     simp
     refine zFL s (by omega) i hlt _ _ ?_
     unfold zkc
     cases ht:tok (kwF kwds) s[i] (s.drop (i+1)) with
     | error e=>
      rw[hdr,zx6 _ hbl hsh ht]at ho
      have he:(e != 0)=true:=by rcases zGQ ht with rfl | rfl <;> rfl
      rw[←ho]at hK
      simp[AV.known,AV.isV,he]
      exact zwL hs hK
     | ok kn=>
      obtain⟨k,n⟩:=kn
      rw[hdr,zx8 _ hbl hsh ht,zvn,←hdr]at ho
      have hn:=zqE ht
      rw[←hdr]at hn
      simp at hn
      have hn0:=zqF ht
      simp[Tk.cs,AV.known,zaB,zbf,zaF,AV.pd,zax,zaY,zaM,zgO]
      refine⟨by omega,?_⟩
      rw[show min n (s.length-i)=n by omega,zau (by omega) (by omega),two]
      refine hKb _ _ ⟨s.length-(i+n),by omega,Back.same (by simp) (hperm _) ?_ ⟨_,_,rfl,i+n,l++[⟨k,(s.drop i).take n,i⟩],by omega,by simp;omega,rfl,by simp,by simp[Tk.cs],by simp,?_⟩⟩
      ·simp[zgN,AV.sc,AV.scV,AV.scA,AV.scB]
      ·rw[List.drop_drop]at ho;exact ho
  ·obtain rfl:i=s.length:=by omega
   rw[List.drop_length,zqG]at ho
   simpa[zsz]using done ho
end Go.Proofs.YtjkkonpjecoieaaGreat
namespace Go.Proofs.YtjkkonpjecoieaaGreat
open Go Go.Abs
set_option maxRecDepth 4000
set_option maxRecDepth 4000
theorem zkl (s:List UInt8) (i n:Nat):List.drop i (List.take (i+n) s)=List.take n (List.drop i s):=by
 rw[List.drop_take];congr 1;omega
def zgJ (t0 t5 t6 t7 t8:AV) (H:zaa) (K:AV→zaa→Prop) (Kb5:List AV→zaa→Prop):Prop:=
 zac .gtr false t8 (.int .i64 24) fun t118=>
 zag t118
 (zaI [.snil,t6,(.int .i64 9)] (K · H))
 (ACalls tP zgl [t7] H fun t121 H=>
 zag t121
 (ze1 t0 t5 t6 t8 (.int .i64 2) H K Kb5)
 (zac .add false t6 t8 fun t126=>
 zaJ 0 0 t0 (some t6) (some t126) fun t127=>
 ACalls tP zjp [t127] H fun t128 H=>
 zag t128
 (ze1 t0 t5 t6 t8 (.int .i64 4) H K Kb5)
 (ze1 t0 t5 t6 t8 (.int .i64 1) H K Kb5)))
section
variable (s:List UInt8) (hl:¬ s.length>16384) (i:Nat) (hlt:i<s.length) (H:zaa) (l:List Tk) (hll:l.length≤i) (hperm:∀ n,HSc (H++[.perm zbu 3 n])) (K:AV→zaa→Prop) (Kb:List AV→zaa→Prop)
include hl hlt hll hperm
theorem zG9 (hLU:(zbZ s[i] || bUp s[i])=true)
  (app:∀ (k:Int) (n:Nat),tok (kwF kwds) s[i] (s.drop (i+1))=.ok (k,n)→∀ t,(s.drop i).take n=t→zih (.str s) (.sl (l.map Tk.cs++[[.int .i64 k,.str t,.int .i64 i]]) (.own H.length)) (.int .i64 i) (.int .i64 n) (H++[.perm zbu 3 (l.length+1)]) (Out H.length K) Kb)
  (bad:∀ e:Int,tok (kwF kwds) s[i] (s.drop (i+1))=.error e→Out H.length K (.tup [.snil,.int .i64 i,.int .i64 e]) (H++[.perm zbu 3 l.length])) :
  zrr (.str s) (.sl (l.map Tk.cs) (.own H.length)) (.int .i64 i) (.int .u8 s[i].toNat) (.int .i64 1) (H++[.perm zbu 3 l.length]) (Out H.length K) Kb:=by
 refine zI1 (Inv:=fun q t8 H'=>∃ (j:Nat),i+j≤s.length∧0<j∧q=s.length-j∧t8=.int .i64 j∧H'=H++[.perm zbu 3 l.length]∧j+((s.drop (i+j)).takeWhile bIn).length=((s.drop (i+1)).takeWhile bIn).length+1) (s.length-1) ?_ ?_
 ·intro _;exact⟨1,by omega,by omega,by omega,rfl,rfl,by omega⟩
 ·rintro q t8 H' ⟨j,hij,hj0,rfl,rfl,rfl,hn⟩ hsc hlen hsF Kb18 hKb18
  have w1:IntKind.i64.wrap ((i:Int)+j)=i+j:=zau (by omega) (by omega)
  have w2:IntKind.i64.wrap ((j:Int)+1)=j+1:=zau (by omega) (by omega)
  have fin:((s.drop (i+j)).takeWhile bIn).length=0→zgJ (.str s) (.sl (l.map Tk.cs) (.own H.length)) (.int .i64 i) (.int .u8 s[i].toNat) (.int .i64 j) (H++[.perm zbu 3 l.length]) (Out H.length K) Kb:=by
   intro h0
   rw[h0]at hn
   have htk:tok (kwF kwds) s[i] (s.drop (i+1))=if j>24 then .error 9 else .ok (if bUp s[i]=true then 2 else if kwF kwds ((s.drop i).take j)=true then 4 else 1,j):=by
    rw[List.drop_eq_getElem_cons hlt]
    simp only[tok,hLU,if_true,←hn,Nat.add_zero]
   by_cases h24:j>24
   ·have h24':(24:Int)<j:=by omega
    rw[if_pos h24]at htk
    simp[zgJ,h24',AV.isV]
    exact bad 9 htk
   ·have h24':¬ (24:Int)<j:=by omega
    rw[if_neg h24]at htk
    simp[zgJ,h24']
    refine zkr _ _ _ ?_
    have fin2:∀ k,k=(if bUp s[i]=true then 2 else if kwF kwds ((s.drop i).take j)=true then 4 else 1:Int)→ze1 (.str s) (.sl (l.map Tk.cs) (.own H.length)) (.int .i64 i) (.int .i64 j) (.int .i64 k) (H++[.perm zbu 3 l.length]) (Out H.length K) Kb:=by
     intro k hk
     rw[←hk]at htk
     have:=app k j htk _ rfl
     simp[ze1,w1,w2,zaz,zaV,zaB,zbf,zaF,AV.pd,zax,zaY,zaM,ze2]
     refine⟨by omega,by omega,by omega,?_⟩
     rw[show ((i:Int)+j).toNat=i+j by omega,zkl]
     exact this
    cases hU:bUp s[i] with
    | true=>simp;exact fin2 2 (by simp[hU])
    | false=>
     simp[w1,w2]
     refine⟨by omega,by omega,?_⟩
     rw[show ((i:Int)+j).toNat=i+j by omega,zkl]
     refine zEs _ _ _ ?_
     cases hkw:kwF kwds ((s.drop i).take j) with
     | true=>simp;exact fin2 4 (by simp[hU,hkw])
     | false=>simp;exact fin2 1 (by simp[hU,hkw])
  by_cases hjlt:i+j<s.length
  ·have e95:((s[i+j].toNat:Int) == 95)=(s[i+j] == 95):=zcz s[i+j] 95
   have hjlt':(i+j:Int)<s.length:=by omega
   rw[List.drop_eq_getElem_cons hjlt,List.takeWhile_cons]at hn fin
   have key:bIn s[i+j]=true→Kb18 (zig (.str s) (.sl (l.map Tk.cs) (.own H.length)) (.int .i64 i) (.int .u8 s[i].toNat) (.int .i64 (j+1))) (H++[.perm zbu 3 l.length]):=by
    intro hbin
    rw[hbin]at hn
    simp at hn
    refine hKb18 _ _ ⟨s.length-(j+1),by omega,Back.here (by simp) (hperm _) ?_ ⟨_,rfl,j+1,by omega,by omega,rfl,by simp,rfl,by rw[←Nat.add_assoc];omega⟩⟩
    simp[zig,AV.sc,AV.scV,AV.scA,AV.scB]
   have no:bIn s[i+j]=false→zgJ (.str s) (.sl (l.map Tk.cs) (.own H.length)) (.int .i64 i) (.int .u8 s[i].toNat) (.int .i64 j) (H++[.perm zbu 3 l.length]) (Out H.length K) Kb:=by
    intro hbin
    rw[hbin]at fin
    exact fin (by simp)
   have hget:s[((i:Int)+j).toNat]?.getD 0=s[i+j]:=by
    rw[show ((i:Int)+j).toNat=i+j by omega]
    simp[hjlt]
   unfold bIn at key no
   simp[zro,w1,w2,hjlt',hget]
   refine⟨by omega,?_⟩
   refine zwg _ _ _ ?_
   cases hL:zbZ s[i+j] with
   | true=>simpa using key (by simp[hL])
   | false=>
    simp[w1,w2,hjlt',hget]
    refine⟨by omega,zkr _ _ _ ?_⟩
    cases hU:bUp s[i+j] with
    | true=>simpa using key (by simp[hU])
    | false=>
     simp[w1,w2,hjlt',hget]
     refine⟨by omega,zoE _ _ _ ?_⟩
     cases hD:za3 s[i+j] with
     | true=>simpa using key (by simp[hD])
     | false=>
      simp[w1,w2,hjlt',hget,e95]
      refine⟨by omega,?_⟩
      cases h95:(s[i+j] == 95) with
      | true=>simpa using key (by simp[h95])
      | false=>simpa[zgJ,w1]using no (by simp[hL,hU,hD,h95])
  ·have hjlt':¬ (i+j:Int)<s.length:=by omega
   have:s.drop (i+j)=[]:=List.drop_eq_nil_of_le (by omega)
   rw[this]at fin
   have:=fin rfl
   simp[zro,w1,w2,hjlt']
   simpa[zgJ,w1]using this
end
def zk1 (t0 t5 t6 t8:AV) (H:zaa) (K:AV→zaa→Prop) (Kb5:List AV→zaa→Prop):Prop:=
 zac .add false t6 t8 fun t172=>
 zaJ 0 0 t0 (some t6) (some t172) fun t173=>
 ACalls tP zgm [t173] H fun t174 H=>
 zay t174 0 fun t175=>
 zay t174 1 fun t176=>
 aUn .not t176 fun t178=>
 zag t178
 (zaI [.snil,t6,(.int .i64 9)] (K · H))
 (zac .add false t6 t8 fun t185=>
 zaJ 0 0 t0 (some t6) (some t185) fun t186=>
 zaz [(.int .i64 0),(.str []),(.int .i64 0)] [(0,1),(1,1),(2,1)] [(0,(.int .i64 3)),(1,t186),(2,t6)] fun t188=>
 zaB 3 [(.int .i64 0),(.str []),(.int .i64 0)] 1 [(0,t188)] fun t189=>
 zax zbu 3 32 t5 t189 H fun t190 H=>
 ze2 t0 t190 t6 t8 H K Kb5)
def zgK (t0 t5 t6 t7 t8:AV) (H:zaa) (K:AV→zaa→Prop) (Kb5:List AV→zaa→Prop):Prop:=
 zac .gtr false t8 (.int .i64 1) fun t161=>
 zab t161 true H (fun K'=>K' t7 H) fun t163 H=>
 zab t161 true H (fun K'=>zac .eql false t163 (.int .u8 48) (K' · H)) fun t164 H=>
 zaj t161 t164 (.bool false) fun t165=>
 zag t165
 (zaI [.snil,t6,(.int .i64 2)] (K · H))
 (zac .add false t6 t8 fun t172=>
 zaJ 0 0 t0 (some t6) (some t172) fun t173=>
 ACalls tP zgm [t173] H fun t174 H=>
 zay t174 0 fun t175=>
 zay t174 1 fun t176=>
 aUn .not t176 fun t178=>
 zag t178
 (zaI [.snil,t6,(.int .i64 9)] (K · H))
 (zac .add false t6 t8 fun t185=>
 zaJ 0 0 t0 (some t6) (some t185) fun t186=>
 zaz [(.int .i64 0),(.str []),(.int .i64 0)] [(0,1),(1,1),(2,1)] [(0,(.int .i64 3)),(1,t186),(2,t6)] fun t188=>
 zaB 3 [(.int .i64 0),(.str []),(.int .i64 0)] 1 [(0,t188)] fun t189=>
 zax zbu 3 32 t5 t189 H fun t190 H=>
 ze2 t0 t190 t6 t8 H K Kb5))
section
variable (s:List UInt8) (hl:¬ s.length>16384) (i:Nat) (hlt:i<s.length) (H:zaa) (l:List Tk) (hll:l.length≤i) (hperm:∀ n,HSc (H++[.perm zbu 3 n])) (K:AV→zaa→Prop) (Kb:List AV→zaa→Prop)
include hl hlt hll hperm
theorem zEN (hLU:¬ (zbZ s[i] || bUp s[i])=true) (hD:za3 s[i]=true)
  (app:∀ (k:Int) (n:Nat),tok (kwF kwds) s[i] (s.drop (i+1))=.ok (k,n)→∀ t,(s.drop i).take n=t→zih (.str s) (.sl (l.map Tk.cs++[[.int .i64 k,.str t,.int .i64 i]]) (.own H.length)) (.int .i64 i) (.int .i64 n) (H++[.perm zbu 3 (l.length+1)]) (Out H.length K) Kb)
  (bad:∀ e:Int,tok (kwF kwds) s[i] (s.drop (i+1))=.error e→Out H.length K (.tup [.snil,.int .i64 i,.int .i64 e]) (H++[.perm zbu 3 l.length])) :
  zrs (.str s) (.sl (l.map Tk.cs) (.own H.length)) (.int .i64 i) (.int .u8 s[i].toNat) (.int .i64 1) (H++[.perm zbu 3 l.length]) (Out H.length K) Kb:=by
 refine zI2 (Inv:=fun q t8 H'=>∃ (j:Nat),i+j≤s.length∧0<j∧q=s.length-j∧t8=.int .i64 j∧H'=H++[.perm zbu 3 l.length]∧j+((s.drop (i+j)).takeWhile za3).length=((s.drop (i+1)).takeWhile za3).length+1) (s.length-1) ?_ ?_
 ·intro _;exact⟨1,by omega,by omega,by omega,rfl,rfl,by omega⟩
 ·rintro q t8 H' ⟨j,hij,hj0,rfl,rfl,rfl,hn⟩ hsc hlen hsF Kb18 hKb18
  have w1:IntKind.i64.wrap ((i:Int)+j)=i+j:=zau (by omega) (by omega)
  have w2:IntKind.i64.wrap ((j:Int)+1)=j+1:=zau (by omega) (by omega)
  have e48:((s[i].toNat:Int) == 48)=(s[i] == 48):=zcz s[i] 48
  have fin:((s.drop (i+j)).takeWhile za3).length=0→zgK (.str s) (.sl (l.map Tk.cs) (.own H.length)) (.int .i64 i) (.int .u8 s[i].toNat) (.int .i64 j) (H++[.perm zbu 3 l.length]) (Out H.length K) Kb:=by
   intro h0
   rw[h0]at hn
   have hdj:(s.drop i).take j=s[i]::(s.drop (i+1)).takeWhile za3:=by
    rw[List.drop_eq_getElem_cons hlt,show j=((s.drop (i+1)).takeWhile za3).length+1 by omega,zkk]
   have htk:tok (kwF kwds) s[i] (s.drop (i+1))=if (s[i] == 48 && decide (j>1))=true then .error 2 else if zcg ((s.drop i).take j) 0=true then .ok (3,j) else .error 9:=by
    rw[List.drop_eq_getElem_cons hlt]
    simp only[tok,hLU,hD,if_true,←hn,Nat.add_zero]
    rfl
   have hval:∀ (K:AV→zaa→Prop) (H:zaa),(∀ n,K (.tup [.int .i64 n,.bool (zcg ((s.drop i).take j) 0)]) H)→ACalls tP zgm [.str ((s.drop i).take j)] H K:=by
    intro K H hK
    refine zG4 _ ?_ (by simp;omega) _ _ hK
    intro c hc
    rw[hdj]at hc
    rcases List.mem_cons.1 hc with rfl | hc
    ·exact hD
    ·exact List.all_eq_true.1 (List.all_takeWhile) c hc
   have rest:¬ (s[i] == 48 && decide (j>1))=true→zk1 (.str s) (.sl (l.map Tk.cs) (.own H.length)) (.int .i64 i) (.int .i64 j) (H++[.perm zbu 3 l.length]) (Out H.length K) Kb:=by
    intro hne
    rw[if_neg hne]at htk
    simp[zk1,w1]
    refine⟨by omega,by omega,?_⟩
    rw[show ((i:Int)+j).toNat=i+j by omega,zkl]
    refine hval _ _ fun n=>?_
    cases hv:zcg ((s.drop i).take j) 0 with
    | false=>
     rw[hv]at htk
     simp[AV.isV]
     exact bad 9 htk
    | true=>
     rw[hv]at htk
     have:=app 3 j htk _ rfl
     simp[zaz,zaV,zaB,zbf,zaF,AV.pd,zax,zaY,zaM,ze2]
     refine⟨by omega,by omega,by omega,?_⟩
     exact this
   by_cases h1:j>1
   ·have h1':(1:Int)<j:=by omega
    have hd:decide (j>1)=true:=decide_eq_true h1
    rw[hd]at rest htk
    cases hz:(s[i] == 48) with
    | true=>
     rw[hz]at htk
     simp[zgK,h1',e48,hz,AV.isV]
     exact bad 2 htk
    | false=>
     have:=rest (by rw[hz];decide)
     simp[zgK,h1',e48,hz]
     simpa[zk1]using this
   ·have h1':¬ (1:Int)<j:=by omega
    have:=rest (by rw[decide_eq_false h1];simp)
    simp[zgK,h1']
    simpa[zk1]using this
  by_cases hjlt:i+j<s.length
  ·have hjlt':(i+j:Int)<s.length:=by omega
   rw[List.drop_eq_getElem_cons hjlt,List.takeWhile_cons]at hn fin
   have hget:s[((i:Int)+j).toNat]?.getD 0=s[i+j]:=by
    rw[show ((i:Int)+j).toNat=i+j by omega]
    simp[hjlt]
   simp[zrp,w1,w2,hjlt',hget]
   refine⟨by omega,?_⟩
   refine zoE _ _ _ ?_
   cases hb:za3 s[i+j] with
   | true=>
    rw[hb]at hn
    simp at hn
    simp[w1,w2]
    refine hKb18 _ _ ⟨s.length-(j+1),by omega,Back.here (by simp) (hperm _) ?_ ⟨_,rfl,j+1,by omega,by omega,rfl,by simp,rfl,by rw[←Nat.add_assoc];omega⟩⟩
    simp[zk3,AV.sc,AV.scV,AV.scA,AV.scB]
   | false=>
    rw[hb]at fin
    have:=fin (by simp)
    simp[w1,w2]
    simpa[zgK,w1]using this
  ·have hjlt':¬ (i+j:Int)<s.length:=by omega
   have:s.drop (i+j)=[]:=List.drop_eq_nil_of_le (by omega)
   rw[this]at fin
   have:=fin rfl
   simp[zrp,w1,w2,hjlt']
   simpa[zgK,w1]using this
end
theorem zGy (s:List UInt8) (H:zaa) (K:AV→zaa→Prop) (hK:K (zeW s) H):ACalls tP zpb [.str s] H K:=by
 refine ACalls.out (zI7 fun hs=>?_)
 by_cases hl:s.length>16384
 ·have hl':(16384:Int)<s.length:=by omega
  simp[zrm,hl',AV.isV]
  unfold zeW at hK
  rw[if_pos hl]at hK
  exact Out.tup0 hs hK ⟨zer,za4 rfl rfl,za4 rfl rfl,trivial⟩
 have hl':¬ (16384:Int)<s.length:=by omega
 unfold zeW at hK
 rw[if_neg hl]at hK
 simp[zrm,hl']
 have hperm:∀ n,HSc (H++[.perm zbu 3 n]):=fun n=>hs.append rfl
 unfold zk4
 refine ALoop.own 5 zbu 3 rfl ?_
 show zk4 (.str s) (.sl [] (.own H.length)) (.int .i64 0) (H++[.perm zbu 3 0]) (Out H.length K)
 refine zI3 (Inv:=fun q t5 t6 H'=>∃ (i:Nat) (l:List Tk),i≤s.length∧l.length≤i∧q=s.length-i∧t6=.int .i64 i∧t5=.sl (l.map Tk.cs) (.own H.length)∧H'=H++[.perm zbu 3 l.length]∧cat l (zbB (kwF kwds) (s.drop i) i)=zbB (kwF kwds) s 0) s.length ?_ ?_
 ·intro _;exact⟨0,[],by omega,by simp,by omega,rfl,rfl,rfl,by simp⟩
 ·rintro q t5 t6 H' ⟨i,l,hi,hll,rfl,rfl,rfl,rfl,ho⟩ hsc hlen hsF Kb hKb
  by_cases hlt:i<s.length
  ·have hdr:=List.drop_eq_getElem_cons hlt
   have e9:((s[i].toNat:Int) == 9)=(s[i] == 9):=zcz s[i] 9
   have e10:((s[i].toNat:Int) == 10)=(s[i] == 10):=zcz s[i] 10
   have e13:((s[i].toNat:Int) == 13)=(s[i] == 13):=zcz s[i] 13
   have e32:((s[i].toNat:Int) == 32)=(s[i] == 32):=zcz s[i] 32
   have e35:((s[i].toNat:Int) == 35)=(s[i] == 35):=zcz s[i] 35
   cases hbl:zds s[i] with
   | true=>
    rw[hdr,zx5 _ hbl]at ho
    have key:ze0 (.str s) (.sl (l.map Tk.cs) (.own H.length)) (.int .i64 (IntKind.i64.wrap (i+1))) (H++[.perm zbu 3 l.length]) (Out H.length K) Kb:=by
     simp[ze0]
     rw[zau (by omega) (by omega)]
     refine hKb _ _ ⟨s.length-(i+1),by omega,Back.here (by simp) (hperm _) ?_ ⟨_,_,rfl,i+1,l,by omega,by omega,rfl,by simp,rfl,rfl,ho⟩⟩
     simp[zfI,AV.sc,AV.scV,AV.scA,AV.scB]
    unfold zds at hbl
    cases h9:(s[i] == 9) <;> cases h10:(s[i] == 10) <;> cases h13:(s[i] == 13) <;> cases h32:(s[i] == 32) <;> simp[h9,h10,h13,h32]at hbl <;> simpa[zk0,hlt,e9,e10,e13,e32,h9,h10,h13,h32]using key
   | false=>
    have hbl':=hbl
    unfold zds at hbl'
    simp only[Bool.or_eq_false_iff]at hbl'
    obtain⟨⟨⟨h9,h10⟩,h13⟩,h32⟩:=hbl'
    have app:∀ (k:Int) (n:Nat),tok (kwF kwds) s[i] (s.drop (i+1))=.ok (k,n)→(s[i] == 35)=false→∀ t,(s.drop i).take n=t→zih (.str s) (.sl (l.map Tk.cs++[[.int .i64 k,.str t,.int .i64 i]]) (.own H.length)) (.int .i64 i) (.int .i64 n) (H++[.perm zbu 3 (l.length+1)]) (Out H.length K) Kb:=by
     intro k n ht hsh t hte
     subst hte
     rw[hdr,zx8 _ hbl hsh ht,zvn,←hdr]at ho
     have hn:=zqE ht
     rw[←hdr]at hn
     simp at hn
     have hn0:=zqF ht
     simp[zih,ze0]
     rw[zau (by omega) (by omega)]
     refine hKb _ _ ⟨s.length-(i+n),by omega,Back.here (by simp) (hperm _) ?_ ⟨_,_,rfl,i+n,l++[⟨k,(s.drop i).take n,i⟩],by omega,by simp;omega,rfl,by simp,by simp[Tk.cs],by simp,?_⟩⟩
     ·simp[zfI,AV.sc,AV.scV,AV.scA,AV.scB]
     ·rw[List.drop_drop]at ho;exact ho
    have bad:∀ e:Int,tok (kwF kwds) s[i] (s.drop (i+1))=.error e→(s[i] == 35)=false→Out H.length K (.tup [.snil,.int .i64 i,.int .i64 e]) (H++[.perm zbu 3 l.length]):=by
     intro e ht hsh
     rw[hdr,zx6 _ hbl hsh ht]at ho
     rw[←ho]at hK
     exact zwL hs hK
    simp[zk0,hlt,e9,e10,e13,e32,e35,h9,h10,h13,h32]
    cases hsh:(s[i] == 35) with
    | true=>
     simp
     rw[hdr,zx7 _ hbl hsh]at ho
     obtain⟨c1,c2⟩:=zkf h10 (s.drop (i+1))
     rw[Nat.add_assoc,←c1,←c2,←hdr]at ho
     refine zI0 (Inv:=fun q t6 H'=>∃ (j:Nat),i≤j∧j≤s.length∧q=s.length-j∧t6=.int .i64 j∧H'=H++[.perm zbu 3 l.length]∧cat l (zbB (kwF kwds) (zep (s.drop j)) (j+zeq (s.drop j)))=zbB (kwF kwds) s 0) (s.length-i) ?_ ?_
     ·intro _;exact⟨i,by omega,by omega,by omega,rfl,rfl,ho⟩
     ·rintro q t6 H' ⟨j,hij,hj,rfl,rfl,rfl,ho⟩ hsc hlen hsF Kb9 hKb9
      by_cases hjlt:j<s.length
      ·have hdrj:=List.drop_eq_getElem_cons hjlt
       have e10:((s[j].toNat:Int) != 10)=!(s[j] == 10):=by rw[←zcz s[j] 10];rfl
       simp[zrn,hjlt,e10]
       cases hz:(s[j] == 10) with
       | true=>
        obtain⟨d1,d2⟩:=zxE hz (s.drop (j+1))
        rw[hdrj,d1,d2,←hdrj,Nat.add_zero]at ho
        have hij':i≠j:=by rintro rfl;rw[h10]at hz;cases hz
        simp[ze0]
        refine hKb _ _ ⟨s.length-j,by omega,Back.here (by simp) (hperm _) ?_ ⟨_,_,rfl,j,l,by omega,by omega,rfl,by simp,rfl,rfl,ho⟩⟩
        simp[zfI,AV.sc,AV.scV,AV.scA,AV.scB]
       | false=>
        obtain⟨d1,d2⟩:=zkf hz (s.drop (j+1))
        rw[hdrj,d1,d2,←Nat.add_assoc]at ho
        simp
        rw[zau (by omega) (by omega)]
        refine hKb9 _ _ ⟨s.length-(j+1),by omega,Back.here (by simp) (hperm _) ?_ ⟨_,rfl,j+1,by omega,by omega,rfl,by simp,rfl,ho⟩⟩
        simp[zk2,AV.sc,AV.scV,AV.scA,AV.scB]
      ·obtain rfl:j=s.length:=by omega
       simp[zrn,ze0]
       rw[List.drop_length,skipC_nil.1,skipC_nil.2,Nat.add_zero]at ho
       refine hKb _ _ ⟨0,by omega,Back.here (by simp) (hperm _) ?_ ⟨_,_,rfl,s.length,l,by omega,by omega,by omega,by simp,rfl,rfl,by rw[List.drop_length];exact ho⟩⟩
       simp[zfI,AV.sc,AV.scV,AV.scA,AV.scB]
    | false=>
     replace app:=fun k n h=>app k n h hsh
     replace bad:=fun e h=>bad e h hsh
     simp
     refine zwg _ _ _ ?_
     by_cases hLU:(zbZ s[i] || bUp s[i])=true
     ·have hc:zbZ s[i]=true∨(zbZ s[i]=false∧bUp s[i]=true):=by cases hL:zbZ s[i] <;> simp[hL]at hLU ⊢;exact hLU
      rcases hc with hL | ⟨hL,hU⟩
      case' inl=>simp[hL]
      case' inr=>simp[hL];refine zkr _ _ _ ?_;simp[hU]
      all_goals exact zG9 s hl i hlt H l hll hperm K Kb hLU app bad
     ·have hL:zbZ s[i]=false:=by simp at hLU;exact hLU.1
      have hU:bUp s[i]=false:=by simp at hLU;exact hLU.2
      simp[hL]
      refine zkr _ _ _ ?_
      simp[hU]
      refine zoE _ _ _ ?_
      cases hD:za3 s[i] with
      | true=>
       simp
       exact zEN s hl i hlt H l hll hperm K Kb hLU hD app bad
      | false=>
       simp
       refine⟨by omega,?_⟩
       have htk:tok (kwF kwds) s[i] (s.drop (i+1))=if sgn (s.drop i)=0 then .error 2 else .ok (5,sgn (s.drop i)):=by
        simp only[tok,hLU,hD,hdr]
        rfl
       rw[hdr]
       refine zFT _ _ _ _ ?_
       rw[←hdr]
       by_cases hz:sgn (s.drop i)=0
       ·simp[hz,AV.isV]
        exact bad 2 (by rw[htk,if_pos hz])
       ·have hz':((sgn (s.drop i):Int) == 0)=false:=by simpa using hz
        have ht:=htk
        rw[if_neg hz]at ht
        have hn:=zqE ht
        rw[←hdr]at hn
        simp at hn
        have:=app 5 (sgn (s.drop i)) ht _ rfl
        simp[hz']
        rw[zau (by omega) (by omega)]
        simp[zaz,zaV,zaB,zbf,zaF,AV.pd,zax,zaY,zaM,ze2]
        refine⟨by omega,by omega,by omega,?_⟩
        rw[show ((i:Int)+(sgn (s.drop i):Int)).toNat=i+sgn (s.drop i) by omega,zkl]
        exact this
  ·obtain rfl:i=s.length:=by omega
   rw[List.drop_length,zqG]at ho
   rw[←ho]at hK
   simp[zk0,zaz,zaV,zaB,zbf,zaF,AV.pd,zax,zaY,zaM,AV.isV]
   refine⟨by omega,?_⟩
   simp[cat,Tk.cs]at hK
   exact Out.tup hs hK ⟨slV,za4 rfl rfl,za4 rfl rfl,trivial⟩
end Go.Proofs.YtjkkonpjecoieaaGreat
namespace Go.Proofs.YtjkkonpjecoieaaGreat
open Go Go.Abs
set_option maxRecDepth 100000
def zea:Nat→List Bool
 | 5=>rl false [0,1,2,3,115]
 | 12=>rl false [0,1,2,5,113]
 | 18=>rl false [0,1,2,5,85,3,25]
 | _=>[]
noncomputable def zs3:Code:=Tryz.f39.body.getD .skip
noncomputable def zO2:List ResultVar:=Tryz.f39.results.toList
def zmm (t0 t3 t4 t5:AV):List AV:=t0::ux 2 (t3::t4::t5::ux 115 [])
def zBr:List Bool:=zea 5
noncomputable def zs5:Code:=zap [1,1,1,0,1,0,0] zs3
def zBm (K:Kt):AExit→List AV→zaa→Prop:=zaq tP zea [1,1,1,0,1,0] zs3 (zaA tP zO2 K)
def zmo (t0 t3 t4 t5:AV) (H:zaa) (K:Kt):Prop:=ALoop tP zs5 (zBm K) (zmm t0 t3 t4 t5) H
def zmk (t0 t3 t4 t5 t6 t7:AV):List AV:=t0::ux 2 (t3::t4::t5::t6::t7::ux 113 [])
def zBq:List Bool:=zea 12
noncomputable def zs4:Code:=zap [1,0,0,1,1,1,1,0,0] zs5
def zBl (K:Kt) (Kb5:Lt):AExit→List AV→zaa→Prop:=zaq tP zea [1,0,0,1,1,1,1,0] zs5 (zbD zBr Kb5 (zBm K))
def zBo (t0 t3 t4 t5 t6 t7:AV) (H:zaa) (K:Kt) (Kb5:Lt):Prop:=ALoop tP zs4 (zBl K Kb5) (zmk t0 t3 t4 t5 t6 t7) H
def zml (t0 t3 t4 t5 t6 t7 t93 t94 t95:AV):List AV:=t0::ux 2 (t3::t4::t5::t6::t7::ux 85 (t93::t94::t95::ux 25 []))
def zO0:List Bool:=zea 18
noncomputable def zOW:Code:=zap [1,0,0,1,1,1,0,0] zs4
def zOV (K:Kt) (Kb5:Lt) (Kb12:Lt):AExit→List AV→zaa→Prop:=zaq tP zea [1,0,0,1,1,1,0] zs4 (zbD zBq Kb12 (zBl K Kb5))
def zBp (t0 t3 t4 t5 t6 t7 t93 t94 t95:AV) (H:zaa) (K:Kt) (Kb5:Lt) (Kb12:Lt):Prop:=ALoop tP zOW (zOV K Kb5 Kb12) (zml t0 t3 t4 t5 t6 t7 t93 t94 t95) H
def zBn (t0 t3 t4 t5 t6 t7 t93 t94 t95:AV) (H:zaa) (K:Kt) (Kb5:Lt) (Kb12:Lt) (Kb18:Lt):Prop:=
 zac .add false t95 (.int .i64 1) fun t112=>
 Kb18 (zml t0 t3 t4 t5 t6 t7 t93 t94 t112) H
def zmn (t0 t3 t4 t5 t6 t7 t93 t94 t95:AV) (H:zaa) (K:Kt) (Kb5:Lt) (Kb12:Lt) (Kb18:Lt):Prop:=
 zBn t0 t3 t4 t5 t6 t7 t93 t94 t95 H K Kb5 Kb12 Kb18
def zs2 (t0 t3 t4 t5 t6 t7 t93 t94 t95:AV) (H:zaa) (K:Kt) (Kb5:Lt) (Kb12:Lt) (Kb18:Lt):Prop:=
 zac .lss false t95 t94 fun t96=>
 zag t96
 (zai 3 t93 t95 fun t97=>
 zae true 3 t97 H fun t98=>
 zaw [(.int .i64 0),(.int .i64 0),.snil] H fun t9 H=>
 zam 3 t9 t98 H fun H=>
 zae true 3 t9 H fun t99=>
 zaf 1 t6 fun t101=>
 zae false 1 t101 H fun t102=>
 ACalls tP zjN [t99,t5,t102] H fun t103 H=>
 zag t103
 (zmn t0 t3 t4 t5 t6 t7 t93 t94 t95 H K Kb5 Kb12 Kb18)
 (zad H (fun K'=>K' t0 H) fun t104=>
 zad H (fun K'=>K' t5 H) fun t105=>
 zad H (fun K'=>zaJ 1 3 t104 none (some t105) (K' · H)) fun t106=>
 zad H (fun K'=>zal true 3 t9 H (K' · H)) fun t107=>
 zad H (fun K'=>zaf 1 t6 (K' · H)) fun t108=>
 zad H (fun K'=>zal false 1 t108 H (K' · H)) fun t109=>
 zaE H (fun H K'=>ACalls tP zhH [t106,t107,t109] H K') fun t110=>
 zad H (fun K'=>aUn .not t110 (K' · H)) fun t111=>
 zag t111
 (K (.bool false) H)
 (zmn t0 t3 t4 t5 t6 t7 t93 t94 t95 H K Kb5 Kb12 Kb18)))
 (zac .add false t7 (.int .i64 1) fun t60=>
 Kb12 (zmk t0 t3 t4 t5 t6 t60) H)
def zs1 (t0 t3 t4 t5 t6 t7:AV) (H:zaa) (K:Kt) (Kb5:Lt) (Kb12:Lt):Prop:=
 zaf 2 t6 fun t55=>
 zae false 1 t55 H fun t56=>
 zah 1 t56 fun t57=>
 zac .lss false t7 t57 fun t58=>
 zag t58
 (zaf 2 t6 fun t61=>
 zae false 1 t61 H fun t62=>
 zai 2 t62 t7 fun t64=>
 zaf 0 t64 fun t65=>
 zae false 1 t65 H fun t66=>
 ACalls tP zjM [t66] H fun t67 H=>
 aUn .not t67 fun t68=>
 zab t68 false H (fun K'=>zaf 2 t6 (K' · H)) fun t70 H=>
 zab t68 false H (fun K'=>zae false 1 t70 H (K' · H)) fun t71 H=>
 zab t68 false H (fun K'=>K' t7 H) fun t72 H=>
 zab t68 false H (fun K'=>zai 2 t71 t72 (K' · H)) fun t73 H=>
 zab t68 false H (fun K'=>zaf 1 t73 (K' · H)) fun t74 H=>
 zab t68 false H (fun K'=>zae false 1 t74 H (K' · H)) fun t75 H=>
 zab t68 false H (fun K'=>zah 1 t75 (K' · H)) fun t76 H=>
 zab t68 false H (fun K'=>zac .gtr false t76 (.int .i64 6) (K' · H)) fun t77 H=>
 zaj t68 (.bool true) t77 fun t78=>
 zag t78
 (K (.bool false) H)
 (zaf 2 t6 fun t80=>
 zae false 1 t80 H fun t81=>
 zai 2 t81 t7 fun t83=>
 zaf 0 t83 fun t84=>
 zae false 1 t84 H fun t85=>
 zaB 1 [(.str [])] 1 [(0,t85)] fun t86=>
 zax zb9 1 16 t4 t86 H fun t87 H=>
 zaf 2 t6 fun t88=>
 zae false 1 t88 H fun t89=>
 zai 2 t89 t7 fun t91=>
 zaf 1 t91 fun t92=>
 zae false 1 t92 H fun t93=>
 zah 1 t93 fun t94=>
 zBp t0 t3 t87 t5 t6 t7 t93 t94 (.int .i64 0) H K Kb5 Kb12))
 (zac .add false t5 (.int .i64 1) fun t18=>
 Kb5 (zmm t0 t3 t4 t18) H)
def zfP (t0 t3 t4 t5:AV) (H:zaa) (K:Kt) (Kb5:Lt):Prop:=
 zah 1 t0 fun t15=>
 zac .lss false t5 t15 fun t16=>
 zag t16
 (zai 3 t0 t5 fun t21=>
 zae true 3 t21 H fun t22=>
 zaw [(.str []),(.int .i64 0),.snil] H fun t6 H=>
 zam 3 t6 t22 H fun H=>
 zaf 1 t6 fun t23=>
 zae false 1 t23 H fun t24=>
 zac .lss false t24 (.int .i64 0) fun t25=>
 zab t25 false H (fun K'=>zaf 1 t6 (K' · H)) fun t27 H=>
 zab t25 false H (fun K'=>zae false 1 t27 H (K' · H)) fun t28 H=>
 zab t25 false H (fun K'=>zac .gtr false t28 (.int .i64 6) (K' · H)) fun t29 H=>
 zaj t25 (.bool true) t29 fun t30=>
 zab t30 false H (fun K'=>zaf 2 t6 (K' · H)) fun t32 H=>
 zab t30 false H (fun K'=>zae false 1 t32 H (K' · H)) fun t33 H=>
 zab t30 false H (fun K'=>zah 1 t33 (K' · H)) fun t34 H=>
 zab t30 false H (fun K'=>zac .lss false t34 (.int .i64 1) (K' · H)) fun t35 H=>
 zaj t30 (.bool true) t35 fun t36=>
 zab t36 false H (fun K'=>zaf 2 t6 (K' · H)) fun t38 H=>
 zab t36 false H (fun K'=>zae false 1 t38 H (K' · H)) fun t39 H=>
 zab t36 false H (fun K'=>zah 1 t39 (K' · H)) fun t40 H=>
 zab t36 false H (fun K'=>zac .gtr false t40 (.int .i64 8) (K' · H)) fun t41 H=>
 zaj t36 (.bool true) t41 fun t42=>
 zab t42 false H (fun K'=>zaf 0 t6 (K' · H)) fun t44 H=>
 zab t42 false H (fun K'=>zae false 1 t44 H (K' · H)) fun t45 H=>
 zab t42 false H (fun K'=>ACalls tP zjM [t45] H K') fun t46 H=>
 zab t42 false H (fun K'=>aUn .not t46 (K' · H)) fun t47 H=>
 zaj t42 (.bool true) t47 fun t48=>
 zag t48
 (K (.bool false) H)
 (zaf 0 t6 fun t50=>
 zae false 1 t50 H fun t51=>
 zaB 1 [(.str [])] 1 [(0,t51)] fun t52=>
 zax zb9 1 16 t3 t52 H fun t53 H=>
 zBo t0 t53 t4 t5 t6 (.int .i64 0) H K Kb5))
 (ACalls tP zhP [t3] H fun t114 H=>
 aUn .not t114 fun t115=>
 zab t115 true H (fun K'=>K' t4 H) fun t117 H=>
 zab t115 true H (fun K'=>ACalls tP zhP [t117] H K') fun t118 H=>
 zab t115 true H (fun K'=>aUn .not t118 (K' · H)) fun t119 H=>
 zaj t115 t119 (.bool false) fun t120=>
 K t120 H)
def zs0 (t0:AV) (H:zaa) (K:Kt):Prop:=
 zah 1 t0 fun t11=>
 zac .gtr false t11 (.int .i64 12) fun t12=>
 zag t12
 (K (.bool false) H)
 (zmo t0 .snil .snil (.int .i64 0) H K)
theorem zOY {t0 t3 t4 t5 t6 t7 t93 t94 t95:AV} {H:zaa} {K:Kt} {Kb5:Lt} {Kb12:Lt} (Inv:Nat→AV→zaa→Prop) (n:Nat) (h0:HSc H→Inv n t95 H)
  (round:Rd1 (fun t95=>zml t0 t3 t4 t5 t6 t7 t93 t94 t95) (fun t95=>fun H Kb18=>zs2 t0 t3 t4 t5 t6 t7 t93 t94 t95 H K Kb5 Kb12 Kb18) H Inv):zBp t0 t3 t4 t5 t6 t7 t93 t94 t95 H K Kb5 Kb12:=
 lp1 (M:=zea) zO0 t95 (by kernel_rfl) Inv n h0 round
theorem zOX {t0 t3 t4 t5 t6 t7:AV} {H:zaa} {K:Kt} {Kb5:Lt} (Inv:Nat→AV→AV→zaa→Prop) (n:Nat) (h0:HSc H→Inv n t4 t7 H)
  (round:Rd2 (fun t4=>fun t7=>zmk t0 t3 t4 t5 t6 t7) (fun t4=>fun t7=>fun H Kb12=>zs1 t0 t3 t4 t5 t6 t7 H K Kb5 Kb12) H Inv):zBo t0 t3 t4 t5 t6 t7 H K Kb5:=
 lp2 (M:=zea) zBq t4 t7 (by kernel_rfl) Inv n h0 round
theorem zOZ {t0 t3 t4 t5:AV} {H:zaa} {K:Kt} (Inv:Nat→AV→AV→AV→zaa→Prop) (n:Nat) (h0:HSc H→Inv n t3 t4 t5 H)
  (round:Rd3 (fun t3=>fun t4=>fun t5=>zmm t0 t3 t4 t5) (fun t3=>fun t4=>fun t5=>fun H Kb5=>zfP t0 t3 t4 t5 H K Kb5) H Inv):zmo t0 t3 t4 t5 H K:=
 lp3 (M:=zea) zBr t3 t4 t5 (by kernel_rfl) Inv n h0 round
theorem zO1 {t0:AV} {H:zaa} {K:Kt} (h:HSc H→zs0 t0 H K):ACalls tP zjB [t0] H K:=
 zan (M:=zea) Tryz.func39 (c:=zs3) (by kernel_rfl) (fun hs=>Eq.mpr (by kernel_rfl) (h hs))
def zfX:Nat→List Bool
 | 2=>rl false [0,1,2,1,21]
 | 5=>rl false [0,1,2,2,20]
 | _=>[]
noncomputable def zuf:Code:=Tryz.f84.body.getD .skip
noncomputable def zSv:List ResultVar:=Tryz.f84.results.toList
def znD (t0 t3:AV):List AV:=t0::ux 2 (t3::ux 21 [])
def zCC:List Bool:=zfX 2
noncomputable def zug:Code:=zap [1,0,1,0,0] zuf
def zCz (K:Kt):AExit→List AV→zaa→Prop:=zaq tP zfX [1,0,1,0] zuf (zaA tP zSv K)
def zCA (t0 t3:AV) (H:zaa) (K:Kt):Prop:=ALoop tP zug (zCz K) (znD t0 t3) H
def znE (t0 t3 t4:AV):List AV:=t0::ux 2 (t3::t4::ux 20 [])
def zSt:List Bool:=zfX 5
noncomputable def zSq:Code:=zap [1,0,0,1,0,0] zug
def zSp (K:Kt) (Kb2:Lt):AExit→List AV→zaa→Prop:=zaq tP zfX [1,0,0,1,0] zug (zbD zCC Kb2 (zCz K))
def zCB (t0 t3 t4:AV) (H:zaa) (K:Kt) (Kb2:Lt):Prop:=ALoop tP zSq (zSp K Kb2) (znE t0 t3 t4) H
def zue (t0 t3 t4:AV) (H:zaa) (K:Kt) (Kb2:Lt) (Kb5:Lt):Prop:=
 zac .lss false t4 t3 fun t13=>
 zag t13
 (zad H (fun K'=>K' t0 H) fun t16=>
 zad H (fun K'=>K' t3 H) fun t17=>
 zad H (fun K'=>zai 1 t16 t17 (K' · H)) fun t18=>
 zad H (fun K'=>zal false 1 t18 H (K' · H)) fun t19=>
 zad H (fun K'=>K' t0 H) fun t20=>
 zad H (fun K'=>K' t4 H) fun t21=>
 zad H (fun K'=>zai 1 t20 t21 (K' · H)) fun t22=>
 zad H (fun K'=>zal false 1 t22 H (K' · H)) fun t23=>
 zad H (fun K'=>zac .eql false t19 t23 (K' · H)) fun t24=>
 zag t24
 (K (.bool true) H)
 (zac .add false t4 (.int .i64 1) fun t15=>
 Kb5 (znE t0 t3 t15) H))
 (zac .add false t3 (.int .i64 1) fun t10=>
 Kb2 (znD t0 t10) H)
def zud (t0 t3:AV) (H:zaa) (K:Kt) (Kb2:Lt):Prop:=
 zah 1 t0 fun t7=>
 zac .lss false t3 t7 fun t8=>
 zag t8
 (zCB t0 t3 (.int .i64 0) H K Kb2)
 (K (.bool false) H)
def zCy (t0:AV) (H:zaa) (K:Kt):Prop:=
 zCA t0 (.int .i64 0) H K
theorem zSs {t0 t3 t4:AV} {H:zaa} {K:Kt} {Kb2:Lt} (Inv:Nat→AV→zaa→Prop) (n:Nat) (h0:HSc H→Inv n t4 H)
  (round:Rd1 (fun t4=>znE t0 t3 t4) (fun t4=>fun H Kb5=>zue t0 t3 t4 H K Kb2 Kb5) H Inv):zCB t0 t3 t4 H K Kb2:=
 lp1 (M:=zfX) zSt t4 (by kernel_rfl) Inv n h0 round
theorem zSr {t0 t3:AV} {H:zaa} {K:Kt} (Inv:Nat→AV→zaa→Prop) (n:Nat) (h0:HSc H→Inv n t3 H)
  (round:Rd1 (fun t3=>znD t0 t3) (fun t3=>fun H Kb2=>zud t0 t3 H K Kb2) H Inv):zCA t0 t3 H K:=
 lp1 (M:=zfX) zCC t3 (by kernel_rfl) Inv n h0 round
theorem zSu {t0:AV} {H:zaa} {K:Kt} (h:HSc H→zCy t0 H K):ACalls tP zhP [t0] H K:=
 zan (M:=zfX) Tryz.func84 (c:=zuf) (by kernel_rfl) (fun hs=>Eq.mpr (by kernel_rfl) (h hs))
end Go.Proofs.YtjkkonpjecoieaaGreat

namespace Go.Proofs.YtjkkonpjecoieaaGreat
open Go Go.Abs
set_option maxRecDepth 8000
theorem zdo {k:AV→Prop} (a b:AV) (vs:List AV):zay (.tup (a::b::vs)) 1 k=k b:=propext Iff.rfl
theorem zdp {k:AV→Prop} (a b c:AV) (vs:List AV):zay (.tup (a::b::c::vs)) 2 k=k c:=propext Iff.rfl
def zfA (s:List UInt8):List Tk × Int × Int:=
 if s.length>16384 then ([],0,9) else
 match zbB (kwF kwds) s 0 with
 | .error (p,e)=>([],p,e)
 | .ok l=>(l,0,0)
theorem zxJ (s:List UInt8):zeW s=.tup [.sl ((zfA s).1.map Tk.cs) .none,.int .i64 (zfA s).2.1,.int .i64 (zfA s).2.2]:=by
 unfold zeW zfA
 split
 ·rfl
 ·split <;> (rename_i h;simp[h])
def zcc (s:List UInt8) (x:List Tk × Int × Int):Bool:=x.2.2 == 0 && match x.1 with
 | [a,_]=>a.kind == 2 && a.text == s
 | _=>false
def zc4 (s:List UInt8):Bool:=zcc s (zfA s)
theorem zAz (s:List UInt8) (H:zaa) (K:AV→zaa→Prop) (hK:K (.bool (zc4 s)) H):ACalls tP zjs [.str s] H K:=by
 refine ACalls.out (zMM fun hs=>?_)
 have hO:Out H.length K (.bool (zc4 s)) H:=Out.bool (J:=[]) (by simp) (Nat.le_refl _) hs hK
 simp only[zAy]
 refine zGx s _ _ ?_
 rw[zxJ]
 rw[zc4]at hO
 generalize zfA s=x at hO ⊢
 obtain⟨l,p,e⟩:=x
 clear hK
 cases h0:e == 0 with
 | false=>
  rw[show zcc s (l,p,e)=false by simp[zcc,h0]]at hO
  simp[zdo,zdp,h0];exact hO
 | true=>
 match l with
 | []=>
  rw[show zcc s ([],p,e)=false by simp[zcc]]at hO
  simp[zdo,zdp,h0];exact hO
 | [x]=>
  rw[show zcc s ([x],p,e)=false by simp[zcc]]at hO
  simp[zdo,zdp,h0];exact hO
 | [a,x]=>
  rw[show zcc s ([a,x],p,e)=(a.kind == 2 && a.text == s) by simp[zcc,h0]]at hO
  cases hk:a.kind == 2 with
  | false=>rw[hk]at hO;simp[zdo,zdp,h0,Tk.cs,hk];exact hO
  | true=>rw[hk]at hO;simp[zdo,zdp,h0,Tk.cs,hk];exact hO
 | a::b::c::r=>
  rw[show zcc s (a::b::c::r,p,e)=false by simp[zcc]]at hO
  have:¬ ((r.length:Int)+1+1+1=2):=by omega
  have h2:((r.length:Int)+1+1+1 == 2)=false:=by simpa using this
  simp[zdo,zdp,h0,h2];exact hO
theorem zCv (s:List UInt8) (H:zaa) (K:AV→zaa→Prop) (hK:K (.bool (zc4 s)) H):ACalls tP zjM [.str s] H K:=by
 refine ACalls.out (zSi fun hs=>?_)
 have hO:Out H.length K (.bool (zc4 s)) H:=Out.bool (J:=[]) (by simp) (Nat.le_refl _) hs hK
 simp only[zCu]
 refine zGy s _ _ ?_
 rw[zxJ]
 rw[zc4]at hO
 generalize zfA s=x at hO ⊢
 obtain⟨l,p,e⟩:=x
 clear hK
 cases h0:e == 0 with
 | false=>
  rw[show zcc s (l,p,e)=false by simp[zcc,h0]]at hO
  simp[zdo,zdp,h0];exact hO
 | true=>
 match l with
 | []=>
  rw[show zcc s ([],p,e)=false by simp[zcc]]at hO
  simp[zdo,zdp,h0];exact hO
 | [x]=>
  rw[show zcc s ([x],p,e)=false by simp[zcc]]at hO
  simp[zdo,zdp,h0];exact hO
 | [a,x]=>
  rw[show zcc s ([a,x],p,e)=(a.kind == 2 && a.text == s) by simp[zcc,h0]]at hO
  cases hk:a.kind == 2 with
  | false=>rw[hk]at hO;simp[zdo,zdp,h0,Tk.cs,hk];exact hO
  | true=>rw[hk]at hO;simp[zdo,zdp,h0,Tk.cs,hk];exact hO
 | a::b::c::r=>
  rw[show zcc s (a::b::c::r,p,e)=false by simp[zcc]]at hO
  have:¬ ((r.length:Int)+1+1+1=2):=by omega
  have h2:((r.length:Int)+1+1+1 == 2)=false:=by simpa using this
  simp[zdo,zdp,h0,h2];exact hO
def zcp (l:List (List UInt8)):Bool:=!decide l.Nodup
def strs (l:List (List UInt8)):List (List AV):=l.map fun s=>[.str s]
@[simp] theorem zXx (l:List (List UInt8)):(strs l).length=l.length:=by simp[strs]
theorem zGD {l:List (List UInt8)} {i:Nat} (h:i<(strs l).length):(strs l)[i]=[.str (l[i]'(by simpa using h))]:=by simp[strs]
theorem zFm {l:List (List UInt8)} {i j:Nat} (hi:i<l.length) (hj:j<i) (h:l[i]=l[j]):zcp l=true:=by
 simp only[zcp,Bool.not_eq_true',decide_eq_false_iff_not]
 intro hn
 exact (List.pairwise_iff_getElem.mp hn) j i (by omega) hi hj h.symm
theorem zSw (l:List (List UInt8)) (hl:l.length≤1000000) (H:zaa) (K:AV→zaa→Prop) (hK:K (.bool (zcp l)) H):ACalls tP zhP [.sl (strs l) .none] H K:=by
 refine ACalls.out (zSu fun hs=>?_)
 have hO:Out H.length K (.bool (zcp l)) H:=Out.bool (J:=[]) (by simp) (Nat.le_refl _) hs hK
 simp[zCy]
 refine zSr (Inv:=fun q t3 H'=>∃ i:Nat,i≤l.length∧q=l.length-i∧t3=.int .i64 i∧(∀ a b (ha:a<i) (hb:b<a) (h':a<l.length),l[a]≠l[b])∧H=H') l.length ?_ ?_
 ·intro _;exact⟨0,by omega,by omega,rfl,by omega,rfl⟩
 ·rintro q t3 H' ⟨i,hi,rfl,rfl,hne,rfl⟩ hsc hlen hsF Kb hKb
  by_cases hlt:i<l.length
  ·simp[zud,hlt]
   refine zSs (Inv:=fun q t4 H'=>∃ j:Nat,j≤i∧q=i-j∧t4=.int .i64 j∧(∀ b (hb:b<j) (hb':b<l.length),l[i]≠l[b])∧H=H') i ?_ ?_
   ·intro _;exact⟨0,by omega,by omega,rfl,by omega,rfl⟩
   ·rintro q t4 H' ⟨j,hj,rfl,rfl,hnj,rfl⟩ hsc1 hlen1 hsF1 Kb1 hKb1
    by_cases hjl:j<i
    ·simp[zue,hjl,hlt,show j<l.length by omega,zGD]
     cases he:l[i] == l[j] with
     | true=>
      rw[zFm hlt hjl (by simpa using he)]at hO
      simpa using hO
     | false=>
      simp
      rw[zau (by omega) (by omega)]
      refine hKb1 _ _ ⟨i-(j+1),by omega,Back.at (J:=[]) (H2:=H) (by simp) (Nat.le_refl _) hs ?_ ⟨_,rfl,j+1,by omega,rfl,by simp,?_,rfl⟩⟩
      ·simp[znE,AV.sc,AV.scV,AV.scA,AV.scB]
      ·intro b hb hb'
       by_cases hbj:b=j
       ·subst hbj;simpa using he
       ·exact hnj b (by omega) hb'
    ·obtain rfl:j=i:=by omega
     simp[zue]
     rw[zau (by omega) (by omega)]
     refine hKb _ _ ⟨l.length-(j+1),by omega,Back.at (J:=[]) (H2:=H) (by simp) (Nat.le_refl _) hs ?_ ⟨_,rfl,j+1,by omega,rfl,by simp,?_,rfl⟩⟩
     ·simp[znD,AV.sc,AV.scV,AV.scA,AV.scB]
     ·intro a b ha hb h'
      by_cases haj:a=j
      ·subst haj;exact hnj b hb (by omega)
      ·exact hne a b (by omega) hb h'
  ·obtain rfl:i=l.length:=by omega
   have:zcp l=false:=by
    simp only[zcp,Bool.not_eq_false',decide_eq_true_eq]
    refine List.pairwise_iff_getElem.mpr fun a b ha hb hab he=>?_
    exact hne b a hb hab hb he.symm
   rw[this]at hO
   simp[zud]
   exact hO
def zfJ:Nat→List Bool
 | 5=>rl false [0,1,2,2,9,2,89]
 | 13=>rl false [0,1,2,3,8,2,60,3,26]
 | _=>[]
noncomputable def zrP:Code:=Tryz.f158.body.getD .skip
noncomputable def zKp:List ResultVar:=Tryz.f158.results.toList
def zls (t0 t3 t4 t14 t15:AV):List AV:=t0::ux 2 (t3::t4::ux 9 (t14::t15::ux 89 []))
def zzy:List Bool:=zfJ 5
noncomputable def zrQ:Code:=zap [1,1,1,0,1,0,0] zrP
def zzv (K:Kt):AExit→List AV→zaa→Prop:=zaq tP zfJ [1,1,1,0,1,0] zrP (zaA tP zKp K)
def zzx (t0 t3 t4 t14 t15:AV) (H:zaa) (K:Kt):Prop:=ALoop tP zrQ (zzv K) (zls t0 t3 t4 t14 t15) H
def zlr (t0 t3 t4 t5 t14 t15 t76 t77 t78:AV):List AV:=t0::ux 2 (t3::t4::t5::ux 8 (t14::t15::ux 60 (t76::t77::t78::ux 26 [])))
def zKn:List Bool:=zfJ 13
noncomputable def zKk:Code:=zap [1,1,0,0,1,1,1,1,1,0,0] zrQ
def zKj (K:Kt) (Kb5:Lt):AExit→List AV→zaa→Prop:=zaq tP zfJ [1,1,0,0,1,1,1,1,1,0] zrQ (zbD zzy Kb5 (zzv K))
def zzw (t0 t3 t4 t5 t14 t15 t76 t77 t78:AV) (H:zaa) (K:Kt) (Kb5:Lt):Prop:=ALoop tP zKk (zKj K Kb5) (zlr t0 t3 t4 t5 t14 t15 t76 t77 t78) H
def zrN (t0 t3 t4 t5 t14 t15 t76 t77 t78:AV) (H:zaa) (K:Kt) (Kb5:Lt) (Kb13:Lt):Prop:=
 zac .lss false t78 t77 fun t79=>
 zag t79
 (zai 2 t76 t78 fun t81=>
 zae true 2 t81 H fun t82=>
 zaw [(.str []),.snil] H fun t7 H=>
 zam 2 t7 t82 H fun H=>
 zaf 0 t7 fun t83=>
 zae false 1 t83 H fun t84=>
 ACalls tP zjs [t84] H fun t85 H=>
 aUn .not t85 fun t86=>
 zab t86 false H (fun K'=>K' t4 H) fun t88 H=>
 zab t86 false H (fun K'=>zaf 0 t7 (K' · H)) fun t89 H=>
 zab t86 false H (fun K'=>zae false 1 t89 H (K' · H)) fun t90 H=>
 zab t86 false H (fun K'=>zdV (.bool false) false t88 t90 H (K' · H)) fun t91 H=>
 zaj t86 (.bool true) t91 fun t92=>
 zab t92 false H (fun K'=>K' t0 H) fun t94 H=>
 zab t92 false H (fun K'=>K' t5 H) fun t95 H=>
 zab t92 false H (fun K'=>K' t78 H) fun t96 H=>
 zab t92 false H (fun K'=>ACalls tP zpt [t94,t95,t96] H K') fun t97 H=>
 zab t92 false H (fun K'=>aUn .not t97 (K' · H)) fun t98 H=>
 zaj t92 (.bool true) t98 fun t99=>
 zag t99
 (K (.bool false) H)
 (zaf 0 t7 fun t101=>
 zae false 1 t101 H fun t102=>
 zc5 t4 t102 (.bool true) H fun H=>
 zac .add false t78 (.int .i64 1) fun t103=>
 Kb13 (zlr t0 t3 t4 t5 t14 t15 t76 t77 t103) H))
 (zac .add false t15 (.int .i64 1) fun t104=>
 Kb5 (zls t0 t3 t4 t14 t104) H)
def zrO (t0 t3 t4 t14 t15:AV) (H:zaa) (K:Kt) (Kb5:Lt):Prop:=
 zac .lss false t15 t14 fun t16=>
 zag t16
 (zai 3 t0 t15 fun t20=>
 zaf 0 t20 fun t21=>
 zae false 1 t21 H fun t22=>
 ACalls tP zjs [t22] H fun t23 H=>
 aUn .not t23 fun t24=>
 zab t24 false H (fun K'=>K' t3 H) fun t26 H=>
 zab t24 false H (fun K'=>K' t0 H) fun t27 H=>
 zab t24 false H (fun K'=>K' t15 H) fun t28 H=>
 zab t24 false H (fun K'=>zai 3 t27 t28 (K' · H)) fun t29 H=>
 zab t24 false H (fun K'=>zaf 0 t29 (K' · H)) fun t30 H=>
 zab t24 false H (fun K'=>zae false 1 t30 H (K' · H)) fun t31 H=>
 zab t24 false H (fun K'=>zdV (.bool false) false t26 t31 H (K' · H)) fun t32 H=>
 zaj t24 (.bool true) t32 fun t33=>
 zab t33 false H (fun K'=>K' t0 H) fun t35 H=>
 zab t33 false H (fun K'=>K' t15 H) fun t36 H=>
 zab t33 false H (fun K'=>zai 3 t35 t36 (K' · H)) fun t37 H=>
 zab t33 false H (fun K'=>zaf 1 t37 (K' · H)) fun t38 H=>
 zab t33 false H (fun K'=>zae false 1 t38 H (K' · H)) fun t39 H=>
 zab t33 false H (fun K'=>zac .lss false t39 (.int .i64 0) (K' · H)) fun t40 H=>
 zaj t33 (.bool true) t40 fun t41=>
 zab t41 false H (fun K'=>K' t0 H) fun t43 H=>
 zab t41 false H (fun K'=>K' t15 H) fun t44 H=>
 zab t41 false H (fun K'=>zai 3 t43 t44 (K' · H)) fun t45 H=>
 zab t41 false H (fun K'=>zaf 1 t45 (K' · H)) fun t46 H=>
 zab t41 false H (fun K'=>zae false 1 t46 H (K' · H)) fun t47 H=>
 zab t41 false H (fun K'=>zac .gtr false t47 (.int .i64 6) (K' · H)) fun t48 H=>
 zaj t41 (.bool true) t48 fun t49=>
 zag t49
 (K (.bool false) H)
 (zai 3 t0 t15 fun t53=>
 zaf 0 t53 fun t54=>
 zae false 1 t54 H fun t55=>
 zc5 t3 t55 (.bool true) H fun H=>
 zai 3 t0 t15 fun t58=>
 zaf 2 t58 fun t59=>
 zae false 1 t59 H fun t60=>
 zah 1 t60 fun t61=>
 zac .lss false t61 (.int .i64 1) fun t62=>
 zab t62 false H (fun K'=>K' t0 H) fun t64 H=>
 zab t62 false H (fun K'=>K' t15 H) fun t65 H=>
 zab t62 false H (fun K'=>zai 3 t64 t65 (K' · H)) fun t66 H=>
 zab t62 false H (fun K'=>zaf 2 t66 (K' · H)) fun t67 H=>
 zab t62 false H (fun K'=>zae false 1 t67 H (K' · H)) fun t68 H=>
 zab t62 false H (fun K'=>zah 1 t68 (K' · H)) fun t69 H=>
 zab t62 false H (fun K'=>zac .gtr false t69 (.int .i64 8) (K' · H)) fun t70 H=>
 zaj t62 (.bool true) t70 fun t71=>
 zag t71
 (K (.bool false) H)
 (zai 3 t0 t15 fun t74=>
 zaf 2 t74 fun t75=>
 zae false 1 t75 H fun t76=>
 zah 1 t76 fun t77=>
 zzw t0 t3 t4 t15 t14 t15 t76 t77 (.int .i64 0) H K Kb5)))
 (K (.bool true) H)
def zrM (t0:AV) (H:zaa) (K:Kt):Prop:=
 zah 1 t0 fun t9=>
 zac .gtr false t9 (.int .i64 12) fun t10=>
 zag t10
 (K (.bool false) H)
 (zez H fun t11 H=>
 zez H fun t12 H=>
 zah 1 t0 fun t14=>
 zzx t0 t11 t12 t14 (.int .i64 0) H K)
theorem zKl {t0 t3 t4 t5 t14 t15 t76 t77 t78:AV} {H:zaa} {K:Kt} {Kb5:Lt} (Inv:Nat→AV→zaa→Prop) (n:Nat) (h0:HSc H→Inv n t78 H)
  (round:Rd1 (fun t78=>zlr t0 t3 t4 t5 t14 t15 t76 t77 t78) (fun t78=>fun H Kb13=>zrN t0 t3 t4 t5 t14 t15 t76 t77 t78 H K Kb5 Kb13) H Inv):zzw t0 t3 t4 t5 t14 t15 t76 t77 t78 H K Kb5:=
 lp1 (M:=zfJ) zKn t78 (by kernel_rfl) Inv n h0 round
theorem zKm {t0 t3 t4 t14 t15:AV} {H:zaa} {K:Kt} (Inv:Nat→AV→zaa→Prop) (n:Nat) (h0:HSc H→Inv n t15 H)
  (round:Rd1 (fun t15=>zls t0 t3 t4 t14 t15) (fun t15=>fun H Kb5=>zrO t0 t3 t4 t14 t15 H K Kb5) H Inv):zzx t0 t3 t4 t14 t15 H K:=
 lp1 (M:=zfJ) zzy t15 (by kernel_rfl) Inv n h0 round
theorem zKo {t0:AV} {H:zaa} {K:Kt} (h:HSc H→zrM t0 H K):ACalls tP zpf [t0] H K:=
 zan (M:=zfJ) Tryz.func158 (c:=zrP) (by kernel_rfl) (fun hs=>Eq.mpr (by kernel_rfl) (h hs))
def zl0:Nat→List Bool
 | 6=>rl false [0,2,6,1,18,3,29]
 | _=>[]
noncomputable def zsx:Code:=Tryz.f190.body.getD .skip
noncomputable def zMS:List ResultVar:=Tryz.f190.results.toList
def zin (t0 t1 t8 t27 t28 t29:AV):List AV:=t0::t1::ux 6 (t8::ux 18 (t27::t28::t29::ux 29 []))
def zMQ:List Bool:=zl0 6
noncomputable def zMO:Code:=zap [1,1,1,1,0,1,0,0] zsx
def zMN (K:Kt):AExit→List AV→zaa→Prop:=zaq tP zl0 [1,1,1,1,0,1,0] zsx (zaA tP zMS K)
def zAB (t0 t1 t8 t27 t28 t29:AV) (H:zaa) (K:Kt):Prop:=ALoop tP zMO (zMN K) (zin t0 t1 t8 t27 t28 t29) H
def zsw (t0 t1 t8 t27 t28 t29:AV) (H:zaa) (K:Kt) (Kb6:Lt):Prop:=
 zac .lss false t29 t28 fun t30=>
 zag t30
 (zai 3 t27 t29 fun t32=>
 zae true 3 t32 H fun t33=>
 zaw [(.int .i64 0),(.int .i64 0),.snil] H fun t10 H=>
 zam 3 t10 t33 H fun H=>
 zad H (fun K'=>K' t0 H) fun t34=>
 zad H (fun K'=>K' t1 H) fun t35=>
 zad H (fun K'=>zac .add false t35 (.int .i64 1) (K' · H)) fun t36=>
 zad H (fun K'=>zaJ 1 3 t34 none (some t36) (K' · H)) fun t37=>
 zad H (fun K'=>zal true 3 t10 H (K' · H)) fun t38=>
 zad H (fun K'=>K' t0 H) fun t39=>
 zad H (fun K'=>K' t1 H) fun t40=>
 zad H (fun K'=>zai 3 t39 t40 (K' · H)) fun t41=>
 zad H (fun K'=>zaf 1 t41 (K' · H)) fun t42=>
 zad H (fun K'=>zal false 1 t42 H (K' · H)) fun t43=>
 zaE H (fun H K'=>ACalls tP zhx [t37,t38,t43] H K') fun t44=>
 zad H (fun K'=>aUn .not t44 (K' · H)) fun t45=>
 zad H (fun K'=>K' t45 H) fun t46=>
 zab t46 false H (fun K'=>zad H (fun K''=>K'' t8 H) (K' · H)) fun t47 H=>
 zab t46 false H (fun K'=>zad H (fun K''=>K'' t29 H) (K' · H)) fun t48 H=>
 zab t46 false H (fun K'=>zad H (fun K''=>zai 1 t47 t48 (K'' · H)) (K' · H)) fun t49 H=>
 zab t46 false H (fun K'=>zad H (fun K''=>zal false 1 t49 H (K'' · H)) (K' · H)) fun t50 H=>
 zab t46 false H (fun K'=>zad H (fun K''=>aUn .not t50 (K'' · H)) (K' · H)) fun t51 H=>
 zab t46 false H (fun K'=>zad H (fun K''=>K'' t51 H) (K' · H)) fun t52 H=>
 zab t52 true H (fun K'=>zad H (fun K''=>zal true 3 t10 H (K'' · H)) (K' · H)) fun t53 H=>
 zab t52 true H (fun K'=>zad H (fun K''=>K'' t1 H) (K' · H)) fun t54 H=>
 zab t52 true H (fun K'=>zaE H (fun H K''=>ACalls tP zju [t53,t54] H K'') (K' · H)) fun t55 H=>
 zab t46 false H (fun K'=>zad H (fun K''=>zaj t52 t55 (.bool false) (K'' · H)) (K' · H)) fun t56 H=>
 zad H (fun K'=>zaj t46 (.bool true) t56 (K' · H)) fun t57=>
 zag t57
 (K (.bool false) H)
 (zac .add false t29 (.int .i64 1) fun t58=>
 Kb6 (zin t0 t1 t8 t27 t28 t58) H))
 (K (.bool true) H)
def zAA (t0 t1 t2:AV) (H:zaa) (K:Kt):Prop:=
 zai 3 t0 t1 fun t13=>
 zaf 2 t13 fun t14=>
 zae false 1 t14 H fun t15=>
 zai 2 t15 t2 fun t17=>
 zaf 1 t17 fun t18=>
 zae false 1 t18 H fun t19=>
 zah 1 t19 fun t21=>
 zac .gtr false t21 (.int .i64 6) fun t22=>
 zag t22
 (K (.bool false) H)
 (ACalls tP zek [t0,t1,t2] H fun t26 H=>
 zah 1 t19 fun t28=>
 zAB t0 t1 t26 t19 t28 (.int .i64 0) H K)
theorem zMP {t0 t1 t8 t27 t28 t29:AV} {H:zaa} {K:Kt} (Inv:Nat→AV→zaa→Prop) (n:Nat) (h0:HSc H→Inv n t29 H)
  (round:Rd1 (fun t29=>zin t0 t1 t8 t27 t28 t29) (fun t29=>fun H Kb6=>zsw t0 t1 t8 t27 t28 t29 H K Kb6) H Inv):zAB t0 t1 t8 t27 t28 t29 H K:=
 lp1 (M:=zl0) zMQ t29 (by kernel_rfl) Inv n h0 round
theorem zMR {t0 t1 t2:AV} {H:zaa} {K:Kt} (h:HSc H→zAA t0 t1 t2 H K):ACalls tP zpt [t0,t1,t2] H K:=
 zan (M:=zl0) Tryz.func190 (c:=zsx) (by kernel_rfl) (fun hs=>Eq.mpr (by kernel_rfl) (h hs))
end Go.Proofs.YtjkkonpjecoieaaGreat

namespace Go.Proofs.YtjkkonpjecoieaaGreat
open Go Go.Abs
set_option maxRecDepth 8000
def zdW (data:List Dat) (d:Nat) (vars:Int) (t:VT):Bool:=zaR (data.take (d+1)) vars t && (zbP d vars t || !zcv d t)
theorem zMT (data:List Dat) (d:Nat) (c:Nat) (hd:d<data.length) (hc:c<(data[d]).cons.length) (hl:data.length≤1000000) (hcl:(data[d]).cons.length≤1000000) (hal:((data[d]).cons[c]).args.length≤1000000)
  (hb:∀ x∈((data[d]).cons[c]).args,x.nodes≤1000000) (H:zaa) (K:AV→zaa→Prop)
  (hK:K (.bool (decide (((data[d]).cons[c]).args.length≤6) && ((data[d]).cons[c]).args.all (zdW data d (data[d]).vars))) H) :
  ACalls tP zpt [.sl (data.map Dat.cs) .none,.int .i64 d,.int .i64 c] H K:=by
 refine ACalls.out (zMR fun hs=>?_)
 have e1:(data.map Dat.cs)[d]?=some (data[d]).cs:=by simp[hd]
 have e2:((data[d]).cons.map Con.cs)[c]?=some ((data[d]).cons[c]).cs:=by simp[hc]
 have hrec:=zt8 data d c hd hc hl hcl hal hb
 generalize hD:data[d]=D at *
 generalize hA:D.cons[c]=C at *
 have hO:∀ J,Out H.length K (.bool (decide (C.args.length≤6) && C.args.all (zdW data d D.vars))) (H++J):=fun J=>Out.bool rfl (Nat.le_refl _) hs hK
 simp[zAA,e1,e2,Dat.cs,Con.cs,hd,hD,hc,hA]
 by_cases h6:C.args.length≤6
 ·have h6':¬ (6:Int)<C.args.length:=by omega
  have h6'':¬ 6<C.args.length:=by omega
  simp[h6',h6'']
  refine hrec _ _ ?_
  simp[h6]at hO
  refine zMP (Inv:=fun q t29 H'=>∃ i:Nat,i≤C.args.length∧q=C.args.length-i∧t29=.int .i64 i∧(C.args.drop i).all (zdW data d D.vars)=C.args.all (zdW data d D.vars)∧H=H') C.args.length ?_ ?_
  ·intro _;exact⟨0,by omega,by omega,rfl,by simp,rfl⟩
  ·rintro q t29 H' ⟨i,hi,rfl,rfl,ho,rfl⟩ hsc hlen hsF Kb hKb
   by_cases hlt:i<C.args.length
   ·rw[List.drop_eq_getElem_cons hlt,List.all_cons]at ho
    have hnb:=hb _ (List.getElem_mem hlt)
    obtain⟨x1,x2,x3,hvx,hx1,hx2,hx3⟩:=zaO C.args[i]
    simp[zsw,hlt,hvx,e1,hd,hD,Dat.cs]
    refine⟨⟨hx1,hx2,hx3⟩,?_⟩
    rw[zau (by omega) (by omega),show ((d:Int)+1).toNat=d+1 by omega,←List.map_take]
    refine⟨by omega,by omega,?_⟩
    rw[←hvx]
    refine zaH (.bool (zaR (data.take (d+1)) D.vars C.args[i])) (fun J=>zy3 (data.take (d+1)) D.vars _ (by omega) _ _ ⟨rfl,rfl⟩) ?_
    have hao:zdW data d D.vars C.args[i]=(zaR (data.take (d+1)) D.vars C.args[i] && (zbP d D.vars C.args[i] || !zcv d C.args[i])):=rfl
    rw[hao]at ho
    cases hv:zaR (data.take (d+1)) D.vars C.args[i] with
    | false=>
     rw[hv]at ho
     simp only[Bool.false_and]at ho
     rw[←ho]at hO
     simp;exact hO _
    | true=>
    rw[hv]at ho
    cases hsf:zbP d D.vars C.args[i] with
    | true=>
     rw[hsf]at ho
     simp[hlt,hsf]
     rw[zau (by omega) (by omega)]
     refine hKb _ _ ⟨C.args.length-(i+1),by omega,Back.same (by simp) hs ?_ ⟨_,rfl,i+1,by omega,rfl,by simp,by simpa using ho,rfl⟩⟩
     simp[zin,AV.sc,AV.scV,AV.scA,AV.scB]
    | false=>
     rw[hsf]at ho
     simp[hlt,hsf]
     refine zaH (.bool (zcv d C.args[i])) (fun J=>zNg d _ _ (Nat.le_refl _) (by omega) _ _ ⟨rfl,rfl⟩) ?_
     cases hm:zcv d C.args[i] with
     | true=>
      rw[hm]at ho
      simp only[Bool.not_true,Bool.or_false,Bool.and_false,Bool.false_and]at ho
      rw[←ho]at hO
      simp;exact hO _
     | false=>
      rw[hm]at ho
      simp
      rw[zau (by omega) (by omega)]
      refine hKb _ _ ⟨C.args.length-(i+1),by omega,Back.same (by simp) hs ?_ ⟨_,rfl,i+1,by omega,rfl,by simp,by simpa using ho,rfl⟩⟩
      simp[zin,AV.sc,AV.scV,AV.scA,AV.scB]
   ·obtain rfl:i=C.args.length:=by omega
    rw[List.drop_length,List.all_nil]at ho
    rw[←ho]at hO
    simp[zsw]
    simpa using hO []
 ·have h6':(6:Int)<C.args.length:=by omega
  have h6'':6<C.args.length:=by omega
  simp[h6',h6'']
  simp[h6]at hO
  simpa using hO []
end Go.Proofs.YtjkkonpjecoieaaGreat

import Derived.Test.YtaifokkaaahdoaaGreatDoorKTW5
import Derived.Test.YtaifokkaaahdoaaGreatDoorKNum
import Derived.Test.YtaifokkaaahdoaaGreatDoorProg
import Derived.KernelRfl
import Derived.Test.YtaifokkaaahdoaaGreatDoorKGT1
import Derived.Test.YtaifokkaaahdoaaGreatDoorKY9
set_option linter.unusedSimpArgs false
set_option linter.unusedVariables false
set_option linter.unusedSectionVars false
set_option maxRecDepth 8000
namespace Go.Proofs.YtaifokkaaahdoaaGreatDoor
open Go Go.Abs
theorem zkP(s:List UInt8)(i n:Nat):List.drop i (List.take (i+n) s)=List.take n (List.drop i s):=by rw[List.drop_take];congr 1;omega
def zgZ(t0 t5 t6 t7 t8:AV)(H:zaa)(K:AV→zaa→Prop)(Kb5:List AV→zaa→Prop):Prop:=
 zac .gtr false t8 (.int .i64 24) λt118=>
 zag t118
 (zbb [.snil,t6,(.int .i64 9)] (K · H))
 (ACalls tP zgy [t7] H λt121 H=>
 zag t121
 (zfj t0 t5 t6 t8 (.int .i64 2) H K Kb5)
 (zac .add false t6 t8 λt126=>
 za7 0 0 t0 (some t6) (some t126) λt127=>
 ACalls tP zjV [t127] H λt128 H=>
 zag t128
 (zfj t0 t5 t6 t8 (.int .i64 4) H K Kb5)
 (zfj t0 t5 t6 t8 (.int .i64 1) H K Kb5)))
section
variable (s:List UInt8) (hl:¬s.length>16384) (i:Nat) (hlt:i<s.length) (H:zaa) (l:List Tk) (hll:l.length≤i) (hperm:∀n,HSc (H++[.perm zbt 3 n])) (K:AV→zaa→Prop) (Kb:List AV→zaa→Prop)
include hl hlt hll hperm
theorem zGT(hLU:(zbR s[i] || bUp s[i])=true)(app:∀ (k:Int) (n:Nat),tok (kwF kwds) s[i] (s.drop (i+1))=.ok (k,n)→∀ t,(s.drop i).take n=t→zip (.str s) (.sl (l.map Tk.cs++[[.int .i64 k,.str t,.int .i64 i]]) (.own H.length)) (.int .i64 i) (.int .i64 n) (H++[.perm zbt 3 (l.length+1)]) (Out H.length K) Kb)(bad:∀ e:Int,tok (kwF kwds) s[i] (s.drop (i+1))=.error e→Out H.length K (.tup [.snil,.int .i64 i,.int .i64 e]) (H++[.perm zbt 3 l.length])):
  zqs (.str s) (.sl (l.map Tk.cs) (.own H.length)) (.int .i64 i) (.int .u8 s[i].toNat) (.int .i64 1) (H++[.perm zbt 3 l.length]) (Out H.length K) Kb:=by
 refine zG9 (Inv:=λq t8 H'=>∃(j:Nat),i+j≤s.length∧0<j∧q=s.length-j∧t8=.int .i64 j∧H'=H++[.perm zbt 3 l.length]∧j+((s.drop (i+j)).takeWhile bIn).length=((s.drop (i+1)).takeWhile bIn).length+1) (s.length-1) ?_ ?_
 ·intro _;exact⟨1,by omega,by omega,by omega,rfl,rfl,by omega⟩
 ·rintro q t8 H' ⟨j,hij,hj0,rfl,rfl,rfl,hn⟩ hsc hlen hsF Kb18 hKb18;have w1:IntKind.i64.wrap ((i:Int)+j)=i+j:=zav (by omega) (by omega);have w2:IntKind.i64.wrap ((j:Int)+1)=j+1:=zav (by omega) (by omega);have fin:((s.drop (i+j)).takeWhile bIn).length=0→zgZ (.str s) (.sl (l.map Tk.cs) (.own H.length)) (.int .i64 i) (.int .u8 s[i].toNat) (.int .i64 j) (H++[.perm zbt 3 l.length]) (Out H.length K) Kb:=by
   intro h0;rw[h0]at hn;have htk:tok (kwF kwds) s[i] (s.drop (i+1))=if j>24 then .error 9 else .ok (if bUp s[i]=true then 2 else if kwF kwds ((s.drop i).take j)=true then 4 else 1,j):=by rw[List.drop_eq_getElem_cons hlt];simp only[tok,hLU,if_true,←hn,Nat.add_zero]
   by_cases h24:j>24
   ·have h24':(24:Int)<j:=by omega
    rw[if_pos h24]at htk;simp[zgZ,h24',AV.isV];exact bad 9 htk
   ·have h24':¬ (24:Int)<j:=by omega
    rw[if_neg h24]at htk;simp[zgZ,h24'];refine zkX _ _ _ ?_;have fin2:∀k,k=(if bUp s[i]=true then 2 else if kwF kwds ((s.drop i).take j)=true then 4 else 1:Int)→zfj (.str s) (.sl (l.map Tk.cs) (.own H.length)) (.int .i64 i) (.int .i64 j) (.int .i64 k) (H++[.perm zbt 3 l.length]) (Out H.length K) Kb:=by intro k hk;rw[←hk]at htk;have:=app k j htk _ rfl;simp[zfj,w1,w2,zao,zaM,zas,zbh,plain,AV.pd,zax,zbc,za2,zfk];refine⟨by omega,by omega,by omega,?_⟩;rw[show ((i:Int)+j).toNat=i+j by omega,zkP];exact this
    cases hU:bUp s[i] with
    |true=>simp;exact fin2 2 (by simp[hU])
    |false=>
     simp[w1,w2];refine⟨by omega,by omega,?_⟩;rw[show ((i:Int)+j).toNat=i+j by omega,zkP];refine zDI _ _ _ ?_;cases hkw:kwF kwds ((s.drop i).take j) with
     |true=>simp;exact fin2 4 (by simp[hU,hkw])
     |false=>simp;exact fin2 1 (by simp[hU,hkw])
  by_cases hjlt:i+j<s.length
  ·have e95:((s[i+j].toNat:Int) == 95)=(s[i+j] == 95):=zcw s[i+j] 95;have hjlt':(i+j:Int)<s.length:=by omega
   rw[List.drop_eq_getElem_cons hjlt,List.takeWhile_cons]at hn fin;have key:bIn s[i+j]=true→Kb18 (zio (.str s) (.sl (l.map Tk.cs) (.own H.length)) (.int .i64 i) (.int .u8 s[i].toNat) (.int .i64 (j+1))) (H++[.perm zbt 3 l.length]):=by intro hbin;rw[hbin]at hn;simp at hn;refine hKb18 _ _ ⟨s.length-(j+1),by omega,Back.here (by simp) (hperm _) ?_ ⟨_,rfl,j+1,by omega,by omega,rfl,by simp,rfl,by rw[←Nat.add_assoc];omega⟩⟩;simp[zio,AV.sc,AV.scV,AV.scA,AV.scB]
   have no:bIn s[i+j]=false→zgZ (.str s) (.sl (l.map Tk.cs) (.own H.length)) (.int .i64 i) (.int .u8 s[i].toNat) (.int .i64 j) (H++[.perm zbt 3 l.length]) (Out H.length K) Kb:=by intro hbin;rw[hbin]at fin;exact fin (by simp)
   have hget:s[((i:Int)+j).toNat]?.getD 0=s[i+j]:=by rw[show ((i:Int)+j).toNat=i+j by omega];simp[hjlt]
   unfold bIn at key no;simp[zqp,w1,w2,hjlt',hget];refine⟨by omega,?_⟩;refine zvg _ _ _ ?_;cases hL:zbR s[i+j] with
   |true=>simpa using key (by simp[hL])
   |false=>
    simp[w1,w2,hjlt',hget];refine⟨by omega,zkX _ _ _ ?_⟩;cases hU:bUp s[i+j] with
    |true=>simpa using key (by simp[hU])
    |false=>
     simp[w1,w2,hjlt',hget];refine⟨by omega,zn4 _ _ _ ?_⟩;cases hD:zba s[i+j] with
     |true=>simpa using key (by simp[hD])
     |false=>
      simp[w1,w2,hjlt',hget,e95];refine⟨by omega,?_⟩;cases h95:(s[i+j] == 95) with
      |true=>simpa using key (by simp[h95])
      |false=>simpa[zgZ,w1]using no (by simp[hL,hU,hD,h95])
  ·have hjlt':¬ (i+j:Int)<s.length:=by omega
   have:s.drop (i+j)=[]:=List.drop_eq_nil_of_le (by omega);rw[this]at fin;have:=fin rfl;simp[zqp,w1,w2,hjlt'];simpa[zgZ,w1]using this
end
def zk5(t0 t5 t6 t8:AV)(H:zaa)(K:AV→zaa→Prop)(Kb5:List AV→zaa→Prop):Prop:=
 zac .add false t6 t8 λt172=>
 za7 0 0 t0 (some t6) (some t172) λt173=>
 ACalls tP zgz [t173] H λt174 H=>
 zaN t174 0 λt175=>
 zaN t174 1 λt176=>
 aUn .not t176 λt178=>
 zag t178
 (zbb [.snil,t6,(.int .i64 9)] (K · H))
 (zac .add false t6 t8 λt185=>
 za7 0 0 t0 (some t6) (some t185) λt186=>
 zao [(.int .i64 0),(.str []),(.int .i64 0)] [(0,1),(1,1),(2,1)] [(0,(.int .i64 3)),(1,t186),(2,t6)] λt188=>
 zas 3 [(.int .i64 0),(.str []),(.int .i64 0)] 1 [(0,t188)] λt189=>
 zax zbt 3 32 t5 t189 H λt190 H=>
 zfk t0 t190 t6 t8 H K Kb5)
def zg0(t0 t5 t6 t7 t8:AV)(H:zaa)(K:AV→zaa→Prop)(Kb5:List AV→zaa→Prop):Prop:=
 zac .gtr false t8 (.int .i64 1) λt161=>
 zab t161 true H (λK'=>K' t7 H) λt163 H=>
 zab t161 true H (λK'=>zac .eql false t163 (.int .u8 48) (K' · H)) λt164 H=>
 zai t161 t164 (.bool false) λt165=>
 zag t165
 (zbb [.snil,t6,(.int .i64 2)] (K · H))
 (zac .add false t6 t8 λt172=>
 za7 0 0 t0 (some t6) (some t172) λt173=>
 ACalls tP zgz [t173] H λt174 H=>
 zaN t174 0 λt175=>
 zaN t174 1 λt176=>
 aUn .not t176 λt178=>
 zag t178
 (zbb [.snil,t6,(.int .i64 9)] (K · H))
 (zac .add false t6 t8 λt185=>
 za7 0 0 t0 (some t6) (some t185) λt186=>
 zao [(.int .i64 0),(.str []),(.int .i64 0)] [(0,1),(1,1),(2,1)] [(0,(.int .i64 3)),(1,t186),(2,t6)] λt188=>
 zas 3 [(.int .i64 0),(.str []),(.int .i64 0)] 1 [(0,t188)] λt189=>
 zax zbt 3 32 t5 t189 H λt190 H=>
 zfk t0 t190 t6 t8 H K Kb5))
section
variable (s:List UInt8) (hl:¬s.length>16384) (i:Nat) (hlt:i<s.length) (H:zaa) (l:List Tk) (hll:l.length≤i) (hperm:∀n,HSc (H++[.perm zbt 3 n])) (K:AV→zaa→Prop) (Kb:List AV→zaa→Prop)
include hl hlt hll hperm
theorem zEt(hLU:¬ (zbR s[i] || bUp s[i])=true)(hD:zba s[i]=true)(app:∀ (k:Int) (n:Nat),tok (kwF kwds) s[i] (s.drop (i+1))=.ok (k,n)→∀ t,(s.drop i).take n=t→zip (.str s) (.sl (l.map Tk.cs++[[.int .i64 k,.str t,.int .i64 i]]) (.own H.length)) (.int .i64 i) (.int .i64 n) (H++[.perm zbt 3 (l.length+1)]) (Out H.length K) Kb)(bad:∀ e:Int,tok (kwF kwds) s[i] (s.drop (i+1))=.error e→Out H.length K (.tup [.snil,.int .i64 i,.int .i64 e]) (H++[.perm zbt 3 l.length])):
  zqt (.str s) (.sl (l.map Tk.cs) (.own H.length)) (.int .i64 i) (.int .u8 s[i].toNat) (.int .i64 1) (H++[.perm zbt 3 l.length]) (Out H.length K) Kb:=by
 refine zHa (Inv:=λq t8 H'=>∃(j:Nat),i+j≤s.length∧0<j∧q=s.length-j∧t8=.int .i64 j∧H'=H++[.perm zbt 3 l.length]∧j+((s.drop (i+j)).takeWhile zba).length=((s.drop (i+1)).takeWhile zba).length+1) (s.length-1) ?_ ?_
 ·intro _;exact⟨1,by omega,by omega,by omega,rfl,rfl,by omega⟩
 ·rintro q t8 H' ⟨j,hij,hj0,rfl,rfl,rfl,hn⟩ hsc hlen hsF Kb18 hKb18;have w1:IntKind.i64.wrap ((i:Int)+j)=i+j:=zav (by omega) (by omega);have w2:IntKind.i64.wrap ((j:Int)+1)=j+1:=zav (by omega) (by omega);have e48:((s[i].toNat:Int) == 48)=(s[i] == 48):=zcw s[i] 48;have fin:((s.drop (i+j)).takeWhile zba).length=0→zg0 (.str s) (.sl (l.map Tk.cs) (.own H.length)) (.int .i64 i) (.int .u8 s[i].toNat) (.int .i64 j) (H++[.perm zbt 3 l.length]) (Out H.length K) Kb:=by
   intro h0;rw[h0]at hn;have hdj:(s.drop i).take j=s[i]::(s.drop (i+1)).takeWhile zba:=by rw[List.drop_eq_getElem_cons hlt,show j=((s.drop (i+1)).takeWhile zba).length+1 by omega,zkO]
   have htk:tok (kwF kwds) s[i] (s.drop (i+1))=if (s[i] == 48 && decide (j>1))=true then .error 2 else if zb7 ((s.drop i).take j) 0=true then .ok (3,j) else .error 9:=by rw[List.drop_eq_getElem_cons hlt];simp only[tok,hLU,hD,if_true,←hn,Nat.add_zero];rfl
   have hval:∀(K:AV→zaa→Prop) (H:zaa),(∀n,K (.tup [.int .i64 n,.bool (zb7 ((s.drop i).take j) 0)]) H)→ACalls tP zgz [.str ((s.drop i).take j)] H K:=by
    intro K H hK;refine zGK _ ?_ (by simp;omega) _ _ hK;intro c hc;rw[hdj]at hc;rcases List.mem_cons.1 hc with rfl|hc
    ·exact hD
    ·exact List.all_eq_true.1 (List.all_takeWhile) c hc
   have rest:¬(s[i] == 48 && decide (j>1))=true→zk5 (.str s) (.sl (l.map Tk.cs) (.own H.length)) (.int .i64 i) (.int .i64 j) (H++[.perm zbt 3 l.length]) (Out H.length K) Kb:=by
    intro hne;rw[if_neg hne]at htk;simp[zk5,w1];refine⟨by omega,by omega,?_⟩;rw[show ((i:Int)+j).toNat=i+j by omega,zkP];refine hval _ _ λn=>?_;cases hv:zb7 ((s.drop i).take j) 0 with
    |false=>rw[hv]at htk;simp[AV.isV];exact bad 9 htk
    |true=>rw[hv]at htk;have:=app 3 j htk _ rfl;simp[zao,zaM,zas,zbh,plain,AV.pd,zax,zbc,za2,zfk];refine⟨by omega,by omega,by omega,?_⟩;exact this
   by_cases h1:j>1
   ·have h1':(1:Int)<j:=by omega
    have hd:decide (j>1)=true:=decide_eq_true h1;rw[hd]at rest htk;cases hz:(s[i] == 48) with
    |true=>rw[hz]at htk;simp[zg0,h1',e48,hz,AV.isV];exact bad 2 htk
    |false=>have:=rest (by rw[hz];decide);simp[zg0,h1',e48,hz];simpa[zk5]using this
   ·have h1':¬ (1:Int)<j:=by omega
    have:=rest (by rw[decide_eq_false h1];simp);simp[zg0,h1'];simpa[zk5]using this
  by_cases hjlt:i+j<s.length
  ·have hjlt':(i+j:Int)<s.length:=by omega
   rw[List.drop_eq_getElem_cons hjlt,List.takeWhile_cons]at hn fin;have hget:s[((i:Int)+j).toNat]?.getD 0=s[i+j]:=by rw[show ((i:Int)+j).toNat=i+j by omega];simp[hjlt]
   simp[zqq,w1,w2,hjlt',hget];refine⟨by omega,?_⟩;refine zn4 _ _ _ ?_;cases hb:zba s[i+j] with
   |true=>rw[hb]at hn;simp at hn;simp[w1,w2];refine hKb18 _ _ ⟨s.length-(j+1),by omega,Back.here (by simp) (hperm _) ?_ ⟨_,rfl,j+1,by omega,by omega,rfl,by simp,rfl,by rw[←Nat.add_assoc];omega⟩⟩;simp[zk7,AV.sc,AV.scV,AV.scA,AV.scB]
   |false=>rw[hb]at fin;have:=fin (by simp);simp[w1,w2];simpa[zg0,w1]using this
  ·have hjlt':¬ (i+j:Int)<s.length:=by omega
   have:s.drop (i+j)=[]:=List.drop_eq_nil_of_le (by omega);rw[this]at fin;have:=fin rfl;simp[zqq,w1,w2,hjlt'];simpa[zg0,w1]using this
end
theorem zF2(s:List UInt8)(H:zaa)(K:AV→zaa→Prop)(hK:K (zfe s) H):ACalls tP zoN [.str s] H K:=by
 refine ACalls.out (zHf λhs=>?_);by_cases hl:s.length>16384
 ·have hl':(16384:Int)<s.length:=by omega
  simp[zqn,hl',AV.isV];unfold zfe at hK;rw[if_pos hl]at hK;exact Out.tup0 hs hK ⟨zgQ,zb4 rfl rfl,zb4 rfl rfl,trivial⟩
 have hl':¬(16384:Int)<s.length:=by omega
 unfold zfe at hK;rw[if_neg hl]at hK;simp[zqn,hl'];have hperm:∀n,HSc (H++[.perm zbt 3 n]):=λn=>hs.append rfl;unfold zk8;refine ALoop.own 5 zbt 3 rfl ?_;show zk8 (.str s) (.sl [] (.own H.length)) (.int .i64 0) (H++[.perm zbt 3 0]) (Out H.length K);refine zHb (Inv:=λq t5 t6 H'=>∃(i:Nat) (l:List Tk),i≤s.length∧l.length≤i∧q=s.length-i∧t6=.int .i64 i∧t5=.sl (l.map Tk.cs) (.own H.length)∧H'=H++[.perm zbt 3 l.length]∧cat l (zbk (kwF kwds) (s.drop i) i)=zbk (kwF kwds) s 0) s.length ?_ ?_
 ·intro _;exact⟨0,[],by omega,by simp,by omega,rfl,rfl,rfl,by simp⟩
 ·rintro q t5 t6 H' ⟨i,l,hi,hll,rfl,rfl,rfl,rfl,ho⟩ hsc hlen hsF Kb hKb;by_cases hlt:i<s.length
  ·have hdr:=List.drop_eq_getElem_cons hlt;have e9:((s[i].toNat:Int) == 9)=(s[i] == 9):=zcw s[i] 9;have e10:((s[i].toNat:Int) == 10)=(s[i] == 10):=zcw s[i] 10;have e13:((s[i].toNat:Int) == 13)=(s[i] == 13):=zcw s[i] 13;have e32:((s[i].toNat:Int) == 32)=(s[i] == 32):=zcw s[i] 32;have e35:((s[i].toNat:Int) == 35)=(s[i] == 35):=zcw s[i] 35;cases hbl:zdk s[i] with
   |true=>
    rw[hdr,zwW _ hbl]at ho;have key:zfi (.str s) (.sl (l.map Tk.cs) (.own H.length)) (.int .i64 (IntKind.i64.wrap (i+1))) (H++[.perm zbt 3 l.length]) (Out H.length K) Kb:=by simp[zfi];rw[zav (by omega) (by omega)];refine hKb _ _ ⟨s.length-(i+1),by omega,Back.here (by simp) (hperm _) ?_ ⟨_,_,rfl,i+1,l,by omega,by omega,rfl,by simp,rfl,rfl,ho⟩⟩;simp[zfW,AV.sc,AV.scV,AV.scA,AV.scB]
    unfold zdk at hbl;cases h9:(s[i] == 9) <;> cases h10:(s[i] == 10) <;> cases h13:(s[i] == 13) <;> cases h32:(s[i] == 32) <;> simp[h9,h10,h13,h32]at hbl <;> simpa[zk4,hlt,e9,e10,e13,e32,h9,h10,h13,h32]using key
   |false=>
    have hbl':=hbl;unfold zdk at hbl';simp only[Bool.or_eq_false_iff]at hbl';obtain⟨⟨⟨h9,h10⟩,h13⟩,h32⟩:=hbl';have app:∀(k:Int) (n:Nat),tok (kwF kwds) s[i] (s.drop (i+1))=.ok (k,n)→(s[i] == 35)=false→∀t,(s.drop i).take n=t→zip (.str s) (.sl (l.map Tk.cs++[[.int .i64 k,.str t,.int .i64 i]]) (.own H.length)) (.int .i64 i) (.int .i64 n) (H++[.perm zbt 3 (l.length+1)]) (Out H.length K) Kb:=by
     intro k n ht hsh t hte;subst hte;rw[hdr,zwZ _ hbl hsh ht,zt4,←hdr]at ho;have hn:=zp4 ht;rw[←hdr]at hn;simp at hn;have hn0:=zp5 ht;simp[zip,zfi];rw[zav (by omega) (by omega)];refine hKb _ _ ⟨s.length-(i+n),by omega,Back.here (by simp) (hperm _) ?_ ⟨_,_,rfl,i+n,l++[⟨k,(s.drop i).take n,i⟩],by omega,by simp;omega,rfl,by simp,by simp[Tk.cs],by simp,?_⟩⟩
     ·simp[zfW,AV.sc,AV.scV,AV.scA,AV.scB]
     ·rw[List.drop_drop]at ho;exact ho
    have bad:∀e:Int,tok (kwF kwds) s[i] (s.drop (i+1))=.error e→(s[i] == 35)=false→Out H.length K (.tup [.snil,.int .i64 i,.int .i64 e]) (H++[.perm zbt 3 l.length]):=by intro e ht hsh;rw[hdr,zwX _ hbl hsh ht]at ho;rw[←ho]at hK;exact zvU hs hK
    simp[zk4,hlt,e9,e10,e13,e32,e35,h9,h10,h13,h32];cases hsh:(s[i] == 35) with
    |true=>
     simp;rw[hdr,zwY _ hbl hsh]at ho;obtain⟨c1,c2⟩:=zkF h10 (s.drop (i+1));rw[Nat.add_assoc,←c1,←c2,←hdr]at ho;refine zG8 (Inv:=λq t6 H'=>∃(j:Nat),i≤j∧j≤s.length∧q=s.length-j∧t6=.int .i64 j∧H'=H++[.perm zbt 3 l.length]∧cat l (zbk (kwF kwds) (zeE (s.drop j)) (j+zeF (s.drop j)))=zbk (kwF kwds) s 0) (s.length-i) ?_ ?_
     ·intro _;exact⟨i,by omega,by omega,by omega,rfl,rfl,ho⟩
     ·rintro q t6 H' ⟨j,hij,hj,rfl,rfl,rfl,ho⟩ hsc hlen hsF Kb9 hKb9;by_cases hjlt:j<s.length
      ·have hdrj:=List.drop_eq_getElem_cons hjlt;have e10:((s[j].toNat:Int) != 10)=!(s[j] == 10):=by rw[←zcw s[j] 10];rfl
       simp[zqo,hjlt,e10];cases hz:(s[j] == 10) with
       |true=>
        obtain⟨d1,d2⟩:=zwA hz (s.drop (j+1));rw[hdrj,d1,d2,←hdrj,Nat.add_zero]at ho;have hij':i≠j:=by rintro rfl;rw[h10]at hz;cases hz
        simp[zfi];refine hKb _ _ ⟨s.length-j,by omega,Back.here (by simp) (hperm _) ?_ ⟨_,_,rfl,j,l,by omega,by omega,rfl,by simp,rfl,rfl,ho⟩⟩;simp[zfW,AV.sc,AV.scV,AV.scA,AV.scB]
       |false=>obtain⟨d1,d2⟩:=zkF hz (s.drop (j+1));rw[hdrj,d1,d2,←Nat.add_assoc]at ho;simp;rw[zav (by omega) (by omega)];refine hKb9 _ _ ⟨s.length-(j+1),by omega,Back.here (by simp) (hperm _) ?_ ⟨_,rfl,j+1,by omega,by omega,rfl,by simp,rfl,ho⟩⟩;simp[zk6,AV.sc,AV.scV,AV.scA,AV.scB]
      ·obtain rfl:j=s.length:=by omega
       simp[zqo,zfi];rw[List.drop_length,skipC_nil.1,skipC_nil.2,Nat.add_zero]at ho;refine hKb _ _ ⟨0,by omega,Back.here (by simp) (hperm _) ?_ ⟨_,_,rfl,s.length,l,by omega,by omega,by omega,by simp,rfl,rfl,by rw[List.drop_length];exact ho⟩⟩;simp[zfW,AV.sc,AV.scV,AV.scA,AV.scB]
    |false=>
     replace app:=λk n h=>app k n h hsh
     replace bad:=λe h=>bad e h hsh
     simp;refine zvg _ _ _ ?_;by_cases hLU:(zbR s[i] || bUp s[i])=true
     ·have hc:zbR s[i]=true∨(zbR s[i]=false∧bUp s[i]=true):=by cases hL:zbR s[i] <;> simp[hL]at hLU ⊢;exact hLU
      rcases hc with hL|⟨hL,hU⟩;case' inl=>simp[hL]
      case' inr=>simp[hL];refine zkX _ _ _ ?_;simp[hU]
      all_goals exact zGT s hl i hlt H l hll hperm K Kb hLU app bad
     ·have hL:zbR s[i]=false:=by simp at hLU;exact hLU.1
      have hU:bUp s[i]=false:=by simp at hLU;exact hLU.2
      simp[hL];refine zkX _ _ _ ?_;simp[hU];refine zn4 _ _ _ ?_;cases hD:zba s[i] with
      |true=>simp;exact zEt s hl i hlt H l hll hperm K Kb hLU hD app bad
      |false=>
       simp;refine⟨by omega,?_⟩;have htk:tok (kwF kwds) s[i] (s.drop (i+1))=if sgn (s.drop i)=0 then .error 2 else .ok (5,sgn (s.drop i)):=by simp only[tok,hLU,hD,hdr];rfl
       rw[hdr];refine zFh _ _ _ _ ?_;rw[←hdr];by_cases hz:sgn (s.drop i)=0
       ·simp[hz,AV.isV];exact bad 2 (by rw[htk,if_pos hz])
       ·have hz':((sgn (s.drop i):Int) == 0)=false:=by simpa using hz
        have ht:=htk;rw[if_neg hz]at ht;have hn:=zp4 ht;rw[←hdr]at hn;simp at hn;have:=app 5 (sgn (s.drop i)) ht _ rfl;simp[hz'];rw[zav (by omega) (by omega)];simp[zao,zaM,zas,zbh,plain,AV.pd,zax,zbc,za2,zfk];refine⟨by omega,by omega,by omega,?_⟩;rw[show ((i:Int)+(sgn (s.drop i):Int)).toNat=i+sgn (s.drop i) by omega,zkP];exact this
  ·obtain rfl:i=s.length:=by omega
   rw[List.drop_length,zp6]at ho;rw[←ho]at hK;simp[zk4,zao,zaM,zas,zbh,plain,AV.pd,zax,zbc,za2,AV.isV];refine⟨by omega,?_⟩;simp[cat,Tk.cs]at hK;exact Out.tup hs hK ⟨slV,zb4 rfl rfl,zb4 rfl rfl,trivial⟩
end Go.Proofs.YtaifokkaaahdoaaGreatDoor
namespace Go.Proofs.YtaifokkaaahdoaaGreatDoor
open Go Go.Abs
set_option maxRecDepth 100000
def zef:Nat→List Bool
 |5=>rl false [0,1,2,3,115]
 |12=>rl false [0,1,2,5,113]
 |18=>rl false [0,1,2,5,85,3,25]
 |_=>[]
noncomputable def zr0:Code:=Tryz.f26.body.getD .skip
noncomputable def zMg:List ResultVar:=Tryz.f26.results.toList
def ziM(t0 t3 t4 t5:AV):List AV:=t0::ux 2 (t3::t4::t5::ux 115 [])
def zzs:List Bool:=zef 5
noncomputable def zr2:Code:=zaq [1,1,1,0,1,0,0] zr0
def zzl(K:Kt):AExit→List AV→zaa→Prop:=zar tP zef [1,1,1,0,1,0] zr0 (zaB tP zMg K)
def zha(t0 t3 t4 t5:AV)(H:zaa)(K:Kt):Prop:=ALoop tP zr2 (zzl K) (ziM t0 t3 t4 t5) H
def ziK(t0 t3 t4 t5 t6 t7:AV):List AV:=t0::ux 2 (t3::t4::t5::t6::t7::ux 113 [])
def zzr:List Bool:=zef 12
noncomputable def zr1:Code:=zaq [1,0,0,1,1,1,1,0,0] zr2
def zzk(K:Kt)(Kb5:Lt):AExit→List AV→zaa→Prop:=zar tP zef [1,0,0,1,1,1,1,0] zr2 (zbK zzs Kb5 (zzl K))
def zzm(t0 t3 t4 t5 t6 t7:AV)(H:zaa)(K:Kt)(Kb5:Lt):Prop:=ALoop tP zr1 (zzk K Kb5) (ziK t0 t3 t4 t5 t6 t7) H
def ziL(t0 t3 t4 t5 t6 t7 t93 t94 t95:AV):List AV:=t0::ux 2 (t3::t4::t5::t6::t7::ux 85 (t93::t94::t95::ux 25 []))
def zMf:List Bool:=zef 18
noncomputable def zMe:Code:=zaq [1,0,0,1,1,1,0,0] zr1
def zMb(K:Kt)(Kb5:Lt)(Kb12:Lt):AExit→List AV→zaa→Prop:=zar tP zef [1,0,0,1,1,1,0] zr1 (zbK zzr Kb12 (zzk K Kb5))
def zzn(t0 t3 t4 t5 t6 t7 t93 t94 t95:AV)(H:zaa)(K:Kt)(Kb5:Lt)(Kb12:Lt):Prop:=ALoop tP zMe (zMb K Kb5 Kb12) (ziL t0 t3 t4 t5 t6 t7 t93 t94 t95) H
def zr3(t0 t3 t4 t5 t6 t7 t93 t94 t95:AV)(H:zaa)(K:Kt)(Kb5:Lt)(Kb12:Lt)(Kb18:Lt):Prop:=
 zac .add false t95 (.int .i64 1) λt112=>
 Kb18 (ziL t0 t3 t4 t5 t6 t7 t93 t94 t112) H
def zg9(t0 t3 t4 t5 t6 t7 t93 t94 t95:AV)(H:zaa)(K:Kt)(Kb5:Lt)(Kb12:Lt)(Kb18:Lt):Prop:=
 zr3 t0 t3 t4 t5 t6 t7 t93 t94 t95 H K Kb5 Kb12 Kb18
def ziJ(t0 t3 t4 t5 t6 t7 t93 t94 t95:AV)(H:zaa)(K:Kt)(Kb5:Lt)(Kb12:Lt)(Kb18:Lt):Prop:=
 zac .lss false t95 t94 λt96=>
 zag t96
 (zaj 3 t93 t95 λt97=>
 zae true 3 t97 H λt98=>
 zay [(.int .i64 0),(.int .i64 0),.snil] H λt9 H=>
 zak 3 t9 t98 H λH=>
 zae true 3 t9 H λt99=>
 zaf 1 t6 λt101=>
 zae false 1 t101 H λt102=>
 ACalls tP zkc [t99,t5,t102] H λt103 H=>
 zag t103
 (zg9 t0 t3 t4 t5 t6 t7 t93 t94 t95 H K Kb5 Kb12 Kb18)
 (zad H (λK'=>K' t0 H) λt104=>
 zad H (λK'=>K' t5 H) λt105=>
 zad H (λK'=>za7 1 3 t104 none (some t105) (K' · H)) λt106=>
 zad H (λK'=>zam true 3 t9 H (K' · H)) λt107=>
 zad H (λK'=>zaf 1 t6 (K' · H)) λt108=>
 zad H (λK'=>zam false 1 t108 H (K' · H)) λt109=>
 zaQ H (λH K'=>ACalls tP zhZ [t106,t107,t109] H K') λt110=>
 zad H (λK'=>aUn .not t110 (K' · H)) λt111=>
 zag t111
 (K (.bool false) H)
 (zg9 t0 t3 t4 t5 t6 t7 t93 t94 t95 H K Kb5 Kb12 Kb18)))
 (zac .add false t7 (.int .i64 1) λt60=>
 Kb12 (ziK t0 t3 t4 t5 t6 t60) H)
def ziI(t0 t3 t4 t5 t6 t7:AV)(H:zaa)(K:Kt)(Kb5:Lt)(Kb12:Lt):Prop:=
 zaf 2 t6 λt55=>
 zae false 1 t55 H λt56=>
 zah 1 t56 λt57=>
 zac .lss false t7 t57 λt58=>
 zag t58
 (zaf 2 t6 λt61=>
 zae false 1 t61 H λt62=>
 zaj 2 t62 t7 λt64=>
 zaf 0 t64 λt65=>
 zae false 1 t65 H λt66=>
 ACalls tP zkb [t66] H λt67 H=>
 aUn .not t67 λt68=>
 zab t68 false H (λK'=>zaf 2 t6 (K' · H)) λt70 H=>
 zab t68 false H (λK'=>zae false 1 t70 H (K' · H)) λt71 H=>
 zab t68 false H (λK'=>K' t7 H) λt72 H=>
 zab t68 false H (λK'=>zaj 2 t71 t72 (K' · H)) λt73 H=>
 zab t68 false H (λK'=>zaf 1 t73 (K' · H)) λt74 H=>
 zab t68 false H (λK'=>zae false 1 t74 H (K' · H)) λt75 H=>
 zab t68 false H (λK'=>zah 1 t75 (K' · H)) λt76 H=>
 zab t68 false H (λK'=>zac .gtr false t76 (.int .i64 6) (K' · H)) λt77 H=>
 zai t68 (.bool true) t77 λt78=>
 zag t78
 (K (.bool false) H)
 (zaf 2 t6 λt80=>
 zae false 1 t80 H λt81=>
 zaj 2 t81 t7 λt83=>
 zaf 0 t83 λt84=>
 zae false 1 t84 H λt85=>
 zas 1 [(.str [])] 1 [(0,t85)] λt86=>
 zax za0 1 16 t4 t86 H λt87 H=>
 zaf 2 t6 λt88=>
 zae false 1 t88 H λt89=>
 zaj 2 t89 t7 λt91=>
 zaf 1 t91 λt92=>
 zae false 1 t92 H λt93=>
 zah 1 t93 λt94=>
 zzn t0 t3 t87 t5 t6 t7 t93 t94 (.int .i64 0) H K Kb5 Kb12))
 (zac .add false t5 (.int .i64 1) λt18=>
 Kb5 (ziM t0 t3 t4 t18) H)
def zda(t0 t3 t4 t5:AV)(H:zaa)(K:Kt)(Kb5:Lt):Prop:=
 zah 1 t0 λt15=>
 zac .lss false t5 t15 λt16=>
 zag t16
 (zaj 3 t0 t5 λt21=>
 zae true 3 t21 H λt22=>
 zay [(.str []),(.int .i64 0),.snil] H λt6 H=>
 zak 3 t6 t22 H λH=>
 zaf 1 t6 λt23=>
 zae false 1 t23 H λt24=>
 zac .lss false t24 (.int .i64 0) λt25=>
 zab t25 false H (λK'=>zaf 1 t6 (K' · H)) λt27 H=>
 zab t25 false H (λK'=>zae false 1 t27 H (K' · H)) λt28 H=>
 zab t25 false H (λK'=>zac .gtr false t28 (.int .i64 6) (K' · H)) λt29 H=>
 zai t25 (.bool true) t29 λt30=>
 zab t30 false H (λK'=>zaf 2 t6 (K' · H)) λt32 H=>
 zab t30 false H (λK'=>zae false 1 t32 H (K' · H)) λt33 H=>
 zab t30 false H (λK'=>zah 1 t33 (K' · H)) λt34 H=>
 zab t30 false H (λK'=>zac .lss false t34 (.int .i64 1) (K' · H)) λt35 H=>
 zai t30 (.bool true) t35 λt36=>
 zab t36 false H (λK'=>zaf 2 t6 (K' · H)) λt38 H=>
 zab t36 false H (λK'=>zae false 1 t38 H (K' · H)) λt39 H=>
 zab t36 false H (λK'=>zah 1 t39 (K' · H)) λt40 H=>
 zab t36 false H (λK'=>zac .gtr false t40 (.int .i64 8) (K' · H)) λt41 H=>
 zai t36 (.bool true) t41 λt42=>
 zab t42 false H (λK'=>zaf 0 t6 (K' · H)) λt44 H=>
 zab t42 false H (λK'=>zae false 1 t44 H (K' · H)) λt45 H=>
 zab t42 false H (λK'=>ACalls tP zkb [t45] H K') λt46 H=>
 zab t42 false H (λK'=>aUn .not t46 (K' · H)) λt47 H=>
 zai t42 (.bool true) t47 λt48=>
 zag t48
 (K (.bool false) H)
 (zaf 0 t6 λt50=>
 zae false 1 t50 H λt51=>
 zas 1 [(.str [])] 1 [(0,t51)] λt52=>
 zax za0 1 16 t3 t52 H λt53 H=>
 zzm t0 t53 t4 t5 t6 (.int .i64 0) H K Kb5))
 (ACalls tP zh1 [t3] H λt114 H=>
 aUn .not t114 λt115=>
 zab t115 true H (λK'=>K' t4 H) λt117 H=>
 zab t115 true H (λK'=>ACalls tP zh1 [t117] H K') λt118 H=>
 zab t115 true H (λK'=>aUn .not t118 (K' · H)) λt119 H=>
 zai t115 t119 (.bool false) λt120=>
 K t120 H)
def ziH(t0:AV)(H:zaa)(K:Kt):Prop:=
 zah 1 t0 λt11=>
 zac .gtr false t11 (.int .i64 12) λt12=>
 zag t12
 (K (.bool false) H)
 (zha t0 .snil .snil (.int .i64 0) H K)
theorem zzp{t0 t3 t4 t5 t6 t7 t93 t94 t95:AV}{H:zaa}{K:Kt}{Kb5:Lt}{Kb12:Lt}(Inv:Nat→AV→zaa→Prop)(n:Nat)(h0:HSc H→Inv n t95 H)(round:Rd1 (λt95=>ziL t0 t3 t4 t5 t6 t7 t93 t94 t95) (λt95=>λH Kb18=>ziJ t0 t3 t4 t5 t6 t7 t93 t94 t95 H K Kb5 Kb12 Kb18) H Inv):zzn t0 t3 t4 t5 t6 t7 t93 t94 t95 H K Kb5 Kb12:=
 lp1 (M:=zef) zMf t95 (by kernel_rfl) Inv n h0 round
theorem zzo{t0 t3 t4 t5 t6 t7:AV}{H:zaa}{K:Kt}{Kb5:Lt}(Inv:Nat→AV→AV→zaa→Prop)(n:Nat)(h0:HSc H→Inv n t4 t7 H)(round:Rd2 (λt4=>λt7=>ziK t0 t3 t4 t5 t6 t7) (λt4=>λt7=>λH Kb12=>ziI t0 t3 t4 t5 t6 t7 H K Kb5 Kb12) H Inv):zzm t0 t3 t4 t5 t6 t7 H K Kb5:=
 lp2 (M:=zef) zzr t4 t7 (by kernel_rfl) Inv n h0 round
theorem zzq{t0 t3 t4 t5:AV}{H:zaa}{K:Kt}(Inv:Nat→AV→AV→AV→zaa→Prop)(n:Nat)(h0:HSc H→Inv n t3 t4 t5 H)(round:Rd3 (λt3=>λt4=>λt5=>ziM t0 t3 t4 t5) (λt3=>λt4=>λt5=>λH Kb5=>zda t0 t3 t4 t5 H K Kb5) H Inv):zha t0 t3 t4 t5 H K:=
 lp3 (M:=zef) zzs t3 t4 t5 (by kernel_rfl) Inv n h0 round
theorem zzt{t0:AV}{H:zaa}{K:Kt}(h:HSc H→ziH t0 H K):ACalls tP zj4 [t0] H K:=
 zan (M:=zef) Tryz.func26 (c:=zr0) (by kernel_rfl) (λhs=>Eq.mpr (by kernel_rfl) (h hs))
def zf4:Nat→List Bool
 |2=>rl false [0,1,2,1,21]
 |5=>rl false [0,1,2,2,20]
 |_=>[]
noncomputable def zsu:Code:=Tryz.f64.body.getD .skip
noncomputable def zN0:List ResultVar:=Tryz.f64.results.toList
def zmR(t0 t3:AV):List AV:=t0::ux 2 (t3::ux 21 [])
def zAf:List Bool:=zf4 2
noncomputable def zsv:Code:=zaq [1,0,1,0,0] zsu
def zAc(K:Kt):AExit→List AV→zaa→Prop:=zar tP zf4 [1,0,1,0] zsu (zaB tP zN0 K)
def zAd(t0 t3:AV)(H:zaa)(K:Kt):Prop:=ALoop tP zsv (zAc K) (zmR t0 t3) H
def zmS(t0 t3 t4:AV):List AV:=t0::ux 2 (t3::t4::ux 20 [])
def zNY:List Bool:=zf4 5
noncomputable def zNV:Code:=zaq [1,0,0,1,0,0] zsv
def zNU(K:Kt)(Kb2:Lt):AExit→List AV→zaa→Prop:=zar tP zf4 [1,0,0,1,0] zsv (zbK zAf Kb2 (zAc K))
def zAe(t0 t3 t4:AV)(H:zaa)(K:Kt)(Kb2:Lt):Prop:=ALoop tP zNV (zNU K Kb2) (zmS t0 t3 t4) H
def zst(t0 t3 t4:AV)(H:zaa)(K:Kt)(Kb2:Lt)(Kb5:Lt):Prop:=
 zac .lss false t4 t3 λt13=>
 zag t13
 (zad H (λK'=>K' t0 H) λt16=>
 zad H (λK'=>K' t3 H) λt17=>
 zad H (λK'=>zaj 1 t16 t17 (K' · H)) λt18=>
 zad H (λK'=>zam false 1 t18 H (K' · H)) λt19=>
 zad H (λK'=>K' t0 H) λt20=>
 zad H (λK'=>K' t4 H) λt21=>
 zad H (λK'=>zaj 1 t20 t21 (K' · H)) λt22=>
 zad H (λK'=>zam false 1 t22 H (K' · H)) λt23=>
 zad H (λK'=>zac .eql false t19 t23 (K' · H)) λt24=>
 zag t24
 (K (.bool true) H)
 (zac .add false t4 (.int .i64 1) λt15=>
 Kb5 (zmS t0 t3 t15) H))
 (zac .add false t3 (.int .i64 1) λt10=>
 Kb2 (zmR t0 t10) H)
def zss(t0 t3:AV)(H:zaa)(K:Kt)(Kb2:Lt):Prop:=
 zah 1 t0 λt7=>
 zac .lss false t3 t7 λt8=>
 zag t8
 (zAe t0 t3 (.int .i64 0) H K Kb2)
 (K (.bool false) H)
def zAb(t0:AV)(H:zaa)(K:Kt):Prop:=
 zAd t0 (.int .i64 0) H K
theorem zNX{t0 t3 t4:AV}{H:zaa}{K:Kt}{Kb2:Lt}(Inv:Nat→AV→zaa→Prop)(n:Nat)(h0:HSc H→Inv n t4 H)(round:Rd1 (λt4=>zmS t0 t3 t4) (λt4=>λH Kb5=>zst t0 t3 t4 H K Kb2 Kb5) H Inv):zAe t0 t3 t4 H K Kb2:=
 lp1 (M:=zf4) zNY t4 (by kernel_rfl) Inv n h0 round
theorem zNW{t0 t3:AV}{H:zaa}{K:Kt}(Inv:Nat→AV→zaa→Prop)(n:Nat)(h0:HSc H→Inv n t3 H)(round:Rd1 (λt3=>zmR t0 t3) (λt3=>λH Kb2=>zss t0 t3 H K Kb2) H Inv):zAd t0 t3 H K:=
 lp1 (M:=zf4) zAf t3 (by kernel_rfl) Inv n h0 round
theorem zNZ{t0:AV}{H:zaa}{K:Kt}(h:HSc H→zAb t0 H K):ACalls tP zh1 [t0] H K:=
 zan (M:=zf4) Tryz.func64 (c:=zsu) (by kernel_rfl) (λhs=>Eq.mpr (by kernel_rfl) (h hs))
end Go.Proofs.YtaifokkaaahdoaaGreatDoor

namespace Go.Proofs.YtaifokkaaahdoaaGreatDoor
open Go Go.Abs
theorem zdd{k:AV→Prop}(a b:AV)(vs:List AV):zaN (.tup (a::b::vs)) 1 k=k b:=propext Iff.rfl
theorem zde{k:AV→Prop}(a b c:AV)(vs:List AV):zaN (.tup (a::b::c::vs)) 2 k=k c:=propext Iff.rfl
def zeG(s:List UInt8):List Tk×Int×Int:=
 if s.length>16384 then ([],0,9) else
 match zbk (kwF kwds) s 0 with
 |.error (p,e)=>([],p,e)
 |.ok l=>(l,0,0)
theorem zwI(s:List UInt8):zfe s=.tup [.sl ((zeG s).1.map Tk.cs) .none,.int .i64 (zeG s).2.1,.int .i64 (zeG s).2.2]:=by
 unfold zfe zeG;split
 ·rfl
 ·split <;> (rename_i h;simp[h])
def zbP(s:List UInt8)(x:List Tk × Int × Int):Bool:=x.2.2 == 0 && match x.1 with
 |[a,_]=>a.kind == 2 && a.text == s
 |_=>false
def zbO(s:List UInt8):Bool:=zbP s (zeG s)
theorem zyQ(s:List UInt8)(H:zaa)(K:AV→zaa→Prop)(hK:K (.bool (zbO s)) H):ACalls tP zjY [.str s] H K:=by
 refine ACalls.out (zKP λhs=>?_);have hO:Out H.length K (.bool (zbO s)) H:=Out.bool (J:=[]) (by simp) (Nat.le_refl _) hs hK;simp only[zyP];refine zF1 s _ _ ?_;rw[zwI];rw[zbO]at hO;generalize zeG s=x at hO ⊢;obtain⟨l,p,e⟩:=x;clear hK;cases h0:e == 0 with
 |false=>rw[show zbP s (l,p,e)=false by simp[zbP,h0]]at hO;simp[zdd,zde,h0];exact hO
 |true=>
 match l with
 |[]=>rw[show zbP s ([],p,e)=false by simp[zbP]]at hO;simp[zdd,zde,h0];exact hO
 |[x]=>rw[show zbP s ([x],p,e)=false by simp[zbP]]at hO;simp[zdd,zde,h0];exact hO
 |[a,x]=>
  rw[show zbP s ([a,x],p,e)=(a.kind == 2 && a.text == s) by simp[zbP,h0]]at hO;cases hk:a.kind == 2 with
  |false=>rw[hk]at hO;simp[zdd,zde,h0,Tk.cs,hk];exact hO
  |true=>rw[hk]at hO;simp[zdd,zde,h0,Tk.cs,hk];exact hO
 |a::b::c::r=>
  rw[show zbP s (a::b::c::r,p,e)=false by simp[zbP]]at hO;have:¬((r.length:Int)+1+1+1=2):=by omega
  have h2:((r.length:Int)+1+1+1 == 2)=false:=by simpa using this
  simp[zdd,zde,h0,h2];exact hO
theorem zmP(s:List UInt8)(H:zaa)(K:AV→zaa→Prop)(hK:K (.bool (zbO s)) H):ACalls tP zkb [.str s] H K:=by
 refine ACalls.out (zNP λhs=>?_);have hO:Out H.length K (.bool (zbO s)) H:=Out.bool (J:=[]) (by simp) (Nat.le_refl _) hs hK;simp only[zz7];refine zF2 s _ _ ?_;rw[zwI];rw[zbO]at hO;generalize zeG s=x at hO ⊢;obtain⟨l,p,e⟩:=x;clear hK;cases h0:e == 0 with
 |false=>rw[show zbP s (l,p,e)=false by simp[zbP,h0]]at hO;simp[zdd,zde,h0];exact hO
 |true=>
 match l with
 |[]=>rw[show zbP s ([],p,e)=false by simp[zbP]]at hO;simp[zdd,zde,h0];exact hO
 |[x]=>rw[show zbP s ([x],p,e)=false by simp[zbP]]at hO;simp[zdd,zde,h0];exact hO
 |[a,x]=>
  rw[show zbP s ([a,x],p,e)=(a.kind == 2 && a.text == s) by simp[zbP,h0]]at hO;cases hk:a.kind == 2 with
  |false=>rw[hk]at hO;simp[zdd,zde,h0,Tk.cs,hk];exact hO
  |true=>rw[hk]at hO;simp[zdd,zde,h0,Tk.cs,hk];exact hO
 |a::b::c::r=>
  rw[show zbP s (a::b::c::r,p,e)=false by simp[zbP]]at hO;have:¬((r.length:Int)+1+1+1=2):=by omega
  have h2:((r.length:Int)+1+1+1 == 2)=false:=by simpa using this
  simp[zdd,zde,h0,h2];exact hO
def zb0(l:List (List UInt8)):Bool:=!decide l.Nodup
def strs(l:List (List UInt8)):List (List AV):=l.map λs=>[.str s]
@[simp] theorem zUk(l:List (List UInt8)):(strs l).length=l.length:=by simp[strs]
theorem zGb{l:List (List UInt8)}{i:Nat}(h:i<(strs l).length):(strs l)[i]=[.str (l[i]'(by simpa using h))]:=by simp[strs]
theorem zwg{l:List (List UInt8)}{i j:Nat}(hi:i<l.length)(hj:j<i)(h:l[i]=l[j]):zb0 l=true:=by simp only[zb0,Bool.not_eq_true',decide_eq_false_iff_not];intro hn;exact(List.pairwise_iff_getElem.mp hn) j i (by omega) hi hj h.symm
theorem zN1(l:List (List UInt8))(hl:l.length≤1000000)(H:zaa)(K:AV→zaa→Prop)(hK:K (.bool (zb0 l)) H):ACalls tP zh1 [.sl (strs l) .none] H K:=by
 refine ACalls.out (zNZ λhs=>?_);have hO:Out H.length K (.bool (zb0 l)) H:=Out.bool (J:=[]) (by simp) (Nat.le_refl _) hs hK;simp[zAb];refine zNW (Inv:=λq t3 H'=>∃i:Nat,i≤l.length∧q=l.length-i∧t3=.int .i64 i∧(∀a b (ha:a<i) (hb:b<a) (h':a<l.length),l[a]≠l[b])∧H=H') l.length ?_ ?_
 ·intro _;exact⟨0,by omega,by omega,rfl,by omega,rfl⟩
 ·rintro q t3 H' ⟨i,hi,rfl,rfl,hne,rfl⟩ hsc hlen hsF Kb hKb;by_cases hlt:i<l.length
  ·simp[zss,hlt];refine zNX (Inv:=λq t4 H'=>∃j:Nat,j≤i∧q=i-j∧t4=.int .i64 j∧(∀b (hb:b<j) (hb':b<l.length),l[i]≠l[b])∧H=H') i ?_ ?_
   ·intro _;exact⟨0,by omega,by omega,rfl,by omega,rfl⟩
   ·rintro q t4 H' ⟨j,hj,rfl,rfl,hnj,rfl⟩ hsc1 hlen1 hsF1 Kb1 hKb1;by_cases hjl:j<i
    ·simp[zst,hjl,hlt,show j<l.length by omega,zGb];cases he:l[i] == l[j] with
     |true=>rw[zwg hlt hjl (by simpa using he)]at hO;simpa using hO
     |false=>
      simp;rw[zav (by omega) (by omega)];refine hKb1 _ _ ⟨i-(j+1),by omega,Back.at (J:=[]) (H2:=H) (by simp) (Nat.le_refl _) hs ?_ ⟨_,rfl,j+1,by omega,rfl,by simp,?_,rfl⟩⟩
      ·simp[zmS,AV.sc,AV.scV,AV.scA,AV.scB]
      ·intro b hb hb';by_cases hbj:b=j
       ·subst hbj;simpa using he
       ·exact hnj b (by omega) hb'
    ·obtain rfl:j=i:=by omega
     simp[zst];rw[zav (by omega) (by omega)];refine hKb _ _ ⟨l.length-(j+1),by omega,Back.at (J:=[]) (H2:=H) (by simp) (Nat.le_refl _) hs ?_ ⟨_,rfl,j+1,by omega,rfl,by simp,?_,rfl⟩⟩
     ·simp[zmR,AV.sc,AV.scV,AV.scA,AV.scB]
     ·intro a b ha hb h';by_cases haj:a=j
      ·subst haj;exact hnj b hb (by omega)
      ·exact hne a b (by omega) hb h'
  ·obtain rfl:i=l.length:=by omega
   have:zb0 l=false:=by simp only[zb0,Bool.not_eq_false',decide_eq_true_eq];refine List.pairwise_iff_getElem.mpr λa b ha hb hab he=>?_;exact hne b a hb hab hb he.symm
   rw[this]at hO;simp[zss];exact hO
end Go.Proofs.YtaifokkaaahdoaaGreatDoor
namespace Go.Proofs.YtaifokkaaahdoaaGreatDoor
open Go Go.Abs
set_option maxRecDepth 100000
def zfX:Nat→List Bool
 |5=>rl false [0,1,2,2,9,2,89]
 |13=>rl false [0,1,2,3,8,2,60,3,26]
 |_=>[]
noncomputable def zqR:Code:=Tryz.f131.body.getD .skip
noncomputable def zIp:List ResultVar:=Tryz.f131.results.toList
def zlx(t0 t3 t4 t14 t15:AV):List AV:=t0::ux 2 (t3::t4::ux 9 (t14::t15::ux 89 []))
def zxS:List Bool:=zfX 5
noncomputable def zqS:Code:=zaq [1,1,1,0,1,0,0] zqR
def zxP(K:Kt):AExit→List AV→zaa→Prop:=zar tP zfX [1,1,1,0,1,0] zqR (zaB tP zIp K)
def zxR(t0 t3 t4 t14 t15:AV)(H:zaa)(K:Kt):Prop:=ALoop tP zqS (zxP K) (zlx t0 t3 t4 t14 t15) H
def zlw(t0 t3 t4 t5 t14 t15 t76 t77 t78:AV):List AV:=t0::ux 2 (t3::t4::t5::ux 8 (t14::t15::ux 60 (t76::t77::t78::ux 26 [])))
def zIn:List Bool:=zfX 13
noncomputable def zIk:Code:=zaq [1,1,0,0,1,1,1,1,1,0,0] zqS
def zIi(K:Kt)(Kb5:Lt):AExit→List AV→zaa→Prop:=zar tP zfX [1,1,0,0,1,1,1,1,1,0] zqS (zbK zxS Kb5 (zxP K))
def zxQ(t0 t3 t4 t5 t14 t15 t76 t77 t78:AV)(H:zaa)(K:Kt)(Kb5:Lt):Prop:=ALoop tP zIk (zIi K Kb5) (zlw t0 t3 t4 t5 t14 t15 t76 t77 t78) H
def zqP(t0 t3 t4 t5 t14 t15 t76 t77 t78:AV)(H:zaa)(K:Kt)(Kb5:Lt)(Kb13:Lt):Prop:=
 zac .lss false t78 t77 λt79=>
 zag t79
 (zaj 2 t76 t78 λt81=>
 zae true 2 t81 H λt82=>
 zay [(.str []),.snil] H λt7 H=>
 zak 2 t7 t82 H λH=>
 zaf 0 t7 λt83=>
 zae false 1 t83 H λt84=>
 ACalls tP zjY [t84] H λt85 H=>
 aUn .not t85 λt86=>
 zab t86 false H (λK'=>K' t4 H) λt88 H=>
 zab t86 false H (λK'=>zaf 0 t7 (K' · H)) λt89 H=>
 zab t86 false H (λK'=>zae false 1 t89 H (K' · H)) λt90 H=>
 zab t86 false H (λK'=>zdC (.bool false) false t88 t90 H (K' · H)) λt91 H=>
 zai t86 (.bool true) t91 λt92=>
 zab t92 false H (λK'=>K' t0 H) λt94 H=>
 zab t92 false H (λK'=>K' t5 H) λt95 H=>
 zab t92 false H (λK'=>K' t78 H) λt96 H=>
 zab t92 false H (λK'=>ACalls tP zo5 [t94,t95,t96] H K') λt97 H=>
 zab t92 false H (λK'=>aUn .not t97 (K' · H)) λt98 H=>
 zai t92 (.bool true) t98 λt99=>
 zag t99
 (K (.bool false) H)
 (zaf 0 t7 λt101=>
 zae false 1 t101 H λt102=>
 zcL t4 t102 (.bool true) H λH=>
 zac .add false t78 (.int .i64 1) λt103=>
 Kb13 (zlw t0 t3 t4 t5 t14 t15 t76 t77 t103) H))
 (zac .add false t15 (.int .i64 1) λt104=>
 Kb5 (zlx t0 t3 t4 t14 t104) H)
def zqQ(t0 t3 t4 t14 t15:AV)(H:zaa)(K:Kt)(Kb5:Lt):Prop:=
 zac .lss false t15 t14 λt16=>
 zag t16
 (zaj 3 t0 t15 λt20=>
 zaf 0 t20 λt21=>
 zae false 1 t21 H λt22=>
 ACalls tP zjY [t22] H λt23 H=>
 aUn .not t23 λt24=>
 zab t24 false H (λK'=>K' t3 H) λt26 H=>
 zab t24 false H (λK'=>K' t0 H) λt27 H=>
 zab t24 false H (λK'=>K' t15 H) λt28 H=>
 zab t24 false H (λK'=>zaj 3 t27 t28 (K' · H)) λt29 H=>
 zab t24 false H (λK'=>zaf 0 t29 (K' · H)) λt30 H=>
 zab t24 false H (λK'=>zae false 1 t30 H (K' · H)) λt31 H=>
 zab t24 false H (λK'=>zdC (.bool false) false t26 t31 H (K' · H)) λt32 H=>
 zai t24 (.bool true) t32 λt33=>
 zab t33 false H (λK'=>K' t0 H) λt35 H=>
 zab t33 false H (λK'=>K' t15 H) λt36 H=>
 zab t33 false H (λK'=>zaj 3 t35 t36 (K' · H)) λt37 H=>
 zab t33 false H (λK'=>zaf 1 t37 (K' · H)) λt38 H=>
 zab t33 false H (λK'=>zae false 1 t38 H (K' · H)) λt39 H=>
 zab t33 false H (λK'=>zac .lss false t39 (.int .i64 0) (K' · H)) λt40 H=>
 zai t33 (.bool true) t40 λt41=>
 zab t41 false H (λK'=>K' t0 H) λt43 H=>
 zab t41 false H (λK'=>K' t15 H) λt44 H=>
 zab t41 false H (λK'=>zaj 3 t43 t44 (K' · H)) λt45 H=>
 zab t41 false H (λK'=>zaf 1 t45 (K' · H)) λt46 H=>
 zab t41 false H (λK'=>zae false 1 t46 H (K' · H)) λt47 H=>
 zab t41 false H (λK'=>zac .gtr false t47 (.int .i64 6) (K' · H)) λt48 H=>
 zai t41 (.bool true) t48 λt49=>
 zag t49
 (K (.bool false) H)
 (zaj 3 t0 t15 λt53=>
 zaf 0 t53 λt54=>
 zae false 1 t54 H λt55=>
 zcL t3 t55 (.bool true) H λH=>
 zaj 3 t0 t15 λt58=>
 zaf 2 t58 λt59=>
 zae false 1 t59 H λt60=>
 zah 1 t60 λt61=>
 zac .lss false t61 (.int .i64 1) λt62=>
 zab t62 false H (λK'=>K' t0 H) λt64 H=>
 zab t62 false H (λK'=>K' t15 H) λt65 H=>
 zab t62 false H (λK'=>zaj 3 t64 t65 (K' · H)) λt66 H=>
 zab t62 false H (λK'=>zaf 2 t66 (K' · H)) λt67 H=>
 zab t62 false H (λK'=>zae false 1 t67 H (K' · H)) λt68 H=>
 zab t62 false H (λK'=>zah 1 t68 (K' · H)) λt69 H=>
 zab t62 false H (λK'=>zac .gtr false t69 (.int .i64 8) (K' · H)) λt70 H=>
 zai t62 (.bool true) t70 λt71=>
 zag t71
 (K (.bool false) H)
 (zaj 3 t0 t15 λt74=>
 zaf 2 t74 λt75=>
 zae false 1 t75 H λt76=>
 zah 1 t76 λt77=>
 zxQ t0 t3 t4 t15 t14 t15 t76 t77 (.int .i64 0) H K Kb5)))
 (K (.bool true) H)
def zqO(t0:AV)(H:zaa)(K:Kt):Prop:=
 zah 1 t0 λt9=>
 zac .gtr false t9 (.int .i64 12) λt10=>
 zag t10
 (K (.bool false) H)
 (zdU H λt11 H=>
 zdU H λt12 H=>
 zah 1 t0 λt14=>
 zxR t0 t11 t12 t14 (.int .i64 0) H K)
theorem zIl{t0 t3 t4 t5 t14 t15 t76 t77 t78:AV}{H:zaa}{K:Kt}{Kb5:Lt}(Inv:Nat→AV→zaa→Prop)(n:Nat)(h0:HSc H→Inv n t78 H)(round:Rd1 (λt78=>zlw t0 t3 t4 t5 t14 t15 t76 t77 t78) (λt78=>λH Kb13=>zqP t0 t3 t4 t5 t14 t15 t76 t77 t78 H K Kb5 Kb13) H Inv):zxQ t0 t3 t4 t5 t14 t15 t76 t77 t78 H K Kb5:=
 lp1 (M:=zfX) zIn t78 (by kernel_rfl) Inv n h0 round
theorem zIm{t0 t3 t4 t14 t15:AV}{H:zaa}{K:Kt}(Inv:Nat→AV→zaa→Prop)(n:Nat)(h0:HSc H→Inv n t15 H)(round:Rd1 (λt15=>zlx t0 t3 t4 t14 t15) (λt15=>λH Kb5=>zqQ t0 t3 t4 t14 t15 H K Kb5) H Inv):zxR t0 t3 t4 t14 t15 H K:=
 lp1 (M:=zfX) zxS t15 (by kernel_rfl) Inv n h0 round
theorem zIo{t0:AV}{H:zaa}{K:Kt}(h:HSc H→zqO t0 H K):ACalls tP zoR [t0] H K:=
 zan (M:=zfX) Tryz.func131 (c:=zqR) (by kernel_rfl) (λhs=>Eq.mpr (by kernel_rfl) (h hs))
def zmb:Nat→List Bool
 |6=>rl false [0,2,6,1,18,3,29]
 |_=>[]
noncomputable def zrG:Code:=Tryz.f170.body.getD .skip
noncomputable def zKW:List ResultVar:=Tryz.f170.results.toList
def ziF(t0 t1 t8 t27 t28 t29:AV):List AV:=t0::t1::ux 6 (t8::ux 18 (t27::t28::t29::ux 29 []))
def zKU:List Bool:=zmb 6
noncomputable def zKS:Code:=zaq [1,1,1,1,0,1,0,0] zrG
def zKQ(K:Kt):AExit→List AV→zaa→Prop:=zar tP zmb [1,1,1,1,0,1,0] zrG (zaB tP zKW K)
def zyS(t0 t1 t8 t27 t28 t29:AV)(H:zaa)(K:Kt):Prop:=ALoop tP zKS (zKQ K) (ziF t0 t1 t8 t27 t28 t29) H
def zrF(t0 t1 t8 t27 t28 t29:AV)(H:zaa)(K:Kt)(Kb6:Lt):Prop:=
 zac .lss false t29 t28 λt30=>
 zag t30
 (zaj 3 t27 t29 λt32=>
 zae true 3 t32 H λt33=>
 zay [(.int .i64 0),(.int .i64 0),.snil] H λt10 H=>
 zak 3 t10 t33 H λH=>
 zad H (λK'=>K' t0 H) λt34=>
 zad H (λK'=>K' t1 H) λt35=>
 zad H (λK'=>zac .add false t35 (.int .i64 1) (K' · H)) λt36=>
 zad H (λK'=>za7 1 3 t34 none (some t36) (K' · H)) λt37=>
 zad H (λK'=>zam true 3 t10 H (K' · H)) λt38=>
 zad H (λK'=>K' t0 H) λt39=>
 zad H (λK'=>K' t1 H) λt40=>
 zad H (λK'=>zaj 3 t39 t40 (K' · H)) λt41=>
 zad H (λK'=>zaf 1 t41 (K' · H)) λt42=>
 zad H (λK'=>zam false 1 t42 H (K' · H)) λt43=>
 zaQ H (λH K'=>ACalls tP zfP [t37,t38,t43] H K') λt44=>
 zad H (λK'=>aUn .not t44 (K' · H)) λt45=>
 zad H (λK'=>K' t45 H) λt46=>
 zab t46 false H (λK'=>zad H (λK''=>K'' t8 H) (K' · H)) λt47 H=>
 zab t46 false H (λK'=>zad H (λK''=>K'' t29 H) (K' · H)) λt48 H=>
 zab t46 false H (λK'=>zad H (λK''=>zaj 1 t47 t48 (K'' · H)) (K' · H)) λt49 H=>
 zab t46 false H (λK'=>zad H (λK''=>zam false 1 t49 H (K'' · H)) (K' · H)) λt50 H=>
 zab t46 false H (λK'=>zad H (λK''=>aUn .not t50 (K'' · H)) (K' · H)) λt51 H=>
 zab t46 false H (λK'=>zad H (λK''=>K'' t51 H) (K' · H)) λt52 H=>
 zab t52 true H (λK'=>zad H (λK''=>zam true 3 t10 H (K'' · H)) (K' · H)) λt53 H=>
 zab t52 true H (λK'=>zad H (λK''=>K'' t1 H) (K' · H)) λt54 H=>
 zab t52 true H (λK'=>zaQ H (λH K''=>ACalls tP zjZ [t53,t54] H K'') (K' · H)) λt55 H=>
 zab t46 false H (λK'=>zad H (λK''=>zai t52 t55 (.bool false) (K'' · H)) (K' · H)) λt56 H=>
 zad H (λK'=>zai t46 (.bool true) t56 (K' · H)) λt57=>
 zag t57
 (K (.bool false) H)
 (zac .add false t29 (.int .i64 1) λt58=>
 Kb6 (ziF t0 t1 t8 t27 t28 t58) H))
 (K (.bool true) H)
def zyR(t0 t1 t2:AV)(H:zaa)(K:Kt):Prop:=
 zaj 3 t0 t1 λt13=>
 zaf 2 t13 λt14=>
 zae false 1 t14 H λt15=>
 zaj 2 t15 t2 λt17=>
 zaf 1 t17 λt18=>
 zae false 1 t18 H λt19=>
 zah 1 t19 λt21=>
 zac .gtr false t21 (.int .i64 6) λt22=>
 zag t22
 (K (.bool false) H)
 (ACalls tP zo7 [t0,t1,t2] H λt26 H=>
 zah 1 t19 λt28=>
 zyS t0 t1 t26 t19 t28 (.int .i64 0) H K)
theorem zKT{t0 t1 t8 t27 t28 t29:AV}{H:zaa}{K:Kt}(Inv:Nat→AV→zaa→Prop)(n:Nat)(h0:HSc H→Inv n t29 H)(round:Rd1 (λt29=>ziF t0 t1 t8 t27 t28 t29) (λt29=>λH Kb6=>zrF t0 t1 t8 t27 t28 t29 H K Kb6) H Inv):zyS t0 t1 t8 t27 t28 t29 H K:=
 lp1 (M:=zmb) zKU t29 (by kernel_rfl) Inv n h0 round
theorem zKV{t0 t1 t2:AV}{H:zaa}{K:Kt}(h:HSc H→zyR t0 t1 t2 H K):ACalls tP zo5 [t0,t1,t2] H K:=
 zan (M:=zmb) Tryz.func170 (c:=zrG) (by kernel_rfl) (λhs=>Eq.mpr (by kernel_rfl) (h hs))
end Go.Proofs.YtaifokkaaahdoaaGreatDoor

namespace Go.Proofs.YtaifokkaaahdoaaGreatDoor
open Go Go.Abs
def zdj(data:List Dat)(d:Nat)(vars:Int)(t:VT):Bool:=zaA (data.take (d+1)) vars t && (zbT d vars t || !zcs d t)
theorem zfU{data:List Dat}{vars:Int}{t:VT}(h:zaA data vars t=true):t.nodes≤200:=by simp[zaA]at h;exact h.1
theorem zK7(data:List Dat)(d:Nat)(c:Nat)(hd:d<data.length)(hc:c<(data[d]).cons.length)(hl:data.length≤1000000)(hcl:(data[d]).cons.length≤1000000)(hal:((data[d]).cons[c]).args.length≤1000000)(hb:∀ x∈((data[d]).cons[c]).args,zaW x)(H:zaa)(K:AV→zaa→Prop)(hK:K (.sl (((data[d]).cons[c]).args.map λt=>[.bool (zbT d (data[d]).vars t)]) .none) H):
  ACalls tP zo7 [.sl (data.map Dat.cs) .none,.int .i64 d,.int .i64 c] H K:=by
 refine ACalls.out (zLc λhs=>?_);have e1:(data.map Dat.cs)[d]?=some (data[d]).cs:=by simp[hd]
 have e2:((data[d]).cons.map Con.cs)[c]?=some ((data[d]).cons[c]).cs:=by simp[hc]
 generalize hD:data[d]=D at *;generalize hA:D.cons[c]=C at *;have h1:¬(d:Int)<0:=by omega
 have h2:¬(data.length:Int)≤d:=by omega
 have h3:¬(c:Int)<0:=by omega
 have h4:¬(D.cons.length:Int)≤c:=by omega
 simp[zyY,h1,h2,h3,h4,e1,e2,Dat.cs,Con.cs,hd,hD,hc,hA];simp only[zbu,Int.toNat_natCast,ztV];refine⟨⟨by omega,by omega,by omega,by omega⟩,?_⟩;refine zLa (Inv:=λq t49 H'=>∃(i:Nat) (bs:List Bool),i≤C.args.length∧q=C.args.length-i∧t49=.int .i64 i∧bs.length=C.args.length∧(∀j (hj:j<i) (h':j<C.args.length),bs[j]?=some (zbT d D.vars C.args[j]))∧H'=H++[.cells (zaJ bs)]) C.args.length ?_ ?_
 ·intro _;exact⟨0,_,by omega,by omega,rfl,by simp,by omega,rfl⟩
 ·rintro q t49 H' ⟨i,bs,hi,rfl,rfl,hbl,hbs,rfl⟩ hsc hlen hsF Kb hKb;by_cases hlt:i<C.args.length
  ·obtain⟨k,n,ks,hx⟩:∃ k n ks,C.args[i]=.mk k n ks:=by cases h:C.args[i] with | mk a b c=>exact⟨a,b,c,rfl⟩
   have hnb:=hb _ (List.getElem_mem hlt);rw[hx,zaW]at hnb;have hll:=hnb.1;have inner:∀ b0:Bool,b0=(k == 5 && n == (d:Int) && (ks.length:Int) == D.vars) →
     zrR (.sl (data.map Dat.cs) .none) (.int .i64 d) (.ms H.length 0 C.args.length C.args.length) (.int .i64 i) (.sl (VT.css C.args) .none) (.int .i64 C.args.length) (.int .i64 i) (.sl (VT.css ks) .none) (.int .i64 ks.length) (.int .i64 0)
      (H++[.cells (zaJ (bs.set i b0)),.cells [.int .i64 k,.int .i64 n,.sl (VT.css ks) .none]]) (Out H.length K) Kb:=by
    intro b0 hb0;refine zK9 (Inv:=λq t80 H'=>∃(j:Nat) (b:Bool),j≤ks.length∧q=ks.length-j∧t80=.int .i64 j∧(b && zcf (ks.drop j) j)=zbT d D.vars C.args[i]∧H'=H++[.cells (zaJ (bs.set i b)),.cells [.int .i64 k,.int .i64 n,.sl (VT.css ks) .none]]) ks.length ?_ ?_
    ·intro _;exact⟨0,b0,by omega,by omega,rfl,by simp[hx,zbT,hb0],rfl⟩
    ·rintro q t80 H' ⟨j,b,hj,rfl,rfl,hob,rfl⟩ hsc1 hlen1 hsF1 Kb1 hKb1;have hsc0:∀ b:Bool,HSc (H++[.cells (zaJ (bs.set i b))]):=λb=>hs.snoc (by simp[AB.sc,zjm]);have hsc2:∀ b:Bool,HSc (H++[.cells (zaJ (bs.set i b)),.cells [.int .i64 k,.int .i64 n,.sl (VT.css ks) .none]]):=λb=>hs.append (by simp[AB.sc,zjm]);by_cases hjl:j<ks.length
     ·obtain⟨k',n',ks',hx'⟩:∃ k' n' ks',ks[j]=.mk k' n' ks':=by cases h:ks[j] with | mk a b c=>exact⟨a,b,c,rfl⟩
      have hib:i<bs.length:=by omega
      rw[List.drop_eq_getElem_cons hjl,zcf,hx',zhE]at hob;have hback:∀ (b':Bool) J,(b' && zcf (ks.drop (j+1)) (j+1))=zbT d D.vars C.args[i]→zrQ (.sl (data.map Dat.cs) .none) (.int .i64 d) (.ms H.length 0 C.args.length C.args.length) (.int .i64 i) (.sl (VT.css C.args) .none) (.int .i64 C.args.length) (.int .i64 i) (.sl (VT.css ks) .none) (.int .i64 ks.length) (.int .i64 j)
        (H++.cells (zaJ (bs.set i b'))::.cells [.int .i64 k,.int .i64 n,.sl (VT.css ks) .none]::J) (Out H.length K) Kb Kb1:=by
       intro b' J hb';simp[zrQ];rw[zav (by omega) (by omega)];refine hKb1 _ _ ⟨ks.length-(j+1),by omega,Back.at (J:=J) (H2:=H++[.cells (zaJ (bs.set i b')),.cells [.int .i64 k,.int .i64 n,.sl (VT.css ks) .none]]) (by simp) (by simp) (hsc2 _) ?_ ⟨_,rfl,j+1,b',by omega,rfl,by simp,hb',rfl⟩⟩;simp[zmf,AV.sc,AV.scV,AV.scA,AV.scB]
      have hstore:∀l,List.take i (zaJ (bs.set i b))++.bool false::List.drop (i+1) (zaJ (bs.set i b))=l→l=zaJ (bs.set i false):=by rintro _ rfl;rw[znR (by simpa using hib)];simp
      cases g1:(k' == 4) with
      |false=>
       have:(k' != 4)=true:=by simp[bne,g1]
       rw[g1]at hob;simp[zg4,zg5,hjl,hx',VT.cs,this,hlt,hbl,hstore _ rfl];refine⟨by omega,hback _ _ ?_⟩;simpa using hob.symm
      |true=>
      have g1':(k' != 4)=false:=by simp[bne,g1]
      cases g2:(n' == (j:Int)) with
      |false=>
       have:(n' != (j:Int))=true:=by simp[bne,g2]
       rw[g1,g2]at hob;simp[zg4,zg5,hjl,hx',VT.cs,g1',this,hlt,hbl,hstore _ rfl];refine⟨by omega,hback _ _ ?_⟩;simpa using hob.symm
      |true=>
      have g2':(n' != (j:Int))=false:=by simp[bne,g2]
      by_cases g3:ks'.length=0
      ·have g3':¬ (0:Int)<ks'.length:=by omega
       have g3'':¬ 0<ks'.length:=by omega
       simp[zg4,zg5,hjl,hx',VT.cs,g1',g2',g3',g3''];refine hback _ _ ?_;simpa[g1,g2,g3]using hob
      ·have g3':(0:Int)<ks'.length:=by omega
       have g3'':0<ks'.length:=by omega
       have g4:(ks'.length == 0)=false:=by simpa using g3
       rw[g4]at hob;simp[zg4,zg5,hjl,hx',VT.cs,g1',g2',g3',g3'',hlt,hbl,hstore _ rfl];refine⟨by omega,hback _ _ ?_⟩;simpa using hob.symm
     ·obtain rfl:j=ks.length:=by omega
      rw[List.drop_length,zcf,Bool.and_true]at hob;simp[zg4];rw[zav (by omega) (by omega)];refine hKb _ _ ⟨C.args.length-(i+1),by omega,Back.at (J:=[.cells [.int .i64 k,.int .i64 n,.sl (VT.css ks) .none]]) (H2:=H++[.cells (zaJ (bs.set i b))]) (by simp) (by simp) (hsc0 _) ?_ ⟨_,rfl,i+1,bs.set i b,by omega,rfl,by simp,by simpa using hbl,?_,rfl⟩⟩
      ·simp[zmg,AV.sc,AV.scV,AV.scA,AV.scB]
      ·intro j hj h';by_cases hji:j=i
       ·subst hji;rw[←hob];simp[hbl,hlt]
       ·rw[List.getElem?_set_ne (by omega)];exact hbs j (by omega) h'
   have hstore:∀b l,List.take i (zaJ bs)++.bool b::List.drop (i+1) (zaJ bs)=l→l=zaJ (bs.set i b):=by rintro b _ rfl;rw[znR (by omega)]
   cases h5:(k == 5) with
   |false=>simp[ziG,hlt,hx,VT.cs,e1,hd,hD,Dat.cs,h5,hbl,hstore _ _ rfl];refine⟨by omega,inner _ ?_⟩;simp[h5]
   |true=>
   cases hn:(n == (d:Int)) with
   |false=>simp[ziG,hlt,hx,VT.cs,e1,hd,hD,Dat.cs,h5,hn,hbl,hstore _ _ rfl];refine⟨by omega,inner _ ?_⟩;simp[h5,hn]
   |true=>simp[ziG,hlt,hx,VT.cs,e1,hd,hD,Dat.cs,h5,hn,hbl,hstore _ _ rfl];refine⟨by omega,inner _ ?_⟩;simp[h5,hn]
  ·obtain rfl:i=C.args.length:=by omega
   simp[ziG];have hbe:bs=C.args.map (zbT d D.vars):=by refine List.ext_getElem (by simpa using hbl) λj h1 h2=>?_;have:=hbs j (by omega) (by omega);rw[List.getElem?_eq_getElem h1]at this;simpa using this
   subst hbe;refine⟨_,H,_,rfl,Nat.le_refl _,hs,.one (.frz H.length 0 _ _ 1 (zaJ (C.args.map (zbT d D.vars))) (C.args.map λt=>[.bool (zbT d D.vars t)]) (Nat.le_refl _) (by simp) (by simp) ?_ (by simp) (by simp) (Nat.le_refl _)),hK⟩;rw[List.drop_zero,List.take_of_length_le (by simp),zv2,List.map_map];rfl
theorem zKR(data:List Dat)(d:Nat)(c:Nat)(hd:d<data.length)(hc:c<(data[d]).cons.length)(hl:data.length≤1000000)(hcl:(data[d]).cons.length≤1000000)(hal:((data[d]).cons[c]).args.length≤1000000)(hb:∀ x∈((data[d]).cons[c]).args,zaW x)(H:zaa)(K:AV→zaa→Prop)(hK:K (.bool (decide (((data[d]).cons[c]).args.length≤6) && ((data[d]).cons[c]).args.all (zdj data d (data[d]).vars))) H):
  ACalls tP zo5 [.sl (data.map Dat.cs) .none,.int .i64 d,.int .i64 c] H K:=by
 refine ACalls.out (zKV λhs=>?_);have e1:(data.map Dat.cs)[d]?=some (data[d]).cs:=by simp[hd]
 have e2:((data[d]).cons.map Con.cs)[c]?=some ((data[d]).cons[c]).cs:=by simp[hc]
 have hrec:=zK7 data d c hd hc hl hcl hal hb;generalize hD:data[d]=D at *;generalize hA:D.cons[c]=C at *;have hO:∀J,Out H.length K (.bool (decide (C.args.length≤6) && C.args.all (zdj data d D.vars))) (H++J):=λJ=>Out.bool rfl (Nat.le_refl _) hs hK;simp[zyR,e1,e2,Dat.cs,Con.cs,hd,hD,hc,hA];by_cases h6:C.args.length≤6
 ·have h6':¬ (6:Int)<C.args.length:=by omega
  have h6'':¬ 6<C.args.length:=by omega
  simp[h6',h6''];refine hrec _ _ ?_;simp[h6]at hO;refine zKT (Inv:=λq t29 H'=>∃i:Nat,i≤C.args.length∧q=C.args.length-i∧t29=.int .i64 i∧(C.args.drop i).all (zdj data d D.vars)=C.args.all (zdj data d D.vars)∧H=H') C.args.length ?_ ?_
  ·intro _;exact⟨0,by omega,by omega,rfl,by simp,rfl⟩
  ·rintro q t29 H' ⟨i,hi,rfl,rfl,ho,rfl⟩ hsc hlen hsF Kb hKb;by_cases hlt:i<C.args.length
   ·rw[List.drop_eq_getElem_cons hlt,List.all_cons]at ho;have hnb:=hb _ (List.getElem_mem hlt);obtain⟨x1,x2,x3,hvx,hx1,hx2,hx3⟩:=zaL C.args[i];simp[zrF,hlt,hvx,e1,hd,hD,Dat.cs];refine⟨⟨hx1,hx2,hx3⟩,?_⟩;rw[zav (by omega) (by omega),show ((d:Int)+1).toNat=d+1 by omega,←List.map_take];refine⟨by omega,by omega,?_⟩;rw[←hvx];refine zaV (.bool (zaA (data.take (d+1)) D.vars C.args[i])) (λJ=>zBd (data.take (d+1)) D.vars _ hnb _ _ ⟨rfl,rfl⟩) ?_;have hao:zdj data d D.vars C.args[i]=(zaA (data.take (d+1)) D.vars C.args[i] && (zbT d D.vars C.args[i] || !zcs d C.args[i])):=rfl;rw[hao]at ho;cases hv:zaA (data.take (d+1)) D.vars C.args[i] with
    |false=>rw[hv]at ho;simp only[Bool.false_and]at ho;rw[←ho]at hO;simp;exact hO _
    |true=>
    rw[hv]at ho;cases hsf:zbT d D.vars C.args[i] with
    |true=>rw[hsf]at ho;simp[hlt,hsf];rw[zav (by omega) (by omega)];refine hKb _ _ ⟨C.args.length-(i+1),by omega,Back.same (by simp) hs ?_ ⟨_,rfl,i+1,by omega,rfl,by simp,by simpa using ho,rfl⟩⟩;simp[ziF,AV.sc,AV.scV,AV.scA,AV.scB]
    |false=>
     rw[hsf]at ho;simp[hlt,hsf];refine zaV (.bool (zcs d C.args[i])) (λJ=>zLh d _ _ (Nat.le_refl _) (by have:=zfU hv;omega) _ _ ⟨rfl,rfl⟩) ?_;cases hm:zcs d C.args[i] with
     |true=>rw[hm]at ho;simp only[Bool.not_true,Bool.or_false,Bool.and_false,Bool.false_and]at ho;rw[←ho]at hO;simp;exact hO _
     |false=>rw[hm]at ho;simp;rw[zav (by omega) (by omega)];refine hKb _ _ ⟨C.args.length-(i+1),by omega,Back.same (by simp) hs ?_ ⟨_,rfl,i+1,by omega,rfl,by simp,by simpa using ho,rfl⟩⟩;simp[ziF,AV.sc,AV.scV,AV.scA,AV.scB]
   ·obtain rfl:i=C.args.length:=by omega
    rw[List.drop_length,List.all_nil]at ho;rw[←ho]at hO;simp[zrF];simpa using hO []
 ·have h6':(6:Int)<C.args.length:=by omega
  have h6'':6<C.args.length:=by omega
  simp[h6',h6''];simp[h6]at hO;simpa using hO []
def zbL(l:List (List UInt8)):List (List UInt8×AV):=l.map λs=>(s,.bool true)
theorem zfT(s:List UInt8):∀ l:List (List UInt8),(zbY (zbL l) s).getD (.bool false)=.bool (decide (s∈l))
 |[]=>by simp[zbL,zbY]
 |a::l=>by
  have:=zfT s l;cases h:a == s with
  |true=>
   have h':a=s:=by simpa using h
   simp[zbL,zbY,h,h']
  |false=>
   have h':a≠s:=by simpa using h
   have h'':s≠a:=λe=>h' e.symm;simp only[zbL,List.map_cons,zbY,h]at this ⊢;rw[this];simp[h'']
theorem zpM(s:List UInt8):∀ l:List (List UInt8),s ∉ l→zcP (zbL l) s (.bool true)=zbL (l++[s])
 |[],_=>rfl
 |a::l,h=>by
  have h1:(a == s)=false:=by simp at h;simpa usingλe=>h.1 e.symm
  have:=zpM s l (by simp at h;exact h.2);simp only[zbL,List.map_cons,zcP,h1,List.cons_append]at this ⊢;rw[this]
theorem zE9(m:Nat)(l:List (List UInt8)):(AB.map (zbL l)).sc m=true:=by simp[AB.sc,zbL,AV.scV]
def za8(data:List Dat):List (List UInt8):=data.map Dat.name
def zaE(data:List Dat):List (List UInt8):=data.flatMap λD=>D.cons.map Con.name
def zcN(data:List Dat)(d:Nat)(vars:Int)(c:Con):Bool:=zbO c.name && (decide (c.args.length≤6) && c.args.all (zdj data d vars))
def zb8(data:List Dat)(d:Nat)(D:Dat):Bool:=zbO D.name && decide (0≤D.vars) && decide (D.vars≤6) && decide (1≤D.cons.length) && decide (D.cons.length≤8) && D.cons.all (zcN data d D.vars)
def zcd(data:List Dat):List Dat→Nat→Bool
 |[],_=>true
 |D::l,d=>zb8 data d D && zcd data l (d+1)
def zaD(data:List Dat):Bool:=decide (data.length≤12) && zcd data data 0 && !zb0 (za8 data) && !zb0 (zaE data)
theorem zwf{A R:List (List UInt8)}{s:List UInt8}(h:s∈A):zb0 (A++s::R)=true:=by simp only[zb0,Bool.not_eq_true',decide_eq_false_iff_not,List.nodup_append];rintro⟨_,_,h3⟩;exact h3 s h s (by simp) rfl
theorem zkw{l:List (List UInt8)}(h:l.Nodup):zb0 l=false:=by simp[zb0,h]
theorem zvL{A:List (List UInt8)}{s:List UInt8}(h:A.Nodup)(hs:s ∉ A):(A++[s]).Nodup:=by rw[List.nodup_append];refine⟨h,by simp,?_⟩;intro a ha b hb;simp at hb;subst hb;exactλe=>hs (e ▸ ha)
theorem zjM{α:Type}{l:List α}{i:Nat}(h:i<l.length){p:α→Prop}(h1:∀x∈l.take i,p x)(h2:p l[i]):∀x∈l.take (i+1),p x:=by
 rw[List.take_succ_eq_append_getElem h];intro x hx;rcases List.mem_append.1 hx with hx|hx
 ·exact h1 x hx
 ·simp at hx;subst hx;exact h2
theorem vt3(v:VT):∃a b c,v.cs=[a,b,c]∧a.known=true∧b.known=true∧c.known=true:=by obtain⟨k,n,ks⟩:=v;exact⟨_,_,_,rfl,rfl,rfl,rfl⟩
def zeD(data:List Dat)(d:Nat)(vars:Int)(t:VT):Bool:=zbT d vars t || zaA (data.take d) vars t
structure RCon (data:List Dat) (d:Nat) (vars:Int) (c:Con):Prop where
 up:zbO c.name=true
 len:c.args.length≤6
 args:∀x∈c.args,zeD data d vars x=true
structure RDat (data:List Dat) (d:Nat) (D:Dat):Prop where
 v0:0≤D.vars
 v6:D.vars≤6
 c1:1≤D.cons.length
 c8:D.cons.length≤8
 up:zbO D.name=true
 cons:∀c∈D.cons,RCon data d D.vars c
structure RData (data:List Dat):Prop where
 len:data.length≤12
 dats:∀d (h:d<data.length),RDat data d data[d]
 names:(za8 data).Nodup
 cons:(zaE data).Nodup
theorem zkN{α:Type}{l:List α}{i:Nat}(h:i<l.length):l.take (i+1)=l.take i++[l[i]]:=by rw[List.take_append_getElem h]
theorem znY:∀ l:List Dat,(∀ D∈l,D.cons.length≤10)→(zaE l).length≤l.length*10
 |[],_=>by simp[zaE]
 |D::l,h=>by have h1:=znY l (λD hD=>h D (by simp[hD]));have h2:=h D (by simp);rw[zaE]at h1 ⊢;rw[List.flatMap_cons,List.length_append,List.length_map,List.length_cons];omega
theorem zuk{data:List Dat}{d:Nat}(h:d<data.length):za8 (data.take (d+1))=za8 (data.take d)++[(data[d]).name]:=by rw[za8,zkN h,List.map_append];rfl
theorem zt9{data:List Dat}{d:Nat}(h:d<data.length):zaE (data.take (d+1))=zaE (data.take d)++(data[d]).cons.map Con.name:=by rw[zaE,zkN h,List.flatMap_append];simp[zaE]
theorem zkJ(l:List (List UInt8))(s:List UInt8):strs (l++[s])=strs l++[[.str s]]:=by simp[strs]
theorem zjn{s:List UInt8}{k:AV→Prop}:zas 1 [.str []] 1 [(0,.str s)] k=k (.sl [[.str s]] .full):=propext Iff.rfl
theorem zkx(l:List (List UInt8))(hl:l.length≤1000000){tok:Tok}(H:zaa)(K:AV→zaa→Prop)(hK:K (.bool (zb0 l)) H):ACalls tP zh1 [.sl (strs l) tok] H K:=
 ACalls.wk (zN1 l hl H K hK) ⟨.atom (.sl _ _),trivial⟩
theorem zua{D:Dat}{i:Nat}(h:i<D.cons.length):(D.cons.map Con.cs)[i]?.getD []=[.str (D.cons[i]).name,.sl (VT.css (D.cons[i]).args) .none]:=by simp[h,Con.cs]
mutual
theorem zpK:∀ v w:VT,v.same w=true↔v=w
 |.mk k n ks,.mk k' n' ks'=>by have h:=zwr ks ks';simp only[VT.same,Bool.and_eq_true,beq_iff_eq,VT.mk.injEq,h,and_assoc]
theorem zwr:∀ v w:List VT,VT.sameL v w=true↔v=w
 |v::vs,w::ws=>by have h1:=zpK v w;have h2:=zwr vs ws;simp only[VT.sameL,Bool.and_eq_true,List.cons.injEq,h1,h2]
 |[],[]=>by simp[VT.sameL]
 |[],_::_=>by simp[VT.sameL]
 |_::_,[]=>by simp[VT.sameL]
end
theorem zil{α:Type}(l:List α)(d n:Nat):(l.take d)[n]?=if n<d then l[n]? else none:=by
 by_cases h:n<d
 ·rw[if_pos h,List.getElem?_take_of_lt h]
 ·rw[if_neg h,List.getElem?_eq_none (by rw[List.length_take];omega)]
theorem zFf{data:List Dat}{d:Nat}{vars k n:Int}{len:Nat}(h:(k == 5 && n == (d:Int))=false):zaC (data.take (d+1)) vars k n len=zaC (data.take d) vars k n len:=by
 unfold zaC;by_cases h5:k=5
 ·subst h5;have hn:n≠d:=by simpa using h
  simp only[zil];by_cases h0:0≤n
  ·have:(n.toNat<d+1)=(n.toNat<d):=by apply propext;omega
   simp[this]
  ·simp[h0]
 ·have:(k == 5)=false:=by simpa using h5
  simp[this]
mutual
theorem zqa(data:List Dat)(d:Nat)(vars:Int):∀ t:VT,zcs d t=false→zaz (data.take (d+1)) vars t=zaz (data.take d) vars t
 |.mk k n ks=>by intro h;simp only[zcs,Bool.or_eq_false_iff]at h;rw[zaz,zaz,zFf h.1,zw7 data d vars ks h.2]
theorem zw7(data:List Dat)(d:Nat)(vars:Int):∀ l:List VT,ze6 d l=false→zaI (data.take (d+1)) vars l=zaI (data.take d) vars l
 |[]=>λ_=>rfl
 |t::ts=>by intro h;simp only[ze6,Bool.or_eq_false_iff]at h;rw[zaI,zaI,zqa data d vars t h.1,zw7 data d vars ts h.2]
end
mutual
theorem zoJ(data:List Dat)(d:Nat)(vars:Int):∀ t:VT,zaz (data.take d) vars t=true→zcs d t=false
 |.mk k n ks=>by
  intro h;rw[zaz,Bool.and_eq_true]at h;rw[zcs,zvp data d vars ks h.2,Bool.or_false];by_cases h5:k=5
  ·subst h5;have h1:=h.1;simp[zaC,zil]at h1;obtain⟨h0,h2⟩:=h1;by_cases hn:n=d
   ·subst hn;simp at h2
   ·simpa using hn
  ·have:(k == 5)=false:=by simpa using h5
   simp[this]
theorem zvp(data:List Dat)(d:Nat)(vars:Int):∀ l:List VT,zaI (data.take d) vars l=true→ze6 d l=false
 |[]=>λ_=>rfl
 |t::ts=>by intro h;rw[zaI,Bool.and_eq_true]at h;rw[ze6,zoJ data d vars t h.1,zvp data d vars ts h.2];rfl
end
theorem zpN(data:List Dat)(vars:Int):∀ (l:List VT) (i:Nat),zcf l i=true→((i+l.length:Nat):Int)≤vars→zaI data vars l=true∧VT.nodesL l=l.length
 |[],i,_,_=>⟨rfl,rfl⟩
 |.mk k n ks::l,i,h,hv=>by
  rw[zcf,Bool.and_eq_true]at h;obtain⟨h1,h2⟩:=h;simp only[zhE,Bool.and_eq_true,beq_iff_eq]at h1;obtain⟨⟨rfl,rfl⟩,h3⟩:=h1;have hk:ks=[]:=List.eq_nil_of_length_eq_zero h3;subst hk;obtain⟨h4,h5⟩:=zpN data vars l (i+1) h2 (by simp at hv ⊢;omega);simp at hv;constructor
  ·simp[zaI,zaz,zaC,h4];omega
  ·simp[VT.nodesL,VT.nodes,h5];omega
theorem ztP(data:List Dat)(d:Nat)(hd:d<data.length)(h0:0≤(data[d]).vars)(h6:(data[d]).vars≤6)(t:VT):zdj data d (data[d]).vars t=zeD data d (data[d]).vars t:=by
 unfold zdj zeD;cases hs:zbT d (data[d]).vars t with
 |true=>
  obtain⟨k,n,ks⟩:=t;simp only[zbT,Bool.and_eq_true,beq_iff_eq]at hs;obtain⟨⟨⟨rfl,rfl⟩,hl⟩,hs⟩:=hs;obtain⟨h1,h2⟩:=zpN (data.take (d+1)) (data[d]).vars ks 0 hs (by simp;omega);have hty:zaA (data.take (d+1)) (data[d]).vars (.mk 5 d ks)=true:=by simp[zaA,zaz,h1,VT.nodes,h2,zaC,zil,hd,hl];omega
  simp[hty]
 |false=>
  simp only[Bool.false_or];unfold zaA;cases hm:zcs d t with
  |false=>rw[zqa data d _ t hm];simp
  |true=>
   have:zaz (data.take d) (data[d]).vars t=false:=by
    cases h:zaz (data.take d) (data[d]).vars t with
    |false=>rfl
    |true=>rw[zoJ data d _ t h]at hm;cases hm
   simp[this]
theorem zjy(data:List Dat):∀ (l:List Dat) (d:Nat),zcd data l d=true↔∀ j (h:j<l.length),zb8 data (d+j) l[j]=true
 |[],d=>by simp[zcd]
 |D::l,d=>by
  rw[zcd,Bool.and_eq_true,zjy data l (d+1)];constructor
  ·rintro⟨h1,h2⟩ j hj;cases j with
   |zero=>exact h1
   |succ j=>have:=h2 j (by simpa using hj);rw[show d+(j+1)=d+1+j by omega];simpa using this
  ·intro h;refine⟨h 0 (by simp),λj hj=>?_⟩;have:=h (j+1) (by simpa using hj);rw[show d+(j+1)=d+1+j by omega]at this;simpa using this
theorem zCV(data:List Dat):zaD data=true↔RData data:=by
 unfold zaD;simp only[Bool.and_eq_true,decide_eq_true_eq,zjy,zb0,Bool.not_not,Nat.zero_add];constructor
 ·rintro⟨⟨⟨h1,h2⟩,h3⟩,h4⟩;refine⟨h1,λd hd=>?_,h3,h4⟩;have:=h2 d hd;simp only[zb8,Bool.and_eq_true,decide_eq_true_eq,List.all_eq_true]at this;obtain⟨⟨⟨⟨⟨q1,q2⟩,q3⟩,q4⟩,q5⟩,q6⟩:=this;refine⟨q2,q3,q4,q5,q1,λc hc=>?_⟩;have:=q6 c hc;simp only[zcN,Bool.and_eq_true,decide_eq_true_eq,List.all_eq_true]at this;exact⟨this.1,this.2.1,λx hx=>by rw[←ztP data d hd q2 q3 x];exact this.2.2 x hx⟩
 ·rintro⟨h1,h2,h3,h4⟩;refine⟨⟨⟨h1,λd hd=>?_⟩,h3⟩,h4⟩;obtain⟨q2,q3,q4,q5,q1,q6⟩:=h2 d hd;simp only[zb8,Bool.and_eq_true,decide_eq_true_eq,List.all_eq_true];refine⟨⟨⟨⟨⟨q1,q2⟩,q3⟩,q4⟩,q5⟩,λc hc=>?_⟩;obtain⟨r1,r2,r3⟩:=q6 c hc;simp only[zcN,Bool.and_eq_true,decide_eq_true_eq,List.all_eq_true];exact⟨r1,r2,λx hx=>by rw[ztP data d hd q2 q3 x];exact r3 x hx⟩
end Go.Proofs.YtaifokkaaahdoaaGreatDoor

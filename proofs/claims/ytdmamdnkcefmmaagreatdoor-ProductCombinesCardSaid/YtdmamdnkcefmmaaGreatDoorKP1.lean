import Derived.Test.YtdmamdnkcefmmaaGreatDoorKTW3
set_option linter.unusedSimpArgs false
set_option linter.unusedVariables false
set_option linter.unusedSectionVars false
set_option linter.defProp false
set_option maxRecDepth 100000
namespace Go.Proofs.YtdmamdnkcefmmaaGreatDoor
def zOl(b:UInt8)(r:List UInt8)(H:or)(K:AV→or→Prop)(hK:K (I6 (sgn (b::r))) H):ge tP 193 [.str (b::r)] H K:=by
 refine ge.out (zW5 λhs=>?_);have hO:=yd (K:=K) (H:=H) (r:=I6 (sgn (b::r))) hs rfl rfl hK;have one:yM (b::r)=false→RN (.str (b::r)) (.str sgns) I0 H (Out H.length K):=by
  intro h2;rw[zDl b r h2]at hO;have fz:sgns.length=13:=rfl;generalize sgns=ws at *;refine zW3 (Inv:=λq t4 H'=>∃i:Nat,i≤ws.length∧q=ws.length-i∧t4=I6 i∧(ws.drop i).contains b=ws.contains b∧H'=H) ws.length ?_ ?_
  ·intro _;exact⟨0,by omega,by omega,rfl,by simp,rfl⟩
  ·rintro q t8 H' ⟨i,hi,rfl,rfl,ho,rfl⟩ hsc _ fM Kb fB;by_cases fy:i<ws.length
   ·rw[ai fy,ew]at ho;have e1:=xr b ws[i];cases hz:(b == ws[i]) with
    |true=>rw[hz,fk]at ho;rw[←ho]at hO;simpa[Ld,fy,e1,hz]using hO
    |false=>rw[hz,bJ]at ho;simp[Ld,fy,e1,hz];rw[um (by omega) (by omega)];refine fB _ _ ⟨ws.length-(i+1),by omega,Back.here (af _) hs ?_ ⟨_,rfl,i+1,by omega,rfl,by simp,ho,rfl⟩⟩;simp[Lc,AV.sc,AV.ZJ,AV.ZH,AV.ZI]
   ·obtain rfl:i=ws.length:=by omega
    rw[aV]at ho;rw[←ho]at hO;simpa[Ld,fy]using hO
 by_cases hl:2≤(b::r).length
 ·have i6:(2:Int)≤r.length+1:=by simp only[List.length_cons]at hl;omega
  have kx:1≤r.length:=by simp only[List.length_cons]at hl;omega
  cases h2:yM (b::r) with
  |true=>
   have h3:sgn (b::r)=2:=by simp[sgn,h2]
   rw[h3]at hO;unfold yM at h2;simp only[List.take_succ_cons]at h2 hO;cases e1:(b::List.take 1 r == [45,62]) with
   |true=>simpa[Dn,i6,kx,e1]using hO
   |false=>
    cases e2:(b::List.take 1 r == [60,61]) with
    |true=>simpa[Dn,i6,kx,e1,e2]using hO
    |false=>rw[e1,e2]at h2;simp only[bJ]at h2;simpa[Dn,i6,kx,e1,e2,h2]using hO
  |false=>have ho:=one h2;unfold sgns at ho;unfold yM at h2;simp only[List.take_succ_cons]at h2;rw[cd,cd]at h2;simpa[Dn,i6,kx,h2.1.1,h2.1.2,h2.2]using ho
 ·have ho:=one (RT hl);unfold sgns at ho;have:¬ ((2:Int)≤r.length+1):=by simp only[List.length_cons]at hl;omega
  simpa[Dn,this]using ho

def Tk.cs(t:Tk):List AV:=[I6 t.kind,.str t.text,I6 t.pos]
def Ll(kw:List UInt8→Bool)(b:UInt8)(r:List UInt8)(i:Nat):AV:=
 match tok kw b r with
 |.error e=>.tup [.agg [I0,.str [],I0],I6 e]
 |.ok (k,n)=>.tup [.agg (Tk.cs ⟨k,(b::r).take n,i⟩),I0]
def Lm{p:UInt8→Bool}(b:UInt8)(r:List UInt8):(b::r).take ((r.takeWhile p).length+1)=b::r.takeWhile p:=by
 rw[List.take_succ_cons];congr 1;induction r with
 |nil=>simp
 |cons c r ih=>by_cases h:p c=true <;> simp[h,ih]
def zMj:y9 tP 258=true:=by kernel_rfl
def zMk:y9 tP 260=true:=by kernel_rfl
def zCt{H J:or}{K:AV→or→Prop}{k p e:Int}{t:List UInt8}(hs:HSc H)(h:K (.tup [.agg [I6 k,.str t,I6 p],I6 e]) H):
  Out H.length K (.tup [.agg [I6 k,.str t,I6 p],I6 e]) (H++J):=Out.tup hs h ⟨uJ rfl rfl,uJ rfl rfl,trivial⟩
def Ln(t4 t6:AV)(H:or)(K:AV→or→Prop):Prop:=
 tN 1 t6 λt69=>
 tL false 1 t69 H λt70=>
 ge tP 261 [t70] H λt71 H=>
 aUn .not t71 λt72=>
 tO t72
 (ug [I0,(.str []),I0] [(0,1),(1,1),(2,1)] [] λt73=>
 ua 3 t4 t73 H λH=>
 tL true 3 t4 H λr0=>
 ut [r0,(I6 9)] (K · H))
 (Dk t4 t6 H K)
def zN4(s:List UInt8)(hl:s.length≤1000000)(i:Nat)(hi:i<s.length)(H:or)(K:AV→or→Prop)(hK:K (Ll (kwF kwds) s[i] (s.drop (i+1)) i) H):ge tP 246 [.str s,I6 i] H K:=by
 refine ge.out (zZj λhs=>?_);have gT:=ai hi;have lc:(s.drop i).length≤1000000:=by simp;omega
 generalize hb:s[i]=b at *;generalize hr:s.drop (i+1)=r at *;have nh:s[i]?.getD 0=b:=by simp[hi,hb]
 have post:∀(k:Int) (n:Nat),tok (kwF kwds) b r=.ok (k,n)→∀t,(b::r).take n=t→Dk (.ptr H.length 0) (.ptr (H.length+1) 0) (H++[.cells [I0,.str [],I0],.cells [I6 k,.str t,I6 i]]) (Out H.length K):=by intro k n ht t sa;subst sa;simp[Ll,ht,Tk.cs]at hK;simp[Dk,zHz,AV.ZP,AV.isV];exact zCt hs hK
 have bad:∀e:Int,tok (kwF kwds) b r=.error e→∀J,Out H.length K (.tup [.agg [I0,.str [],I0],I6 e]) (H++J):=by intro e ht J;simp[Ll,ht]at hK;exact zCt hs hK
 have jB:=bH hi;by_cases iZ:(wN b || bUp b)=true
 ·have oQ:bIn b=true:=by simp[bIn,iZ]
  simp[RK,hi,hb,jB,ug,uv,AV.ZP];refine RR b _ _ ?_;have hc:wN b=true∨(wN b=false∧bUp b=true):=by cases hL:wN b <;> simp[hL]at iZ ⊢;exact iZ
  have g9:=λk=>post k ((r.takeWhile bIn).length+1);simp only[tok,iZ,br,Lm]at g9;rcases hc with hL|⟨hL,hU⟩
  case' inl=>simp[hL]
  case' inr=>simp[hL];refine Lk b _ _ ?_;simp[hU]
  all_goals
   rw[gT];refine zCL bIn 258 zMj zPY (b::r) (by rw[←gT];exact lc) _ _ ?_;simp[oQ,AV.ZP];by_cases hn:(r.takeWhile bIn).length+1>24
   ·have iO:(24:Int)<(r.takeWhile bIn).length+1:=by omega
    have:=bad 9 (by simp only[tok,iZ,br];rw[aN hn]);simp[iO,AV.ZP,AV.isV];exact this _
   ·have iO:¬ (24:Int)<(r.takeWhile bIn).length+1:=by omega
    simp[iO];refine Lk b _ _ ?_;rw[aG hn]at g9;cases hU:bUp b with
    |true=>simp[AV.ZP,Dm];exact g9 2 (by simp[hU]) _ rfl
    |false=>
     simp[AV.ZP];refine zMh _ _ _ ?_;cases rf:kwF kwds (b::r.takeWhile bIn) with
     |true=>simp[AV.ZP,Dm];exact g9 4 (by simp[hU,rf]) _ rfl
     |false=>simp[AV.ZP,Dm];exact g9 1 (by simp[hU,rf]) _ rfl
 ·have hL:wN b=false:=by simp at iZ;exact iZ.1
  have hU:bUp b=false:=by simp at iZ;exact iZ.2
  simp[RK,hi,hb,ug,uv,AV.ZP];refine RR b _ _ ?_;simp[hL];refine Lk b _ _ ?_;simp[hU];refine RS b _ _ ?_;cases hD:vh b with
  |true=>
   simp[jB,AV.ZP];rw[gT];refine zCL vh 260 zMk RS (b::r) (by rw[←gT];exact lc) _ _ ?_;have e1:((b.toNat:Int) == 48)=(b == 48):=xr b 48;have gj:tok (kwF kwds) b r=if (b == 48 && decide ((r.takeWhile vh).length+1>1))=true then .error 2 else if wZ (b::r.takeWhile vh) 0=true then .ok (3,(r.takeWhile vh).length+1) else .error 9:=by simp only[tok,iZ,hD,br,Lm];rfl
   have lu:∀J,ge tP 261 [.str (b::r.takeWhile vh)] (H++J) λt H'=>t=.bool (wZ (b::r.takeWhile vh) 0)∧H'=H++J:=by
    intro J;refine zOB _ ?_ ?_ _ _ ⟨rfl,rfl⟩
    ·intro c hc;rcases aT.1 hc with rfl | hc
     ·exact hD
     ·exact aA.1 (List.all_takeWhile) c hc
    ·have h1:(r.takeWhile vh).length≤r.length:=(eP _).length_le;rw[gT]at lc;simp at lc ⊢;omega
   simp[hD,AV.ZP,e1];have g9:=post 3 ((r.takeWhile vh).length+1);rw[Lm]at g9;rw[gj]at g9 bad;have last:∀J,(¬(b == 48 && decide ((r.takeWhile vh).length+1>1))=true)→J=[.cells [I0,.str [],I0],.cells [I6 3,.str (b::r.takeWhile vh),I6 i]]→Ln (.ptr H.length 0) (.ptr (H.length+1) 0) (H++J) (Out H.length K):=by
    rintro J fI rfl;rw[aG fI]at g9 bad;simp[Ln];refine(lu _).mono ?_;rintro _ _ ⟨rfl,rfl⟩;cases hv:wZ (b::r.takeWhile vh) 0 with
    |true=>simp;exact g9 (by simp[hv]) _ rfl
    |false=>simp[AV.ZP,ug,uv,AV.isV];exact bad 9 (by simp[hv]) _
   cases hz:(b == 48) with
   |true=>
    simp[hz];by_cases hn:1<(r.takeWhile vh).length+1
    ·have iO:(1:Int)<(r.takeWhile vh).length+1:=by omega
     have hd:decide ((r.takeWhile vh).length+1>1)=true:=bG hn;have:=bad 2 (by rw[hz,hd];rfl);simp[iO,AV.ZP,AV.isV];exact this _
    ·have iO:¬ (1:Int)<(r.takeWhile vh).length+1:=by omega
     have hd:decide ((r.takeWhile vh).length+1>1)=false:=bz hn;have:=last _ (by rw[hz,hd];decide) rfl;simp[Ln,ug,uv]at this;simp[iO];exact this
   |false=>have:=last _ (by simp[hz]) rfl;simp[Ln,ug,uv]at this;simp[hz];exact this
  |false=>
   simp[jB,AV.ZP];rw[gT];refine zOm b r _ _ ?_;simp[AV.ZP];have gj:tok (kwF kwds) b r=if sgn (b::r)=0 then .error 2 else .ok (5,sgn (b::r)):=by simp only[tok,iZ,hD];rfl
   by_cases hz:sgn (b::r)=0
   ·have:=bad 2 (by rw[gj,aN hz]);simp[hz,AV.isV];exact this _
   ·have:=post 5 (sgn (b::r)) (by rw[gj,aG hz]) _ rfl;have he:(List.take (sgn (b::r)) (b::r)).isEmpty=false:=by
     cases h:sgn (b::r) with
     |zero=>exact absurd h hz
     |succ n=>simp
    simp[he];exact this
def cat(l:List Tk):Except (Nat × Int) (List Tk)→Except (Nat × Int) (List Tk)
 |.error e=>.error e
 |.ok m=>.ok (l++m)
def zAr(l m:List Tk)(r:Except (Nat×Int) (List Tk)):cat l (cat m r)=cat (l++m) r:=by cases r <;> simp[cat]
@[simp] theorem yh8(r:Except (Nat×Int) (List Tk)):cat [] r=r:=by cases r <;> rfl
def zX(r:List UInt8):List UInt8:=r.dropWhile (· != 10)
def zY(r:List UInt8):Nat:=(r.takeWhile (· != 10)).length
section
variable (kw:List UInt8→Bool)
theorem RU(p:Nat):wd kw [] p=.ok [⟨6,[],p⟩]:=by unfold wd;rfl
theorem zDZ{b:UInt8}(h:yL b=true)(r:List UInt8)(p:Nat):wd kw (b::r) p=wd kw r (p+1):=by
 conv=>lhs;unfold wd
 simp[h]
theorem zD1{b:UInt8}(h0:yL b=false)(h:(b == 35)=true)(r:List UInt8)(p:Nat):wd kw (b::r) p=wd kw (zX r) (p+1+zY r):=by
 conv=>lhs;unfold wd
 simp only[h0,h,aK,ba,br];rfl
theorem zD0{b:UInt8}(h0:yL b=false)(h:(b == 35)=false){r:List UInt8}{p:Nat}{e:Int}(ht:tok kw b r=.error e):wd kw (b::r) p=.error (p,e):=by
 conv=>lhs;unfold wd
 simp only[h0,h,aK,ba,ht]
theorem zD2{b:UInt8}(h0:yL b=false)(h:(b == 35)=false){r:List UInt8}{p:Nat}{k:Int}{n:Nat}(ht:tok kw b r=.ok (k,n)):
  wd kw (b::r) p=cat [⟨k,(b::r).take n,p⟩] (wd kw ((b::r).drop n) (p+n)):=by
 conv=>lhs;unfold wd
 have hn:=Rz ht;obtain⟨m,rfl⟩:∃m,n=m+1:=⟨n-1,by omega⟩;simp only[h0,h,aK,ba,ht,bY,List.drop_succ_cons];cases wd kw (r.drop m) (p+(m+1)) <;> rfl
end
def Lo{b:UInt8}(h:(b == 10)=false)(r:List UInt8):zX (b::r)=zX r∧zY (b::r)=1+zY r:=by
 have hb:b≠10:=by simpa using h
 constructor
 ·simp[zX,hb]
 ·simp[zY,hb];omega
def zDo{b:UInt8}(h:(b == 10)=true)(r:List UInt8):zX (b::r)=b::r∧zY (b::r)=0:=by
 have hb:b=10:=by simpa using h
 constructor
 ·simp[zX,hb]
 ·simp[zY,hb]
def skipC_nil:zX []=[]∧zY []=0:=⟨rfl,rfl⟩
def RV{kw:List UInt8→Bool}{b:UInt8}{r:List UInt8}{k:Int}{n:Nat}(h:tok kw b r=.ok (k,n)):n≤(b::r).length:=by
 have tw:∀p:UInt8→Bool,(r.takeWhile p).length≤r.length:=λp=>(eP _).length_le;unfold tok at h;split at h
 ·simp only at h;split at h <;> simp at h;have:=tw bIn;simp;omega
 ·split at h
  ·simp only at h;split at h
   ·simp at h
   ·split at h <;> simp at h;have:=tw vh;simp;omega
  ·simp only at h;split at h <;> simp at h
   obtain⟨_,rfl⟩:=h;unfold sgn;split
   ·rename_i h2;by_cases hl:2≤(b::r).length
    ·exact hl
    ·rw[RT hl]at h2;cases h2
   ·split
    ·simp
    ·split <;> simp
def zPA{kw:List UInt8→Bool}{b:UInt8}{r:List UInt8}{e:Int}(h:tok kw b r=.error e):e=2∨e=9:=by
 unfold tok at h;split at h
 ·simp only at h;split at h <;> simp at h;omega
 ·split at h
  ·simp only at h;split at h
   ·simp at h;omega
   ·split at h <;> simp at h;omega
  ·simp only at h;split at h <;> simp at h;omega
def AN(s:List UInt8):AV:=
 if s.length>16384 then .tup [.sl [] .none,I0,I6 9] else
 match wd (kwF kwds) s 0 with
 |.error (p,e)=>.tup [.sl [] .none,I6 p,I6 e]
 |.ok l=>.tup [.sl (l.map Tk.cs) .none,I0,I0]
def two{H:or}{x y:AB}:H++[x,y]=(H++[x])++[y]:=by simp
def zCs{H J:or}{K:AV→or→Prop}{p e:Int}(hs:HSc H)(hK:K (.tup [.sl [] .none,I6 p,I6 e]) H):Out H.length K (.tup [.ZG,I6 p,I6 e]) (H++J):=
 Out.tup hs hK ⟨xd,uJ rfl rfl,uJ rfl rfl,trivial⟩
def zPf(s:List UInt8)(H:or)(K:AV→or→Prop)(hK:K (AN s) H):ge tP 227 [.str s] H K:=by
 refine ge.out (zYW λhs=>?_);by_cases hl:s.length>16384
 ·have i6:(16384:Int)<s.length:=by omega
  simp[RD,i6,AV.isV];unfold AN at hK;rw[aN hl]at hK;exact Out.tup0 hs hK ⟨xd,uJ rfl rfl,uJ rfl rfl,trivial⟩
 have i6:¬(16384:Int)<s.length:=by omega
 unfold AN at hK;rw[aG hl]at hK;simp[RD,i6];have fO:∀n,HSc (H++[.perm 274 3 n]):=λn=>hs.append rfl;unfold KX;refine tM.own 5 274 3 rfl ?_;show KX (.str s) (.sl [] (.own H.length)) I0 (H++[.perm 274 3 0]) (Out H.length K);refine zYT (Inv:=λq t5 t6 H'=>∃(i:Nat) (l:List Tk),i≤s.length∧l.length≤i∧q=s.length-i∧t6=I6 i∧t5=.sl (l.map Tk.cs) (.own H.length)∧H'=H++[.perm 274 3 l.length]∧cat l (wd (kwF kwds) (s.drop i) i)=wd (kwF kwds) s 0) s.length ?_ ?_
 ·intro _;exact⟨0,[],by omega,by simp,by omega,rfl,rfl,rfl,by simp⟩
 ·rintro q t5 t6 H' ⟨i,l,hi,gy,rfl,rfl,rfl,rfl,ho⟩ hsc fz fM Kb fB;have done:cat l (.ok [⟨6,[],s.length⟩])=wd (kwF kwds) s 0→KZ (.str s) (.sl (l.map Tk.cs) (.own H.length)) (H++[.perm 274 3 l.length]) (Out H.length K):=by intro ho;rw[←ho]at hK;simp[KZ,zHr,ug,uv,uk,uI,plain,AV.pd,uj,uD,uy,AV.isV];refine⟨by omega,?_⟩;simp[cat,Tk.cs]at hK;exact Out.tup hs hK ⟨slV,uJ rfl rfl,uJ rfl rfl,trivial⟩
  by_cases fy:i<s.length
  ·have gT:=ai fy;simp[RC,fy];refine zKV _ _ _ ?_;have e35:((s[i].toNat:Int) == 35)=(s[i] == 35):=xr s[i] 35;cases iy:yL s[i] with
   |true=>rw[gT,zDZ _ iy]at ho;simp[Dj];rw[um (by omega) (by omega)];refine fB _ _ ⟨s.length-(i+1),by omega,Back.here (by simp) (fO _) ?_ ⟨_,_,rfl,i+1,l,by omega,by omega,rfl,by simp,rfl,rfl,ho⟩⟩;simp[Di,AV.sc,AV.ZJ,AV.ZH,AV.ZI]
   |false=>
    simp[e35];cases fY:(s[i] == 35) with
    |true=>
     simp;rw[gT,zD1 _ iy fY]at ho;have kR:(s[i] == 10)=false:=by rw[bt]at fY;rw[fY];rfl
     obtain⟨c1,c2⟩:=Lo kR (s.drop (i+1));rw[aa,←c1,←c2,←gT]at ho;refine zYU (Inv:=λq t6 H'=>∃(j:Nat),i≤j∧j≤s.length∧q=s.length-j∧t6=I6 j∧H'=H++[.perm 274 3 l.length]∧cat l (wd (kwF kwds) (zX (s.drop j)) (j+zY (s.drop j)))=wd (kwF kwds) s 0) (s.length-i) ?_ ?_
     ·intro _;exact⟨i,by omega,by omega,by omega,rfl,rfl,ho⟩
     ·rintro q t6 H' ⟨j,qq,hj,rfl,rfl,rfl,ho⟩ hsc fz fM Kb9 nk;by_cases jl:j<s.length
      ·have lD:=ai jl;have e10:((s[j].toNat:Int) == 10)=(s[j] == 10):=xr s[j] 10;simp[RB,jl,e10];cases hz:(s[j] == 10) with
       |true=>
        obtain⟨d1,d2⟩:=zDo hz (s.drop (j+1));rw[lD,d1,d2,←lD,Nat.add_zero]at ho;have hij':i≠j:=by rintro rfl;rw[kR]at hz;cases hz
        simp[Dj];refine fB _ _ ⟨s.length-j,by omega,Back.here (by simp) (fO _) ?_ ⟨_,_,rfl,j,l,by omega,by omega,rfl,by simp,rfl,rfl,ho⟩⟩;simp[Di,AV.sc,AV.ZJ,AV.ZH,AV.ZI]
       |false=>obtain⟨d1,d2⟩:=Lo hz (s.drop (j+1));rw[lD,d1,d2,←aa]at ho;simp;rw[um (by omega) (by omega)];refine nk _ _ ⟨s.length-(j+1),by omega,Back.here (by simp) (fO _) ?_ ⟨_,rfl,j+1,by omega,by omega,rfl,by simp,rfl,ho⟩⟩;simp[KY,AV.sc,AV.ZJ,AV.ZH,AV.ZI]
      ·obtain rfl:j=s.length:=by omega
       simp[RB];rw[aV,skipC_nil.1,skipC_nil.2,Nat.add_zero,RU]at ho;exact done ho
    |false=>
     simp;refine zN4 s (by omega) i fy _ _ ?_;unfold Ll;cases ht:tok (kwF kwds) s[i] (s.drop (i+1)) with
     |error e=>
      rw[gT,zD0 _ iy fY ht]at ho;have he:(e != 0)=true:=by rcases zPA ht with rfl|rfl <;> rfl
      rw[←ho]at hK;simp[AV.ZP,AV.isV,he];exact zCs hs hK
     |ok kn=>
      obtain⟨k,n⟩:=kn;rw[gT,zD2 _ iy fY ht,zAr,←gT]at ho;have hn:=RV ht;rw[←gT]at hn;simp at hn;have kQ:=Rz ht;simp[Tk.cs,AV.ZP,uk,uI,plain,AV.pd,uj,uD,uy,Dj];refine⟨by omega,?_⟩;rw[show min n (s.length-i)=n by omega,um (by omega) (by omega),two];refine fB _ _ ⟨s.length-(i+n),by omega,Back.same (by simp) (fO _) ?_ ⟨_,_,rfl,i+n,l++[⟨k,(s.drop i).take n,i⟩],by omega,by simp;omega,rfl,by simp,by simp[Tk.cs],by simp,?_⟩⟩
      ·simp[Di,AV.sc,AV.ZJ,AV.ZH,AV.ZI]
      ·rw[ck]at ho;exact ho
  ·obtain rfl:i=s.length:=by omega
   rw[aV,RU]at ho;simpa[RC]using done ho
def Lp(s:List UInt8)(i n:Nat):List.drop i (List.take (i+n) s)=List.take n (List.drop i s):=by rw[eA];congr 1;omega
def Dp(t0 t5 t6 t7 t8:AV)(H:or)(K:AV→or→Prop)(Kb5:List AV→or→Prop):Prop:=
 gt .gtr false t8 (I6 24) λt118=>
 tO t118
 (ut [.ZG,t6,(I6 9)] (K · H))
 (ge tP 189 [t7] H λt121 H=>
 tO t121
 (AM t0 t5 t6 t8 (I6 2) H K Kb5)
 (gt .add false t6 t8 λt126=>
 uF 0 0 t0 (some t6) (some t126) λt127=>
 ge tP 191 [t127] H λt128 H=>
 tO t128
 (AM t0 t5 t6 t8 (I6 4) H K Kb5)
 (AM t0 t5 t6 t8 I1 H K Kb5)))
section
variable (s:List UInt8) (hl:¬s.length>16384) (i:Nat) (fy:i<s.length) (H:or) (l:List Tk) (gy:l.length≤i) (fO:∀n,HSc (H++[.perm 197 3 n])) (K:AV→or→Prop) (Kb:List AV→or→Prop)
include hl fy gy fO
theorem zPZ(iZ:(wN s[i] || bUp s[i])=true)(app:∀ (k:Int) (n:Nat),tok (kwF kwds) s[i] (s.drop (i+1))=.ok (k,n)→∀ t,(s.drop i).take n=t→Fp (.str s) (.sl (l.map Tk.cs++[[I6 k,.str t,I6 i]]) (.own H.length)) (I6 i) (I6 n) (H++[.perm 197 3 (l.length+1)]) (Out H.length K) Kb)(bad:∀ e:Int,tok (kwF kwds) s[i] (s.drop (i+1))=.error e→Out H.length K (.tup [.ZG,I6 i,I6 e]) (H++[.perm 197 3 l.length])):
  RF (.str s) (.sl (l.map Tk.cs) (.own H.length)) (I6 i) (.int .u8 s[i].toNat) I1 (H++[.perm 197 3 l.length]) (Out H.length K) Kb:=by
 refine zTD (Inv:=λq t8 H'=>∃(j:Nat),i+j≤s.length∧0<j∧q=s.length-j∧t8=I6 j∧H'=H++[.perm 197 3 l.length]∧j+((s.drop (i+j)).takeWhile bIn).length=((s.drop (i+1)).takeWhile bIn).length+1) (s.length-1) ?_ ?_
 ·intro _;exact⟨1,by omega,by omega,by omega,rfl,rfl,by omega⟩
 ·rintro q t8 H' ⟨j,qq,hj0,rfl,rfl,rfl,hn⟩ hsc fz fM Kb18 kK;have w1:IntKind.i64.wrap ((i:Int)+j)=i+j:=um (by omega) (by omega);have w2:IntKind.i64.wrap ((j:Int)+1)=j+1:=um (by omega) (by omega);have fin:((s.drop (i+j)).takeWhile bIn).length=0→Dp (.str s) (.sl (l.map Tk.cs) (.own H.length)) (I6 i) (.int .u8 s[i].toNat) (I6 j) (H++[.perm 197 3 l.length]) (Out H.length K) Kb:=by
   intro h0;rw[h0]at hn;have gj:tok (kwF kwds) s[i] (s.drop (i+1))=if j>24 then .error 9 else .ok (if bUp s[i]=true then 2 else if kwF kwds ((s.drop i).take j)=true then 4 else 1,j):=by rw[ai fy];simp only[tok,iZ,br,←hn,Nat.add_zero]
   by_cases h24:j>24
   ·have pI:(24:Int)<j:=by omega
    rw[aN h24]at gj;simp[Dp,pI,AV.isV];exact bad 9 gj
   ·have pI:¬ (24:Int)<j:=by omega
    rw[aG h24]at gj;simp[Dp,pI];refine Lj _ _ _ ?_;have fin2:∀k,k=(if bUp s[i]=true then 2 else if kwF kwds ((s.drop i).take j)=true then 4 else 1:Int)→AM (.str s) (.sl (l.map Tk.cs) (.own H.length)) (I6 i) (I6 j) (I6 k) (H++[.perm 197 3 l.length]) (Out H.length K) Kb:=by intro k hk;rw[←hk]at gj;have:=app k j gj _ rfl;simp[AM,w1,w2,ug,uv,uk,uI,plain,AV.pd,uj,uD,uy,AL];refine⟨by omega,by omega,by omega,?_⟩;rw[show ((i:Int)+j).toNat=i+j by omega,Lp];exact this
    cases hU:bUp s[i] with
    |true=>simp;exact fin2 2 (by simp[hU])
    |false=>
     simp[w1,w2];refine⟨by omega,by omega,?_⟩;rw[show ((i:Int)+j).toNat=i+j by omega,Lp];refine zMi _ _ _ ?_;cases rf:kwF kwds ((s.drop i).take j) with
     |true=>simp;exact fin2 4 (by simp[hU,rf])
     |false=>simp;exact fin2 1 (by simp[hU,rf])
  by_cases jl:i+j<s.length
  ·have e95:((s[i+j].toNat:Int) == 95)=(s[i+j] == 95):=xr s[i+j] 95;have ia:(i+j:Int)<s.length:=by omega
   rw[ai jl,er]at hn fin;have key:bIn s[i+j]=true→Kb18 (Fo (.str s) (.sl (l.map Tk.cs) (.own H.length)) (I6 i) (.int .u8 s[i].toNat) (I6 (j+1))) (H++[.perm 197 3 l.length]):=by intro pJ;rw[pJ]at hn;simp at hn;refine kK _ _ ⟨s.length-(j+1),by omega,Back.here (by simp) (fO _) ?_ ⟨_,rfl,j+1,by omega,by omega,rfl,by simp,rfl,by rw[←aa];omega⟩⟩;simp[Fo,AV.sc,AV.ZJ,AV.ZH,AV.ZI]
   have no:bIn s[i+j]=false→Dp (.str s) (.sl (l.map Tk.cs) (.own H.length)) (I6 i) (.int .u8 s[i].toNat) (I6 j) (H++[.perm 197 3 l.length]) (Out H.length K) Kb:=by intro pJ;rw[pJ]at fin;exact fin (by simp)
   have fJ:s[((i:Int)+j).toNat]?.getD 0=s[i+j]:=by rw[show ((i:Int)+j).toNat=i+j by omega];simp[jl]
   unfold bIn at key no;simp[RG,w1,w2,ia,fJ];refine⟨by omega,?_⟩;refine zBJ _ _ _ ?_;cases hL:wN s[i+j] with
   |true=>simpa using key (by simp[hL])
   |false=>
    simp[w1,w2,ia,fJ];refine⟨by omega,Lj _ _ _ ?_⟩;cases hU:bUp s[i+j] with
    |true=>simpa using key (by simp[hU])
    |false=>
     simp[w1,w2,ia,fJ];refine⟨by omega,RQ _ _ _ ?_⟩;cases hD:vh s[i+j] with
     |true=>simpa using key (by simp[hD])
     |false=>
      simp[w1,w2,ia,fJ,e95];refine⟨by omega,?_⟩;cases h95:(s[i+j] == 95) with
      |true=>simpa using key (by simp[h95])
      |false=>simpa[Dp,w1]using no (by simp[hL,hU,hD,h95])
  ·have ia:¬ (i+j:Int)<s.length:=by omega
   have:s.drop (i+j)=[]:=ch (by omega);rw[this]at fin;have:=fin rfl;simp[RG,w1,w2,ia];simpa[Dp,w1]using this
end
def Lq(t0 t5 t6 t8:AV)(H:or)(K:AV→or→Prop)(Kb5:List AV→or→Prop):Prop:=
 gt .add false t6 t8 λt172=>
 uF 0 0 t0 (some t6) (some t172) λt173=>
 ge tP 192 [t173] H λt174 H=>
 uo t174 0 λt175=>
 uo t174 1 λt176=>
 aUn .not t176 λt178=>
 tO t178
 (ut [.ZG,t6,(I6 9)] (K · H))
 (gt .add false t6 t8 λt185=>
 uF 0 0 t0 (some t6) (some t185) λt186=>
 ug [I0,(.str []),I0] [(0,1),(1,1),(2,1)] [(0,(I6 3)),(1,t186),(2,t6)] λt188=>
 uk 3 [I0,(.str []),I0] 1 [(0,t188)] λt189=>
 uj 197 3 32 t5 t189 H λt190 H=>
 AL t0 t190 t6 t8 H K Kb5)
def Dq(t0 t5 t6 t7 t8:AV)(H:or)(K:AV→or→Prop)(Kb5:List AV→or→Prop):Prop:=
 gt .gtr false t8 I1 λt161=>
 ui t161 true H (λK'=>K' t7 H) λt163 H=>
 ui t161 true H (λK'=>gt .eql false t163 (.int .u8 48) (K' · H)) λt164 H=>
 tZ t161 t164 (.bool false) λt165=>
 tO t165
 (ut [.ZG,t6,(I6 2)] (K · H))
 (gt .add false t6 t8 λt172=>
 uF 0 0 t0 (some t6) (some t172) λt173=>
 ge tP 192 [t173] H λt174 H=>
 uo t174 0 λt175=>
 uo t174 1 λt176=>
 aUn .not t176 λt178=>
 tO t178
 (ut [.ZG,t6,(I6 9)] (K · H))
 (gt .add false t6 t8 λt185=>
 uF 0 0 t0 (some t6) (some t185) λt186=>
 ug [I0,(.str []),I0] [(0,1),(1,1),(2,1)] [(0,(I6 3)),(1,t186),(2,t6)] λt188=>
 uk 3 [I0,(.str []),I0] 1 [(0,t188)] λt189=>
 uj 197 3 32 t5 t189 H λt190 H=>
 AL t0 t190 t6 t8 H K Kb5))
section
variable (s:List UInt8) (hl:¬s.length>16384) (i:Nat) (fy:i<s.length) (H:or) (l:List Tk) (gy:l.length≤i) (fO:∀n,HSc (H++[.perm 197 3 n])) (K:AV→or→Prop) (Kb:List AV→or→Prop)
include hl fy gy fO
theorem zML(iZ:¬ (wN s[i] || bUp s[i])=true)(hD:vh s[i]=true)(app:∀ (k:Int) (n:Nat),tok (kwF kwds) s[i] (s.drop (i+1))=.ok (k,n)→∀ t,(s.drop i).take n=t→Fp (.str s) (.sl (l.map Tk.cs++[[I6 k,.str t,I6 i]]) (.own H.length)) (I6 i) (I6 n) (H++[.perm 197 3 (l.length+1)]) (Out H.length K) Kb)(bad:∀ e:Int,tok (kwF kwds) s[i] (s.drop (i+1))=.error e→Out H.length K (.tup [.ZG,I6 i,I6 e]) (H++[.perm 197 3 l.length])):
  RH (.str s) (.sl (l.map Tk.cs) (.own H.length)) (I6 i) (.int .u8 s[i].toNat) I1 (H++[.perm 197 3 l.length]) (Out H.length K) Kb:=by
 refine zTE (Inv:=λq t8 H'=>∃(j:Nat),i+j≤s.length∧0<j∧q=s.length-j∧t8=I6 j∧H'=H++[.perm 197 3 l.length]∧j+((s.drop (i+j)).takeWhile vh).length=((s.drop (i+1)).takeWhile vh).length+1) (s.length-1) ?_ ?_
 ·intro _;exact⟨1,by omega,by omega,by omega,rfl,rfl,by omega⟩
 ·rintro q t8 H' ⟨j,qq,hj0,rfl,rfl,rfl,hn⟩ hsc fz fM Kb18 kK;have w1:IntKind.i64.wrap ((i:Int)+j)=i+j:=um (by omega) (by omega);have w2:IntKind.i64.wrap ((j:Int)+1)=j+1:=um (by omega) (by omega);have e48:((s[i].toNat:Int) == 48)=(s[i] == 48):=xr s[i] 48;have fin:((s.drop (i+j)).takeWhile vh).length=0→Dq (.str s) (.sl (l.map Tk.cs) (.own H.length)) (I6 i) (.int .u8 s[i].toNat) (I6 j) (H++[.perm 197 3 l.length]) (Out H.length K) Kb:=by
   intro h0;rw[h0]at hn;have o4:(s.drop i).take j=s[i]::(s.drop (i+1)).takeWhile vh:=by rw[ai fy,show j=((s.drop (i+1)).takeWhile vh).length+1 by omega,Lm]
   have gj:tok (kwF kwds) s[i] (s.drop (i+1))=if (s[i] == 48 && decide (j>1))=true then .error 2 else if wZ ((s.drop i).take j) 0=true then .ok (3,j) else .error 9:=by rw[ai fy];simp only[tok,iZ,hD,br,←hn,Nat.add_zero];rfl
   have lE:∀(K:AV→or→Prop) (H:or),(∀n,K (.tup [I6 n,.bool (wZ ((s.drop i).take j) 0)]) H)→ge tP 192 [.str ((s.drop i).take j)] H K:=by
    intro K H hK;refine zPR _ ?_ (by simp;omega) _ _ hK;intro c hc;rw[o4]at hc;rcases aT.1 hc with rfl|hc
    ·exact hD
    ·exact aA.1 (List.all_takeWhile) c hc
   have rest:¬(s[i] == 48 && decide (j>1))=true→Lq (.str s) (.sl (l.map Tk.cs) (.own H.length)) (I6 i) (I6 j) (H++[.perm 197 3 l.length]) (Out H.length K) Kb:=by
    intro fI;rw[aG fI]at gj;simp[Lq,w1];refine⟨by omega,by omega,?_⟩;rw[show ((i:Int)+j).toNat=i+j by omega,Lp];refine lE _ _ λn=>?_;cases hv:wZ ((s.drop i).take j) 0 with
    |false=>rw[hv]at gj;simp[AV.isV];exact bad 9 gj
    |true=>rw[hv]at gj;have:=app 3 j gj _ rfl;simp[ug,uv,uk,uI,plain,AV.pd,uj,uD,uy,AL];refine⟨by omega,by omega,by omega,?_⟩;exact this
   by_cases h1:j>1
   ·have iz:(1:Int)<j:=by omega
    have hd:decide (j>1)=true:=bG h1;rw[hd]at rest gj;cases hz:(s[i] == 48) with
    |true=>rw[hz]at gj;simp[Dq,iz,e48,hz,AV.isV];exact bad 2 gj
    |false=>have:=rest (by rw[hz];decide);simp[Dq,iz,e48,hz];simpa[Lq]using this
   ·have iz:¬ (1:Int)<j:=by omega
    have:=rest (by rw[bz h1];simp);simp[Dq,iz];simpa[Lq]using this
  by_cases jl:i+j<s.length
  ·have ia:(i+j:Int)<s.length:=by omega
   rw[ai jl,er]at hn fin;have fJ:s[((i:Int)+j).toNat]?.getD 0=s[i+j]:=by rw[show ((i:Int)+j).toNat=i+j by omega];simp[jl]
   simp[RI,w1,w2,ia,fJ];refine⟨by omega,?_⟩;refine RQ _ _ _ ?_;cases hb:vh s[i+j] with
   |true=>rw[hb]at hn;simp at hn;simp[w1,w2];refine kK _ _ ⟨s.length-(j+1),by omega,Back.here (by simp) (fO _) ?_ ⟨_,rfl,j+1,by omega,by omega,rfl,by simp,rfl,by rw[←aa];omega⟩⟩;simp[K4,AV.sc,AV.ZJ,AV.ZH,AV.ZI]
   |false=>rw[hb]at fin;have:=fin (by simp);simp[w1,w2];simpa[Dq,w1]using this
  ·have ia:¬ (i+j:Int)<s.length:=by omega
   have:s.drop (i+j)=[]:=ch (by omega);rw[this]at fin;have:=fin rfl;simp[RI,w1,w2,ia];simpa[Dq,w1]using this
end
def zPg(s:List UInt8)(H:or)(K:AV→or→Prop)(hK:K (AN s) H):ge tP 145 [.str s] H K:=by
 refine ge.out (zTJ λhs=>?_);by_cases hl:s.length>16384
 ·have i6:(16384:Int)<s.length:=by omega
  simp[RJ,i6,AV.isV];unfold AN at hK;rw[aN hl]at hK;exact Out.tup0 hs hK ⟨xd,uJ rfl rfl,uJ rfl rfl,trivial⟩
 have i6:¬(16384:Int)<s.length:=by omega
 unfold AN at hK;rw[aG hl]at hK;simp[RJ,i6];have fO:∀n,HSc (H++[.perm 197 3 n]):=λn=>hs.append rfl;unfold K2;refine tM.own 5 197 3 rfl ?_;show K2 (.str s) (.sl [] (.own H.length)) I0 (H++[.perm 197 3 0]) (Out H.length K);refine zTF (Inv:=λq t5 t6 H'=>∃(i:Nat) (l:List Tk),i≤s.length∧l.length≤i∧q=s.length-i∧t6=I6 i∧t5=.sl (l.map Tk.cs) (.own H.length)∧H'=H++[.perm 197 3 l.length]∧cat l (wd (kwF kwds) (s.drop i) i)=wd (kwF kwds) s 0) s.length ?_ ?_
 ·intro _;exact⟨0,[],by omega,by simp,by omega,rfl,rfl,rfl,by simp⟩
 ·rintro q t5 t6 H' ⟨i,l,hi,gy,rfl,rfl,rfl,rfl,ho⟩ hsc fz fM Kb fB;by_cases fy:i<s.length
  ·have gT:=ai fy;have e9:((s[i].toNat:Int) == 9)=(s[i] == 9):=xr s[i] 9;have e10:((s[i].toNat:Int) == 10)=(s[i] == 10):=xr s[i] 10;have e13:((s[i].toNat:Int) == 13)=(s[i] == 13):=xr s[i] 13;have e32:((s[i].toNat:Int) == 32)=(s[i] == 32):=xr s[i] 32;have e35:((s[i].toNat:Int) == 35)=(s[i] == 35):=xr s[i] 35;cases iy:yL s[i] with
   |true=>
    rw[gT,zDZ _ iy]at ho;have key:AK (.str s) (.sl (l.map Tk.cs) (.own H.length)) (I6 (IntKind.i64.wrap (i+1))) (H++[.perm 197 3 l.length]) (Out H.length K) Kb:=by simp[AK];rw[um (by omega) (by omega)];refine fB _ _ ⟨s.length-(i+1),by omega,Back.here (by simp) (fO _) ?_ ⟨_,_,rfl,i+1,l,by omega,by omega,rfl,by simp,rfl,rfl,ho⟩⟩;simp[BD,AV.sc,AV.ZJ,AV.ZH,AV.ZI]
    unfold yL at iy;cases h9:(s[i] == 9) <;> cases kR:(s[i] == 10) <;> cases sb:(s[i] == 13) <;> cases oT:(s[i] == 32) <;> simp[h9,kR,sb,oT]at iy <;> simpa[K5,fy,e9,e10,e13,e32,h9,kR,sb,oT]using key
   |false=>
    have pK:=iy;unfold yL at pK;simp only[cd]at pK;obtain⟨⟨⟨h9,kR⟩,sb⟩,oT⟩:=pK;have app:∀(k:Int) (n:Nat),tok (kwF kwds) s[i] (s.drop (i+1))=.ok (k,n)→(s[i] == 35)=false→∀t,(s.drop i).take n=t→Fp (.str s) (.sl (l.map Tk.cs++[[I6 k,.str t,I6 i]]) (.own H.length)) (I6 i) (I6 n) (H++[.perm 197 3 (l.length+1)]) (Out H.length K) Kb:=by
     intro k n ht fY t sa;subst sa;rw[gT,zD2 _ iy fY ht,zAr,←gT]at ho;have hn:=RV ht;rw[←gT]at hn;simp at hn;have kQ:=Rz ht;simp[Fp,AK];rw[um (by omega) (by omega)];refine fB _ _ ⟨s.length-(i+n),by omega,Back.here (by simp) (fO _) ?_ ⟨_,_,rfl,i+n,l++[⟨k,(s.drop i).take n,i⟩],by omega,by simp;omega,rfl,by simp,by simp[Tk.cs],by simp,?_⟩⟩
     ·simp[BD,AV.sc,AV.ZJ,AV.ZH,AV.ZI]
     ·rw[ck]at ho;exact ho
    have bad:∀e:Int,tok (kwF kwds) s[i] (s.drop (i+1))=.error e→(s[i] == 35)=false→Out H.length K (.tup [.ZG,I6 i,I6 e]) (H++[.perm 197 3 l.length]):=by intro e ht fY;rw[gT,zD0 _ iy fY ht]at ho;rw[←ho]at hK;exact zCs hs hK
    simp[K5,fy,e9,e10,e13,e32,e35,h9,kR,sb,oT];cases fY:(s[i] == 35) with
    |true=>
     simp;rw[gT,zD1 _ iy fY]at ho;obtain⟨c1,c2⟩:=Lo kR (s.drop (i+1));rw[aa,←c1,←c2,←gT]at ho;refine zTC (Inv:=λq t6 H'=>∃(j:Nat),i≤j∧j≤s.length∧q=s.length-j∧t6=I6 j∧H'=H++[.perm 197 3 l.length]∧cat l (wd (kwF kwds) (zX (s.drop j)) (j+zY (s.drop j)))=wd (kwF kwds) s 0) (s.length-i) ?_ ?_
     ·intro _;exact⟨i,by omega,by omega,by omega,rfl,rfl,ho⟩
     ·rintro q t6 H' ⟨j,qq,hj,rfl,rfl,rfl,ho⟩ hsc fz fM Kb9 nk;by_cases jl:j<s.length
      ·have lD:=ai jl;have e10:((s[j].toNat:Int) != 10)=!(s[j] == 10):=by rw[←xr s[j] 10];rfl
       simp[RE,jl,e10];cases hz:(s[j] == 10) with
       |true=>
        obtain⟨d1,d2⟩:=zDo hz (s.drop (j+1));rw[lD,d1,d2,←lD,Nat.add_zero]at ho;have hij':i≠j:=by rintro rfl;rw[kR]at hz;cases hz
        simp[AK];refine fB _ _ ⟨s.length-j,by omega,Back.here (by simp) (fO _) ?_ ⟨_,_,rfl,j,l,by omega,by omega,rfl,by simp,rfl,rfl,ho⟩⟩;simp[BD,AV.sc,AV.ZJ,AV.ZH,AV.ZI]
       |false=>obtain⟨d1,d2⟩:=Lo hz (s.drop (j+1));rw[lD,d1,d2,←aa]at ho;simp;rw[um (by omega) (by omega)];refine nk _ _ ⟨s.length-(j+1),by omega,Back.here (by simp) (fO _) ?_ ⟨_,rfl,j+1,by omega,by omega,rfl,by simp,rfl,ho⟩⟩;simp[K3,AV.sc,AV.ZJ,AV.ZH,AV.ZI]
      ·obtain rfl:j=s.length:=by omega
       simp[RE,AK];rw[aV,skipC_nil.1,skipC_nil.2,Nat.add_zero]at ho;refine fB _ _ ⟨0,by omega,Back.here (by simp) (fO _) ?_ ⟨_,_,rfl,s.length,l,by omega,by omega,by omega,by simp,rfl,rfl,by rw[aV];exact ho⟩⟩;simp[BD,AV.sc,AV.ZJ,AV.ZH,AV.ZI]
    |false=>
     replace app:=λk n h=>app k n h fY
     replace bad:=λe h=>bad e h fY
     simp;refine zBJ _ _ _ ?_;by_cases iZ:(wN s[i] || bUp s[i])=true
     ·have hc:wN s[i]=true∨(wN s[i]=false∧bUp s[i]=true):=by cases hL:wN s[i] <;> simp[hL]at iZ ⊢;exact iZ
      rcases hc with hL|⟨hL,hU⟩;case' inl=>simp[hL]
      case' inr=>simp[hL];refine Lj _ _ _ ?_;simp[hU]
      all_goals exact zPZ s hl i fy H l gy fO K Kb iZ app bad
     ·have hL:wN s[i]=false:=by simp at iZ;exact iZ.1
      have hU:bUp s[i]=false:=by simp at iZ;exact iZ.2
      simp[hL];refine Lj _ _ _ ?_;simp[hU];refine RQ _ _ _ ?_;cases hD:vh s[i] with
      |true=>simp;exact zML s hl i fy H l gy fO K Kb iZ hD app bad
      |false=>
       simp;refine⟨by omega,?_⟩;have gj:tok (kwF kwds) s[i] (s.drop (i+1))=if sgn (s.drop i)=0 then .error 2 else .ok (5,sgn (s.drop i)):=by simp only[tok,iZ,hD,gT];rfl
       rw[gT];refine zOl _ _ _ _ ?_;rw[←gT];by_cases hz:sgn (s.drop i)=0
       ·simp[hz,AV.isV];exact bad 2 (by rw[gj,aN hz])
       ·have ox:((sgn (s.drop i):Int) == 0)=false:=by simpa using hz
        have ht:=gj;rw[aG hz]at ht;have hn:=RV ht;rw[←gT]at hn;simp at hn;have:=app 5 (sgn (s.drop i)) ht _ rfl;simp[ox];rw[um (by omega) (by omega)];simp[ug,uv,uk,uI,plain,AV.pd,uj,uD,uy,AL];refine⟨by omega,by omega,by omega,?_⟩;rw[show ((i:Int)+(sgn (s.drop i):Int)).toNat=i+sgn (s.drop i) by omega,Lp];exact this
  ·obtain rfl:i=s.length:=by omega
   rw[aV,RU]at ho;rw[←ho]at hK;simp[K5,ug,uv,uk,uI,plain,AV.pd,uj,uD,uy,AV.isV];refine⟨by omega,?_⟩;simp[cat,Tk.cs]at hK;exact Out.tup hs hK ⟨slV,uJ rfl rfl,uJ rfl rfl,trivial⟩
section
variable (t0 t3 t4 t5 t6 t7 t93 t94 t95:AV) (H:or) (K:Kt) (Kb2 Kb5 Kb12 Kb18:Lt)
def zv:Nat→List Bool|5=>rl false [0,1,2,3,115]|12=>rl false [0,1,2,5,113]|18=>rl false [0,1,2,5,85,3,25]|_=>[]
noncomputable def zyc:=bd Tryz.f48
def Lr:=t0::ux 2 (t3::t4::t5::ux 115 [])
def zIu:=zv 5
noncomputable def RW:=uc [1,1,1,0,1,0,0] zyc
def zIp:=ud tP zv [1,1,1,0,1,0] zyc (uq tP Tryz.f48.results.toList K)
def Ls:=tM tP RW (zIp K) (Lr t0 t3 t4 t5) H
def Lu:=t0::ux 2 (t3::t4::t5::t6::t7::ux 113 [])
def zIt:=zv 12
noncomputable def RX:=uc [1,0,0,1,1,1,1,0,0] RW
def zIo:=ud tP zv [1,0,0,1,1,1,1,0] RW (vz zIu Kb5 (zIp K))
def zIr:=tM tP RX (zIo K Kb5) (Lu t0 t3 t4 t5 t6 t7) H
def Lv:=t0::ux 2 (t3::t4::t5::t6::t7::ux 85 (t93::t94::t95::ux 25 []))
def ybK:=zv 18
noncomputable def ybG:=uc [1,0,0,1,1,1,0,0] RX
def ybF:=ud tP zv [1,0,0,1,1,1,0] RX (vz zIt Kb12 (zIo K Kb5))
def zIs:=tM tP ybG (ybF K Kb5 Kb12) (Lv t0 t3 t4 t5 t6 t7 t93 t94 t95) H
def zIq(t0 t3 t4 t5 t6 t7 t93 t94 t95:AV)(H:or)(K:Kt)(Kb5:Lt)(Kb12:Lt)(Kb18:Lt):Prop:=gt .add false t95 I1 λt112=>Kb18 (Lv t0 t3 t4 t5 t6 t7 t93 t94 t112) H
def Lw:=zIq t0 t3 t4 t5 t6 t7 t93 t94 t95 H K Kb5 Kb12 Kb18
def RY:=gt .lss false t95 t94 λt96=>tO t96 (tW 3 t93 t95 λt97=>tL true 3 t97 H λt98=>un [I0,I0,.ZG] H λt9 H=>ua 3 t9 t98 H λH=>tL true 3 t9 H λt99=>tN 1 t6 λt101=>tL false 1 t101 H λt102=>ge tP 93 [t99,t5,t102] H λt103 H=>tO t103 (Lw t0 t3 t4 t5 t6 t7 t93 t94 t95 H K Kb5 Kb12 Kb18) (apm H t0 λt104=>apm H t5 λt105=>apu H (uF 1 3 t104 none (some t105)) λt106=>apu H (tY true 3 t9 H) λt107=>apu H (tN 1 t6) λt108=>apu H (tY false 1 t108 H) λt109=>apc tP H 49 [t106,t107,t109] λt110=>apu H (aUn .not t110) λt111=>tO t111 (K (.bool false) H) (Lw t0 t3 t4 t5 t6 t7 t93 t94 t95 H K Kb5 Kb12 Kb18))) (gt .add false t7 I1 λt60=>Kb12 (Lu t0 t3 t4 t5 t6 t60) H)
def RZ:=tN 2 t6 λt55=>tL false 1 t55 H λt56=>tV 1 t56 λt57=>gt .lss false t7 t57 λt58=>tO t58 (tN 2 t6 λt61=>tL false 1 t61 H λt62=>tW 2 t62 t7 λt64=>tN 0 t64 λt65=>tL false 1 t65 H λt66=>ge tP 92 [t66] H λt67 H=>aUn .not t67 λt68=>agu t68 false H (tN 2 t6) λt70 H=>agu t68 false H (tL false 1 t70 H) λt71 H=>agm t68 false H t7 λt72 H=>agu t68 false H (tW 2 t71 t72) λt73 H=>agu t68 false H (tN 1 t73) λt74 H=>agu t68 false H (tL false 1 t74 H) λt75 H=>agu t68 false H (tV 1 t75) λt76 H=>agu t68 false H (gt .gtr false t76 (I6 6)) λt77 H=>tZ t68 (.bool true) t77 λt78=>tO t78 (K (.bool false) H) (tN 2 t6 λt80=>tL false 1 t80 H λt81=>tW 2 t81 t7 λt83=>tN 0 t83 λt84=>tL false 1 t84 H λt85=>uk 1 [(.str [])] 1 [(0,t85)] λt86=>uj 9 1 16 t4 t86 H λt87 H=>tN 2 t6 λt88=>tL false 1 t88 H λt89=>tW 2 t89 t7 λt91=>tN 1 t91 λt92=>tL false 1 t92 H λt93=>tV 1 t93 λt94=>zIs t0 t3 t87 t5 t6 t7 t93 t94 I0 H K Kb5 Kb12)) (gt .add false t5 I1 λt18=>Kb5 (Lr t0 t3 t4 t18) H)
def BG:=tV 1 t0 λt15=>gt .lss false t5 t15 λt16=>tO t16 (tW 3 t0 t5 λt21=>tL true 3 t21 H λt22=>un [(.str []),I0,.ZG] H λt6 H=>ua 3 t6 t22 H λH=>tN 1 t6 λt23=>tL false 1 t23 H λt24=>gt .lss false t24 I0 λt25=>agu t25 false H (tN 1 t6) λt27 H=>agu t25 false H (tL false 1 t27 H) λt28 H=>agu t25 false H (gt .gtr false t28 (I6 6)) λt29 H=>tZ t25 (.bool true) t29 λt30=>agu t30 false H (tN 2 t6) λt32 H=>agu t30 false H (tL false 1 t32 H) λt33 H=>agu t30 false H (tV 1 t33) λt34 H=>agu t30 false H (gt .lss false t34 I1) λt35 H=>tZ t30 (.bool true) t35 λt36=>agu t36 false H (tN 2 t6) λt38 H=>agu t36 false H (tL false 1 t38 H) λt39 H=>agu t36 false H (tV 1 t39) λt40 H=>agu t36 false H (gt .gtr false t40 (I6 8)) λt41 H=>tZ t36 (.bool true) t41 λt42=>agu t42 false H (tN 0 t6) λt44 H=>agu t42 false H (tL false 1 t44 H) λt45 H=>agc tP t42 false H 92 [t45] λt46 H=>agu t42 false H (aUn .not t46) λt47 H=>tZ t42 (.bool true) t47 λt48=>tO t48 (K (.bool false) H) (tN 0 t6 λt50=>tL false 1 t50 H λt51=>uk 1 [(.str [])] 1 [(0,t51)] λt52=>uj 9 1 16 t3 t52 H λt53 H=>zIr t0 t53 t4 t5 t6 I0 H K Kb5)) (ge tP 94 [t3] H λt114 H=>aUn .not t114 λt115=>agm t115 true H t4 λt117 H=>agc tP t115 true H 94 [t117] λt118 H=>agu t115 true H (aUn .not t118) λt119 H=>tZ t115 t119 (.bool false) λt120=>K t120 H)
def R0:=tV 1 t0 λt11=>gt .gtr false t11 (I6 12) λt12=>tO t12 (K (.bool false) H) (Ls t0 .ZG .ZG I0 H K)
def BH:Nat→List Bool|2=>rl false [0,1,2,1,21]|5=>rl false [0,1,2,2,20]|_=>[]
noncomputable def zze:=bd Tryz.f94
def Lx:=t0::ux 2 (t3::ux 21 [])
def zJN:=BH 2
noncomputable def R5:=uc [1,0,1,0,0] zze
def zJK:=ud tP BH [1,0,1,0] zze (uq tP Tryz.f94.results.toList K)
def zJL:=tM tP R5 (zJK K) (Lx t0 t3) H
def Ly:=t0::ux 2 (t3::t4::ux 20 [])
def yfo:=BH 5
noncomputable def yfl:=uc [1,0,0,1,0,0] R5
def yfk:=ud tP BH [1,0,0,1,0] R5 (vz zJN Kb2 (zJK K))
def zJM:=tM tP yfl (yfk K Kb2) (Ly t0 t3 t4) H
def R6:=gt .lss false t4 t3 λt13=>tO t13 (apm H t0 λt16=>apm H t3 λt17=>apu H (tW 1 t16 t17) λt18=>apu H (tY false 1 t18 H) λt19=>apm H t0 λt20=>apm H t4 λt21=>apu H (tW 1 t20 t21) λt22=>apu H (tY false 1 t22 H) λt23=>apu H (gt .eql false t19 t23) λt24=>tO t24 (K (.bool true) H) (gt .add false t4 I1 λt15=>Kb5 (Ly t0 t3 t15) H)) (gt .add false t3 I1 λt10=>Kb2 (Lx t0 t10) H)
def R7:=tV 1 t0 λt7=>gt .lss false t3 t7 λt8=>tO t8 (zJM t0 t3 I0 H K Kb2) (K (.bool false) H)
def zJJ:=zJL t0 I0 H K
variable {t0 t3 t4 t5 t6 t7 t93 t94 t95} {H} {K} {Kb2 Kb5 Kb12 Kb18}
def ybI:Lo1 (λt95=>Lv t0 t3 t4 t5 t6 t7 t93 t94 t95) (λt95 H Kb18=>RY t0 t3 t4 t5 t6 t7 t93 t94 t95 H K Kb5 Kb12 Kb18) t95 H (zIs t0 t3 t4 t5 t6 t7 t93 t94 t95 H K Kb5 Kb12):=lq1 zv ybK
def ybH:Lo2 (λt4 t7=>Lu t0 t3 t4 t5 t6 t7) (λt4 t7 H Kb12=>RZ t0 t3 t4 t5 t6 t7 H K Kb5 Kb12) t4 t7 H (zIr t0 t3 t4 t5 t6 t7 H K Kb5):=lq2 zv zIt
def ybJ:Lo3 (λt3 t4 t5=>Lr t0 t3 t4 t5) (λt3 t4 t5 H Kb5=>BG t0 t3 t4 t5 H K Kb5) t3 t4 t5 H (Ls t0 t3 t4 t5 H K):=lq3 zv zIu
def ybL(h:HSc H→R0 t0 H K):ge tP 48 [t0] H K:=
 acb zv Tryz.func48 h
def yfn:Lo1 (λt4=>Ly t0 t3 t4) (λt4 H Kb5=>R6 t0 t3 t4 H K Kb2 Kb5) t4 H (zJM t0 t3 t4 H K Kb2):=lq1 BH yfo
def yfm:Lo1 (λt3=>Lx t0 t3) (λt3 H Kb2=>R7 t0 t3 H K Kb2) t3 H (zJL t0 t3 H K):=lq1 BH zJN
def yfp(h:HSc H→zJJ t0 H K):ge tP 94 [t0] H K:=
 acb BH Tryz.func94 h
end
def yN{k:AV→Prop}(a b:AV)(vs:List AV):uo (.tup (a::b::vs)) 1 k=k b:=propext bk
def yO{k:AV→Prop}(a b c:AV)(vs:List AV):uo (.tup (a::b::c::vs)) 2 k=k c:=propext bk
def BI(s:List UInt8):List Tk×Int×Int:=
 if s.length>16384 then ([],0,9) else
 match wd (kwF kwds) s 0 with
 |.error (p,e)=>([],p,e)
 |.ok l=>(l,0,0)
def zDt(s:List UInt8):AN s=.tup [.sl ((BI s).1.map Tk.cs) .none,I6 (BI s).2.1,I6 (BI s).2.2]:=by
 unfold AN BI;split
 ·rfl
 ·split <;> (rename_i h;simp[h])
def wT(s:List UInt8)(x:List Tk × Int × Int):Bool:=x.2.2 == 0 && match x.1 with
 |[a,_]=>a.kind == 2 && a.text == s
 |_=>false
def ye(s:List UInt8):Bool:=wT s (BI s)
def zG4(s:List UInt8)(H:or)(K:AV→or→Prop)(hK:K (.bool (ye s)) H):ge tP 200 [.str s] H K:=by
 refine ge.out (zXA λhs=>?_);have hO:Out H.length K (.bool (ye s)) H:=Out.bool (J:=[]) (by simp) (af _) hs hK;simp only[zG3];refine zPf s _ _ ?_;rw[zDt];rw[ye]at hO;generalize BI s=x at hO ⊢;obtain⟨l,p,e⟩:=x;clear hK;cases h0:e == 0 with
 |false=>rw[show wT s (l,p,e)=false by simp[wT,h0]]at hO;simp[yN,yO,h0];exact hO
 |true=>
 match l with
 |[]=>rw[show wT s ([],p,e)=false by simp[wT]]at hO;simp[yN,yO,h0];exact hO
 |[x]=>rw[show wT s ([x],p,e)=false by simp[wT]]at hO;simp[yN,yO,h0];exact hO
 |[a,x]=>
  rw[show wT s ([a,x],p,e)=(a.kind == 2 && a.text == s) by simp[wT,h0]]at hO;cases hk:a.kind == 2 with
  |false=>rw[hk]at hO;simp[yN,yO,h0,Tk.cs,hk];exact hO
  |true=>rw[hk]at hO;simp[yN,yO,h0,Tk.cs,hk];exact hO
 |a::b::c::r=>
  rw[show wT s (a::b::c::r,p,e)=false by simp[wT]]at hO;have:¬((r.length:Int)+1+1+1=2):=by omega
  have h2:((r.length:Int)+1+1+1 == 2)=false:=by simpa using this
  simp[yN,yO,h0,h2];exact hO
def zJG(s:List UInt8)(H:or)(K:AV→or→Prop)(hK:K (.bool (ye s)) H):ge tP 92 [.str s] H K:=by
 refine ge.out (yfd λhs=>?_);have hO:Out H.length K (.bool (ye s)) H:=Out.bool (J:=[]) (by simp) (af _) hs hK;simp only[zJF];refine zPg s _ _ ?_;rw[zDt];rw[ye]at hO;generalize BI s=x at hO ⊢;obtain⟨l,p,e⟩:=x;clear hK;cases h0:e == 0 with
 |false=>rw[show wT s (l,p,e)=false by simp[wT,h0]]at hO;simp[yN,yO,h0];exact hO
 |true=>
 match l with
 |[]=>rw[show wT s ([],p,e)=false by simp[wT]]at hO;simp[yN,yO,h0];exact hO
 |[x]=>rw[show wT s ([x],p,e)=false by simp[wT]]at hO;simp[yN,yO,h0];exact hO
 |[a,x]=>
  rw[show wT s ([a,x],p,e)=(a.kind == 2 && a.text == s) by simp[wT,h0]]at hO;cases hk:a.kind == 2 with
  |false=>rw[hk]at hO;simp[yN,yO,h0,Tk.cs,hk];exact hO
  |true=>rw[hk]at hO;simp[yN,yO,h0,Tk.cs,hk];exact hO
 |a::b::c::r=>
  rw[show wT s (a::b::c::r,p,e)=false by simp[wT]]at hO;have:¬((r.length:Int)+1+1+1=2):=by omega
  have h2:((r.length:Int)+1+1+1 == 2)=false:=by simpa using this
  simp[yN,yO,h0,h2];exact hO
def xE(l:List (List UInt8)):Bool:=!decide l.Nodup
def strs(l:List (List UInt8)):List (List AV):=l.map λs=>[.str s]
@[simp] theorem yi4(l:List (List UInt8)):(strs l).length=l.length:=by simp[strs]
def zPo{l:List (List UInt8)}{i:Nat}(h:i<(strs l).length):(strs l)[i]=[.str (l[i]'(by simpa using h))]:=by simp[strs]
def zNN{l:List (List UInt8)}{i j:Nat}(hi:i<l.length)(hj:j<i)(h:l[i]=l[j]):xE l=true:=by simp only[xE,dq,bZ];intro hn;exact(cX.mp hn) j i (by omega) hi hj h.symm
def yfr(l:List (List UInt8))(hl:l.length≤1000000)(H:or)(K:AV→or→Prop)(hK:K (.bool (xE l)) H):ge tP 94 [.sl (strs l) .none] H K:=by
 refine ge.out (yfp λhs=>?_);have hO:Out H.length K (.bool (xE l)) H:=Out.bool (J:=[]) (by simp) (af _) hs hK;simp[zJJ];refine yfm (Inv:=λq t3 H'=>∃i:Nat,i≤l.length∧q=l.length-i∧t3=I6 i∧(∀a b (ha:a<i) (hb:b<a) (h':a<l.length),l[a]≠l[b])∧H=H') l.length ?_ ?_
 ·intro _;exact⟨0,by omega,by omega,rfl,by omega,rfl⟩
 ·rintro q t3 H' ⟨i,hi,rfl,rfl,fI,rfl⟩ hsc fz fM Kb fB;by_cases fy:i<l.length
  ·simp[R7,fy];refine yfn (Inv:=λq t4 H'=>∃j:Nat,j≤i∧q=i-j∧t4=I6 j∧(∀b (hb:b<j) (nh:b<l.length),l[i]≠l[b])∧H=H') i ?_ ?_
   ·intro _;exact⟨0,by omega,by omega,rfl,by omega,rfl⟩
   ·rintro q t4 H' ⟨j,hj,rfl,rfl,ta,rfl⟩ iX g8 pH Kb1 lC;by_cases fU:j<i
    ·simp[R6,fU,fy,show j<l.length by omega,zPo];cases he:l[i] == l[j] with
     |true=>rw[zNN fy fU (by simpa using he)]at hO;simpa using hO
     |false=>
      simp;rw[um (by omega) (by omega)];refine lC _ _ ⟨i-(j+1),by omega,Back.at (J:=[]) (H2:=H) (by simp) (af _) hs ?_ ⟨_,rfl,j+1,by omega,rfl,by simp,?_,rfl⟩⟩
      ·simp[Ly,AV.sc,AV.ZJ,AV.ZH,AV.ZI]
      ·intro b hb nh;by_cases hbj:b=j
       ·subst hbj;simpa using he
       ·exact ta b (by omega) nh
    ·obtain rfl:j=i:=by omega
     simp[R6];rw[um (by omega) (by omega)];refine fB _ _ ⟨l.length-(j+1),by omega,Back.at (J:=[]) (H2:=H) (by simp) (af _) hs ?_ ⟨_,rfl,j+1,by omega,rfl,by simp,?_,rfl⟩⟩
     ·simp[Lx,AV.sc,AV.ZJ,AV.ZH,AV.ZI]
     ·intro a b ha hb h';by_cases haj:a=j
      ·subst haj;exact ta b hb (by omega)
      ·exact fI a b (by omega) hb h'
  ·obtain rfl:i=l.length:=by omega
   have:xE l=false:=by simp only[xE,Bool.not_eq_false',bc];refine cX.mpr λa b ha hb gc he=>?_;exact fI b a hb gc hb he.symm
   rw[this]at hO;simp[R7];exact hO
section
variable (t0 t1 t2 t3 t4 t5 t8 t14 t15 t27 t28 t29 t76 t77 t78:AV) (H:or) (K:Kt) (Kb5 Kb6 Kb13:Lt)
def BJ:Nat→List Bool|5=>rl false [0,1,2,2,9,2,89]|13=>rl false [0,1,2,3,8,2,60,3,26]|_=>[]
noncomputable def zv6:=bd Tryz.f159
def Lz:=t0::ux 2 (t3::t4::ux 9 (t14::t15::ux 89 []))
def zFV:=BJ 5
noncomputable def R8:=uc [1,1,1,0,1,0,0] zv6
def zFS:=ud tP BJ [1,1,1,0,1,0] zv6 (uq tP Tryz.f159.results.toList K)
def zFU:=tM tP R8 (zFS K) (Lz t0 t3 t4 t14 t15) H
def LA:=t0::ux 2 (t3::t4::t5::ux 8 (t14::t15::ux 60 (t76::t77::t78::ux 26 [])))
def zUN:=BJ 13
noncomputable def zUK:=uc [1,1,0,0,1,1,1,1,1,0,0] R8
def zUJ:=ud tP BJ [1,1,0,0,1,1,1,1,1,0] R8 (vz zFV Kb5 (zFS K))
def zFT:=tM tP zUK (zUJ K Kb5) (LA t0 t3 t4 t5 t14 t15 t76 t77 t78) H
def R9:=gt .lss false t78 t77 λt79=>tO t79 (tW 2 t76 t78 λt81=>tL true 2 t81 H λt82=>un [(.str []),.ZG] H λt7 H=>ua 2 t7 t82 H λH=>tN 0 t7 λt83=>tL false 1 t83 H λt84=>ge tP 200 [t84] H λt85 H=>aUn .not t85 λt86=>agm t86 false H t4 λt88 H=>agu t86 false H (tN 0 t7) λt89 H=>agu t86 false H (tL false 1 t89 H) λt90 H=>agu t86 false H (zG (.bool false) false t88 t90 H) λt91 H=>tZ t86 (.bool true) t91 λt92=>agm t92 false H t0 λt94 H=>agm t92 false H t5 λt95 H=>agm t92 false H t78 λt96 H=>agc tP t92 false H 201 [t94,t95,t96] λt97 H=>agu t92 false H (aUn .not t97) λt98 H=>tZ t92 (.bool true) t98 λt99=>tO t99 (K (.bool false) H) (tN 0 t7 λt101=>tL false 1 t101 H λt102=>yC t4 t102 (.bool true) H λH=>gt .add false t78 I1 λt103=>Kb13 (LA t0 t3 t4 t5 t14 t15 t76 t77 t103) H)) (gt .add false t15 I1 λt104=>Kb5 (Lz t0 t3 t4 t14 t104) H)
def Sa:=gt .lss false t15 t14 λt16=>tO t16 (tW 3 t0 t15 λt20=>tN 0 t20 λt21=>tL false 1 t21 H λt22=>ge tP 200 [t22] H λt23 H=>aUn .not t23 λt24=>agm t24 false H t3 λt26 H=>agm t24 false H t0 λt27 H=>agm t24 false H t15 λt28 H=>agu t24 false H (tW 3 t27 t28) λt29 H=>agu t24 false H (tN 0 t29) λt30 H=>agu t24 false H (tL false 1 t30 H) λt31 H=>agu t24 false H (zG (.bool false) false t26 t31 H) λt32 H=>tZ t24 (.bool true) t32 λt33=>agm t33 false H t0 λt35 H=>agm t33 false H t15 λt36 H=>agu t33 false H (tW 3 t35 t36) λt37 H=>agu t33 false H (tN 1 t37) λt38 H=>agu t33 false H (tL false 1 t38 H) λt39 H=>agu t33 false H (gt .lss false t39 I0) λt40 H=>tZ t33 (.bool true) t40 λt41=>agm t41 false H t0 λt43 H=>agm t41 false H t15 λt44 H=>agu t41 false H (tW 3 t43 t44) λt45 H=>agu t41 false H (tN 1 t45) λt46 H=>agu t41 false H (tL false 1 t46 H) λt47 H=>agu t41 false H (gt .gtr false t47 (I6 6)) λt48 H=>tZ t41 (.bool true) t48 λt49=>tO t49 (K (.bool false) H) (tW 3 t0 t15 λt53=>tN 0 t53 λt54=>tL false 1 t54 H λt55=>yC t3 t55 (.bool true) H λH=>tW 3 t0 t15 λt58=>tN 2 t58 λt59=>tL false 1 t59 H λt60=>tV 1 t60 λt61=>gt .lss false t61 I1 λt62=>agm t62 false H t0 λt64 H=>agm t62 false H t15 λt65 H=>agu t62 false H (tW 3 t64 t65) λt66 H=>agu t62 false H (tN 2 t66) λt67 H=>agu t62 false H (tL false 1 t67 H) λt68 H=>agu t62 false H (tV 1 t68) λt69 H=>agu t62 false H (gt .gtr false t69 (I6 8)) λt70 H=>tZ t62 (.bool true) t70 λt71=>tO t71 (K (.bool false) H) (tW 3 t0 t15 λt74=>tN 2 t74 λt75=>tL false 1 t75 H λt76=>tV 1 t76 λt77=>zFT t0 t3 t4 t15 t14 t15 t76 t77 I0 H K Kb5))) (K (.bool true) H)
def Sb:=tV 1 t0 λt9=>gt .gtr false t9 (I6 12) λt10=>tO t10 (K (.bool false) H) (Aj H λt11 H=>Aj H λt12 H=>tV 1 t0 λt14=>zFU t0 t11 t12 t14 I0 H K)
def LB:Nat→List Bool|6=>rl false [0,2,6,1,18,3,29]|_=>[]
noncomputable def zwU:=bd Tryz.f201
def Fq:=t0::t1::ux 6 (t8::ux 18 (t27::t28::t29::ux 29 []))
def zXE:=LB 6
noncomputable def zXC:=uc [1,1,1,1,0,1,0,0] zwU
def zXB:=ud tP LB [1,1,1,1,0,1,0] zwU (uq tP Tryz.f201.results.toList K)
def zG6:=tM tP zXC (zXB K) (Fq t0 t1 t8 t27 t28 t29) H
def Sc:=gt .lss false t29 t28 λt30=>tO t30 (tW 3 t27 t29 λt32=>tL true 3 t32 H λt33=>un [I0,I0,.ZG] H λt10 H=>ua 3 t10 t33 H λH=>apm H t0 λt34=>apm H t1 λt35=>apu H (gt .add false t35 I1) λt36=>apu H (uF 1 3 t34 none (some t36)) λt37=>apu H (tY true 3 t10 H) λt38=>apm H t0 λt39=>apm H t1 λt40=>apu H (tW 3 t39 t40) λt41=>apu H (tN 1 t41) λt42=>apu H (tY false 1 t42 H) λt43=>apc tP H 123 [t37,t38,t43] λt44=>apu H (aUn .not t44) λt45=>apm H t45 λt46=>agu t46 false H (ub H (λK''=>K'' t8 H)) λt47 H=>agu t46 false H (ub H (λK''=>K'' t29 H)) λt48 H=>ui t46 false H (λK'=>ub H (λK''=>tW 1 t47 t48 (K'' · H)) (K' · H)) λt49 H=>ui t46 false H (λK'=>ub H (λK''=>tY false 1 t49 H (K'' · H)) (K' · H)) λt50 H=>ui t46 false H (λK'=>ub H (λK''=>aUn .not t50 (K'' · H)) (K' · H)) λt51 H=>agu t46 false H (ub H (λK''=>K'' t51 H)) λt52 H=>ui t52 true H (λK'=>ub H (λK''=>tY true 3 t10 H (K'' · H)) (K' · H)) λt53 H=>agu t52 true H (ub H (λK''=>K'' t1 H)) λt54 H=>agu t52 true H (xZ H (λH K''=>ge tP 228 [t53,t54] H K'')) λt55 H=>ui t46 false H (λK'=>ub H (λK''=>tZ t52 t55 (.bool false) (K'' · H)) (K' · H)) λt56 H=>apu H (tZ t46 (.bool true) t56) λt57=>tO t57 (K (.bool false) H) (gt .add false t29 I1 λt58=>Kb6 (Fq t0 t1 t8 t27 t28 t58) H)) (K (.bool true) H)
def zG5:=tW 3 t0 t1 λt13=>tN 2 t13 λt14=>tL false 1 t14 H λt15=>tW 2 t15 t2 λt17=>tN 1 t17 λt18=>tL false 1 t18 H λt19=>tV 1 t19 λt21=>gt .gtr false t21 (I6 6) λt22=>tO t22 (K (.bool false) H) (ge tP 168 [t0,t1,t2] H λt26 H=>tV 1 t19 λt28=>zG6 t0 t1 t26 t19 t28 I0 H K)
variable {t0 t1 t2 t3 t4 t5 t8 t14 t15 t27 t28 t29 t76 t77 t78} {H} {K} {Kb5 Kb6 Kb13}
def zUL:Lo1 (λt78=>LA t0 t3 t4 t5 t14 t15 t76 t77 t78) (λt78 H Kb13=>R9 t0 t3 t4 t5 t14 t15 t76 t77 t78 H K Kb5 Kb13) t78 H (zFT t0 t3 t4 t5 t14 t15 t76 t77 t78 H K Kb5):=lq1 BJ zUN
def zUM:Lo1 (λt15=>Lz t0 t3 t4 t14 t15) (λt15 H Kb5=>Sa t0 t3 t4 t14 t15 H K Kb5) t15 H (zFU t0 t3 t4 t14 t15 H K):=lq1 BJ zFV
def zUO(h:HSc H→Sb t0 H K):ge tP 159 [t0] H K:=
 acb BJ Tryz.func159 h
def zXD:Lo1 (λt29=>Fq t0 t1 t8 t27 t28 t29) (λt29 H Kb6=>Sc t0 t1 t8 t27 t28 t29 H K Kb6) t29 H (zG6 t0 t1 t8 t27 t28 t29 H K):=lq1 LB zXE
def zXF(h:HSc H→zG5 t0 t1 t2 H K):ge tP 201 [t0,t1,t2] H K:=
 acb LB Tryz.func201 h
end
def zw(eq:List Dat)(d:Nat)(vars:Int)(t:VT):Bool:=uW (eq.take (d+1)) vars t && (wM d vars t || !xQ d t)
def zXH(eq:List Dat)(d:Nat)(c:Nat)(hd:d<eq.length)(hc:c<(eq[d]).cons.length)(hl:eq.length≤1000000)(gN:(eq[d]).cons.length≤1000000)(ly:((eq[d]).cons[c]).args.length≤1000000)(hb:∀ x∈((eq[d]).cons[c]).args,x.ZO≤1000000)(H:or)(K:AV→or→Prop)(hK:K (.bool (decide (((eq[d]).cons[c]).args.length≤6) && ((eq[d]).cons[c]).args.all (zw eq d (eq[d]).vars))) H):
  ge tP 201 [.sl (eq.map Dat.cs) .none,I6 d,I6 c] H K:=by
 refine ge.out (zXF λhs=>?_);have e1:(eq.map Dat.cs)[d]?=some (eq[d]).cs:=by simp[hd]
 have e2:((eq[d]).cons.map Con.cs)[c]?=some ((eq[d]).cons[c]).cs:=by simp[hc]
 have lF:=Ry eq d c hd hc hl gN ly hb;generalize hD:eq[d]=D at *;generalize hA:D.cons[c]=C at *;have hO:∀J,Out H.length K (.bool (decide (C.args.length≤6) && C.args.all (zw eq d D.vars))) (H++J):=λJ=>Out.bool rfl (af _) hs hK;simp[zG5,e1,e2,Dat.cs,Con.cs,hd,hD,hc,hA];by_cases h6:C.args.length≤6
 ·have jN:¬ (6:Int)<C.args.length:=by omega
  have pL:¬ 6<C.args.length:=by omega
  simp[jN,pL];refine lF _ _ ?_;simp[h6]at hO;refine zXD (Inv:=λq t29 H'=>∃i:Nat,i≤C.args.length∧q=C.args.length-i∧t29=I6 i∧(C.args.drop i).all (zw eq d D.vars)=C.args.all (zw eq d D.vars)∧H=H') C.args.length ?_ ?_
  ·intro _;exact⟨0,by omega,by omega,rfl,by simp,rfl⟩
  ·rintro q t29 H' ⟨i,hi,rfl,rfl,ho,rfl⟩ hsc fz fM Kb fB;by_cases fy:i<C.args.length
   ·rw[ai fy,List.all_cons]at ho;have mU:=hb _ (ae fy);obtain⟨x1,x2,x3,fD,gG,gf,gL⟩:=ve C.args[i];simp[Sc,fy,fD,e1,hd,hD,Dat.cs];refine⟨⟨gG,gf,gL⟩,?_⟩;rw[um (by omega) (by omega),show ((d:Int)+1).toNat=d+1 by omega,←bT];refine⟨by omega,by omega,?_⟩;rw[←fD];refine ur (.bool (uW (eq.take (d+1)) D.vars C.args[i])) (λJ=>zFc (eq.take (d+1)) D.vars _ (by omega) _ _ ⟨rfl,rfl⟩) ?_;have hao:zw eq d D.vars C.args[i]=(uW (eq.take (d+1)) D.vars C.args[i] && (wM d D.vars C.args[i] || !xQ d C.args[i])):=rfl;rw[hao]at ho;cases hv:uW (eq.take (d+1)) D.vars C.args[i] with
    |false=>rw[hv]at ho;simp only[bm]at ho;rw[←ho]at hO;simp;exact hO _
    |true=>
    rw[hv]at ho;cases sd:wM d D.vars C.args[i] with
    |true=>rw[sd]at ho;simp[fy,sd];rw[um (by omega) (by omega)];refine fB _ _ ⟨C.args.length-(i+1),by omega,Back.same (by simp) hs ?_ ⟨_,rfl,i+1,by omega,rfl,by simp,by simpa using ho,rfl⟩⟩;simp[Fq,AV.sc,AV.ZJ,AV.ZH,AV.ZI]
    |false=>
     rw[sd]at ho;simp[fy,sd];refine ur (.bool (xQ d C.args[i])) (λJ=>zY1 d _ _ (af _) (by omega) _ _ ⟨rfl,rfl⟩) ?_;cases hm:xQ d C.args[i] with
     |true=>rw[hm]at ho;simp only[fd,dm,bR,bm]at ho;rw[←ho]at hO;simp;exact hO _
     |false=>rw[hm]at ho;simp;rw[um (by omega) (by omega)];refine fB _ _ ⟨C.args.length-(i+1),by omega,Back.same (by simp) hs ?_ ⟨_,rfl,i+1,by omega,rfl,by simp,by simpa using ho,rfl⟩⟩;simp[Fq,AV.sc,AV.ZJ,AV.ZH,AV.ZI]
   ·obtain rfl:i=C.args.length:=by omega
    rw[aV,List.all_nil]at ho;rw[←ho]at hO;simp[Sc];simpa using hO []
 ·have jN:(6:Int)<C.args.length:=by omega
  have pL:6<C.args.length:=by omega
  simp[jN,pL];simp[h6]at hO;simpa using hO []
def wO(l:List (List UInt8)):List (List UInt8×AV):=l.map λs=>(s,.bool true)
theorem BK(s:List UInt8):∀ l:List (List UInt8),(wo (wO l) s).getD (.bool false)=.bool (decide (s∈l))
 |[]=>by simp[wO,wo]
 |a::l=>by
  have:=BK s l;cases h:a == s with
  |true=>
   have h':a=s:=by simpa using h
   simp[wO,wo,h,h']
  |false=>
   have h':a≠s:=by simpa using h
   have h'':s≠a:=λe=>h' e.symm;simp only[wO,aL,wo,h]at this ⊢;rw[this];simp[h'']
theorem Sd(s:List UInt8):∀ l:List (List UInt8),s ∉ l→xx (wO l) s (.bool true)=wO (l++[s])
 |[],_=>rfl
 |a::l,h=>by
  have h1:(a == s)=false:=by simp at h;simpa usingλe=>h.1 e.symm
  have:=Sd s l (by simp at h;exact h.2);simp only[wO,aL,xx,h1,List.cons_append]at this ⊢;rw[this]
def zOb(m:Nat)(l:List (List UInt8)):(AB.map (wO l)).sc m=true:=by simp[AB.sc,wO,AV.ZJ]
def vY(eq:List Dat):List (List UInt8):=eq.map Dat.name
def uU(eq:List Dat):List (List UInt8):=eq.flatMap λD=>D.cons.map Con.name
def yP(eq:List Dat)(d:Nat)(vars:Int)(c:Con):Bool:=ye c.name && (decide (c.args.length≤6) && c.args.all (zw eq d vars))
def xR(eq:List Dat)(d:Nat)(D:Dat):Bool:=ye D.name && decide (0≤D.vars) && decide (D.vars≤6) && decide (1≤D.cons.length) && decide (D.cons.length≤8) && D.cons.all (yP eq d D.vars)
def yf(eq:List Dat):List Dat→Nat→Bool
 |[],_=>true
 |D::l,d=>xR eq d D && yf eq l (d+1)
def vM(eq:List Dat):Bool:=decide (eq.length≤12) && yf eq eq 0 && !xE (vY eq) && !xE (uU eq)
def zCZ{A R:List (List UInt8)}{s:List UInt8}(h:s∈A):xE (A++s::R)=true:=by simp only[xE,dq,bZ,List.nodup_append];rintro⟨_,_,h3⟩;exact h3 s h s (by simp) rfl
def Se{l:List (List UInt8)}(h:l.Nodup):xE l=false:=by simp[xE,h]
def zCb{A:List (List UInt8)}{s:List UInt8}(h:A.Nodup)(hs:s ∉ A):(A++[s]).Nodup:=by rw[List.nodup_append];refine⟨h,by simp,?_⟩;intro a ha b hb;simp at hb;subst hb;exactλe=>hs (e ▸ ha)
def LC(eq:List Dat):Prop:=∀D∈eq,D.cons.length≤1000000∧∀c∈D.cons,c.args.length≤1000000∧∀x∈c.args,x.ZO≤1000000
def zUQ(eq:List Dat)(hB:LC eq)(hl:eq.length≤1000000)(H:or)(K:AV→or→Prop)(hK:K (.bool (vM eq)) H):ge tP 159 [.sl (eq.map Dat.cs) .none] H K:=by
 refine ge.out (zUO λhs=>?_);have hO:∀J,Out H.length K (.bool (vM eq)) (H++J):=λJ=>Out.bool rfl (af _) hs hK;by_cases tb:eq.length≤12
 ·have lG:¬ (12:Int)<eq.length:=by omega
  have np:¬ 12<eq.length:=by omega
  have o5:yf eq eq 0=false→∀J,Out H.length K (.bool false) (H++J):=λh J=>by have:=hO J;rwa [show vM eq=false by simp[vM,h]]at this
  have hD1:xE (vY eq)=true→∀J,Out H.length K (.bool false) (H++J):=λh J=>by have:=hO J;rwa [show vM eq=false by simp[vM,h]]at this
  have hD2:xE (uU eq)=true→∀J,Out H.length K (.bool false) (H++J):=λh J=>by have:=hO J;rwa [show vM eq=false by simp[vM,h]]at this
  simp[Sb,lG,np];refine zUM (Inv:=λq t15 H'=>∃i:Nat,i≤eq.length∧q=eq.length-i∧t15=I6 i∧yf eq (eq.drop i) i=yf eq eq 0∧(vY (eq.take i)).Nodup∧(uU (eq.take i)).Nodup∧H'=H++[.map (wO (vY (eq.take i))),.map (wO (uU (eq.take i)))]) eq.length ?_ ?_
  ·intro _;exact⟨0,by omega,by omega,rfl,by simp,by simp[vY],by simp[uU],by simp[vY,uU,wO]⟩
  ·rintro q t15 H' ⟨i,hi,rfl,rfl,ho,tc,iC,rfl⟩ hsc fz fM Kb fB;by_cases fy:i<eq.length
   ·have e1:(eq.map Dat.cs)[i]?=some (eq[i]).cs:=by simp[fy]
    obtain⟨se,rg⟩:=hB _ (ae fy);have gp:=λc hc=>zXH eq i c fy hc hl se (rg _ (ae hc)).1 (rg _ (ae hc)).2;rw[ai fy,yf]at ho;have gj:eq.take (i+1)=eq.take i++[eq[i]]:=by rw[dH fy]
    have gh:eq=eq.take i++eq[i]::eq.drop (i+1):=by rw[eS,aJ]
    generalize hD:eq[i]=D at *;have gA:xR eq i D=false→yf eq eq 0=false:=λh=>by rw[←ho,h,bm]
    have iH:∀J,xR eq i D=false→Out H.length K (.bool false) (H++[.map (wO (vY (eq.take i))),.map (wO (uU (eq.take i)))]++J):=λJ h=>by rw[aB];exact o5 (gA h) _
    simp[Sa,fy,e1,hD,Dat.cs];refine zG4 _ _ _ ?_;cases hu:ye D.name with
    |false=>simp;exact o5 (gA (by simp[xR,hu])) _
    |true=>
    by_cases gu:D.name∈vY (eq.take i)
    ·simp[fy,e1,hD,Dat.cs,BK,gu];refine hD1 ?_ _;rw[gh];simp only[vY,a6,aL];exact zCZ gu
    by_cases jW:D.vars<0
    ·simp[fy,e1,hD,Dat.cs,BK,gu,jW];exact o5 (gA (by simp[xR,show ¬ 0≤D.vars by omega])) _
    by_cases pM:6<D.vars
    ·simp[fy,e1,hD,Dat.cs,BK,gu,jW,pM];exact o5 (gA (by simp[xR,show ¬D.vars≤6 by omega])) _
    simp[fy,e1,hD,Dat.cs,BK,gu,jW,pM,Sd _ _ gu];by_cases gM:D.cons.length<1
    ·have ik:(D.cons.length:Int)<1:=by omega
     simp[ik];exact o5 (gA (by simp[xR,show ¬ 1≤D.cons.length by omega])) _
    have ik:¬(D.cons.length:Int)<1:=by omega
    by_cases td:8<D.cons.length
    ·have lH:(8:Int)<D.cons.length:=by omega
     simp[fy,e1,hD,Dat.cs,ik,lH,td];exact o5 (gA (by simp[xR,show ¬D.cons.length≤8 by omega])) _
    have lH:¬(8:Int)<D.cons.length:=by omega
    have hdat:xR eq i D=D.cons.all (yP eq i D.vars):=by simp[xR,hu,show 0≤D.vars by omega,show D.vars≤6 by omega,show 1≤D.cons.length by omega,show D.cons.length≤8 by omega]
    simp[fy,e1,hD,Dat.cs,ik,lH,td];have hdn':(vY (eq.take (i+1))).Nodup:=by rw[gj];simp only[vY,a6,aL,bI];exact zCb tc gu
    have hde:vY (eq.take i)++[D.name]=vY (eq.take (i+1)):=by rw[gj];simp[vY]
    rw[hde];refine zUL (Inv:=λq t78 H'=>∃j:Nat,j≤D.cons.length∧q=D.cons.length-j∧t78=I6 j∧(D.cons.drop j).all (yP eq i D.vars)=D.cons.all (yP eq i D.vars)∧(uU (eq.take i)++(D.cons.take j).map Con.name).Nodup∧H'=H++[.map (wO (vY (eq.take (i+1)))),.map (wO (uU (eq.take i)++(D.cons.take j).map Con.name))]) D.cons.length ?_ ?_
    ·intro _;exact⟨0,by omega,by omega,rfl,by simp,by simpa using iC,by simp⟩
    ·rintro q t78 H' ⟨j,hj,rfl,rfl,nP,qz,rfl⟩ iX g8 pH Kb1 lC;have hscH:∀ A B,HSc (H++[.map (wO A),.map (wO B)]):=λA B=>hs.append (by simp[zOb]);by_cases fU:j<D.cons.length
     ·have e2:(D.cons.map Con.cs)[j]?=some (D.cons[j]).cs:=by simp[fU]
      have hargs':=gp j fU;rw[ai fU,List.all_cons]at nP;have htj:uU (eq.take i)++(D.cons.take (j+1)).map Con.name=(uU (eq.take i)++(D.cons.take j).map Con.name)++[(D.cons[j]).name]:=by rw[←dH fU,a6,aB];rfl
      have f5:uU eq=(uU (eq.take i)++(D.cons.take j).map Con.name)++(D.cons[j]).name::((D.cons.drop (j+1)).map Con.name++uU (eq.drop (i+1))):=by
       have h1:D.cons.map Con.name=(D.cons.take j).map Con.name++(D.cons[j]).name::(D.cons.drop (j+1)).map Con.name:=by rw[←aL (f:=Con.name),eS,←a6,aJ]
       conv=>lhs;rw[gh]
       simp only[uU,bF,bj,aB,h1,List.cons_append]
      generalize hC:D.cons[j]=C at *;have hbad':yP eq i D.vars C=false→yf eq eq 0=false:=λh=>gA (by rw[hdat,←nP,h,bm]);generalize hA:uU (eq.take i)++(D.cons.take j).map Con.name=A at *;simp only[R9];simp[fU,hC,Con.cs,aa];refine zG4 _ _ _ ?_;cases te:ye C.name with
      |false=>simp;exact o5 (hbad' (by simp[yP,te])) _
      |true=>
      by_cases nV:C.name∈A
      ·simp[BK,nV];exact hD2 (by rw[f5];exact zCZ nV) _
      ·simp[BK,nV];refine hargs' _ _ ?_;have tf:yP eq i D.vars C=(decide (C.args.length≤6) && C.args.all (zw eq i D.vars)):=by simp[yP,te]
       rw[←tf];cases jy:yP eq i D.vars C with
       |false=>simp;exact o5 (hbad' jy) _
       |true=>
        rw[jy,bE]at nP;simp[Sd _ _ nV];rw[um (by omega) (by omega)];refine lC _ _ ⟨D.cons.length-(j+1),by omega,Back.at (J:=[.cells [.str C.name,.sl (VT.css C.args) .none]]) (H2:=H++[.map (wO (vY (eq.take (i+1)))),.map (wO (A++[C.name]))]) (by simp) (by simp) (hscH _ _) ?_ ⟨_,rfl,j+1,by omega,rfl,by simp,nP,?_,?_⟩⟩
        ·simp[LA,AV.sc,AV.ZJ,AV.ZH,AV.ZI]
        ·rw[htj];exact zCb qz nV
        ·rw[htj]
     ·obtain rfl:j=D.cons.length:=by omega
      rw[aV,List.all_nil]at nP;rw[az]at *;simp[R9];rw[um (by omega) (by omega)];have tf:uU (eq.take i)++D.cons.map Con.name=uU (eq.take (i+1)):=by rw[gj];simp[uU]
      rw[tf]at qz ⊢;refine fB _ _ ⟨eq.length-(i+1),by omega,Back.at (J:=[]) (by simp) (by simp) (hscH _ _) ?_ ⟨_,rfl,i+1,by omega,rfl,by simp,?_,hdn',qz,rfl⟩⟩
      ·simp[Lz,AV.sc,AV.ZJ,AV.ZH,AV.ZI]
      ·rw[←ho,hdat,←nP,bE]
   ·obtain rfl:i=eq.length:=by omega
    rw[aV,yf]at ho;rw[az]at *;simp[Sa];have:=hO [.map (wO (vY eq)),.map (wO (uU eq))];rwa [show vM eq=true by simp[vM,tb,←ho,Se tc,Se iC]]at this
 ·have lG:(12:Int)<eq.length:=by omega
  have np:12<eq.length:=by omega
  rw[show vM eq=false by simp[vM,tb]]at hO;simp[Sb,lG,np];simpa using hO []
def zzu(c:Con):Prop:=c.name.length≤40∧c.args.length≤8∧∀t∈c.args,t.ZO≤20
def Sf(d:Dat):Prop:=d.name.length≤40∧d.cons.length≤10∧∀c∈d.cons,zzu c
def vj(ds:List Dat):Prop:=ds.length≤14∧∀d∈ds,Sf d
def Fr{α:Type}{l:List α}{i:Nat}(h:i<l.length){p:α→Prop}(h1:∀x∈l.take i,p x)(h2:p l[i]):∀x∈l.take (i+1),p x:=by
 rw[ag h];intro x hx;rcases bg.1 hx with hx|hx
 ·exact h1 x hx
 ·simp at hx;subst hx;exact h2
def zBN{α:Type}{cs:α→List AV}{l:List α}{i:Nat}(h:i<l.length):(l.map cs)[i]?.getD []=cs l[i]:=by simp[h]
def vt3(v:VT):∃a b c,v.cs=[a,b,c]∧a.ZP=true∧b.ZP=true∧c.ZP=true:=by obtain⟨k,n,ks⟩:=v;exact⟨_,_,_,rfl,rfl,rfl,rfl⟩
def yaB(ds:List Dat)(H:or)(K:AV→or→Prop)(fz:ds.length≤9223372036854775807)(hK:∀b,(b=true→vj ds)→K (.bool b) H):ge tP 37 [.sl (ds.map Dat.cs) .none] H K:=by
 refine ge.out (yaz λhs=>?_);have hF:∀J,Out H.length K (.bool false) (H++J):=λJ=>Out.bool rfl (af _) hs (hK false λh=>by cases h);have hF0:Out H.length K (.bool false) H:=by simpa using hF []
 by_cases h14:ds.length>14
 ·have:(14:Int)<ds.length:=by omega
  simp[Qu,this];exact hF0
 have:¬(14:Int)<ds.length:=by omega
 simp[Qu,this];refine yaw (Inv:=λq t15 H'=>∃i:Nat,i≤ds.length∧q=ds.length-i∧t15=I6 i∧(∀d∈ds.take i,Sf d)∧H=H') ds.length ?_ ?_
 ·intro _;exact⟨0,by omega,by omega,rfl,by simp,rfl⟩
 ·rintro q t15 H' ⟨i,hi,rfl,rfl,ha,rfl⟩ hsc hl fM Kb4 hKb4;by_cases gq:i<ds.length
  ·have ga:(ds.map Dat.cs)[i]?.getD []=[.str ds[i].name,I6 ds[i].vars,.sl (ds[i].cons.map Con.cs) .none]:=zBN gq;have next:Sf ds[i]→∀ J,Kb4 (Fb (.sl (ds.map Dat.cs) .none) (I6 ds.length) (I6 (i+1))) (H++J):=by intro hd J;refine hKb4 _ _ ⟨ds.length-(i+1),by omega,Back.same (af _) hs ?_ ⟨_,rfl,i+1,by omega,rfl,by simp,Fr gq ha hd,rfl⟩⟩;simp[Fb,AV.sc,AV.ZJ,AV.ZH,AV.ZI]
   generalize jA:ds[i]=d at *;simp[Qt,gq,ga,AV.ZP,jA,Dat.cs];by_cases hn:d.name.length>40
   ·have:(40:Int)<d.name.length:=by omega
    simp[this];exact hF _
   have iO:¬(40:Int)<d.name.length:=by omega
   by_cases hc:d.cons.length>10
   ·have:(10:Int)<d.cons.length:=by omega
    simp[iO,this];exact hF _
   have qK:¬(10:Int)<d.cons.length:=by omega
   simp[iO,qK];refine yax (Inv:=λq t32 H'=>∃j:Nat,j≤d.cons.length∧q=d.cons.length-j∧t32=I6 j∧(∀c∈d.cons.take j,zzu c)∧H'=H++[.cells [.str d.name,I6 d.vars,.sl (d.cons.map Con.cs) .none]]) d.cons.length ?_ ?_
   ·intro _;exact⟨0,by omega,by omega,rfl,by simp,rfl⟩
   ·rintro q t32 H' ⟨j,hj,rfl,rfl,hb,rfl⟩ hsc9 hl9 lI Kb9 nk;by_cases fU:j<d.cons.length
    ·have ga:(d.cons.map Con.cs)[j]?.getD []=[.str d.cons[j].name,.sl (VT.css d.cons[j].args) .none]:=zBN fU;generalize iD:d.cons[j]=c at *;simp[Qs,fU,ga,AV.ZP,iD,Con.cs];by_cases hn:c.name.length>40
     ·have:(40:Int)<c.name.length:=by omega
      simp[this];exact hF _
     have iO:¬(40:Int)<c.name.length:=by omega
     by_cases hc:c.args.length>8
     ·have:(8:Int)<c.args.length:=by omega
      simp[iO,this];exact hF _
     have qK:¬(8:Int)<c.args.length:=by omega
     simp[iO,qK];refine yav (Inv:=λq t49 H'=>∃(k:Nat) (l:Int),k≤c.args.length∧q=c.args.length-k∧t49=I6 k∧-1≤l∧l≤20∧(∀t∈c.args.take k,t.ZO≤20)∧H'=H++[.cells [.str d.name,I6 d.vars,.sl (d.cons.map Con.cs) .none],.cells [.str c.name,.sl (VT.css c.args) .none],.cells [I6 l]]) c.args.length ?_ ?_
     ·intro _;exact⟨0,20,by omega,by omega,rfl,by omega,by omega,by simp,rfl⟩
     ·rintro q t49 H' ⟨k,l,hk,rfl,rfl,jC,jY,pN,rfl⟩ hsc15 hl15 hsF15 Kb15 nq;by_cases jV:k<c.args.length
      ·obtain⟨x,y,z,hv,hx,hy,hz⟩:=vt3 c.args[k];simp[Qr,jV,hv,hx,hy,hz];rw[←hv];refine zI3 _ _ (af _) l (by omega) jC _ (H.length+2) (by simp) _ ?_ ?_
       ·intro fS;simp;rw[um (by omega) (by omega)];refine nq _ _ ⟨c.args.length-(k+1),by omega,Back.at (J:=[_]) (H2:=H++[.cells [.str d.name,I6 d.vars,.sl (d.cons.map Con.cs) .none],.cells [.str c.name,.sl (VT.css c.args) .none],.cells [I6 (l-c.args[k].ZO)]]) (by simp;rfl) (by simp) (hs.append rfl) ?_ ⟨_,rfl,k+1,l-c.args[k].ZO,by omega,rfl,by simp,by omega,by omega,Fr jV pN (by omega),rfl⟩⟩;simp[JS,AV.sc,AV.ZJ,AV.ZH,AV.ZI]
       ·intro fS l';simp;exact hF _
      ·obtain rfl:k=c.args.length:=by omega
       rw[az]at pN;simp[Qr];rw[um (by omega) (by omega)];refine nk _ _ ⟨d.cons.length-(j+1),by omega,Back.at (J:=[_,_]) (H2:=H++[.cells [.str d.name,I6 d.vars,.sl (d.cons.map Con.cs) .none]]) (by simp;exact⟨rfl,rfl⟩) (by simp) (hs.append rfl) ?_ ⟨_,rfl,j+1,by omega,rfl,by simp,Fr fU hb (by rw[iD];exact⟨by omega,by omega,pN⟩),rfl⟩⟩;simp[JR,AV.sc,AV.ZJ,AV.ZH,AV.ZI]
    ·obtain rfl:j=d.cons.length:=by omega
     rw[az]at hb;simp[Qs];rw[um (by omega) (by omega)];exact next ⟨by omega,by omega,hb⟩ _
  ·obtain rfl:i=ds.length:=by omega
   rw[az]at ha;simp[Qt];exact Out.bool (J:=[]) (by simp) (af _) hs (hK true λ_=>⟨by omega,ha⟩)
def zZ(eq:List Dat)(d:Nat)(vars:Int)(t:VT):Bool:=wM d vars t || uW (eq.take d) vars t
structure RCon (eq:List Dat) (d:Nat) (vars:Int) (c:Con):Prop where
 up:ye c.name=true
 len:c.args.length≤6
 args:∀x∈c.args,zZ eq d vars x=true
structure RDat (eq:List Dat) (d:Nat) (D:Dat):Prop where
 v0:0≤D.vars
 v6:D.vars≤6
 c1:1≤D.cons.length
 c8:D.cons.length≤8
 up:ye D.name=true
 cons:∀c∈D.cons,RCon eq d D.vars c
structure RData (eq:List Dat):Prop where
 len:eq.length≤12
 dats:∀d (h:d<eq.length),RDat eq d eq[d]
 names:(vY eq).Nodup
 cons:(uU eq).Nodup
def Sg{α:Type}{l:List α}{i:Nat}(h:i<l.length):l.take (i+1)=l.take i++[l[i]]:=by rw[dH h]
theorem zAB:∀ l:List Dat,(∀ D∈l,D.cons.length≤10)→(uU l).length≤l.length*10
 |[],_=>by simp[uU]
 |D::l,h=>by have h1:=zAB l (λD hD=>h D (by simp[hD]));have h2:=h D (by simp);rw[uU]at h1 ⊢;rw[bj,aH,cC,List.length_cons];omega
def zLJ{eq:List Dat}{d:Nat}(h:d<eq.length):vY (eq.take (d+1))=vY (eq.take d)++[(eq[d]).name]:=by rw[vY,Sg h,a6];rfl
def zLc{eq:List Dat}{d:Nat}(h:d<eq.length):uU (eq.take (d+1))=uU (eq.take d)++(eq[d]).cons.map Con.name:=by rw[uU,Sg h,bF];simp[uU]
def zDz(l:List (List UInt8))(s:List UInt8):strs (l++[s])=strs l++[[.str s]]:=by simp[strs]
def zAj{s:List UInt8}{k:AV→Prop}:uk 1 [.str []] 1 [(0,.str s)] k=k (.sl [[.str s]] .full):=propext bk
def zC0(l:List (List UInt8))(hl:l.length≤1000000){tok:Tok}(H:or)(K:AV→or→Prop)(hK:K (.bool (xE l)) H):ge tP 94 [.sl (strs l) tok] H K:=
 ge.wk (yfr l hl H K hK) ⟨.atom (.sl _ _),trivial⟩
def zLi{D:Dat}{i:Nat}(h:i<D.cons.length):(D.cons.map Con.cs)[i]?.getD []=[.str (D.cons[i]).name,.sl (VT.css (D.cons[i]).args) .none]:=by simp[h,Con.cs]
def ybN(eq:List Dat)(rL:vj eq)(H:or)(K:AV→or→Prop)(hK:∀b,(b=true↔RData eq)→K (.bool b) H):ge tP 48 [.sl (eq.map Dat.cs) .none] H K:=by
 refine ge.out (ybL λhs=>?_);obtain⟨kl,kd⟩:=rL;have hF:¬RData eq→∀J,Out H.length K (.bool false) (H++J):=λh J=>Out.bool rfl (af _) hs (hK _ (by simp[h]));have hT:∀b:Bool,(b=true↔RData eq)→∀J,Out H.length K (.bool b) (H++J):=λb h J=>Out.bool rfl (af _) hs (hK _ h);by_cases tb:eq.length>12
 ·have lG:(12:Int)<eq.length:=by omega
  simp[R0,lG];have:=hF (λh=>by have:=h.len;omega) [];simpa using this
 have lG:¬(12:Int)<eq.length:=by omega
 simp[R0,lG];unfold Ls;refine tM.own 3 9 1 rfl ?_;refine tM.own 4 9 1 rfl ?_;rw[aB];have iC:∀d,(uU (eq.take d)).length≤140:=λd=>by have:=zAB (eq.take d) (λD hD=>(kd D (bq hD)).2.1);rw[a7]at this;have:min d eq.length*10≤14*10:=aD _ (by omega);omega
 have jY:(H++[AB.perm 9 1 0]).length=H.length+1:=by simp
 rw[jY];show Ls (.sl (eq.map Dat.cs) .none) (.sl [] (.own H.length)) (.sl [] (.own (H.length+1))) I0 (H++[.perm 9 1 0,.perm 9 1 0]) (Out H.length K);have hsP:∀m n,HSc (H++[.perm 9 1 m,.perm 9 1 n]):=λm n=>hs.append rfl;refine ybJ (Inv:=λq t3 t4 t5 H'=>∃d:Nat,d≤eq.length∧q=eq.length-d∧t5=I6 d∧t3=.sl (strs (vY (eq.take d))) (.own H.length)∧t4=.sl (strs (uU (eq.take d))) (.own (H.length+1))∧(∀j (h:j<eq.length),j<d→RDat eq j eq[j])∧H'=H++[.perm 9 1 d,.perm 9 1 (uU (eq.take d)).length]) eq.length ?_ ?_
 ·intro _;exact⟨0,by omega,by omega,rfl,by simp[vY,strs],by simp[uU,strs],by omega,by simp[uU]⟩
 ·rintro q t3 t4 t5 H' ⟨d,hd,rfl,rfl,rfl,rfl,fH,rfl⟩ hsc fz fM Kb fB;by_cases fy:d<eq.length
  ·have gA:¬ RDat eq d eq[d]→∀ J,Out H.length K (.bool false) (H++J):=λh=>hF λhh=>h (hh.dats d fy);have rT:=iC d;have lM:=zLJ fy;have f5:=zLc fy;obtain⟨kn,kc,kcc⟩:=kd _ (ae fy);have lQ:(vY (eq.take d)).length=d:=by simp[vY];omega
   generalize hD:eq[d]=D at *;have gW:(eq.map Dat.cs)[d]?.getD []=[.str D.name,I6 D.vars,.sl (D.cons.map Con.cs) .none]:=by simp[fy,hD,Dat.cs]
   by_cases jW:D.vars<0
   ·simp[BG,fy,hD,Dat.cs,jW];exact gA (λh=>by have:=h.v0;omega) _
   by_cases pM:6<D.vars
   ·simp[BG,fy,hD,Dat.cs,jW,pM];exact gA (λh=>by have:=h.v6;omega) _
   by_cases gM:D.cons.length<1
   ·have ik:(D.cons.length:Int)<1:=by omega
    simp[BG,fy,hD,Dat.cs,jW,pM,ik];exact gA (λh=>by have:=h.c1;omega) _
   have ik:¬(D.cons.length:Int)<1:=by omega
   by_cases td:8<D.cons.length
   ·have lH:(8:Int)<D.cons.length:=by omega
    simp[BG,fy,hD,Dat.cs,jW,pM,ik,lH];exact gA (λh=>by have:=h.c8;omega) _
   have lH:¬(8:Int)<D.cons.length:=by omega
   simp[BG,fy,hD,Dat.cs,jW,pM,ik,lH];refine zJG _ _ _ ?_;cases qy:ye D.name with
   |false=>simp;exact gA (λh=>by have:=h.up;rw[qy]at this;cases this) _
   |true=>
   simp[zAj];simp[uj,uD,uy,lQ];refine⟨by omega,?_⟩;rw[←zDz,←lM];refine ybH (Inv:=λq t4 t7 H'=>∃k:Nat,k≤D.cons.length∧q=D.cons.length-k∧t7=I6 k∧t4=.sl (strs (uU (eq.take d)++(D.cons.map Con.name).take k)) (.own (H.length+1))∧(∀c∈D.cons.take k,RCon eq d D.vars c)∧H'=H++[.perm 9 1 (d+1),.perm 9 1 ((uU (eq.take d)).length+k),.cells [.str D.name,I6 D.vars,.sl (D.cons.map Con.cs) .none]]) D.cons.length ?_ ?_
   ·intro _;exact⟨0,by omega,by omega,rfl,by simp,by simp,by simp⟩
   ·rintro q t4 t7 H' ⟨k,hk,rfl,rfl,rfl,ot,rfl⟩ iX g8 pH Kb1 lC;have hlk:(uU (eq.take d)++(D.cons.map Con.name).take k).length=(uU (eq.take d)).length+k:=by simp;omega
    by_cases jV:k<D.cons.length
    ·have hkI:(k:Int)<D.cons.length:=by omega
     have hca:=zLi jV;have nr:¬RCon eq d D.vars D.cons[k]→∀J,Out H.length K (.bool false) (H++J):=λh=>gA λhh=>h (hh.cons _ (ae jV));have rN:uU (eq.take d)++(D.cons.map Con.name).take (k+1)=(uU (eq.take d)++(D.cons.map Con.name).take k)++[(D.cons[k]).name]:=by rw[Sg (by simpa using jV)];simp
     obtain⟨_,ka,kan⟩:=kcc _ (ae jV);generalize hC:D.cons[k]=C at *;simp[RZ,jV,hC,Con.cs];refine zJG _ _ _ ?_;cases hupc:ye C.name with
     |false=>simp;exact nr (λh=>by have:=h.up;rw[hupc]at this;cases this) _
     |true=>
     by_cases sf:6<C.args.length
     ·have pO:(6:Int)<C.args.length:=by omega
      simp[jV,hC,Con.cs,pO];exact nr (λh=>by have:=h.len;omega) _
     have pO:¬(6:Int)<C.args.length:=by omega
     simp[jV,hC,Con.cs,pO,zAj];generalize hA:uU (eq.take d)++(D.cons.map Con.name).take k=A at *;have kv:A.length=(uU (eq.take d)).length+k:=hlk;simp[uj,uD,uy,kv,jV,hC,Con.cs];refine⟨by omega,?_⟩;rw[←zDz,←rN];refine ybI (Inv:=λq t95 H'=>∃i:Nat,i≤C.args.length∧q=C.args.length-i∧t95=I6 i∧(∀x∈C.args.take i,zZ eq d D.vars x=true)∧H'=H++[.perm 9 1 (d+1),.perm 9 1 ((uU (eq.take d)).length+k+1),.cells [.str D.name,I6 D.vars,.sl (D.cons.map Con.cs) .none]]) C.args.length ?_ ?_
     ·intro _;exact⟨0,by omega,by omega,rfl,by simp,rfl⟩
     ·rintro q t95 H' ⟨i,hi,rfl,rfl,hok3,rfl⟩ gw jj mi Kb2 gv;by_cases gq:i<C.args.length
      ·have hxn:=kan _ (ae gq);have habad:zZ eq d D.vars C.args[i]=false→∀ J,Out H.length K (.bool false) (H++J):=λh=>nr λhh=>by have:=hh.args _ (ae gq);rw[h]at this;cases this
       obtain⟨x,y,z,fD,hx,hy,hz⟩:=vt3 C.args[i];have good:zZ eq d D.vars C.args[i]=true→Lw (.sl (eq.map Dat.cs) .none) (.sl (strs (vY (eq.take (d+1)))) (.own H.length)) (.sl (strs (uU (eq.take d)++(D.cons.map Con.name).take (k+1))) (.own (H.length+1))) (I6 d) (.ptr (H.length+2) 0) (I6 k) (.sl (VT.css C.args) .none) (I6 C.args.length) (I6 i) (H++[.perm 9 1 (d+1),.perm 9 1 ((uU (eq.take d)).length+k+1),.cells [.str D.name,I6 D.vars,.sl (D.cons.map Con.cs) .none],.cells [x,y,z]]) (Out H.length K) Kb Kb1 Kb2:=λhg=>by simp[Lw,zIq];rw[um (by omega) (by omega)];refine gv _ _ ⟨C.args.length-(i+1),by omega,Back.at (J:=[_]) (H2:=H++[.perm 9 1 (d+1),.perm 9 1 ((uU (eq.take d)).length+k+1),.cells [.str D.name,I6 D.vars,.sl (D.cons.map Con.cs) .none]]) (by simp;rfl) (by simp) gw ?_ ⟨_,rfl,i+1,by omega,rfl,by simp,Fr gq hok3 hg,rfl⟩⟩;simp[Lv,AV.sc,AV.ZJ,AV.ZH,AV.ZI]
       simp[RY,gq,fD,hx,hy,hz];rw[←fD];refine zzt _ _ _ (by omega) _ _ ?_;cases lZ:wM d D.vars C.args[i] with
       |true=>rw[fD];simp;exact good (by simp[zZ,lZ])
       |false=>
        simp[fD];refine⟨⟨by omega,λa _=>rfl⟩,?_⟩;rw[←bT,←fD];refine ur (.bool (uW (eq.take d) D.vars C.args[i])) (λJ=>zIw (eq.take d) (by simp;omega) _ _ (by omega) _ _ ⟨rfl,rfl⟩) ?_;cases sg:uW (eq.take d) D.vars C.args[i] with
        |false=>simp;exact habad (by simp[zZ,lZ,sg]) _
        |true=>rw[fD];simp;exact good (by simp[zZ,sg])
      ·obtain rfl:i=C.args.length:=by omega
       rw[az]at *;simp[RY];rw[um (by omega) (by omega)];refine lC _ _ ⟨D.cons.length-(k+1),by omega,Back.here (by simp) gw ?_ ⟨_,_,rfl,k+1,by omega,rfl,by simp,rfl,?_,by simp[aa]⟩⟩
       ·simp[Lu,AV.sc,AV.ZJ,AV.ZH,AV.ZI]
       ·exact Fr jV ot (by rw[hC];exact⟨hupc,by omega,hok3⟩)
    ·obtain rfl:k=D.cons.length:=by omega
     rw[az]at *;simp[RZ];rw[um (by omega) (by omega)];refine fB _ _ ⟨eq.length-(d+1),by omega,Back.at (J:=[_]) (H2:=H++[.perm 9 1 (d+1),.perm 9 1 (uU (eq.take (d+1))).length]) (by rw[f5];simp;rfl) (by simp) (hsP _ _) ?_ ⟨_,_,_,rfl,d+1,by omega,rfl,by simp,rfl,by rw[f5];exact congrArg (λl=>AV.sl (strs (uU (eq.take d)++l)) (.own (H.length+1))) (am (Nat.le_of_eq (cC _))),λj hj jt=>?_,rfl⟩⟩
     ·simp[Lr,AV.sc,AV.ZJ,AV.ZH,AV.ZI]
     ·by_cases hjd:j=d
      ·subst hjd;rw[hD];exact⟨by omega,by omega,by omega,by omega,qy,ot⟩
      ·exact fH j hj (by omega)
  ·obtain rfl:d=eq.length:=by omega
   rw[az]at *;have tc:(vY eq).length=eq.length:=by simp[vY]
   have hcn':=iC eq.length;rw[az]at hcn';simp[BG];refine zC0 _ (by omega) _ _ ?_;cases hr:xE (vY eq) with
   |true=>simp;refine hT _ ?_ _;simp;intro h;have:=Se h.names;rw[hr]at this;cases this
   |false=>simp;refine zC0 _ (by omega) _ _ ?_;refine hT _ ?_ _;simp only[xE,Bool.not_eq_false',bc,Bool.not_not]at hr ⊢;exact⟨λh=>⟨by omega,λj hj=>fH j hj hj,hr,h⟩,λh=>h.cons⟩
mutual
theorem zN2:∀ v w:VT,v.same w=true↔v=w
 |.mk k n ks,.mk k' n' ks'=>by have h:=zDe ks ks';simp only[VT.same,ap,bt,VT.mk.injEq,h,and_assoc]
theorem zDe:∀ v w:List VT,VT.ZL v w=true↔v=w
 |v::vs,w::ws=>by have h1:=zN2 v w;have h2:=zDe vs ws;simp only[VT.ZL,ap,dM,h1,h2]
 |[],[]=>by simp[VT.ZL]
 |[],_::_=>by simp[VT.ZL]
 |_::_,[]=>by simp[VT.ZL]
end
def LD{α:Type}(l:List α)(d n:Nat):(l.take d)[n]?=if n<d then l[n]? else none:=by
 by_cases h:n<d
 ·rw[aN h,dF h]
 ·rw[aG h,aW (by rw[a7];omega)]
def zOj{eq:List Dat}{d:Nat}{vars k n:Int}{len:Nat}(h:(k == 5 && n == (d:Int))=false):vE (eq.take (d+1)) vars k n len=vE (eq.take d) vars k n len:=by
 unfold vE;by_cases h5:k=5
 ·subst h5;have hn:n≠d:=by simpa using h
  simp only[LD];by_cases h0:0≤n
  ·have:(n.toNat<d+1)=(n.toNat<d):=by apply propext;omega
   simp[this]
  ·simp[h0]
 ·have:(k == 5)=false:=by simpa using h5
  simp[this]
mutual
theorem zEd(eq:List Dat)(d:Nat)(vars:Int):∀ t:VT,xQ d t=false→vg (eq.take (d+1)) vars t=vg (eq.take d) vars t
 |.mk k n ks=>by intro h;simp only[xQ,cd]at h;rw[vg,vg,zOj h.1,zEa eq d vars ks h.2]
theorem zEa(eq:List Dat)(d:Nat)(vars:Int):∀ l:List VT,AJ d l=false→vC (eq.take (d+1)) vars l=vC (eq.take d) vars l
 |[]=>λ_=>rfl
 |t::ts=>by intro h;simp only[AJ,cd]at h;rw[vC,vC,zEd eq d vars t h.1,zEa eq d vars ts h.2]
end
mutual
theorem zBS(eq:List Dat)(d:Nat)(vars:Int):∀ t:VT,vg (eq.take d) vars t=true→xQ d t=false
 |.mk k n ks=>by
  intro h;rw[vg,ap]at h;rw[xQ,zBR eq d vars ks h.2,dm];by_cases h5:k=5
  ·subst h5;have h1:=h.1;simp[vE,LD]at h1;obtain⟨h0,h2⟩:=h1;by_cases hn:n=d
   ·subst hn;simp at h2
   ·simpa using hn
  ·have:(k == 5)=false:=by simpa using h5
   simp[this]
theorem zBR(eq:List Dat)(d:Nat)(vars:Int):∀ l:List VT,vC (eq.take d) vars l=true→AJ d l=false
 |[]=>λ_=>rfl
 |t::ts=>by intro h;rw[vC,ap]at h;rw[AJ,zBS eq d vars t h.1,zBR eq d vars ts h.2];rfl
end
theorem zDg(eq:List Dat)(vars:Int):∀ (l:List VT) (i:Nat),xP l i=true→((i+l.length:Nat):Int)≤vars→vC eq vars l=true∧VT.ZA l=l.length
 |[],i,_,_=>⟨rfl,rfl⟩
 |.mk k n ks::l,i,h,hv=>by
  rw[xP,ap]at h;obtain⟨h1,h2⟩:=h;simp only[Fm,ap,bt]at h1;obtain⟨⟨rfl,rfl⟩,h3⟩:=h1;have hk:ks=[]:=aO h3;subst hk;obtain⟨h4,h5⟩:=zDg eq vars l (i+1) h2 (by simp at hv ⊢;omega);simp at hv;constructor
  ·simp[vC,vg,vE,h4];omega
  ·simp[VT.ZA,VT.ZO,h5];omega
def zz8(eq:List Dat)(d:Nat)(hd:d<eq.length)(h0:0≤(eq[d]).vars)(h6:(eq[d]).vars≤6)(t:VT):zw eq d (eq[d]).vars t=zZ eq d (eq[d]).vars t:=by
 unfold zw zZ;cases hs:wM d (eq[d]).vars t with
 |true=>
  obtain⟨k,n,ks⟩:=t;simp only[wM,ap,bt]at hs;obtain⟨⟨⟨rfl,rfl⟩,hl⟩,hs⟩:=hs;obtain⟨h1,h2⟩:=zDg (eq.take (d+1)) (eq[d]).vars ks 0 hs (by simp;omega);have sg:uW (eq.take (d+1)) (eq[d]).vars (.mk 5 d ks)=true:=by simp[uW,vg,h1,VT.ZO,h2,vE,LD,hd,hl];omega
  simp[sg]
 |false=>
  simp only[bJ];unfold uW;cases hm:xQ d t with
  |false=>rw[zEd eq d _ t hm];simp
  |true=>
   have:vg (eq.take d) (eq[d]).vars t=false:=by
    cases h:vg (eq.take d) (eq[d]).vars t with
    |false=>rfl
    |true=>rw[zBS eq d _ t h]at hm;cases hm
   simp[this]
theorem Sh(eq:List Dat):∀ (l:List Dat) (d:Nat),yf eq l d=true↔∀ j (h:j<l.length),xR eq (d+j) l[j]=true
 |[],d=>by simp[yf]
 |D::l,d=>by
  rw[yf,ap,Sh eq l (d+1)];constructor
  ·rintro⟨h1,h2⟩ j hj;cases j with
   |zero=>exact h1
   |succ j=>have:=h2 j (by simpa using hj);rw[show d+(j+1)=d+1+j by omega];simpa using this
  ·intro h;refine⟨h 0 (by simp),λj hj=>?_⟩;have:=h (j+1) (by simpa using hj);rw[show d+(j+1)=d+1+j by omega]at this;simpa using this
def zLv(eq:List Dat):vM eq=true↔RData eq:=by
 unfold vM;simp only[ap,bc,Sh,xE,Bool.not_not,aX];constructor
 ·rintro⟨⟨⟨h1,h2⟩,h3⟩,h4⟩;refine⟨h1,λd hd=>?_,h3,h4⟩;have:=h2 d hd;simp only[xR,ap,bc,aA]at this;obtain⟨⟨⟨⟨⟨q1,q2⟩,q3⟩,q4⟩,q5⟩,q6⟩:=this;refine⟨q2,q3,q4,q5,q1,λc hc=>?_⟩;have:=q6 c hc;simp only[yP,ap,bc,aA]at this;exact⟨this.1,this.2.1,λx hx=>by rw[←zz8 eq d hd q2 q3 x];exact this.2.2 x hx⟩
 ·rintro⟨h1,h2,h3,h4⟩;refine⟨⟨⟨h1,λd hd=>?_⟩,h3⟩,h4⟩;obtain⟨q2,q3,q4,q5,q1,q6⟩:=h2 d hd;simp only[xR,ap,bc,aA];refine⟨⟨⟨⟨⟨q1,q2⟩,q3⟩,q4⟩,q5⟩,λc hc=>?_⟩;obtain⟨r1,r2,r3⟩:=q6 c hc;simp only[yP,ap,bc,aA];exact⟨r1,r2,λx hx=>by rw[zz8 eq d hd q2 q3 x];exact r3 x hx⟩
end Go.Proofs.YtdmamdnkcefmmaaGreatDoor

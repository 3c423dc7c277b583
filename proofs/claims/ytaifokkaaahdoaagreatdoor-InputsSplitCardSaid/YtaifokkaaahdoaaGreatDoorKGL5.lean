import Derived.Test.YtaifokkaaahdoaaGreatDoorLE2
import Derived.Test.YtaifokkaaahdoaaGreatDoorKNum
import Derived.Test.YtaifokkaaahdoaaGreatDoorProg
import Derived.KernelRfl
import Derived.Test.YtaifokkaaahdoaaGreatDoorLC4
import Derived.Test.YtaifokkaaahdoaaGreatDoorKY11
set_option linter.unusedSectionVars false
set_option linter.unusedSimpArgs false
set_option linter.unusedVariables false
set_option maxRecDepth 8000
namespace Go.Proofs.YtaifokkaaahdoaaGreatDoor
open Go Go.Abs
def IdxOk(T:List VT)(ts:List VT)(is:List Nat):Prop:=is.map (λi=>T[i]?)=ts.map some
def ConOk(T:List VT):List (Int × List VT)→List (Int × List Nat)→Prop
 |[],[]=>True
 |w::ws,c::cs=>(w.1=c.1∧IdxOk T w.2 c.2)∧ConOk T ws cs
 |_,_=>False
theorem IdxOk.len{T ts:List VT}{is:List Nat}(h:IdxOk T ts is):is.length=ts.length:=by have:=congrArg List.length h;simpa using this
theorem IdxOk.mono{T T':List VT}(hT:T <+: T'):∀ {ts:List VT} {is:List Nat},IdxOk T ts is→IdxOk T' ts is
 |[],[],_=>rfl
 |[],i::is,h=>by simp[IdxOk]at h
 |t::ts,[],h=>by simp[IdxOk]at h
 |t::ts,i::is,h=>by simp only[IdxOk,List.map_cons,List.cons.injEq]at h ⊢;refine⟨?_,IdxOk.mono hT h.2⟩;obtain⟨E,rfl⟩:=hT;rw[List.getElem?_append_left (List.getElem?_eq_some_iff.1 h.1).1];exact h.1
theorem ConOk.mono{T T':List VT}(hT:T <+: T'):∀ {ws:List (Int × List VT)} {cs:List (Int × List Nat)},ConOk T ws cs→ConOk T' ws cs
 |[],[],_=>trivial
 |[],_::_,h=>h.elim
 |_::_,[],h=>h.elim
 |w::ws,c::cs,h=>⟨⟨h.1.1,h.1.2.mono hT⟩,ConOk.mono hT h.2⟩
theorem ConOk.snoc{T:List VT}{w:Int × List VT}{c:Int × List Nat}(h1:w.1=c.1)(h2:IdxOk T w.2 c.2):∀ {ws:List (Int × List VT)} {cs:List (Int × List Nat)},ConOk T ws cs→ConOk T (ws++[w]) (cs++[c])
 |[],[],_=>⟨⟨h1,h2⟩,trivial⟩
 |[],_::_,h=>h.elim
 |_::_,[],h=>h.elim
 |_::ws,_::cs,h=>⟨h.1,ConOk.snoc h1 h2 h.2⟩
structure Inv (data:List Dat) (kk:Nat) (X:List VT) (ex:Nat→Prop) (S:SS):Prop where
 ml:S.made.length=S.types.length
 cl:S.cons.length=S.types.length
 nd:S.types.Nodup
 vd:∀t∈S.types,zaD data 0 t=true
 sub:∀t∈S.types,t∈X
 con:∀(i:Nat) (t:VT),¬ex i→S.types[i]?=some t→S.made[i]?=some true→∀c,S.cons[i]?=some c→ConOk S.types (zaS data t) c
 cn:∀e∈S.cnt,∃(i m:Nat) (t:VT),e.1=((i:Int),(m:Int))∧S.types[i]?=some t∧e.2.getD 0=cV data kk t m
theorem zve:∀ {l X:List VT},l.Nodup→(∀ x∈l,x∈X)→l.length≤X.length
 |[],X,_,_=>by simp
 |a::l,X,hn,hs=>by
  have ha:=hs a (by simp);obtain⟨s,t,rfl⟩:=List.append_of_mem ha;have h2:=zve (l:=l) (X:=s++t) (List.nodup_cons.1 hn).2 λx hx=>by
   have:=hs x (by simp[hx]);simp at this;rcases this with h|rfl|h
   ·simp[h]
   ·exact absurd hx (List.nodup_cons.1 hn).1
   ·simp[h]
  simp at h2 ⊢;omega
theorem Inv.len{data:List Dat}{kk:Nat}{X:List VT}{ex:Nat→Prop}{S:SS}(h:Inv data kk X ex S):S.types.length≤X.length:=zve h.nd h.sub
section
variable {data:List Dat} (hD:zaE data=true) {kk:Nat} {X:List VT} {ex:Nat→Prop} {S:SS}
include hD
theorem zFJ(h:Inv data kk X ex S){t:VT}(ht:zaD data 0 t=true){i:Nat}(hi:zcx data S t=some i):S.types[i]?=some t:=by unfold zcx at hi;obtain⟨h1,h2,_⟩:=List.findIdx?_eq_some_iff_getElem.1 hi;rw[List.getElem?_eq_getElem h1];have:S.types[i]=t:=zFF hD (zdz (h.vd _ (List.getElem_mem h1))) (zdz ht) (by simpa using h2);rw[this]
theorem zFI(h:Inv data kk X ex S){t:VT}(hi:zcx data S t=none):t ∉ S.types:=by intro hm;unfold zcx at hi;rw[List.findIdx?_eq_none_iff]at hi;have:=hi t hm;simp at this
theorem znR(t:VT):S.types <+: (idS data S t).types:=by
 unfold idS;split
 ·exact List.prefix_rfl
 ·exact List.prefix_append _ _
theorem ziZ(h:Inv data kk X ex S){t:VT}(ht:zaD data 0 t=true):(idS data S t).types[idN data S t]?=some t:=by
 unfold idS idN;cases hi:zcx data S t with
 |some i=>simpa using zFJ hD h ht hi
 |none=>simp[zb8]
theorem zi0(h:Inv data kk X ex S){t:VT}(ht:zaD data 0 t=true)(hX:t∈X):Inv data kk X ex (idS data S t):=by
 unfold idS;cases hi:zcx data S t with
 |some i=>simpa using h
 |none=>
  have hn:=zFI hD h hi;simp only[Option.isSome_none,Bool.false_eq_true,if_false];refine⟨by simp[zb8,h.ml],by simp[zb8,h.cl],?_,?_,?_,?_,?_⟩
  ·simp only[zb8];rw[List.nodup_append];refine⟨h.nd,by simp,?_⟩;intro a ha b hb;simp at hb;subst hb;exactλe=>hn (e ▸ ha)
  ·intro u hu;simp[zb8]at hu;rcases hu with hu | rfl
   ·exact h.vd u hu
   ·exact ht
  ·intro u hu;simp[zb8]at hu;rcases hu with hu | rfl
   ·exact h.sub u hu
   ·exact hX
  ·intro i u hne hu hm c hc;simp only[zb8]at hu hm hc ⊢;have hlt:i<S.made.length:=by
    by_cases hlt:i<S.made.length
    ·exact hlt
    ·rw[List.getElem?_append_right (by omega)]at hm;cases e:i-S.made.length with
     |zero=>rw[e]at hm;simp at hm
     |succ j=>rw[e]at hm;simp at hm
   rw[List.getElem?_append_left hlt]at hm;rw[List.getElem?_append_left (by rw[←h.ml];exact hlt)]at hu;rw[List.getElem?_append_left (by rw[h.cl,←h.ml];exact hlt)]at hc;exact(h.con i u hne hu hm c hc).mono (List.prefix_append _ _)
  ·intro e he;obtain⟨i,m,u,h1,h2,h3⟩:=h.cn e he;refine⟨i,m,u,h1,?_,h3⟩;simp only[zb8];rw[List.getElem?_append_left (List.getElem?_eq_some_iff.1 h2).1];exact h2
end
def zaK(data:List Dat):SS→List VT→List Nat × SS
 |S,[]=>([],S)
 |S,t::ts=>(idN data S t::(zaK data (idS data S t) ts).1,(zaK data (idS data S t) ts).2)
theorem zta(data:List Dat)(t:VT):∀ (ts:List VT) (S:SS),zaK data S (ts++[t])=((zaK data S ts).1++[idN data (zaK data S ts).2 t],idS data (zaK data S ts).2 t)
 |[],S=>rfl
 |u::ts,S=>by rw[List.cons_append,zaK,zaK,zta data t ts];rfl
theorem ziC{data:List Dat}{S:SS}{ts:List VT}{j:Nat}(h:j<ts.length):zaK data S (ts.take (j+1))=((zaK data S (ts.take j)).1++[idN data (zaK data S (ts.take j)).2 ts[j]],idS data (zaK data S (ts.take j)).2 ts[j]):=by rw[List.take_succ_eq_append_getElem h,zta]
theorem zng(data:List Dat):∀ (ts:List VT) (S:SS),(zaK data S ts).1.length=ts.length
 |[],_=>rfl
 |t::ts,S=>by rw[zaK,List.length_cons,List.length_cons,zng data ts]
theorem zgV{data:List Dat}(hD:zaE data=true){kk:Nat}{X:List VT}{ex:Nat→Prop}:∀ (ts:List VT) (S:SS),Inv data kk X ex S→(∀ t∈ts,zaD data 0 t=true∧t∈X)→Inv data kk X ex (zaK data S ts).2∧S.types <+: (zaK data S ts).2.types∧IdxOk (zaK data S ts).2.types ts (zaK data S ts).1
 |[],S,h,_=>⟨h,List.prefix_rfl,rfl⟩
 |t::ts,S,h,hv=>by have ht:=hv t (by simp);obtain⟨h1,h2,h3⟩:=zgV hD ts (idS data S t) (zi0 hD h ht.1 ht.2) λu hu=>hv u (by simp[hu]);have e:=znR hD (S:=S) t;refine⟨h1,e.trans h2,?_⟩;simp only[zaK,IdxOk,List.map_cons,List.cons.injEq];refine⟨?_,h3⟩;have hg:=ziZ hD h ht.1;obtain⟨E,hE⟩:=h2;rw[←hE,List.getElem?_append_left (List.getElem?_eq_some_iff.1 hg).1];exact hg
def zaZ(l:List Nat):List (List AV):=l.map λi:Nat=>[AV.int .i64 i]
@[simp] theorem zum(l:List Nat):(zaZ l).length=l.length:=by simp[zaZ]
theorem wr{n:Nat}(h:n≤1000000000000):IntKind.i64.wrap ((n:Int)+1)=((n+1:Nat):Int):=by rw[zaB (by omega) (by omega)];rfl
theorem ShS.nodr{data:List Dat}{kk:Int}{I:SI}{S S':SS}{H:zaa}(hS:ShS data kk I S H)(h0:H[0]?=some .nodr):(shS data kk I S' H)[0]?=some .nodr:=by
 rw[zcg,h0];have hn:zaY data kk I S 0=none:=by
  cases hb:zaY data kk I S 0 with
  |none=>rfl
  |some b=>
   have:=hS.at' 0 b hb;rw[h0]at this;cases this;unfold zaY at hb;split at hb
   ·cases hb
   ·split at hb
    ·cases hb
    ·split at hb
     ·cases hb
     ·split at hb
      ·cases hb
      ·split at hb
       ·cases hb
       ·split at hb
        ·cases hb
        ·cases hb
 have e:=zf9 (data:=data) (kk:=kk) (I:=I) (S:=S) (S':=S') 0;rw[hn]at e;cases hb2:zaY data kk I S' 0 with
 |none=>rfl
 |some b=>rw[hb2]at e;cases e
section
variable {data:List Dat} (hD:zaE data=true) {kk:Nat} {X:List VT} (hX:X.length≤1000000000000) {ex:Nat→Prop} {I:SI} {S:SS} {H:zaa}
include hD hX
theorem zv1(hS:ShS data kk I S H)(hI:Inv data kk X ex S)(h0:H[0]?=some .nodr)(ts:List VT)(htl:ts.length≤200)(hts:∀t∈ts,zaD data 0 t=true∧t∈X)(K:Kt)(hK:K (.sl (zaZ (zaK data S ts).1) .none) (shS data kk I (zaK data S ts).2 H)):ACalls tP zje [.ptr I.p 0,.sl (VT.css ts) .none] H K:=by
 refine ACalls.out (zGC λhs=>?_);have lp:=(List.getElem?_eq_some_iff.1 hS.hp).1;have hlt0:0<H.length:=(List.getElem?_eq_some_iff.1 h0).1;simp only[zw9,zdF,VT.css_len];refine ALoop.own 5 zcL 1 rfl ?_;show zpR _ (.sl (zaZ (zaK data S (ts.take 0)).1) (.own H.length)) _ _ _ (H++[.perm zcL 1 0]) _;have hok:=λj=>zgV hD (ts.take j) S hI λt ht=>hts t (List.mem_of_mem_take ht);have hSS:=λj=>hS.next (S':=(zaK data S (ts.take j)).2) (hok j).1.ml (hok j).1.cl;obtain⟨G,hG⟩:∃G:Nat→zaa,G=λj=>shS data kk I (zaK data S (ts.take j)).2 H++[.perm zcL 1 j]:=⟨_,rfl⟩;have hGl:∀j,(G j).length=H.length+1:=λj=>by rw[hG];simp
 have hGs:∀j,HSc (G j):=λj=>by rw[hG];exact(hS.scs hs).snoc rfl
 have hlk:=λj=>zng data (ts.take j) S;have h0G:∀j,(G j)[0]?=some .nodr:=λj=>by rw[hG];simp only;rw[List.getElem?_append_left (by simpa using hlt0)];exact hS.nodr h0
 refine zGA (Inv:=λq t5 t10 H'=>∃j:Nat,j≤ts.length∧ts.length-j=q∧t10=.int .i64 j∧t5=.sl (zaZ (zaK data S (ts.take j)).1) (.own H.length)∧H'=G j) ts.length ?_ ?_
 ·intro _;refine⟨0,by omega,rfl,rfl,rfl,?_⟩;rw[hG];simp only[List.take_zero,zaK];rw[hS.self]
 ·rintro q t5 t10 H' ⟨j,hj,rfl,rfl,rfl,rfl⟩ hsc' hlen hsF Kb hKb;by_cases hlt:j<ts.length
  ·obtain⟨x1,x2,x3,hvx,hxa,hxb,hxc⟩:=zaO ts[j];have hv:=hts ts[j] (List.getElem_mem hlt);simp[zpP,hlt,hvx,Nat.add_assoc];refine⟨⟨hxa,hxb,hxc⟩,?_⟩;rw[←hvx];have hAp:ShS data kk I (zaK data S (ts.take j)).2 (G j++[.cells (ts[j]).cs]):=by rw[hG];exact ((hSS j).app).app
   refine zhS hD hAp (by rw[List.getElem?_append_left (by rw[hGl];omega)];exact h0G j) ts[j] hv.1 (Nat.le_trans (hok j).1.len hX) _ ?_;have hfin:shS data kk I (idS data (zaK data S (ts.take j)).2 ts[j]) (G j++[.cells (ts[j]).cs])=shS data kk I (zaK data S (ts.take (j+1))).2 H++[.perm zcL 1 j,.cells (ts[j]).cs]:=by rw[ziC hlt,hG];simp only;rw[List.append_assoc,(hSS j).shS_app,zcU];rfl
   rw[hfin];simp[zar,za3,plain,AV.pd];simp only[zay,zbb,za0];have hsl:(zaZ (zaK data S (ts.take j)).1).length=j:=by rw[zum,hlk,List.length_take];omega
   simp[List.set_append_right,hsl];refine⟨⟨by omega,by omega⟩,?_⟩;have hst:zaZ (zaK data S (ts.take j)).1++[[AV.int .i64 (idN data (zaK data S (ts.take j)).2 ts[j]:Nat)]]=zaZ (zaK data S (ts.take (j+1))).1:=by rw[ziC hlt];simp[zaZ]
   rw[hst,wr (by omega)];refine hKb _ _ ⟨ts.length-(j+1),by omega,Back.at (J:=[.cells (ts[j]).cs]) (H2:=G (j+1)) (by rw[hG];simp) (by rw[hGl];simp) (hGs _) (by rw[hGl];simp[zkv,ux,AV.sc,AV.scA,AV.scB,AV.scV];omega) ⟨_,_,rfl,j+1,by omega,rfl,rfl,rfl,rfl⟩⟩
  ·obtain rfl:j=ts.length:=by omega
   simp[zpP];rw[hG];simp only[List.take_length];exact Out.at rfl (by simp) (hS.scs hs) (.atom (.sl _ _)) rfl rfl hK
end
end Go.Proofs.YtaifokkaaahdoaaGreatDoor
namespace Go.Proofs.YtaifokkaaahdoaaGreatDoor
open Go Go.Abs
set_option maxRecDepth 100000
def zLJ:Nat→List Bool
 |200001=>rl false [0,1]
 |_=>[]
noncomputable def zLK:Code:=Tryz.f34.body.getD .skip
def zy6(t0 t1:AV)(H:zaa)(K:Kt):Prop:=
 zas t1 H λt3 H=>
 zab H (λK'=>K' t0 H) λt5=>
 zab H (λK'=>zam true 3 t3 H (K' · H)) λt6=>
 zbg .w false H (λK'=>ACalls tP zjF [t5,t6] H K') λt7 H=>
 zab H (λK'=>K' t7 H) λt8=>
 zad t8 true H (λK'=>zab H (λK''=>K'' t0 H) (K' · H)) λt9 H=>
 zad t8 true H (λK'=>zab H (λK''=>zam true 3 t3 H (K'' · H)) (K' · H)) λt10 H=>
 zad t8 true H (λK'=>zab H (λK''=>K'' t0 H) (K' · H)) λt11 H=>
 zad t8 true H (λK'=>zab H (λK''=>zah 1 t11 (K'' · H)) (K' · H)) λt12 H=>
 zad t8 true H (λK'=>zbg .w false H (λK''=>zba 1 [(.bool false)] t12 t12 H K'') K') λt13 H=>
 zad t8 true H (λK'=>zbg .w false H (λK''=>ACalls tP zgl [t9,t10,t13] H K'') K') λt14 H=>
 zab H (λK'=>zao t8 t14 (.bool false) (K' · H)) λt15=>
 zab H (λK'=>K' t15 H) λt4=>
 K t4 H
theorem zLL{t0 t1:AV}{H:zaa}{K:Kt}(h:HSc H→zy6 t0 t1 H K):ACalls tP zjA [t0,t1] H K:=
 zap (M:=zLJ) Tryz.func34 (c:=zLK) (by kernel_rfl) (λhs=>Eq.mpr (by kernel_rfl) (h hs))
def zfR:Nat→List Bool
 |6=>rl false [3,3,28,3,22]
 |9=>rl false [3,3,28,3,4,3,15]
 |_=>[]
noncomputable def zr0:Code:=Tryz.f71.body.getD .skip
noncomputable def zOp:List ResultVar:=Tryz.f71.results.toList
def zms(t3 t4 t5 t34 t35 t36:AV):List AV:=ux 3 (t3::t4::t5::ux 28 (t34::t35::t36::ux 22 []))
def zz5:List Bool:=zfR 6
noncomputable def zr1:Code:=zat [1,1,0,1,0,1,1,0,0] zr0
def zz2(K:Kt):AExit→List AV→zaa→Prop:=zau tP zfR [1,1,0,1,0,1,1,0] zr0 (zaz tP zOp K)
def zz3(t3 t4 t5 t34 t35 t36:AV)(H:zaa)(K:Kt):Prop:=ALoop tP zr1 (zz2 K) (zms t3 t4 t5 t34 t35 t36) H
def zmt(t3 t4 t5 t34 t35 t36 t41 t42 t43:AV):List AV:=ux 3 (t3::t4::t5::ux 28 (t34::t35::t36::ux 4 (t41::t42::t43::ux 15 [])))
def zOn:List Bool:=zfR 9
noncomputable def zOk:Code:=zat [1,1,0,0,1,1,0,0] zr1
def zOj(K:Kt)(Kb6:Lt):AExit→List AV→zaa→Prop:=zau tP zfR [1,1,0,0,1,1,0] zr1 (zb1 zz5 Kb6 (zz2 K))
def zz4(t3 t4 t5 t34 t35 t36 t41 t42 t43:AV)(H:zaa)(K:Kt)(Kb6:Lt):Prop:=ALoop tP zOk (zOj K Kb6) (zmt t3 t4 t5 t34 t35 t36 t41 t42 t43) H
def zrZ(t3 t4 t5 t34 t35 t36 t41 t42 t43:AV)(H:zaa)(K:Kt)(Kb6:Lt)(Kb9:Lt):Prop:=
 zac .lss false t43 t42 λt44=>
 zag t44
 (zai 3 t41 t43 λt45=>
 zae true 3 t45 H λt46=>
 zaw [(.int .i64 0),(.int .i64 0),.snil] H λt10 H=>
 zak 3 t10 t46 H λH=>
 zae false 1 t3 H λt47=>
 zae true 3 t10 H λt48=>
 zae false 1 t5 H λt49=>
 ACalls tP zgl [t47,t48,t49] H λt50 H=>
 aUn .not t50 λt51=>
 zag t51
 (K (.bool false) H)
 (zac .add false t43 (.int .i64 1) λt52=>
 Kb9 (zmt t3 t4 t5 t34 t35 t36 t41 t42 t52) H))
 (zac .add false t36 (.int .i64 1) λt53=>
 Kb6 (zms t3 t4 t5 t34 t35 t53) H)
def zmu(t3 t4 t5:AV)(H:zaa)(K:Kt):Prop:=
 zaf 2 t4 λt54=>
 zae false 1 t54 H λt55=>
 zbV zob [t3,t5] λt56=>
 ACalls tP zdR [t55,t56] H λt57 H=>
 aUn .not t57 λt58=>
 K t58 H
def zrY(t3 t4 t5 t34 t35 t36:AV)(H:zaa)(K:Kt)(Kb6:Lt):Prop:=
 zac .lss false t36 t35 λt37=>
 zag t37
 (zai 2 t34 t36 λt38=>
 zae true 2 t38 H λt39=>
 zaw [(.str []),.snil] H λt8 H=>
 zak 2 t8 t39 H λH=>
 zaf 1 t8 λt40=>
 zae false 1 t40 H λt41=>
 zah 1 t41 λt42=>
 zz4 t3 t4 t5 t34 t35 t36 t41 t42 (.int .i64 0) H K Kb6)
 (zmu t3 t4 t5 H K)
def zrX(t0 t1 t2:AV)(H:zaa)(K:Kt):Prop:=
 zas t0 H λt3 H=>
 zas t1 H λt4 H=>
 zas t2 H λt5 H=>
 zaf 0 t4 λt11=>
 zae false 1 t11 H λt12=>
 zac .eql false t12 (.int .i64 9) λt13=>
 zag t13
 (K (.bool false) H)
 (zaf 0 t4 λt14=>
 zae false 1 t14 H λt15=>
 zac .eql false t15 (.int .i64 5) λt16=>
 zad t16 true H (λK'=>zae false 1 t5 H (K' · H)) λt18 H=>
 zad t16 true H (λK'=>zaf 1 t4 (K' · H)) λt19 H=>
 zad t16 true H (λK'=>zae false 1 t19 H (K' · H)) λt20 H=>
 zad t16 true H (λK'=>zai 1 t18 t20 (K' · H)) λt21 H=>
 zad t16 true H (λK'=>zae false 1 t21 H (K' · H)) λt22 H=>
 zad t16 true H (λK'=>aUn .not t22 (K' · H)) λt23 H=>
 zao t16 t23 (.bool false) λt24=>
 zag t24
 (zae false 1 t5 H λt25=>
 zaf 1 t4 λt26=>
 zae false 1 t26 H λt27=>
 zai 1 t25 t27 λt28=>
 zak 1 t28 (.bool true) H λH=>
 zae false 1 t3 H λt29=>
 zaf 1 t4 λt30=>
 zae false 1 t30 H λt31=>
 zai 3 t29 t31 λt32=>
 zaf 2 t32 λt33=>
 zae false 1 t33 H λt34=>
 zah 1 t34 λt35=>
 zz3 t3 t4 t5 t34 t35 (.int .i64 0) H K)
 (zmu t3 t4 t5 H K))
theorem zOm{t3 t4 t5 t34 t35 t36 t41 t42 t43:AV}{H:zaa}{K:Kt}{Kb6:Lt}(Inv:Nat→AV→zaa→Prop)(n:Nat)(h0:HSc H→Inv n t43 H)(round:Rd1 (λt43=>zmt t3 t4 t5 t34 t35 t36 t41 t42 t43) (λt43=>λH Kb9=>zrZ t3 t4 t5 t34 t35 t36 t41 t42 t43 H K Kb6 Kb9) H Inv):zz4 t3 t4 t5 t34 t35 t36 t41 t42 t43 H K Kb6:=
 lp1 (M:=zfR) zOn t43 (by kernel_rfl) Inv n h0 round
theorem zOl{t3 t4 t5 t34 t35 t36:AV}{H:zaa}{K:Kt}(Inv:Nat→AV→zaa→Prop)(n:Nat)(h0:HSc H→Inv n t36 H)(round:Rd1 (λt36=>zms t3 t4 t5 t34 t35 t36) (λt36=>λH Kb6=>zrY t3 t4 t5 t34 t35 t36 H K Kb6) H Inv):zz3 t3 t4 t5 t34 t35 t36 H K:=
 lp1 (M:=zfR) zz5 t36 (by kernel_rfl) Inv n h0 round
theorem zOo{t0 t1 t2:AV}{H:zaa}{K:Kt}(h:HSc H→zrX t0 t1 t2 H K):ACalls tP zgl [t0,t1,t2] H K:=
 zap (M:=zfR) Tryz.func71 (c:=zr0) (by kernel_rfl) (λhs=>Eq.mpr (by kernel_rfl) (h hs))
def zGm(_:Nat):List Bool:=[]
noncomputable def zGn:Code:=Tryz.f106.body.getD .skip
def zw6(t0 t1 t2:AV)(H:zaa)(K:Kt):Prop:=
 zas t0 H λt3 H=>
 zae false 1 t1 H λt5=>
 zae true 3 t3 H λt6=>
 zae false 1 t2 H λt7=>
 ACalls tP zgl [t5,t6,t7] H λt8 H=>
 aUn .not t8 λt9=>
 K t9 H
theorem zGo{t0 t1 t2:AV}{H:zaa}{K:Kt}(h:HSc H→zw6 t0 t1 t2 H K):ACalls tP zob [t0,t1,t2] H K:=
 zap (M:=zGm) Tryz.func106 (c:=zGn) (by kernel_rfl) (λhs=>Eq.mpr (by kernel_rfl) (h hs))
end Go.Proofs.YtaifokkaaahdoaaGreatDoor
namespace Go.Proofs.YtaifokkaaahdoaaGreatDoor
open Go Go.Abs
theorem zB1:zc5 tP zob=true:=by kernel_rfl
theorem ziS{data:List Dat}(h:zaE data=true):data.length≤12:=by simp[zaE]at h;exact h.1.1.1
theorem zg1{data:List Dat}(hD:zaE data=true){i:Nat}(hi:i<data.length):(data[i]).cons.length≤8:=by
 have h1:zb5 data data 0=true:=by simp[zaE]at hD;exact hD.1.1.2
 have h2:=ziT data 0 i hi h1;simp only[zcl,Bool.and_eq_true,decide_eq_true_eq]at h2;exact h2.1.2
theorem zCB{data:List Dat}(hD:zaE data=true):∀ (f:Nat) (t:VT) (s:List Bool),TyIn data t→s.length=data.length→uns s*201+t.nodes≤f→∀ (H:zaa) (id:Nat),H[id]?=some (.cells (zaJ s))→∀ K:Kt,
  K (.bool (fo data f t s).1) (H.set id (.cells (zaJ (fo data f t s).2)))→ACalls tP zgl [.sl (data.map Dat.cs) .none,.agg t.cs,.ms id 0 data.length data.length] H K:=by
 intro f;induction f with
 |zero=>intro t s _ _ h;have:=t.nodes_pos;omega
 |succ f ih=>
  intro t s ht hsl hm H id hid K hK;obtain⟨k,n,ks⟩:=t;have hlt:=zfu hid;have hdl:=ziS hD;have hll:=VT.len_le ks;have hnn:(VT.mk k n ks).nodes=VT.nodesL ks+1:=by simp[VT.nodes]
  have hn200:=ht.1;refine ACalls.out (zOo λhs=>?_);obtain⟨J,hJ⟩:∃J:zaa,J=[.cells [.sl (data.map Dat.cs) .none],.cells [.int .i64 k,.int .i64 n,.sl (VT.css ks) .none],.cells [.ms id 0 data.length data.length]]:=⟨_,rfl⟩;obtain⟨G,hG⟩:∃G:List Bool→zaa,G=λs'=>H.set id (.cells (zaJ s'))++J:=⟨_,rfl⟩;have hGl:∀s',(G s').length=H.length+3:=λs'=>by rw[hG,hJ];simp
  have hG0:H++J=G s:=by
   rw[hG];have:H.set id (.cells (zaJ s))=H:=by
    apply List.ext_getElem?;intro j;by_cases hj:id=j
    ·subst hj;rw[List.getElem?_set_self hlt];exact hid.symm
    ·rw[List.getElem?_set_ne hj]
   simp only[this]
  have g0:∀s',(G s')[H.length]?=some (.cells [.sl (data.map Dat.cs) .none]):=λs'=>by rw[hG,hJ];simp[List.getElem?_append]
  have g1:∀s',(G s')[H.length+1]?=some (.cells [.int .i64 k,.int .i64 n,.sl (VT.css ks) .none]):=λs'=>by rw[hG,hJ];simp[List.getElem?_append]
  have g2:∀s',(G s')[H.length+2]?=some (.cells [.ms id 0 data.length data.length]):=λs'=>by rw[hG,hJ];simp[List.getElem?_append]
  have g0e:∀s' (h:H.length<(G s').length),(G s')[H.length]=.cells [.sl (data.map Dat.cs) .none]:=λs' h=>by have:=g0 s';rw[List.getElem?_eq_getElem h]at this;simpa using this
  have g2e:∀s' (h:H.length+1+1<(G s').length),(G s')[H.length+1+1]=.cells [.ms id 0 data.length data.length]:=λs' h=>by have:=g2 s';rw[List.getElem?_eq_getElem h]at this;simpa using this
  have wi:∀j:Nat,j≤1000000→IntKind.i64.wrap ((j:Int)+1)=((j+1:Nat):Int):=λj hj=>by rw[zaB (by omega) (by omega)];rfl
  have gi:∀s',(G s')[id]?=some (.cells (zaJ s')):=λs'=>by rw[hG];exact zck (zdx _ hid)
  have hset:∀s' s'' J',(G s'++J').set id (.cells (zaJ s''))=G s''++J':=λs' s'' J'=>by
   have hi1:id<(G s').length:=by rw[hGl];omega
   rw[List.set_append_left _ _ hi1,hG];simp only;rw[List.set_append_left _ _ (by simpa using hlt),List.set_set]
  have hGs:∀s',HSc (G s'):=λs'=>by rw[hG,hJ];refine(hs.set (by simp[AB.sc,ziI])).append (by simp[AB.sc,AV.scA,AV.scB];omega)
  have hout:∀J',Out H.length K (.bool (fo data (f+1) (.mk k n ks) s).1) (G (fo data (f+1) (.mk k n ks) s).2++J'):=λJ'=>by rw[hG,List.append_assoc];exact Out.bool rfl (by simp) (hs.set (by simp[AB.sc,ziI])) hK
  -- one type further
  have one:∀(x:VT),TyIn data x→∀s',s'.length=data.length→uns s'*201+x.nodes≤f→∀J' (K':Kt),K' (.bool (fo data f x s').1) (G (fo data f x s').2++J')→ACalls tP zgl [.sl (data.map Dat.cs) .none,.agg x.cs,.ms id 0 data.length data.length] (G s'++J') K':=λx hx s' hs' hm' J' K' hK'=>by refine ih x s' hx hs' hm' _ id (zck (gi s')) K' ?_;rw[hset];exact hK'
  have keep:=ztY data f;have args:∀ s1,s1.length=data.length→uns s1≤uns s→(fo data (f+1) (.mk k n ks) s)=foL (fo data f) ks s1 →
    zmu (.ptr H.length 0) (.ptr (H.length+1) 0) (.ptr (H.length+2) 0) (G s1) (Out H.length K):=by
   intro s1 hs1 hu1 hres;rw[hres]at hout;simp[zmu,g1 s1];refine⟨⟨rfl,rfl⟩,?_⟩;refine ziN ks (by omega) _ _ _ (by simp[AV.sc,AV.scV,AV.scA,AV.scB,hGl]) (λi H'=>∃s',s'.length=data.length∧uns s'≤uns s1∧foL (fo data f) (ks.drop i) s'=foL (fo data f) ks s1∧H'=G s') ⟨s1,hs1,Nat.le_refl _,by simp,rfl⟩ ?_ ?_
   ·rintro i hi H' hle ⟨s',hs',hu',hrem,rfl⟩;obtain⟨hx1,hx2⟩:=ht.kid _ (List.getElem_mem hi);obtain⟨x1,x2,x3,hvx,hxa,hxb,hxc⟩:=zaO ks[i];rw[List.drop_eq_getElem_cons hi,foL]at hrem;simp only[aCallV,zB1,List.singleton_append];refine ACalls.out (zGo λhs1=>?_);simp[zw6,hvx,zck (g0 s'),zck (g2 s')];rw[←hvx];obtain⟨k1,k2⟩:=keep ks[i] s';refine one ks[i] hx1 s' hs' (by have:=Nat.mul_le_mul_right 201 (Nat.le_trans hu' hu1);omega) _ _ ?_;cases hr:(fo data f ks[i] s').1 with
    |true=>rw[hr,if_pos rfl]at hrem;simp;exact Out.bool rfl (by simp[hGl]) (hGs _) (.inl ⟨rfl,_,by omega,by omega,hrem,rfl⟩)
    |false=>rw[hr,if_neg (by simp)]at hrem;simp;refine Out.bool rfl (by simp[hGl]) (hGs _) (.inr ⟨rfl,?_⟩);have:=hout [];rw[←hrem,List.append_nil]at this;simpa using this
   ·rintro H' ⟨s',hs',hu',hrem,rfl⟩;rw[List.drop_length,foL]at hrem;have:=hout [];rw[←hrem,List.append_nil]at this;simpa using this
  by_cases h9:k=9
  ·have hr:fo data (f+1) (.mk k n ks) s=(false,s):=by rw[fo,if_pos h9]
   rw[hr]at hout;simp[zrX,VT.cs,h9];rw[h9]at hJ;rw[←hJ,hG0];simpa using hout []
  have hr9:fo data (f+1) (.mk k n ks) s=if (foD (fo data f) data k n s).1=true then foL (fo data f) ks (foD (fo data f) data k n s).2 else (false,(foD (fo data f) data k n s).2):=by rw[fo,if_neg h9]
  have b9:(k == 9)=false:=by simpa using h9
  simp[zrX,VT.cs,b9];rw[←hJ,hG0];by_cases h5:k=5
  ·subst h5;obtain⟨n0,nl⟩:=ht.num;obtain⟨m,rfl⟩:∃ m:Nat,n=m:=⟨n.toNat,by omega⟩;rw[Int.toNat_natCast]at nl;have hcl:=zg1 hD nl;have hms:m<s.length:=by omega
   have hbm:(zaJ s)[m]?=some (.bool (s.getD m false)):=by simp[zaJ,List.getD_eq_getElem?_getD,hms]
   simp[g1 s,g2 s,gi s,nl,zcZ _ hbm];rw[znp hms];have hG1:(G s).set id (.cells (zaJ (s.set m true)))=G (s.set m true):=by have:=hset s (s.set m true) [];simpa using this
   rw[hG1];have hgd:s.getD m false=s[m]?.getD false:=List.getD_eq_getElem?_getD ..;cases hseen:s[m]?.getD false with
   |true=>
    simp;refine args s hsl (Nat.le_refl _) ?_;rw[hr9];have:foD (fo data f) data 5 m s=(true,s):=by unfold foD;rw[if_neg (by rw[Int.toNat_natCast,hgd,hseen];simp)]
    rw[this];simp
   |false=>
    have hu1:=zwP s m hms (by rw[hgd,hseen]);have hfd:foD (fo data f) data 5 m s=foC (fo data f) (zbG data m) (s.set m true):=by unfold foD;rw[if_pos (by rw[Int.toNat_natCast,hgd,hseen];simp),Int.toNat_natCast]
    rw[hfd]at hr9;have hca:zbG data m=(data[m]).cons:=by simp[zbG,List.getD_eq_getElem?_getD,nl]
    rw[hca]at hr9;obtain⟨S1,hS1⟩:∃S1,S1=s.set m true:=⟨_,rfl⟩;have hS1l:S1.length=data.length:=by rw[hS1];simpa using hsl
    rw[←hS1]at hr9 hu1 ⊢;have e1:(data.map Dat.cs)[m]?=some (data[m]).cs:=by simp[nl]
    have htyp:=ziM hD nl;generalize hDm:data[m]=D at *;simp[g0 S1,g1 S1,nl,e1,hDm,Dat.cs];refine⟨by omega,?_⟩;refine zOl (Inv:=λq t36 H'=>∃(i:Nat) (s':List Bool),i≤D.cons.length∧D.cons.length-i=q∧t36=.int .i64 i∧s'.length=data.length∧uns s'≤uns S1∧foC (fo data f) (D.cons.drop i) s'=foC (fo data f) D.cons S1∧H'=G s') D.cons.length ?_ ?_
    ·intro _;exact⟨0,S1,by omega,rfl,rfl,hS1l,Nat.le_refl _,by simp,rfl⟩
    ·rintro q t36 H' ⟨i,s',hi,rfl,rfl,hs',hu',hrem,rfl⟩ hsc6 hlen6 hsF6 Kb6 hKb6;by_cases hil:i<D.cons.length
     ·obtain⟨hal,hat⟩:=htyp _ (List.getElem_mem hil);rw[List.drop_eq_getElem_cons hil,foC]at hrem;generalize hCi:D.cons[i]=C at *;simp[zrY,hil,hCi,Con.cs,hGl];refine zOm (Inv:=λq t43 H'=>∃(j:Nat) (s2:List Bool),j≤C.args.length∧C.args.length-j=q∧t43=.int .i64 j∧s2.length=data.length∧uns s2≤uns s'∧foL (fo data f) (C.args.drop j) s2=foL (fo data f) C.args s'∧H'=G s2++[.cells [.str C.name,.sl (VT.css C.args) .none]]) C.args.length ?_ ?_
      ·intro _;exact⟨0,s',by omega,rfl,rfl,hs',Nat.le_refl _,by simp,rfl⟩
      ·rintro q t43 H' ⟨j,s2,hj,rfl,rfl,hs2,hu2,hrem2,rfl⟩ hsc9 hlen9 hsF9 Kb9 hKb9;by_cases hjl:j<C.args.length
       ·have hx:=hat _ (List.getElem_mem hjl);obtain⟨x1,x2,x3,hvx,hxa,hxb,hxc⟩:=zaO C.args[j];rw[List.drop_eq_getElem_cons hjl,foL]at hrem2;simp[zrZ,hjl,hvx,hGl,zck (g0 s2),zck (g2 s2),g0e,g2e];refine⟨⟨hxa,hxb,hxc⟩,?_⟩;rw[←hvx];obtain⟨k1,k2⟩:=keep C.args[j] s2;have hx2:=hx.1;refine one C.args[j] hx s2 hs2 (by have:=Nat.mul_le_mul_right 201 (Nat.le_trans hu2 hu');omega) _ _ ?_;cases hr:(fo data f C.args[j] s2).1 with
        |true=>rw[hr,if_pos rfl]at hrem2;simp;rw[wi j (by omega)];exact hKb9 _ _ ⟨C.args.length-(j+1),by omega,Back.at (J:=[.cells (C.args[j]).cs]) (H2:=G (fo data f C.args[j] s2).2++[.cells [.str C.name,.sl (VT.css C.args) .none]]) (by simp) (by simp[hGl]) ((hGs _).append (by simp[AB.sc,AV.scA,AV.scB])) (by simp[zmt,ux,AV.sc,AV.scA,AV.scB,AV.scV,hGl];omega) ⟨_,rfl,j+1,_,by omega,rfl,rfl,by omega,by omega,hrem2,rfl⟩⟩
        |false=>rw[hr,if_neg (by simp)]at hrem2;rw[←hrem2,if_neg (by simp)]at hrem;rw[←hrem,if_neg (by simp)]at hr9;simp;have:=hout [.cells [.str C.name,.sl (VT.css C.args) .none],.cells (C.args[j]).cs];rw[hr9]at this;simpa using this
       ·obtain rfl:j=C.args.length:=by omega
        rw[List.drop_length,foL]at hrem2;rw[←hrem2,if_pos rfl]at hrem;simp[zrZ];rw[wi i (by omega)];exact hKb6 _ _ ⟨D.cons.length-(i+1),by omega,Back.at (J:=[.cells [.str C.name,.sl (VT.css C.args) .none]]) (H2:=G s2) rfl (by simp[hGl]) (hGs _) (by simp[zms,ux,AV.sc,AV.scA,AV.scB,AV.scV,hGl]) ⟨_,rfl,i+1,s2,by omega,rfl,rfl,hs2,by omega,hrem,rfl⟩⟩
     ·obtain rfl:i=D.cons.length:=by omega
      rw[List.drop_length,foC]at hrem;rw[←hrem,if_pos rfl]at hr9;simp[zrY];exact args s' hs' (by omega) hr9
  ·have b5:(k == 5)=false:=by simpa using h5
   simp[b5,g1 s];refine args s hsl (Nat.le_refl _) ?_;rw[hr9];simp[foD,h5]
def zbW(data:List Dat)(t:VT):Bool:=zc6 data t && (fo data 3000 t (List.replicate data.length false)).1
theorem zcq{H:zaa}{p:(AV→zaa→Prop)→Prop}{k:AV→zaa→Prop}(r:AV)(H':zaa)(h:p λv H2=>v=r∧H2=H')(hk:k r H'):zbg .w false H p k:=⟨r,H',h,(λh=>by cases h),hk⟩
theorem znI{data:List Dat}{t:VT}(h:zc6 data t=true):zaE data=true∧zaD data 0 t=true:=by unfold zc6 at h;simpa using h
theorem zCA{data:List Dat}{t:VT}(h:zc6 data t=true):TyIn data t:=by have h2:=(znI h).2;have hn:=zfG h2;simp[zaD]at h2;exact⟨hn,0,h2.2⟩
theorem zy7{data:List Dat}(hF:zcY data)(hl:data.length≤1000000)(t:VT)(ht:za1 t)(H:zaa)(K:Kt)(hK:K (.bool (zbW data t)) H):
  ACalls tP zjA [.sl (data.map Dat.cs) .none,.agg t.cs] H K:=by
 refine ACalls.out (zLL λhs=>?_);obtain⟨x,y,z,hvx,hx,hy,hz⟩:=zaO t;simp[zy6,hvx];rw[←hvx];refine zcq (.bool (zc6 data t)) _ (zzS data hF hl t ht ⟨rfl,rfl⟩) ?_;have hO:∀b J,zbW data t=b→Out H.length K (.bool b) (H++J):=λb J h=>Out.bool rfl (Nat.le_refl _) hs (h ▸ hK);cases hf:zc6 data t with
 |false=>simp;exact hO _ _ (by simp[zbW,hf])
 |true=>
  have hD:=(znI hf).1;have hdl:=ziS hD;have hti:=zCA hf;simp[zba,ztk];refine zcq (.ms (H++[AB.cells t.cs]).length 0 data.length data.length) (H++[.cells t.cs,.cells (zaJ (List.replicate data.length false))]) ⟨⟨by omega,by omega⟩,by simp[zaJ]⟩ ?_;have hg:(H++[AB.cells t.cs,.cells (zaJ (List.replicate data.length false))])[(H++[AB.cells t.cs]).length]?=some (.cells (zaJ (List.replicate data.length false))):=by simp[List.getElem?_append]
  refine zcq _ _ (zCB hD 3000 t (List.replicate data.length false) hti (by simp) (by have h1:uns (List.replicate data.length false)≤data.length:=by { unfold uns;exact Nat.le_trans List.countP_le_length (by simp) };have:=hti.1;omega) _ _ hg _ ⟨rfl,rfl⟩) ?_;simp;have hr:=hO (fo data 3000 t (List.replicate data.length false)).1 [.cells t.cs,.cells (zaJ (fo data 3000 t (List.replicate data.length false)).2)] (by simp[zbW,hf]);simpa[List.set_append_right]using hr
def mkS(S:SS)(i:Nat):SS:=⟨S.types,S.made.set i true,S.cons,S.cnt⟩
def zdX(S:SS)(i:Nat)(l:List (Int×List Nat)):SS:=⟨S.types,S.made,S.cons.set i l,S.cnt⟩
def za7(data:List Dat):SS→List (Int × List VT)→List (Int × List Nat) × SS
 |S,[]=>([],S)
 |S,w::ws=>((w.1,(zaK data S w.2).1)::(za7 data (zaK data S w.2).2 ws).1,(za7 data (zaK data S w.2).2 ws).2)
theorem zwU(data:List Dat)(w:Int × List VT):∀ (ws:List (Int × List VT)) (S:SS),za7 data S (ws++[w])=((za7 data S ws).1++[(w.1,(zaK data (za7 data S ws).2 w.2).1)],(zaK data (za7 data S ws).2 w.2).2)
 |[],S=>rfl
 |u::ws,S=>by rw[List.cons_append,za7,za7,zwU data w ws];rfl
def zdg(data:List Dat)(S:SS)(i:Nat):List (Int×List Nat)×SS:=
 if S.made.getD i false=true then (S.cons.getD i [],S) else
  ((za7 data (mkS S i) (zaS data (S.types.getD i (.mk 0 0 [])))).1,zdX (za7 data (mkS S i) (zaS data (S.types.getD i (.mk 0 0 [])))).2 i (za7 data (mkS S i) (zaS data (S.types.getD i (.mk 0 0 [])))).1)
theorem zs9{data:List Dat}{i:Nat}:∀ (ts:List VT) (S:SS),S.made[i]?=some true→(zaK data S ts).2.made[i]?=some true
 |[],S,h=>h
 |t::ts,S,h=>by
  rw[zaK];refine zs9 ts _ ?_;unfold idS;split
  ·exact h
  ·simp only[zb8];rw[List.getElem?_append_left (List.getElem?_eq_some_iff.1 h).1];exact h
theorem zpE{data:List Dat}(hD:zaE data=true){kk:Nat}{X:List VT}{ex:Nat→Prop}:∀ (ws:List (Int × List VT)) (S:SS),Inv data kk X ex S→(∀ w∈ws,∀ t∈w.2,zaD data 0 t=true∧t∈X)→Inv data kk X ex (za7 data S ws).2∧S.types <+: (za7 data S ws).2.types∧ConOk (za7 data S ws).2.types ws (za7 data S ws).1∧∀ i:Nat,S.made[i]?=some true→(za7 data S ws).2.made[i]?=some true
 |[],S,h,_=>⟨h,List.prefix_rfl,trivial,λi h=>h⟩
 |w::ws,S,h,hv=>by obtain⟨h1,h2,h3⟩:=zgV hD w.2 S h (hv w (by simp));obtain⟨h4,h5,h6,h7⟩:=zpE hD ws (zaK data S w.2).2 h1 λu hu=>hv u (by simp[hu]);exact⟨h4,h2.trans h5,⟨⟨rfl,h3.mono h5⟩,h6⟩,λi hi=>h7 i (zs9 w.2 S hi)⟩
section
variable {data:List Dat} (hD:zaE data=true) {kk:Nat} {X:List VT} {S:SS} {i:Nat}
include hD
theorem zuW(h:Inv data kk X (λ_=>False) S)(i:Nat):Inv data kk X (λj=>j=i) (mkS S i):=
 ⟨by simp[mkS,h.ml],h.cl,h.nd,h.vd,h.sub,λj t hj ht hm c hc=>h.con j t id ht (by
  simp only[mkS]at hm;rwa [List.getElem?_set_ne (λe=>hj e.symm)]at hm) c hc,h.cn⟩
theorem zEn{T:SS}(h:Inv data kk X (λj=>j=i) T){t:VT}(ht:T.types[i]?=some t){l:List (Int×List Nat)}(hl:ConOk T.types (zaS data t) l):Inv data kk X (λ_=>False) (zdX T i l):=
 ⟨h.ml,by simp[zdX,h.cl],h.nd,h.vd,h.sub,λj u _ hu hm c hc=>by
  simp only[zdX]at hu hm hc ⊢;by_cases e:i=j
  ·subst e;rw[List.getElem?_set_self (by rw[h.cl];exact(List.getElem?_eq_some_iff.1 ht).1)]at hc;cases hc;rw[ht]at hu;cases hu;exact hl
  ·rw[List.getElem?_set_ne e]at hc;exact h.con j u (λk=>e k.symm) hu hm c hc,h.cn⟩
theorem zwW(h:Inv data kk X (λ_=>False) S){t:VT}(ht:S.types[i]?=some t)(hX:∀ w∈zaS data t,∀ x∈w.2,x∈X):
  Inv data kk X (λ_=>False) (zdg data S i).2∧S.types <+: (zdg data S i).2.types∧ConOk (zdg data S i).2.types (zaS data t) (zdg data S i).1:=by
 have hil:=(List.getElem?_eq_some_iff.1 ht).1;have ht':S.types.getD i (.mk 0 0 [])=t:=by rw[List.getD_eq_getElem?_getD,ht];rfl
 have hv:=h.vd t (List.mem_of_getElem? ht);unfold zdg;rw[ht'];split
 ·rename_i hm;refine⟨h,List.prefix_rfl,?_⟩;have hm2:S.made[i]?=some true:=by
   rw[List.getD_eq_getElem?_getD]at hm;cases e:S.made[i]? with
   |none=>rw[e]at hm;cases hm
   |some b=>rw[e]at hm;simp at hm;rw[hm]
  have hcl:i<S.cons.length:=by rw[h.cl];exact hil
  rw[List.getD_eq_getElem?_getD,List.getElem?_eq_getElem hcl];exact h.con i t id ht hm2 _ (List.getElem?_eq_getElem hcl)
 ·obtain⟨h1,h2,h3,h4⟩:=zpE hD (zaS data t) (mkS S i) (zuW hD h i) λw hw x hx=>⟨zkn hD hv hw x hx,hX w hw x hx⟩;refine⟨zEn hD h1 ?_ h3,h2,h3⟩;obtain⟨E,hE⟩:=h2;rw[←hE,List.getElem?_append_left (show i<(mkS S i).types.length from hil)];exact ht
end
theorem zs7:∀ (l:List AV),All2 WkA l l
 |[]=>trivial
 |a::l=>⟨.refl a,zs7 l⟩
theorem zs8{a b:AV}(h:WkA a b):∀ (l:List AV) (i:Nat),All2 WkA (l.set i a) (l.set i b)
 |[],_=>trivial
 |x::l,0=>⟨h,zs7 l⟩
 |x::l,i+1=>⟨.refl x,zs8 h l i⟩
theorem zwr{α:Type}(l:List α)(i:Nat)(a:α)(h:i<l.length):l.take i++[a]++l.drop (i+1)=l.set i a:=by rw[List.set_eq_take_append_cons_drop,if_pos h];simp
section
variable {data:List Dat} {kk:Int} {I:SI} {T:SS} {H J:zaa}
theorem zpG(hT:ShS data kk I T H)(hs:HSc H){i:Nat}(hi:i<T.types.length){l:AV}{cs:List (Int×List Nat)}(hl:WkA l (zca cs))(hlc:l.cs?=some [l])(hlk:l.known=true){n:Nat}(hn:n=H.length){K:Kt}(hK:K (zca cs) (shS data kk I (zdX T i cs) H)):zr9 (.ptr I.p 0) (.int .i64 i) l (H++J) (zeA n K):=by
 subst hn;have hp:=(hT.app (J:=J)).hp;have hic:=(hT.app (J:=J)).hic;have lic:=(List.getElem?_eq_some_iff.1 hT.hic).1;unfold zr9;have hcl:i<(T.cons.map zca).length:=by rw[List.length_map,hT.cl];exact hi
 simp[hp,hi];rw[←zs1];refine zwf (n:=1) (off:=i) (cs:=T.cons.map zca) (xs:=[l]) hlc hic rfl (by omega) (by simp[hlk]) ?_;rw[zwr _ _ _ hcl];rw[List.set_append_left _ _ lic];refine⟨zca cs,_,shS data kk I (zdX T i cs) H,J,rfl,by simp,?_,by simp,hT.scs hs,.one (.wk (.atom hl) rfl rfl),hK⟩;have hset:shS data kk I (zdX T i cs) H=H.set I.ic (.vec zeK 1 T.types.length ((T.cons.map zca).set i (zca cs))):=by
  symm
  refine hT.set_one (S':=zdX T i cs) (x:=I.ic) ?_ ?_
  ·simp[zaY,hT.ok.a4.symm,hT.ok.b3.symm,hT.ok.c2.symm,hT.ok.d1.symm,zdX,List.map_set]
  ·intro y hy;unfold zaY;simp only[zdX,if_neg hy]
 rw[hset];intro x a b ha hb;by_cases e:I.ic=x
 ·subst e;rw[List.getElem?_set_self lic]at ha hb;cases ha;cases hb;exact .vec (zs8 hl _ _)
 ·rw[List.getElem?_set_ne e]at ha hb;rw[ha]at hb;cases hb;exact .refl _
end
theorem ze8:∀ (ts:List VT) (i:Nat) (t:VT),ts[i]?=some t→((zbD ts).drop (i*3)).take 3=t.cs
 |[],i,t,h=>by simp at h
 |u::ts,0,t,h=>by simp at h;subst h;simp only[zbD,List.map_cons,List.flatten_cons,Nat.zero_mul,List.drop_zero];rw[List.take_left' (by simp)]
 |u::ts,i+1,t,h=>by have:=ze8 ts i t (by simpa using h);simp only[zbD,List.map_cons,List.flatten_cons]at this ⊢;rw[show (i+1)*3=u.cs.length+i*3 from by rw[VT.cs_len];omega,List.drop_append,List.drop_eq_nil_of_le (by omega),List.nil_append,show u.cs.length+i*3-u.cs.length=i*3 from by omega];exact this
theorem zCe(l:List (Int×List Nat))(c:Int)(is:List Nat):zbM (l++[(c,is)])=zbM l++[[.int .i64 c,.sl (zaZ is) .none]]:=by simp[zbM,zaZ]
section
variable {data:List Dat} (hD:zaE data=true) {kk:Nat} {X:List VT} (hX:X.length≤1000000000000) {I:SI} {S:SS} {H:zaa}
include hD hX
theorem zv3(hS:ShS data kk I S H)(hI:Inv data kk X (λ_=>False) S)(h0:H[0]?=some .nodr){i:Nat}{t:VT}(ht:S.types[i]?=some t)(htX:∀w∈zaS data t,∀x∈w.2,x∈X)(K:Kt)(hK:K (zca (zdg data S i).1) (shS data kk I (zdg data S i).2 H)):ACalls tP zhG [.ptr I.p 0,.int .i64 i] H K:=by
 refine ACalls.outH (zOK λhs=>?_);have hil:=(List.getElem?_eq_some_iff.1 ht).1;have hlt0:0<H.length:=(List.getElem?_eq_some_iff.1 h0).1;have lp:=(List.getElem?_eq_some_iff.1 hS.hp).1;have lia:=(List.getElem?_eq_some_iff.1 hS.hia).1;have htg:S.types.getD i (.mk 0 0 [])=t:=by rw[List.getD_eq_getElem?_getD,ht];rfl
 have hv:=hI.vd t (List.mem_of_getElem? ht);have hml:i<S.made.length:=by rw[hI.ml];exact hil
 have hcl:i<S.cons.length:=by rw[hI.cl];exact hil
 obtain⟨bm,hbm⟩:∃bm,S.made[i]?=some bm:=⟨_,List.getElem?_eq_getElem hml⟩;have hbg:(zaJ S.made)[i]?=some (.bool bm):=by simp[zaJ,hbm]
 simp[zAf,hS.hp,hS.hia,hS.hit,hil,zcZ _ hbg];unfold zdg at hK;rw[htg,List.getD_eq_getElem?_getD,hbm]at hK;cases bm with
 |true=>
  simp[List.getD_eq_getElem?_getD,List.getElem?_eq_getElem hcl]at hK;have hcg:(S.cons.map zca)[i]?=some (zca S.cons[i]):=by simp[hcl]
  simp[hS.hic,zcZ _ hcg];exact Out.toH (Out.at (J:=[]) (by simp) (Nat.le_refl _) hs .rfl' rfl rfl (by rw[hS.self]at hK;exact hK))
 |false=>
  simp only[Option.getD_some,Bool.false_eq_true,if_false]at hK;simp;refine⟨by omega,?_⟩;have hbs:(zaJ S.made).take i++AV.bool true::(zaJ S.made).drop (i+1)=zaJ (S.made.set i true):=by have:=zwr (zaJ S.made) i (AV.bool true) (by simpa[zaJ]using hml);simp at this;rw[this];simp[zaJ,List.map_set]
  have hset:H.set I.ia (.vec zeL 1 S.types.length (zaJ (S.made.set i true)))=shS data kk I (mkS S i) H:=by
   refine hS.set_one (S':=mkS S i) (x:=I.ia) ?_ ?_
   ·simp[zaY,hS.ok.a3.symm,hS.ok.b2.symm,hS.ok.c1.symm,mkS]
   ·intro y hy;unfold zaY;simp only[mkS,if_neg hy]
  rw[hbs,hset];have hM:=zuW hD hI i;have hMS:ShS data kk I (mkS S i) (shS data kk I (mkS S i) H):=hS.next hM.ml hM.cl;obtain⟨A,hA⟩:∃A,A=shS data kk I (mkS S i) H:=⟨_,rfl⟩;have hAl:A.length=H.length:=by rw[hA];simp
  have h0A:A[0]?=some .nodr:=by rw[hA];exact hS.nodr h0
  have hAs:HSc A:=by rw[hA];exact hS.scs hs
  rw[←hA]at hMS ⊢;have hshA:∀T,shS data kk I T A=shS data kk I T H:=λT=>by rw[hA,zcU]
  have htM:(mkS S i).types=S.types:=rfl;have hta:=ze8 S.types i t ht;have htl:=ze9 S.types;obtain⟨k,n,ks⟩:=t;have hkn:=VT.cs_known (.mk k n ks);obtain⟨A2,hA2⟩:∃A2,A2=A++[.cells (VT.cs (.mk k n ks))]:=⟨_,rfl⟩;have hset2:(A++[AB.cells [AV.int .i64 0,AV.int .i64 0,AV.snil]]).set H.length (.cells (VT.cs (.mk k n ks)))=A2:=by rw[hA2,←hAl];simp
  have hg2:A2[H.length]?=some (.cells (VT.cs (.mk k n ks))):=by rw[hA2,←hAl];simp
  have hA2s:HSc A2:=by rw[hA2];exact hAs.snoc (by simp[AB.sc])
  have h0A2:A2[0]?=some .nodr:=by rw[hA2,List.getElem?_append_left (by omega)];exact h0A
  have hMS2:ShS data kk I (mkS S i) A2:=by rw[hA2];exact hMS.app
  have hvk:=ze7 hv;have hnod:=zfG hv;have hll:=VT.len_le ks;have hA2l:A2.length=H.length+1:=by rw[hA2];simp[hAl]
  have tup:k=6∨k=8→zfT (.ptr I.p 0) (.int .i64 i) (.ptr H.length 0) .snil (.int .i64 k) (.bool true) A2 (zeA H.length K):=by
   intro h68;have hw:zaS data (.mk k n ks)=[(0,ks)]:=by rw[zaS,if_pos h68]
   rw[hw]at hK htX;unfold zfT;simp[hg2,VT.cs];have hts:∀t∈ks,zaD data 0 t=true∧t∈X:=λt ht=>⟨hvk t ht,htX (0,ks) (by simp) t ht⟩;have hok:=zgV hD ks (mkS S i) hM hts;refine zv1 hD hX hMS2 hM h0A2 ks (by simp[VT.nodes]at hnod;omega) hts _ ?_;simp[zaq,zaN,zar,za3,plain,AV.pd,zc8,AV.known];unfold zgN;rw[hA2,hMS.shS_app];have hfin:=hMS.next (S':=(zaK data (mkS S i) ks).2) hok.1.ml hok.1.cl;refine zpG hfin (hMS.scs hAs) (i:=i) (cs:=[(0,(zaK data (mkS S i) ks).1)]) ?_ (.sl _ _) rfl rfl (by simp[hAl]) ?_
   ·exact Nat.lt_of_lt_of_le hil hok.2.1.length_le
   ·rw[zcU,hshA];exact hK
  have oth:k≠6→k≠8→zfT (.ptr I.p 0) (.int .i64 i) (.ptr H.length 0) .snil (.int .i64 k) (.bool false) A2 (zeA H.length K):=by
   intro h6 h8;have h68:¬(k=6∨k=8):=by omega
   unfold zfT;by_cases h5:k=5
   ·subst h5;have hw:zaS data (.mk 5 n ks)=(List.range (zbG data n).length).filterMap λc:Nat=>(zbi data (.mk 5 n ks) (c:Int)).map λl=>((c:Int),l):=by rw[zaS,if_neg h68,if_pos rfl]
    obtain⟨hn0,hnl⟩:0≤n∧n.toNat<data.length:=by
     rcases zej (zdz hv) with ⟨h,_⟩|⟨_,h,hl⟩|⟨h,_⟩|⟨h,_⟩
     ·omega
     ·exact⟨h,hl.1⟩
     ·omega
     ·omega
    have hdl:=ziS hD;have hcon:zbG data n=(data[n.toNat]).cons:=by unfold zbG;rw[List.getD_eq_getElem?_getD,List.getElem?_eq_getElem hnl];rfl
    have hcl8:=zg1 hD hnl;rw[←hcon]at hcl8;simp;have hdg:(data.map Dat.cs)[n.toNat]?.getD []=(data[n.toNat]).cs:=by simp[hnl]
    simp[hMS2.hp,hg2,VT.cs,hn0,hnl,Dat.cs,Con.cs];refine⟨by omega,?_⟩;rw[←hcon];refine ALoop.own 6 ziU 2 rfl ?_;rw[hA2l];obtain⟨W,hW⟩:∃W:Nat→List (Int×List VT),W=λj=>(List.range j).filterMap λc:Nat=>(zbi data (.mk 5 n ks) (c:Int)).map λl=>((c:Int),l):=⟨_,rfl⟩;have hWs:∀j,W (j+1)=W j++((zbi data (.mk 5 n ks) (j:Int)).map λl=>((j:Int),l)).toList:=λj=>by rw[hW];simp only[List.range_succ,List.filterMap_append,List.filterMap_cons,List.filterMap_nil];cases zbi data (.mk 5 n ks) (j:Int) <;> rfl
    have hWl:∀j,(W j).length≤j:=λj=>by rw[hW];exact Nat.le_trans (List.length_filterMap_le _ _) (by simp)
    have hWv:∀j,j≤(zbG data n).length→∀w∈W j,∀t∈w.2,zaD data 0 t=true∧t∈X:=λj hj w hwm t ht=>by
     have:w∈zaS data (.mk 5 n ks):=by rw[hw];rw[hW]at hwm;obtain⟨c,hc1,hc2⟩:=List.mem_filterMap.1 hwm;exact List.mem_filterMap.2 ⟨c,List.mem_range.2 (by have:=List.mem_range.1 hc1;omega),hc2⟩
     exact⟨zkn hD hv this t ht,htX w this t ht⟩
    have hok:=λj hj=>zpE hD (W j) (mkS S i) hM (hWv j hj);obtain⟨G,hG⟩:∃G:Nat→zaa,G=λj=>shS data kk I (za7 data (mkS S i) (W j)).2 A++[.cells (VT.cs (.mk 5 n ks)),.perm ziU 2 (za7 data (mkS S i) (W j)).1.length]:=⟨_,rfl⟩;have hGl:∀j,(G j).length=H.length+2:=λj=>by rw[hG];simp[hAl]
    have hGs:∀j,HSc (G j):=λj=>by rw[hG];exact(hMS.scs hAs).append (by simp[AB.sc])
    have hfl:∀j,(za7 data (mkS S i) (W j)).1.length≤j:=λj=>by
     have:∀(ws:List (Int×List VT)) (S:SS),(za7 data S ws).1.length=ws.length:=by
      intro ws;induction ws with
      |nil=>intro S;rfl
      |cons w ws ih=>intro S;rw[za7,List.length_cons,List.length_cons,ih]
     rw[this];exact hWl j
    have hW0:W 0=[]:=by rw[hW];rfl
    show zsb _ _ _ (.sl [] (.own (H.length+1))) _ _ _ _;refine zOI (Inv:=λq t6 t60 H'=>∃j:Nat,j≤(zbG data n).length∧(zbG data n).length-j=q∧t60=.int .i64 j∧t6=.sl (zbM (za7 data (mkS S i) (W j)).1) (.own (H.length+1))∧H'=G j) (zbG data n).length ?_ ?_
    ·intro _;refine⟨0,by omega,rfl,rfl,by rw[hW0];rfl,?_⟩;rw[hG,hA2];simp only[hW0,za7];rw[hMS.self,List.append_assoc];rfl
    ·rintro q t6 t60 H' ⟨j,hj,rfl,rfl,rfl,rfl⟩ hsc' hlen hsF Kb hKb;have hjS:=hMS.next (S':=(za7 data (mkS S i) (W j)).2) (hok j hj).1.ml (hok j hj).1.cl;have hGS:ShS data kk I (za7 data (mkS S i) (W j)).2 (G j):=by rw[hG];exact hjS.app
     have hgG:(G j)[H.length]?=some (.cells (VT.cs (.mk 5 n ks))):=by rw[hG,←hAl];simp
     have h0G:(G j)[0]?=some .nodr:=by rw[hG];simp only;rw[List.getElem?_append_left (by simp;omega)];exact hMS.nodr h0A
     by_cases hlt:j<(zbG data n).length
     ·simp[zr7,hlt,hGS.hp,hgG,VT.cs];refine zaC (zeg (zbi data (.mk 5 n ks) (j:Int))) (λJ=>zAZ data (by omega) (λd hd c hc=>?_) (λd hd=>?_) (.mk 5 n ks) (by omega) _ _ _ ⟨rfl,rfl⟩) ?_
      ·obtain⟨i',hi',rfl⟩:=List.mem_iff_getElem.1 hd;obtain⟨h1,h2⟩:=ziM hD hi' c hc;exact⟨by omega,λx hx=>by have:=(h2 x hx).1;omega⟩
      ·obtain⟨i',hi',rfl⟩:=List.mem_iff_getElem.1 hd;have:=zg1 hD hi';omega
      ·cases hf:zbi data (.mk 5 n ks) (j:Int) with
       |none=>
        have hWj:W (j+1)=W j:=by rw[hWs,hf];simp
        simp[zeg];unfold zmA zsa;simp;rw[wr (by omega)];refine hKb _ _ ⟨(zbG data n).length-(j+1),by omega,Back.here (by simp[hGl,hA2l]) hsc' ?_ ⟨_,_,rfl,j+1,by omega,rfl,rfl,by rw[hWj],by rw[hG];simp only[hWj]⟩⟩;rw[hGl];simp[zit,ux,AV.sc,AV.scA,AV.scB,AV.scV];omega
       |some l=>
        simp[zeg];have hWj:W (j+1)=W j++[((j:Int),l)]:=by rw[hWs,hf];simp
        have hlv:∀t∈l,zaD data 0 t=true∧t∈X:=hWv (j+1) (by omega) ((j:Int),l) (by rw[hWj];simp);have hl6:l.length≤6:=by obtain⟨_,_,_,hn1,hc1,_,rfl,_⟩:=ziW hf;rw[List.length_map];exact(ziM hD hn1 _ (List.getElem_mem hc1)).1
        refine zv1 hD hX hGS (hok j hj).1 h0G l (by omega) hlv _ ?_;have hwf:za7 data (mkS S i) (W (j+1))=((za7 data (mkS S i) (W j)).1++[((j:Int),(zaK data (za7 data (mkS S i) (W j)).2 l).1)],(zaK data (za7 data (mkS S i) (W j)).2 l).2):=by rw[hWj,zwU]
        have hfin:shS data kk I (zaK data (za7 data (mkS S i) (W j)).2 l).2 (G j)=shS data kk I (za7 data (mkS S i) (W (j+1))).2 A++[.cells (VT.cs (.mk 5 n ks)),.perm ziU 2 (za7 data (mkS S i) (W j)).1.length]:=by rw[hG];simp only;rw[hjS.shS_app,zcU,hwf]
        rw[hfin];simp[zaq,zaN,zar,za3,plain,AV.pd,zc8,AV.known];simp only[zay,zbb,za0];have hcl2:(zbM (za7 data (mkS S i) (W j)).1).length=(za7 data (mkS S i) (W j)).1.length:=by simp[zbM]
        have:=hfl j;simp[List.set_append_right,hAl,hcl2];refine⟨⟨by omega,by omega⟩,?_⟩;unfold zmA zsa;simp;rw[wr (by omega)];have hst:zbM (za7 data (mkS S i) (W j)).1++[[AV.int .i64 j,AV.sl (zaZ (zaK data (za7 data (mkS S i) (W j)).2 l).1) .none]]=zbM (za7 data (mkS S i) (W (j+1))).1:=by rw[hwf,zCe]
        rw[hst];refine hKb _ _ ⟨(zbG data n).length-(j+1),by omega,Back.at (J:=[]) (H2:=G (j+1)) (by rw[hG];simp[hwf]) (by simp[hGl,hA2l]) (hGs _) ?_ ⟨_,_,rfl,j+1,by omega,rfl,rfl,rfl,rfl⟩⟩;rw[hGl];simp[zit,ux,AV.sc,AV.scA,AV.scB,AV.scV];omega
     ·obtain rfl:j=(zbG data n).length:=by omega
      simp[zr7];unfold zgN;have hWe:W (zbG data n).length=zaS data (.mk 5 n ks):=by rw[hw,hW]
      rw[hWe]at hjS;have hokE:=hok _ hj;rw[hWe]at hokE;rw[hG];simp only[hWe];refine zpG hjS (hMS.scs hAs) (i:=i) (cs:=(za7 data (mkS S i) (zaS data (.mk 5 n ks))).1) ?_ (.sl _ _) rfl rfl (by simp[hAl]) ?_
      ·exact Nat.lt_of_lt_of_le hil hokE.2.1.length_le
      ·rw[zcU,hshA];exact hK
   ·have hw:zaS data (.mk k n ks)=[]:=by rw[zaS,if_neg h68,if_neg h5]
    rw[hw]at hK;have hb:(k == 5)=false:=by simpa using h5
    simp[hb];unfold zgN;rw[hA2];refine zpG hMS hAs (i:=i) (cs:=[]) hil .snil rfl rfl hAl.symm ?_;rw[hshA];exact hK
  have fin:∀b8:Bool,b8=(k == 8)→(k≠6)→zfT (.ptr I.p 0) (.int .i64 i) (.ptr H.length 0) .snil (.int .i64 k) (.bool b8) A2 (zeA H.length K):=by
   intro b8 h8 h6;by_cases e8:k=8
   ·rw[h8,show (k == 8)=true from by simpa using e8];exact tup (.inr e8)
   ·rw[h8,show (k == 8)=false from by simpa using e8];exact oth h6 e8
  by_cases h6:k=6
  ·subst h6;simp[hMS.hp,hMS.hit,htM,hil,hta,hkn,hset2,hg2];refine⟨by omega,?_⟩;simp[VT.cs];exact tup (.inl rfl)
  ·have hb6:(k == 6)=false:=by simpa using h6
   simp[hMS.hp,hMS.hit,htM,hil,hta,hkn,hset2,hg2];refine⟨by omega,?_⟩;simp[VT.cs];generalize (k == 6)=b6 at hb6 ⊢;subst hb6;exact fin _ rfl h6
end
theorem zCd(a b:Nat)(ha:(lim a).length≤1000)(hb:(lim b).length≤1000)(H:zaa)(K:Kt)(hK:K (.int .i64 (zbh a b)) H):
  ACalls tP zhJ [.sl (zaj (lim a)) .none,.sl (zaj (lim b)) .none] H K:=by
 refine ACalls.out (zPe λhs=>?_);have hO:∀r,r=zbh a b→Out H.length K (.int .i64 r) H:=λr hr=>Out.int (J:=[]) (by simp) (Nat.le_refl _) hs (by rw[hr];exact hK);have lA:=zbI a;have lB:=zbI b;have vA:=zbo a;have vB:=zbo b;by_cases hne:(lim a).length=(lim b).length
 ·simp[zmG,hne];generalize hLA:lim a=A at *;generalize hLB:lim b=B at *;have hstart:IntKind.i64.wrap ((B.length:Int)-1)=(B.length:Int)-1:=zaB (by omega) (by omega);rw[hstart];refine zPc (Inv:=λq t5 H'=>∃i:Nat,i≤B.length∧i=q∧t5=.int .i64 ((i:Int)-1)∧H'=H∧A.drop i=B.drop i) B.length ?_ ?_
  ·intro _;exact⟨B.length,by omega,rfl,rfl,rfl,by rw[List.drop_of_length_le (by omega),List.drop_of_length_le (by omega)]⟩
  ·rintro q t5 H' ⟨i,hi,rfl,rfl,rfl,hd⟩ hsc' hlen hsF Kb hKb;by_cases h0:i=0
   ·subst h0;simp[ziv];refine hO _ ?_;simp at hd;rw[←vA,←vB,hd];simp[zbh]
   ·obtain⟨j,rfl⟩:∃ j,i=j+1:=⟨i-1,by omega⟩;have hja:j<A.length:=by omega
    have hjb:j<B.length:=by omega
    have ej:((j+1:Nat):Int)-1=(j:Int):=by omega
    have hstep:IntKind.i64.wrap ((j:Int)-1)=(j:Int)-1:=zaB (by omega) (by omega);rw[ej];rcases Nat.lt_trichotomy A[j] B[j] with h|h|h
    ·have:=zja hne lA j hja hd h;simp[ziv,hja,hjb,h];exact hO _ (by rw[←vA,←vB];simp[zbh,this])
    ·simp[ziv,hja,hjb,h,hstep];refine hKb _ _ ⟨j,by omega,Back.here (by simp) hs (by simp[zmI,ux,AV.sc,AV.scA,AV.scB,AV.scV]) ⟨_,rfl,j,by omega,rfl,rfl,rfl,?_⟩⟩;rw[List.drop_eq_getElem_cons hja,List.drop_eq_getElem_cons hjb,hd,h]
    ·have:=zja hne.symm lB j hjb hd.symm h;simp[ziv,hja,hjb,h,Nat.le_of_lt h,Nat.not_lt.2 (Nat.le_of_lt h)];exact hO _ (by rw[←vA,←vB];simp[zbh,this,Nat.not_lt.2 (Nat.le_of_lt this)])
 ·have hnb:(((lim a).length:Int) != ((lim b).length:Int))=true:=by simp;omega
  by_cases hlt:(lim a).length<(lim b).length
  ·have:=zho hlt;simp[zmG,hnb,hlt];exact hO (-1) (by simp[zbh,this])
  ·have:=zho (show (lim b).length<(lim a).length by omega);simp[zmG,hnb,hlt];exact hO 1 (by simp[zbh,this,Nat.not_lt.2 (Nat.le_of_lt this)])
theorem zvo{H:zaa}{K:Kt}(R:List Nat)(hs:HSc H)(hK:K (.sl (zaj R) .none) H):Out H.length K (.ov H.length R.length) (H++[.vec za8 1 R.length (us R)]):=
 ⟨.sl (zaj R) .none,H,[.vec za8 1 R.length (us R)],rfl,Nat.le_refl _,hs,.one (.vfz H.length za8 1 R.length (us R) (zaj R) (Nat.le_refl _) (by simp) (by rw[zkj,zhZ]) (by simp) (zer R)),hK⟩
theorem zs5(A B:List Nat)(lA:∀x∈A,x<1000000000)(lB:∀x∈B,x<1000000000)(ha:A.length≤1000)(hb:B.length≤A.length)(cA:lim (zan A)=A)(H:zaa)(K:Kt)(hs:HSc H)(hK:K (.sl (zaj (lim (zan A+zan B))) .none) H):zlc (.sl (zaj A) .none) (.sl (zaj B) .none) H (Out H.length K):=by
 have hsc:∀ R:List Nat,HSc (H++[.vec za8 1 R.length (us R)]):=λA=>hs.append (by simp[AB.sc,us,AV.scA,AV.scB]);simp[zlc,wi A.length (by omega)];refine⟨⟨by omega,by omega,by omega⟩,?_⟩;refine zJf (Inv:=λq t5 t6 t22 H'=>∃ (i c:Nat) (R:List Nat),i≤A.length∧A.length-i=q∧t22=.int .i64 i∧t6=.int .u32 c∧t5=.ov H.length R.length∧R.length=i∧(∀ x∈R,x<1000000000)∧c≤1 ∧
  zan R+1000000000 ^ i*c=zan (A.take i)+zan (B.take i)∧H'=H++[.vec za8 1 R.length (us R)]) A.length ?_ ?_
 ·intro _;exact⟨0,0,[],by omega,rfl,rfl,rfl,rfl,rfl,by simp,by omega,by simp[zan],rfl⟩
 ·rintro q t5 t6 t22 H' ⟨i,c,R,hi,rfl,rfl,rfl,rfl,hRl,hR,hc,hv,rfl⟩ hsc' hlen hsF Kb hKb;by_cases hlt:i<A.length
  ·have hbit : ∀ (s : Nat), s ≤ 2 * 999999999 + 1 → s = c + A[i] + (if h : i < B.length then B[i] else 0) →
     zld (.sl (zaj A) .none) (.sl (zaj B) .none) (.ov H.length R.length) (.int .u32 s) (.int .i64 A.length) (.int .i64 i) (H++[.vec za8 1 R.length (us R)]) (Out H.length K) Kb:=by
    intro s hs1 hs2;obtain⟨x,c',hx1,hx2,e1,e2⟩:=ztI s (by omega);simp only[zld];simp[e1,e2,zar,za3,plain,AV.pd,zay,zbb,za0,wi i (by omega)];refine⟨⟨by omega,by omega⟩,?_⟩;have e3:us R++[AV.int .u32 (x:Int)]=us (R++[x]):=by simp[us]
    rw[e3];refine hKb _ _ ⟨A.length-(i+1),by omega,Back.here (by simp) (by simpa using hsc (R++[x])) (by simp[zlb,ux,AV.sc,AV.scA,AV.scB,AV.scV]) ⟨_,_,_,rfl,i+1,c',R++[x],by omega,rfl,rfl,rfl,by simp,by simp[hRl],?_,by omega,?_,by simp⟩⟩
    ·intro y hy;rcases List.mem_append.1 hy with hy | hy
     ·exact hR y hy
     ·simp at hy;omega
    ·have tk:zan (B.take (i+1))=zan (B.take i)+(if h:i<B.length then B[i] else 0)*1000000000 ^ i:=by
      by_cases h:i<B.length
      ·rw[dif_pos h,zcP B i h]
      ·rw[dif_neg h,List.take_of_length_le (by omega),List.take_of_length_le (by omega)];simp
     rw[zei,tk,zcP A i hlt,hRl,Nat.pow_succ];generalize (if h:i<B.length then B[i] else 0)=v at *;grind
   have hxa:=lA A[i] (List.getElem_mem hlt);obtain⟨s1,hs1⟩:∃s,s=A[i]+c:=⟨_,rfl⟩;have w1:IntKind.u32.wrap (((A[i]:Nat):Int)+(c:Int))=(s1:Int):=by rw[hs1,←Int.natCast_add];exact zch (by omega)
   by_cases hB:i<B.length
   ·have hxb:=lB B[i] (List.getElem_mem hB);obtain⟨s2,hs2⟩:∃ s,s=s1+B[i]:=⟨_,rfl⟩;have w2:IntKind.u32.wrap ((s1:Int)+(B[i]:Nat))=(s2:Int):=by rw[hs2,←Int.natCast_add];exact zch (by omega)
    simp[zic,hlt,hB,w1,w2];exact hbit s2 (by omega) (by simp[hB];omega)
   ·simp[zic,hlt,hB,w1];exact hbit s1 (by omega) (by simp[hB];omega)
  ·obtain rfl:i=A.length:=by omega
   rw[List.take_length,List.take_of_length_le hb]at hv;by_cases h0:c=0
   ·subst h0;simp[zic,zle];have hv':zan R=zan A+zan B:=by simpa using hv
    rw[←hv']at hK;have hcan:R=lim (zan R):=by
     refine znw hR ?_;by_cases hA0:A.length=0
     ·omega
     ·have h3:=zi9 (n:=zan A) (by intro h;have hl0:=congrArg List.length cA;rw[h]at hl0;simp at hl0;omega);rw[cA]at h3;have:=zi8 (n:=zan R) (k:=A.length-1) (by omega);omega
    rw[←hcan]at hK;exact zvo R hs hK
   ·obtain rfl:c=1:=by omega
    simp[zic,zle,zar,za3,plain,AV.pd,zay,zbb,za0];refine⟨⟨by omega,by omega⟩,?_⟩;have e3:us R++[AV.int .u32 1]=us (R++[1]):=by simp[us]
    rw[e3];have hv':zan (R++[1])=zan A+zan B:=by rw[zei,hRl];omega
    rw[←hv']at hK;have hcan:R++[1]=lim (zan (R++[1])):=by
     refine znw (λy hy=>?_) ?_
     ·rcases List.mem_append.1 hy with hy | hy
      ·exact hR y hy
      ·simp at hy;omega
     ·have:=zi8 (n:=zan (R++[1])) (k:=A.length) (by rw[zei,hRl];omega);simp;omega
    rw[←hcan]at hK;have:=zvo (R++[1]) hs hK;simpa using this
theorem zJj(a b:Nat)(ha:(lim a).length≤1000)(hb:(lim b).length≤1000)(H:zaa)(K:Kt)(hK:K (.sl (zaj (lim (a+b))) .none) H):
  ACalls tP zop [.sl (zaj (lim a)) .none,.sl (zaj (lim b)) .none] H K:=by
 refine ACalls.out (zJh λhs=>?_);by_cases h:(lim a).length<(lim b).length
 ·have h':((lim a).length:Int)<((lim b).length:Int):=by omega
  simp[zqH,h];refine zs5 (lim b) (lim a) (zbI b) (zbI a) hb (by omega) (by rw[zbo]) _ _ hs ?_;rw[zbo,zbo,Nat.add_comm];exact hK
 ·have h':¬ ((lim a).length:Int)<((lim b).length:Int):=by omega
  simp[zqH,h];refine zs5 (lim a) (lim b) (zbI a) (zbI b) ha (by omega) (by rw[zbo]) _ _ hs ?_;rw[zbo,zbo];exact hK
theorem zjc(a:Nat)(ha:a<1000000000 ^ 30)(H:zaa)(K:Kt)(hK:K (.sl (zaj (lim a)) .none) H):ACalls tP zcC [.sl (zaj (lim a)) .none,.sl (zaj [1]) .none] H K:=by have:=zn8 a 1 ha zgo H K (by rw[Nat.mul_one];exact hK);rwa [zeQ]at this
theorem zD3(a b:Nat)(ha:a<1000000000 ^ 30)(hb:b<1000000000 ^ 30)(H:zaa)(K:Kt)(hK:K (.agg (zav ((a+b:Nat):Int))) H):
  ACalls tP zod [.agg (zav (a:Int)),.agg (zav (b:Int))] H K:=by
 refine ACalls.out (zGG λhs=>?_);have la:=zbY ha;have lb:=zbY hb;have d0:∀n:Nat,decide ((n:Int)<0)=false:=λn=>by simp
 simp[zxa,zav,d0,Nat.add_assoc];refine zaC (.sl (zaj (lim a)) .none) (λJ=>zjc a ha _ _ ⟨rfl,rfl⟩) ?_;try simp[Nat.add_assoc]
 refine zaC (.sl (zaj (lim b)) .none) (λJ=>zjc b hb _ _ ⟨rfl,rfl⟩) ?_;try simp[Nat.add_assoc]
 refine zuY _ _ ?_;simp[Nat.add_assoc];refine zaC (.sl (zaj (lim (a+b))) .none) (λJ=>zJj a b (by omega) (by omega) _ _ ⟨rfl,rfl⟩) ?_;simp[zaq,zaN,zc8,AV.known,Nat.add_assoc];have e1:zav ((a+b:Nat):Int)=[.bool false,.sl (zaj (lim (a+b))) .none,.sl (zaj [1]) .none]:=by simp only[zav,d0,Int.natAbs_natCast]
 have:=zcu (H:=H) (K:=K) (z:=((a+b:Nat):Int)) (J:=[.cells [.bool false,.sl (zaj (lim a)) .none,.sl (zaj [1]) .none],.cells [.bool false,.sl (zaj (lim b)) .none,.sl (zaj [1]) .none],.cells (zav ((a+b:Nat):Int))]) hs hK;rw[e1]at this;simpa using this
theorem zpi(a:Nat)(H:zaa)(K:Kt)(hK:K (.int .i64 (if a=0 then 0 else 1)) H):ACalls tP zhI [.agg (zav (a:Int))] H K:=by
 refine ACalls.out (zO9 λhs=>?_);have d0:∀n:Nat,decide ((n:Int)<0)=false:=λn=>by simp
 have hO:∀z J,z=(if a=0 then (0:Int) else 1)→Out H.length K (.int .i64 z) (H++J):=λz J h=>Out.int rfl (Nat.le_refl _) hs (by rw[h];exact hK);by_cases h:a=0
 ·subst h;simp[zsf,zav];exact hO 0 _ (by simp)
 ·have hp:0<(lim a).length:=by rw[zcf h];simp
  have hb:(((lim a).length:Int) == 0)=false:=by generalize (lim a).length=q at hp;simp;omega
  simp[zsf,zav,d0,hb];exact hO 1 _ (by simp[h])
end Go.Proofs.YtaifokkaaahdoaaGreatDoor
namespace Go.Proofs.YtaifokkaaahdoaaGreatDoor
open Go Go.Abs
set_option maxRecDepth 100000
def zLP(_:Nat):List Bool:=[]
noncomputable def zLR:Code:=Tryz.f36.body.getD .skip
def zy9(t0:AV)(H:zaa)(K:Kt):Prop:=
 zas t0 H λt1 H=>
 zaw [(.bool false),.snil,.snil] H λt2 H=>
 zae true 3 t1 H λt3=>
 ACalls tP zdr [t3] H λt4 H=>
 ACalls tP zgm [t4] H λt5 H=>
 zak 3 t2 t5 H λH=>
 zae true 3 t2 H λr0=>
 K r0 H
theorem zLS{t0:AV}{H:zaa}{K:Kt}(h:HSc H→zy9 t0 H K):ACalls tP zoE [t0] H K:=
 zap (M:=zLP) Tryz.func36 (c:=zLR) (by kernel_rfl) (λhs=>Eq.mpr (by kernel_rfl) (h hs))
def zMm(_:Nat):List Bool:=[]
noncomputable def zMo:Code:=Tryz.f44.body.getD .skip
def zzi(t0 t1:AV)(H:zaa)(K:Kt):Prop:=
 zas t0 H λt2 H=>
 zas t1 H λt3 H=>
 zab H (λK'=>zam true 3 t2 H (K' · H)) λt9=>
 zaA H (λH K'=>ACalls tP zdr [t9] H K') λt10=>
 zab H (λK'=>zam true 3 t3 H (K' · H)) λt11=>
 zaA H (λH K'=>ACalls tP zdr [t11] H K') λt12=>
 zaw [(.bool false),.snil,.snil] H λt5 H=>
 zaw [(.bool false),.snil,.snil] H λt6 H=>
 zak 3 t5 t10 H λH=>
 zak 3 t6 t12 H λH=>
 zab H (λK'=>zam true 3 t5 H (K' · H)) λt13=>
 zaA H (λH K'=>ACalls tP zhI [t13] H K') λt14=>
 zab H (λK'=>zam true 3 t6 H (K' · H)) λt15=>
 zaA H (λH K'=>ACalls tP zhI [t15] H K') λt16=>
 zab H (λK'=>K' t14 H) λt7=>
 zab H (λK'=>K' t16 H) λt8=>
 zac .lss false t7 t8 λt20=>
 zag t20
 (K (.int .i64 (-1)) H)
 (zac .gtr false t7 t8 λt24=>
 zag t24
 (K (.int .i64 1) H)
 (zab H (λK'=>K' t7 H) λt25=>
 zab H (λK'=>zaf 1 t5 (K' · H)) λt26=>
 zab H (λK'=>zam false 1 t26 H (K' · H)) λt27=>
 zab H (λK'=>zaf 2 t6 (K' · H)) λt28=>
 zab H (λK'=>zam false 1 t28 H (K' · H)) λt29=>
 zaA H (λH K'=>ACalls tP zcC [t27,t29] H K') λt30=>
 zab H (λK'=>zaf 1 t6 (K' · H)) λt31=>
 zab H (λK'=>zam false 1 t31 H (K' · H)) λt32=>
 zab H (λK'=>zaf 2 t5 (K' · H)) λt33=>
 zab H (λK'=>zam false 1 t33 H (K' · H)) λt34=>
 zaA H (λH K'=>ACalls tP zcC [t32,t34] H K') λt35=>
 zaA H (λH K'=>ACalls tP zhJ [t30,t35] H K') λt36=>
 zab H (λK'=>zac .mul false t25 t36 (K' · H)) λt37=>
 zab H (λK'=>K' t37 H) λt4=>
 K t4 H))
theorem zMp{t0 t1:AV}{H:zaa}{K:Kt}(h:HSc H→zzi t0 t1 H K):ACalls tP zoJ [t0,t1] H K:=
 zap (M:=zMm) Tryz.func44 (c:=zMo) (by kernel_rfl) (λhs=>Eq.mpr (by kernel_rfl) (h hs))
def zlP:Nat→List Bool
 |2=>rl false [0,1,4,3,27]
 |_=>[]
noncomputable def zro:Code:=Tryz.f43.body.getD .skip
noncomputable def zMk:List ResultVar:=Tryz.f43.results.toList
def zil(t0 t5 t6 t7:AV):List AV:=t0::ux 4 (t5::t6::t7::ux 27 [])
def zMi:List Bool:=zlP 2
noncomputable def zMg:Code:=zat [1,0,1,0,0] zro
def zMf(K:Kt):AExit→List AV→zaa→Prop:=zau tP zlP [1,0,1,0] zro (zaz tP zMk K)
def zzh(t0 t5 t6 t7:AV)(H:zaa)(K:Kt):Prop:=ALoop tP zMg (zMf K) (zil t0 t5 t6 t7) H
def zrn(t0 t5 t6 t7:AV)(H:zaa)(K:Kt)(Kb2:Lt):Prop:=
 zac .lss false t7 t6 λt8=>
 zag t8
 (zai 1 t5 t7 λt10=>
 zae false 1 t10 H λt11=>
 zac .lss false t11 (.int .i64 (-1099511627776)) λt13=>
 zad t13 false H (λK'=>K' t11 H) λt15 H=>
 zad t13 false H (λK'=>zac .gtr false t15 (.int .i64 1099511627776) (K' · H)) λt16 H=>
 zao t13 (.bool true) t16 λt17=>
 zad t17 false H (λK'=>K' t7 H) λt19 H=>
 zad t17 false H (λK'=>zac .gtr false t19 (.int .i64 0) (K' · H)) λt20 H=>
 zad t17 false H (λK'=>K' t20 H) λt21 H=>
 zad t21 true H (λK'=>K' t11 H) λt22 H=>
 zad t21 true H (λK'=>K' t0 H) λt23 H=>
 zad t21 true H (λK'=>K' t7 H) λt24 H=>
 zad t21 true H (λK'=>zac .sub false t24 (.int .i64 1) (K' · H)) λt25 H=>
 zad t21 true H (λK'=>zai 1 t23 t25 (K' · H)) λt26 H=>
 zad t21 true H (λK'=>zae false 1 t26 H (K' · H)) λt27 H=>
 zad t21 true H (λK'=>zac .leq false t22 t27 (K' · H)) λt28 H=>
 zad t17 false H (λK'=>zao t21 t28 (.bool false) (K' · H)) λt29 H=>
 zao t17 (.bool true) t29 λt30=>
 zag t30
 (K (.bool false) H)
 (zac .add false t7 (.int .i64 1) λt31=>
 Kb2 (zil t0 t5 t6 t31) H))
 (zah 1 t0 λt33=>
 zac .leq false t33 (.int .i64 8) λt34=>
 K t34 H)
def zzg(t0:AV)(H:zaa)(K:Kt):Prop:=
 zah 1 t0 λt6=>
 zzh t0 t0 t6 (.int .i64 0) H K
theorem zMh{t0 t5 t6 t7:AV}{H:zaa}{K:Kt}(Inv:Nat→AV→zaa→Prop)(n:Nat)(h0:HSc H→Inv n t7 H)(round:Rd1 (λt7=>zil t0 t5 t6 t7) (λt7=>λH Kb2=>zrn t0 t5 t6 t7 H K Kb2) H Inv):zzh t0 t5 t6 t7 H K:=
 lp1 (M:=zlP) zMi t7 (by kernel_rfl) Inv n h0 round
theorem zMj{t0:AV}{H:zaa}{K:Kt}(h:HSc H→zzg t0 H K):ACalls tP zoI [t0] H K:=
 zap (M:=zlP) Tryz.func43 (c:=zro) (by kernel_rfl) (λhs=>Eq.mpr (by kernel_rfl) (h hs))
end Go.Proofs.YtaifokkaaahdoaaGreatDoor

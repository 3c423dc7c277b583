import Derived.Test.YtdmamdnkcefmmaaGreatDoorKGS8
import Derived.Test.YtdmamdnkcefmmaaGreatDoorKME
import Derived.Test.YtdmamdnkcefmmaaGreatDoorVO
import Derived.Test.YtdmamdnkcefmmaaGreatDoorKNum
import Derived.Test.YtdmamdnkcefmmaaGreatDoorProg
import Derived.KernelRfl
import Derived.WalkKit
import Derived.BigCall
import Derived.Laws.Externs
import Derived.Laws.Entries
import Derived.Lib.Builder
import Derived.Lib.AppendStr
import Derived.Lib.UnsafeStr
import Derived.RegionTactic
import Derived.Test.YtdmamdnkcefmmaaGreatDoorKGJ
import Derived.Shelf.Spec.SlicesGrow
set_option linter.unusedSimpArgs false
set_option linter.unusedVariables false
set_option maxRecDepth 100000
namespace Go.Proofs.YtdmamdnkcefmmaaGreatDoor
def zaL (s:List (IT × Nat)):List (List AV):=s.map tmC
@[simp] theorem ycc (s:List (IT × Nat)):(zaL s).length=s.length:=by simp[zaL]
theorem zzU (s:List (IT × Nat)):(zaL s).flatten=tms s:=rfl
@[simp] theorem ycb {s:List (IT × Nat)} {i:Nat} (h:i<(zaL s).length):(zaL s)[i]=tmC (s[i]'(by simpa using h)):=by simp[zaL]
theorem zib:∀ {a b c d:List AV},plain a=some c→plain b=some d→plain (a++b)=some (c++d)
 | [],b,c,d,h,h'=>by simp[plain]at h;subst h;simpa using h'
 | x::a,b,c,d,h,h'=>by
  simp only[plain]at h;split at h
  ·rename_i p q hp hq;cases h;simp only[List.cons_append,plain];rw[hp,zib hq h']
  ·cases h
theorem zic (v:IT):plain v.cs=some v.cs:=by obtain⟨n,ks⟩:=v;simp[IT.cs,plain,AV.pd]
theorem zcI (z:Int):plain (zai z)=some (zai z):=rfl
theorem zks (p:IT × Nat):plain (tmC p)=some (tmC p):=zib (zic p.1) (zcI _)
theorem zrg:∀ s:List (IT × Nat),plain (tms s)=some (tms s)
 | []=>rfl
 | p::s=>by rw[zgP];exact zib (zks p) (zrg s)
theorem zkm {H J:zaa} {K:Kt} (s:List (IT × Nat)) (id:Nat) (aS:H.length≤id) (ap:(H++J)[id]?=some (.vec zax 5 s.length (tms s))) (hs:HSc H) (hK:K (.sl (zaL s) .none) H):Out H.length K (.ov id s.length) (H++J):=
 ⟨.sl (zaL s) .none,H,J,rfl,Nat.le_refl _,hs,.one (.vfz id zax 5 s.length (tms s) (zaL s) aS ap (by rw[zzU];exact zrg s) (by simp) (λc hc=>by
  obtain⟨p,_,rfl⟩:=List.mem_map.1 hc;simp)),hK⟩
theorem ACalls.vecA {P:Program} {f:FuncId} {us:List AV} {H:zaa} {K:AV→zaa→Prop} (e size:Nat) (h:ACalls P f (.ov H.length 0::us) (H++[.vec e size 0 []]) K):ACalls P f (.snil::us) H K:=by
 intro B w G vs hH hv;obtain⟨hE,aV⟩:=hH.newVec e size;have fS:All2 (TRel w ⟨G.L,G.μ++[.own (.slice none 0 0) size 0]⟩) vs.toList (.ov H.length 0::us):=by
  generalize vs.toList=l at *
  match l,hv with
  | x::l,⟨h1,h2⟩=>have h1:x=.slice none 0 0:=h1;subst h1;exact⟨zyI hH e size,h2.mono λ_ _=>hE.trel⟩
 refine (h B w _ vs aV fS).mono λe' w' hp=>?_;obtain⟨v,r,H',G'',h1,h2,h3⟩:=hp;exact⟨v,r,H',G'',h1,hE.trans h2,h3⟩
theorem zph (e i:IT) (hi:i.nodes≤1000) (H:zaa) (K:Kt) (hK:K (.agg (bef e i).cs) H):ACalls tP zhN [.agg e.cs,.agg i.cs] H K:=by
 refine ACalls.out (zNo λhs=>?_);obtain⟨n,ks⟩:=i;obtain⟨m,es⟩:=e;have bm:=IT.len_le ks;have dU:(IT.mk n ks).nodes=IT.nodesL ks+1:=by simp[IT.nodes]
 have hb:(bef (.mk m es) (.mk n ks)).cs=[.int .i64 0,.sl ([.int .i64 m,.sl (IT.css es) .none]::IT.css ks) .none]:=rfl;rw[hb]at hK;cases ks with
 | nil=>simp[zsO,IT.cs,IT.css,zaq,zaI,zau,zaQ,plain,AV.pd,AV.known,zav,zaM,zaJ,Nat.add_assoc];exact Out.one hs (WkV.agg (ds:=[.int .i64 0,.sl [[.int .i64 m,.sl (IT.css es) .none]] .none]) ⟨.refl _,.sl _ _,trivial⟩) rfl (by simp[AV.scV,AV.scA,AV.scB]) (by simpa[IT.css]using hK)
 | cons k ks=>
  simp[zsO,IT.cs,IT.css,zaq,zaI,zau,zaQ,plain,AV.pd,AV.known,zav,zaM,zaJ,Nat.add_assoc];have h2:∀ a∈IT.css ks,a.length=2:=λa ha=>by rw[IT.css_map]at ha;obtain⟨v,_,rfl⟩:=List.mem_map.1 ha;simp
  refine⟨h2,⟨by simp at bm;omega,by simp at bm;omega⟩,?_⟩;exact Out.one hs (WkV.agg (ds:=[.int .i64 0,.sl ([.int .i64 m,.sl (IT.css es) .none]::k.cs::IT.css ks) .none]) ⟨.refl _,.sl _ _,trivial⟩) rfl (by simp[AV.scV,AV.scA,AV.scB]) (by simpa[IT.css]using hK)
def zaK (out:List (List IT × Nat)):List (List AV):=out.map λr=>.sl (IT.css r.1) .none::zai (r.2:Int)
@[simp] theorem ybT (s:List (List IT × Nat)):(zaK s).length=s.length:=by simp[zaK]
@[simp] theorem ybS {s:List (List IT × Nat)} {i:Nat} (h:i<(zaK s).length):(zaK s)[i]=.sl (IT.css (s[i]'(by simpa using h)).1) .none::zai ((s[i]'(by simpa using h)).2:Int):=by simp[zaK]
theorem zkz (a b:List (List IT × Nat)):zaK (a++b)=zaK a++zaK b:=by simp[zaK]
theorem zy5 {aa:List Dat} {f:Nat} {ts:List VT} {l m:List IT} {k:Nat}:∀ j,j≤k→zbU aa f (ts.take k) (l.take k) (m.take k) j=zbU aa f ts l m j:=by
 intro j;induction j with
 | zero=>intro _;rfl
 | succ j ih=>intro h;rw[zgE,zgE,ih (by omega)];simp[List.getD_eq_getElem?_getD,List.getElem?_take,show j<k by omega]
theorem zp0 {s:List (List IT × Nat)} {p:List IT × Nat} (h:p∈s):p.2≤zbd (λ_=>1) s:=by
 induction s with
 | nil=>simp at h
 | cons q s ih=>
  rw[zfN];rcases List.mem_cons.1 h with rfl | h
  ·omega
  ·have:=ih h;omega
theorem zpW {s:List (List IT × Nat)} (h:∀ p∈s,0<p.2):s.length≤zbd (λ_=>1) s:=by
 induction s with
 | nil=>simp
 | cons q s ih=>have h1:=ih λp hp=>h p (by simp[hp]);have h2:=h q (by simp);rw[zfN,List.length_cons];omega
theorem zcw {a:Int} (h:a≤6):3 ^ a.toNat≤729:=Nat.le_trans (Nat.pow_le_pow_right (by omega) (show a.toNat≤6 by omega)) (by decide)
theorem zy3 {aa:List Dat} (h8:∀ D∈aa,D.cons.length≤8) {f:Nat} {ts:List VT} {l m:List IT} (hf:IT.nodesL l+IT.nodesL m≤f) (hl:l.length=ts.length) (hm:m.length=ts.length) (hA:0≤rdA aa l ts 0) (hB:0≤rdA aa m ts 0) (h6:rdA aa l ts 0+rdA aa m ts 0≤6) (k:Nat) (hk:k≤ts.length) :
  (∀ r∈zbU aa f ts l m k,0<r.2∧r.2≤729∧IT.nodesL r.1≤IT.nodesL l+IT.nodesL m)∧(zbU aa f ts l m k).length≤729:=by
 have a1:=zcx l ts 0 k hl (by omega) hA;have b1:=zcx m ts 0 k hm (by omega) hB;have n1:=IT.nodesL_take_le l k;have n2:=IT.nodesL_take_le m k;obtain⟨h1,h2⟩:=(zcq h8 (f+1)).2.1 (ts.take k) (l.take k) (m.take k) (by omega) (by simp;omega) (by simp;omega) a1.1 b1.1 (by omega);have e:zca aa (f+1) (ts.take k) (l.take k) (m.take k)=zbU aa f ts l m k:=by rw[zhH,List.length_take,Nat.min_eq_left hk,zy5 k (Nat.le_refl _)]
 rw[e]at h1 h2;have hN:zbd (λ_=>1) (zbU aa f ts l m k)≤729:=Nat.le_trans h2 (zcw (by omega));refine⟨λr hr=>?_,Nat.le_trans (zpW λp hp=>(h1 p hp).1) hN⟩;obtain⟨q1,_,_,_,_,_,q6⟩:=h1 r hr;have:=zp0 hr;exact⟨q1,by omega,by omega⟩
theorem zJB {out:List (List IT × Nat)} {ws:List (IT × Nat)} (h1:∀ r∈out,0<r.2) (h2:∀ w∈ws,0<w.2):∀ r∈zbW out ws,0<r.2:=by intro r hr;obtain⟨x,hx,hr⟩:=List.mem_flatMap.1 hr;obtain⟨w,hw,rfl⟩:=List.mem_map.1 hr;exact Nat.mul_pos (h1 x hx) (h2 w hw)
theorem zrn {aa:List Dat} {f:Nat} (hP:∀ (t:VT) (i j:IT),∀ p∈zbo aa f t i j,0<p.2) (ts:List VT) (l m:List IT):∀ k,∀ r∈zco aa f ts l m k,0<r.2
 | 0,r,hr=>by rw[zrp]at hr;simp at hr;rw[hr];omega
 | k+1,r,hr=>by rw[zkx]at hr;exact zJB (zrn hP ts l m k) (hP _ _ _) r hr
theorem zgA (aa:List Dat):∀ f,(∀ (t:VT) (i j:IT),∀ p∈zbo aa f t i j,0<p.2)∧(∀ (ts:List VT) (l m:List IT),∀ r∈zcn aa f ts l m,0<r.2)∧(∀ (t:VT) (l m:List IT),∀ r∈za3 aa f t l m,0<r.2)
 | 0=>⟨λt i j p hp=>by rw[zbo]at hp;simp at hp,λts l m r hr=>by rw[zcn]at hr;simp at hr,λt l m r hr=>by rw[za3]at hr;simp at hr⟩
 | f+1=>by
  obtain⟨hP,hQ,hM⟩:=zgA aa f;refine⟨λt i j p hp=>?_,λts l m r hr=>?_,λt l m r hr=>?_⟩
  ·rw[zbo]at hp;split at hp
   ·obtain⟨r,hr,rfl⟩:=List.mem_map.1 hp;exact hQ _ _ _ r hr
   ·split at hp
    ·have:=(List.mem_filter.1 hp).2;simp at this;omega
    ·split at hp
     ·obtain⟨r,hr,rfl⟩:=List.mem_map.1 hp;exact hM _ _ _ r hr
     ·simp at hp;rw[hp];omega
  ·rw[zky]at hr;exact zrn hP ts l m _ r hr
  ·cases l with
   | nil=>rw[za3]at hr;simp at hr;rw[hr];omega
   | cons a l=>
    cases m with
    | nil=>rw[za3]at hr;simp at hr;rw[hr];omega
    | cons b m=>
     rw[za3]at hr;rcases List.mem_append.1 hr with hr | hr
     ·rcases List.mem_append.1 hr with hr | hr
      ·obtain⟨x,hx,rfl⟩:=List.mem_map.1 hr;exact hM _ _ _ x hx
      ·obtain⟨x,hx,rfl⟩:=List.mem_map.1 hr;exact hM _ _ _ x hx
     ·split at hr
      ·obtain⟨x,hx,hr⟩:=List.mem_flatMap.1 hr;obtain⟨w,hw,rfl⟩:=List.mem_map.1 hr;exact Nat.mul_pos (hQ _ _ _ x hx) (hM _ _ _ w hw)
      ·simp at hr
theorem zft {α:Type}:∀ {s:List (α × Nat)},(∀ p∈s,0<p.2)→s.length≤zaE (λ_=>1) s
 | [],_=>by simp
 | p::s,h=>by rw[List.length_cons,zbh];have:=h p List.mem_cons_self;have:=zft λq hq=>h q (List.mem_cons_of_mem p hq);omega
theorem zwT {aa:List Dat} (h8:∀ D∈aa,D.cons.length≤8) {f:Nat} {t:VT} {i j:IT} (hf:i.nodes+j.nodes≤f) (hi:0≤rdV aa i t) (hj:0≤rdV aa j t) (h6:rdV aa i t+rdV aa j t≤6) :
  (∀ p∈zbo aa f t i j,0<p.2∧p.2≤729∧0≤rdV aa p.1 t∧rdV aa p.1 t≤rdV aa i t+rdV aa j t∧rdV aa i t≤rdV aa p.1 t∧rdV aa j t≤rdV aa p.1 t∧p.1.nodes≤i.nodes+j.nodes)∧zaE (λ_=>1) (zbo aa f t i j)≤3 ^ (rdV aa i t+rdV aa j t).toNat∧zaE (λ_=>1) (zbo aa f t i j)≤729∧(zbo aa f t i j).length≤729:=by
 obtain⟨d1,d2⟩:=(zcq h8 f).1 t i j hf hi hj h6;have hs:=(zgL aa f).1 t i j;have cZ:=(zgA aa f).1 t i j;have h1:zaE (λ_=>1) (zbo aa f t i j)≤3 ^ (rdV aa i t+rdV aa j t).toNat:=by rw[←zdj,hs];exact d2
 have h2:=Nat.le_trans h1 (zcw h6);refine⟨λp hp=>?_,h1,h2,Nat.le_trans (zft cZ) h2⟩;obtain⟨q,hq,he⟩:=zer (s:=zbo aa f t i j) (s':=za8 aa f t i j) hs hp (cZ p hp);have:=d1 q hq;rw[he]at this;have hm:=zfv (λ_=>1) hp;rw[Nat.mul_one]at hm;exact⟨cZ p hp,by omega,this.2⟩
theorem zwU {aa:List Dat} (h8:∀ D∈aa,D.cons.length≤8) {f:Nat} {ts:List VT} {l m:List IT} (hf:IT.nodesL l+IT.nodesL m+1≤f) (hl:l.length=ts.length) (hm:m.length=ts.length) (hi:0≤rdA aa l ts 0) (hj:0≤rdA aa m ts 0) (h6:rdA aa l ts 0+rdA aa m ts 0≤6) :
  (∀ r∈zcn aa f ts l m,0<r.2∧r.2≤729∧r.1.length=ts.length∧0≤rdA aa r.1 ts 0∧rdA aa r.1 ts 0≤rdA aa l ts 0+rdA aa m ts 0∧IT.nodesL r.1≤IT.nodesL l+IT.nodesL m)∧zaE (λ_=>1) (zcn aa f ts l m)≤3 ^ (rdA aa l ts 0+rdA aa m ts 0).toNat∧zaE (λ_=>1) (zcn aa f ts l m)≤729∧(zcn aa f ts l m).length≤729:=by
 obtain⟨d1,d2⟩:=(zcq h8 f).2.1 ts l m hf hl hm hi hj h6;have hs:=(zgL aa f).2.1 ts l m;have cZ:=(zgA aa f).2.1 ts l m;have h1:zaE (λ_=>1) (zcn aa f ts l m)≤3 ^ (rdA aa l ts 0+rdA aa m ts 0).toNat:=by rw[←zfK,hs];exact d2
 have h2:=Nat.le_trans h1 (zcw h6);refine⟨λp hp=>?_,h1,h2,Nat.le_trans (zft cZ) h2⟩;obtain⟨q,hq,he⟩:=zer (s:=zcn aa f ts l m) (s':=zca aa f ts l m) hs hp (cZ p hp);obtain⟨_,e1,e2,e3,_,_,e6⟩:=d1 q hq;rw[he]at e1 e2 e3 e6;have hm:=zfv (λ_=>1) hp;rw[Nat.mul_one]at hm;exact⟨cZ p hp,by omega,e1,e2,e3,e6⟩
theorem zjb {aa:List Dat} (h8:∀ D∈aa,D.cons.length≤8) {f:Nat} {t:VT} {l m:List IT} (hf:IT.nodesL l+IT.nodesL m+1≤f) (hi:0≤rdE aa l t 0) (hj:0≤rdE aa m t 0) (h6:rdE aa l t 0+rdE aa m t 0≤6) :
  (∀ r∈za3 aa f t l m,0<r.2∧r.2≤729∧0≤rdE aa r.1 t 0∧rdE aa r.1 t 0≤rdE aa l t 0+rdE aa m t 0∧IT.nodesL r.1≤IT.nodesL l+IT.nodesL m)∧zaE (λ_=>1) (za3 aa f t l m)≤3 ^ (rdE aa l t 0+rdE aa m t 0).toNat∧zaE (λ_=>1) (za3 aa f t l m)≤729∧(za3 aa f t l m).length≤729:=by
 obtain⟨d1,d2⟩:=(zcq h8 f).2.2 t l m hf hi hj h6;have hs:=(zgL aa f).2.2 t l m;have cZ:=(zgA aa f).2.2 t l m;have h1:zaE (λ_=>1) (za3 aa f t l m)≤3 ^ (rdE aa l t 0+rdE aa m t 0).toNat:=by have:=hs λ_=>1;rw[zfK]at this;rw[this];exact d2
 have h2:=Nat.le_trans h1 (zcw h6);refine⟨λp hp=>?_,h1,h2,Nat.le_trans (zft cZ) h2⟩;have eh:∀ g:IT→Nat,zaE g ((za3 aa f t l m).map λr=>(IT.mk 0 r.1,r.2))=zaE g (zaP aa f t l m):=λg=>by rw[zfL g (λx=>IT.mk 0 x)];exact hs g
 obtain⟨q,hq,he⟩:=zer eh (p:=(IT.mk 0 p.1,p.2)) (List.mem_map.2 ⟨p,hp,rfl⟩) (cZ p hp);obtain⟨_,_,e2,e3,_,_,e6⟩:=d1 q hq;simp only at he;rw[he]at e2 e3 e6;have hm:=zfv (λ_=>1) hp;rw[Nat.mul_one]at hm;exact⟨cZ p hp,by omega,e2,e3,e6⟩
def zoX (aa:List Dat) (f:Nat):Prop:=∀ (t:VT) (i j:IT),i.nodes+j.nodes≤f→t.nodes≤1000→zaV aa 0 t=true→0≤rdV aa i t→0≤rdV aa j t→rdV aa i t+rdV aa j t≤6→i.nodes+j.nodes≤300 →
 ∀ (H:zaa) (K:Kt),K (.sl (zaL (za8 aa f t i j)) .none) H→ACalls tP zj1 [.sl (aa.map Dat.cs) .none,.agg t.cs,.agg i.cs,.agg j.cs] H K
def zi5 (aa:List Dat) (f:Nat):Prop:=∀ (ts:List VT) (l m:List IT),IT.nodesL l+IT.nodesL m+1≤f→l.length=ts.length→m.length=ts.length→ts.length≤1000→(∀ x∈ts,x.nodes≤1000∧zaV aa 0 x=true)→0≤rdA aa l ts 0→0≤rdA aa m ts 0→rdA aa l ts 0+rdA aa m ts 0≤6→IT.nodesL l+IT.nodesL m≤300 →
 ∀ (H:zaa) (K:Kt),K (.sl (zaK (zca aa f ts l m)) .none) H→ACalls tP zkb [.sl (aa.map Dat.cs) .none,.sl (VT.css ts) .none,.sl (IT.css l) .none,.sl (IT.css m) .none] H K
def zi3 (aa:List Dat) (f:Nat):Prop:=∀ (t:VT) (l m:List IT),IT.nodesL l+IT.nodesL m+1≤f→t.nodes≤1000→zaV aa 0 t=true→t.kind=5→0≤rdE aa l t 0→0≤rdE aa m t 0→rdE aa l t 0+rdE aa m t 0≤6→IT.nodesL l+IT.nodesL m≤300 →
 ∀ (H:zaa) (K:Kt),K (.sl (zaL (zaP aa f t l m)) .none) H→ACalls tP zgw [.sl (aa.map Dat.cs) .none,.agg t.cs,.sl (IT.css l) .none,.sl (IT.css m) .none] H K
theorem zIr {out:List (List IT × Nat)} {ws:List (IT × Nat)} {j:Nat} (h:j<ws.length):zbD out (ws.take (j+1))=zbD out (ws.take j)++out.map λr=>(r.1++[ws[j].1],r.2*ws[j].2):=by rw[List.take_succ_eq_append_getElem h];simp only[zbD,List.flatMap_append,List.flatMap_cons,List.flatMap_nil,List.append_nil]
theorem zy8 (out:List (List IT × Nat)):∀ ws:List (IT × Nat),(zbD out ws).length=ws.length*out.length
 | []=>by simp[zbD]
 | w::ws=>by have:=zy8 out ws;unfold zbD at this ⊢;rw[List.flatMap_cons,List.length_append,this,List.length_map,List.length_cons,Nat.succ_mul];omega
theorem zHw {aa:List Dat} (h8:∀ D∈aa,D.cons.length≤8) {f:Nat} (hM:zoX aa f):zi5 aa (f+1):=by
 intro ts l m hf hl hm mu cT hA hB h6 hn H K hK;rw[zhH]at hK;refine ACalls.out (zXb λhs=>?_);have eU:AV.sl ([[.sl [] .none]++zai 1]) .full=.sl (zaK (zbU aa f ts l m 0)) .full:=by simp[zif,zaK,IT.css]
 simp[zES,Nat.add_assoc];refine zfa 1 (by omega) _ _ ?_;simp[zaq,zaI,zau,zaQ,plain,AV.pd,AV.known,zcI,Nat.add_assoc];have eU:([[AV.sl [] .none]++zai 1]:List (List AV))=zaK (zbU aa f ts l m 0):=by simp[zif,zaK,IT.css]
 have du:([AV.sl [] .none::zai 1]:List (List AV))=zaK (zbU aa f ts l m 0):=eU;rw[du];refine zW8 (Inv:=λq t9 t21 H'=>∃ (k:Nat) (J:zaa) (tok:Tok),k≤ts.length∧ts.length-k=q∧t21=.int .i64 k∧t9=.sl (zaK (zbU aa f ts l m k)) tok∧H'=H++J) ts.length ?_ ?_
 ·intro _;exact⟨0,[],.full,by omega,rfl,rfl,rfl,by simp⟩
 ·rintro q t9 t21 H' ⟨k,J,tok,hk,rfl,rfl,rfl,rfl⟩ aJ am aM Kb au;have gn:=zy3 (f:=f) h8 (by omega) hl hm hA hB h6 k hk;obtain⟨out,bj⟩:∃ out,out=zbU aa f ts l m k:=⟨_,rfl⟩;rw[←bj]at gn aM ⊢;obtain⟨b1,b2⟩:=gn;by_cases ak:k<ts.length
  ·have h3:k<l.length:=by omega
   have h4:k<m.length:=by omega
   obtain⟨x1,x2,x3,aC,bC,bg,bz⟩:=zbs ts[k];obtain⟨y1,y2,fh,hy1,fB⟩:=zck l[k];obtain⟨z1,z2,kA,md,ml⟩:=zck m[k];have n1:=zdQ h3;have n2:=zdQ h4;have d1:=(zeZ (aa:=aa) l ts 0 (by omega) hl hA).1 k h3 ak;have d2:=(zeZ (aa:=aa) m ts 0 (by omega) hm hB).1 k h4 ak;have a1:=zcx l ts 0 k hl (by omega) hA;have a2:=zcx l ts 0 (k+1) hl (by omega) hA;have c1:=zcx m ts 0 k hm (by omega) hB;have c2:=zcx m ts 0 (k+1) hm (by omega) hB;have sl:=ze0 (aa:=aa) l[k] ts[k] (l.take k) (ts.take k) 0 (by simp;omega) (by omega) a1.1;have sm:=ze0 (aa:=aa) m[k] ts[k] (m.take k) (ts.take k) 0 (by simp;omega) (by omega) c1.1;rw[←List.take_succ_eq_append_getElem h3,←List.take_succ_eq_append_getElem ak]at sl;rw[←List.take_succ_eq_append_getElem h4,←List.take_succ_eq_append_getElem ak]at sm;have dd:rdV aa l[k] ts[k]+rdV aa m[k] ts[k]≤6:=by
    by_cases cl:rdV aa l[k] ts[k]<0∨rdA aa (l.take k) (ts.take k) 0+rdV aa l[k] ts[k]>6
    ·rw[if_pos cl]at sl;omega
    ·rw[if_neg cl]at sl;by_cases cm:rdV aa m[k] ts[k]<0∨rdA aa (m.take k) (ts.take k) 0+rdV aa m[k] ts[k]>6
     ·rw[if_pos cm]at sm;omega
     ·rw[if_neg cm]at sm;omega
   obtain⟨eS,fS⟩:=cT _ (List.getElem_mem ak);obtain⟨ws,fN⟩:∃ ws,ws=za8 aa f ts[k] l[k] m[k]:=⟨_,rfl⟩;obtain⟨p1,p2⟩:=(zcq h8 f).1 ts[k] l[k] m[k] (by omega) d1 d2 dd;rw[←fN]at p1 p2;have p3:zaG (λ_=>1) ws≤729:=Nat.le_trans p2 (zcw dd);have p4:ws.length≤729:=Nat.le_trans (zep λp hp=>(p1 p hp).1) p3;have aX:zbU aa f ts l m (k+1)=zbD out ws:=by rw[zgE,←bj];simp[List.getD_eq_getElem?_getD,ak,h3,h4,fN]
   simp[zvA,ak,h3,h4,aC,fh,kA,Nat.add_assoc];rw[←aC,←fh,←kA];refine zaB (.sl (zaL ws) .none) (λJ=>by rw[fN];exact hM ts[k] l[k] m[k] (by omega) eS fS d1 d2 dd (by omega) _ _ ⟨rfl,rfl⟩) ?_;simp[Nat.add_assoc];unfold zou;refine ALoop.own 11 zdw 4 rfl ?_;generalize mv:H++J=HB at *;show zou _ _ _ _ _ (.sl (zaK (zbD out (ws.take 0))) (.own HB.length)) _ _ _ _ _ (HB++[.perm zdw 4 0]) _ _;have kB:∀ n,HSc (HB++[.perm zdw 4 n]):=λn=>aJ.append (by simp[AB.sc]);have eH:∀ J,(AV.sl (zaK out) tok).sc (HB++J).length=true:=λJ=>by
    have h0:(AV.sl (zaK out) tok).sc HB.length=true:=by rw[List.all_eq_true]at aM;exact aM _ (by simp[ziW,ux])
    exact zcg (by simp) h0
   refine zW9 (Inv:=λq t11 t39 H'=>∃ j:Nat,j≤ws.length∧ws.length-j=q∧t39=.int .i64 j∧t11=.sl (zaK (zbD out (ws.take j))) (.own HB.length)∧H'=HB++[.perm zdw 4 (zbD out (ws.take j)).length]) ws.length ?_ ?_
   ·intro _;exact⟨0,by omega,rfl,rfl,rfl,by simp[zbD]⟩
   ·rintro q t11 t39 H' ⟨j,hj,rfl,rfl,rfl,rfl⟩ hsc7 hlen7 hsF7 Kb7 gp;have dD:(zbD out (ws.take j)).length≤729*729:=by rw[zy8];exact Nat.mul_le_mul (by simp;omega) b2
    by_cases aQ:j<ws.length
    ·obtain⟨w1,w2,w3,w4,w5,w6⟩:=p1 ws[j] (List.getElem_mem aQ);have w7:=zd3 (List.getElem_mem aQ);obtain⟨u1,u2,hvu,hu1,ma⟩:=zck ws[j].1;have aq:=zIr (out:=out) aQ;have tk5:List.take 5 (tmC ws[j])=tmC ws[j]:=List.take_of_length_le (by simp);have tk2:List.take 2 (tmC ws[j])=ws[j].1.cs:=by rw[tmC,List.take_left' (by simp)]
     have tk3:List.take 3 (List.drop 2 (tmC ws[j]))=zai (ws[j].2:Int):=by rw[tmC,List.drop_left' (by simp),List.take_of_length_le (by simp[zai])]
     have tkn:∀ x∈tmC ws[j],x.known=true:=List.all_eq_true.1 (by rw[tmC,List.all_append,IT.cs_known,zeY];rfl);have tsc:∀ n,(tmC ws[j]).all (AV.scA n)=true:=λn=>by rw[tmC,List.all_append,IT.cs_scA,zgB];rfl
     simp[zvB,aQ,tk5,Nat.add_assoc];refine⟨tkn,?_⟩;have ip:∀ n,HSc (HB++[.perm zdw 4 n,.cells (tmC ws[j])]):=λn=>aJ.append (by simp only[AB.sc,List.all_cons,List.all_nil,tsc];rfl);obtain⟨ah,dm⟩:∃ ah,ah=zbD out (ws.take j):=⟨_,rfl⟩;rw[←dm]at dD aq ⊢;obtain⟨g,hg⟩:∃ g:List IT × Nat→List IT × Nat,g=λr=>(r.1++[ws[j].1],r.2*ws[j].2):=⟨_,rfl⟩;rw[←hg]at aq;refine zW7 (Inv:=λq t11 t45 H'=>∃ i:Nat,i≤out.length∧out.length-i=q∧t45=.int .i64 i∧t11=.sl (zaK (ah++(out.take i).map g)) (.own HB.length)∧H'=HB++[.perm zdw 4 (ah.length+i),.cells (tmC ws[j])]) out.length ?_ ?_
     ·intro _;exact⟨0,by omega,rfl,rfl,by simp,rfl⟩
     ·rintro q t11 t45 H' ⟨i,hi,rfl,rfl,rfl,rfl⟩ hsc10 cU hsF10 Kb10 e8;have dX:(ah++(out.take i).map g).length=ah.length+i:=by simp;omega
      by_cases be:i<out.length
      ·obtain⟨r1,r2,r3⟩:=b1 out[i] (List.getElem_mem be);have cD:ah++(out.take (i+1)).map g=(ah++(out.take i).map g)++[g out[i]]:=by rw[List.take_succ_eq_append_getElem be];simp only[List.map_append,List.map_cons,List.map_nil,List.append_assoc]
       have bm:=IT.len_le out[i].1;simp[zvz,be,tk2,tk3,Nat.add_assoc];have fa:Sm (ws[j].2:Int):=zcb (Nat.lt_of_le_of_lt (show ws[j].2≤729 by omega) (by decide));have du:Sm (out[i].2:Int):=zcb (Nat.lt_of_le_of_lt r2 (by decide));have kC:∀ (a:List IT) (x:IT),IT.css a++[x.cs]=IT.css (a++[x]):=λa x=>by rw[IT.css_map,IT.css_map,List.map_append];rfl
       simp only[zav,zaM,zaJ];have c7:∀ (a:List IT),∀ c∈IT.css a,c.length=2:=λa c hc=>by rw[IT.css_map]at hc;obtain⟨v,_,rfl⟩:=List.mem_map.1 hc;simp
       refine⟨c7 _,?_⟩;simp[tk2,tk3,zau,zaQ,plain,AV.pd,zic,List.set_append_right,kC,Nat.add_assoc];refine⟨⟨by omega,by omega⟩,⟨by omega,by omega⟩,?_⟩;refine zaB (.agg (zai ((out[i].2*ws[j].2:Nat):Int))) (λJ=>ziI _ _ du fa _ _ ⟨by rw[Int.natCast_mul],rfl⟩) ?_;have bH:plain (AV.sl (IT.css (out[i].1++[ws[j].1])) (.own (HB.length+3))::zai ((out[i].2*ws[j].2:Nat):Int))=some (.sl (IT.css (out[i].1++[ws[j].1])) .none::zai ((out[i].2*ws[j].2:Nat):Int)):=by simp[plain,AV.pd,zcI]
       have gq:zaK (ah++(out.take i).map g)++[.sl (IT.css (out[i].1++[ws[j].1])) .none::zai ((out[i].2*ws[j].2:Nat):Int)]=zaK (ah++(out.take (i+1)).map g):=by rw[cD,zkz _ [g out[i]],hg];rfl
       rw[Int.natCast_mul]at bH gq;simp only[List.map_take]at gq;have cn:min i out.length=i:=by omega
       simp[zaq,zaI,bH,wi i (by omega),cn];refine⟨⟨by omega,by omega⟩,?_⟩;rw[gq];exact e8 _ _ ⟨out.length-(i+1),by omega,Back.at (J:=[.cells (.sl (IT.css out[i].1) .none::zai (out[i].2:Int)),.perm zbf 2 (out[i].1.length+1)]) (H2:=HB++[.perm zdw 4 (ah.length+(i+1)),.cells (tmC ws[j])]) (by simp) (by simp) (ip _) (by
        have:=eH [.perm zdw 4 (ah.length+(i+1)),.cells (tmC ws[j])];simp only[zos,ux,List.all_cons,List.all_append,List.all_replicate,List.all_nil,this];simp[AV.sc,AV.scA,AV.scB,AV.scV]) ⟨_,_,rfl,i+1,by omega,rfl,rfl,by simp only[List.map_take],rfl⟩⟩
      ·obtain rfl:i=out.length:=by omega
       rw[List.take_length,←aq];simp[zvz,wi j (by omega)];have cU:ah.length+out.length=(zbD out (ws.take (j+1))).length:=by rw[aq];simp
       exact gp _ _ ⟨ws.length-(j+1),by omega,Back.at (J:=[.cells (tmC ws[j])]) (H2:=HB++[.perm zdw 4 (zbD out (ws.take (j+1))).length]) (by rw[←cU];simp) (by simp) (kB _) (by
        have:=eH [.perm zdw 4 (zbD out (ws.take (j+1))).length];simp only[zot,ux,List.all_cons,List.all_append,List.all_replicate,List.all_nil,this];simp[AV.sc,AV.scA,AV.scB,AV.scV]) ⟨_,_,rfl,j+1,by omega,rfl,rfl,rfl,rfl⟩⟩
    ·obtain rfl:j=ws.length:=by omega
     rw[List.take_length]at dD ⊢;simp[zvB,wi k (by omega)];exact au _ _ ⟨ts.length-(k+1),by omega,Back.here (by simp;omega) (kB _) (by simp[ziW,ux,AV.sc,AV.scA,AV.scB,AV.scV]) ⟨_,_,rfl,k+1,J++[.perm zdw 4 (zbD out ws).length],.own HB.length,by omega,rfl,rfl,by rw[aX],by rw[←mv];simp⟩⟩
  ·obtain rfl:k=ts.length:=by omega
   rw[←bj]at hK;simp[zvA];exact Out.at (b:=.sl (zaK out) .none) rfl (Nat.le_refl _) hs (.atom (.sl _ _)) rfl rfl hK
def Gd (s:List (IT × Nat)):Prop:=∀ p∈s,p.1.nodes≤1000∧0<p.2
theorem Gd.add {s:List (IT × Nat)} (h:Gd s) {i:IT} (hi:i.nodes≤1000) (c:Nat):Gd (zba s i c):=by
 intro p hp;rcases zo7 p hp with ⟨q,hq,he,aS⟩ | ⟨h0,he,aS⟩
 ·have:=h q hq;rw[←he];omega
 ·rw[he];omega
theorem Gd.nil:Gd []:=λp hp=>by simp at hp
theorem zfk {s:List (IT × Nat)} (hG:Gd s) (hN:zaG (λ_=>1) s≤100000) (i:IT) (hi:i.nodes≤1000) (c:Nat) (hc:c≤100000) (id:Nat) (H:zaa) (K:Kt)
  (ap:H[id]?=some (.vec zax 5 s.length (tms s))) (hK:K (.ov id (zba s i c).length) (H.set id (.vec zax 5 (zba s i c).length (tms (zba s i c))))) :
  ACalls tP zdh [.ov id s.length,.agg i.cs,.agg (zai (c:Int))] H K:=by
 have hl:=zep (λp hp=>(hG p hp).2);refine zVC s i c hi (λp hp=>⟨(hG p hp).1,(hG p hp).2,?_⟩) (Nat.lt_of_le_of_lt hc (by decide)) (by omega) id H K ap hK;exact Nat.lt_of_le_of_lt (Nat.le_trans (zd3 hp) hN) (by decide)
theorem zdr {s:List (IT × Nat)} {β:Type} (h:β→IT × Nat) (L:List β) {j:Nat} (hj:j<L.length):zaD s ((L.take (j+1)).map h)=zba (zaD s ((L.take j).map h)) (h L[j]).1 (h L[j]).2:=by rw[List.take_succ_eq_append_getElem hj,List.map_append,List.map_cons,List.map_nil,zFR]
theorem zeh (s L:List (IT × Nat)):zaG (λ_=>1) (zaD s L)=zaG (λ_=>1) s+zaG (λ_=>1) L:=zcA _ _ _
theorem zo9 (i:IT) (hi:i.nodes≤1000) (H0:zaa) (B:zaa) (hs:HSc H0) (K:Kt) (hK:K (.sl (zaL [(i,1)]) .none) H0) :
  ACalls tP zdh [.snil,.agg i.cs,.agg (zai 1)] (H0++B) (λr H=>Out H0.length K r H):=by
 refine ACalls.vecA (us:=[.agg i.cs,.agg (zai 1)]) zax 5 ?_;have:=zfk (s:=[]) Gd.nil (by simp) i hi 1 (by omega) (H0++B).length (H0++B++[.vec zax 5 0 []]) (λr H=>Out H0.length K r H) (by simp[tms]) ?_
 ·simpa using this
 ·have e:zba [] i 1=[(i,1)]:=by simp[zba,zbR]
  rw[e];have e2:(H0++B++[AB.vec zax 5 0 []]).set (H0++B).length (.vec zax 5 [(i,1)].length (tms [(i,1)]))=H0++(B++[.vec zax 5 [(i,1)].length (tms [(i,1)])]):=by rw[List.set_append_right _ _ (Nat.le_refl _)];simp
  rw[e2];exact zkm [(i,1)] (H0++B).length (by simp) (by rw[←List.append_assoc];simp) hs hK
theorem zh6:∀ x:IT,x.nodes=IT.nodesL (zaH x)+1
 | .mk _ _=>rfl
theorem zgK (h:IT→IT) (L:List (IT × Nat)):zaG (λ_=>1) (L.map λw=>(h w.1,w.2))=zaG (λ_=>1) L:=by rw[zim _ (λ_=>1) h 1 (λx=>by simp),Nat.one_mul]
theorem zc8 (p:IT × Nat):List.take 5 (tmC p)=tmC p:=List.take_of_length_le (by simp)
theorem zcB (p:IT × Nat):List.take 2 (tmC p)=p.1.cs:=by rw[tmC,List.take_left' (by simp)]
theorem zcJ (p:IT × Nat):List.take 3 (List.drop 2 (tmC p))=zai (p.2:Int):=by rw[tmC,List.drop_left' (by simp),List.take_of_length_le (by simp[zai])]
theorem zd7 (p:IT × Nat):∀ x∈tmC p,x.known=true:=List.all_eq_true.1 (by rw[tmC,List.all_append,IT.cs_known,zeY];rfl)
def hpM (H:zaa) (tn:Int) (tks:List VT) (s:List (IT × Nat)):zaa:=H++[.cells [.int .i64 5,.int .i64 tn,.sl (VT.css tks) .none],.vec zax 5 s.length (tms s)]
theorem zji {H:zaa} (hs:HSc H) {tn:Int} {tks:List VT} {s:List (IT × Nat)}:HSc (hpM H tn tks s):=
 hs.append (by simp only[AB.sc,List.all_cons,List.all_nil,zgQ];simp[AV.scA,AV.scB])
theorem zpN {H:zaa} {tn:Int} {tks:List VT} {s s':List (IT × Nat)} {J:zaa}:(hpM H tn tks s++J).set (H.length+1) (.vec zax 5 s'.length (tms s'))=hpM H tn tks s'++J:=by simp[hpM,List.set_append]
theorem zpM {H:zaa} {tn:Int} {tks:List VT} {s:List (IT × Nat)} {J:zaa}:(hpM H tn tks s++J)[H.length+1]?=some (.vec zax 5 s.length (tms s)):=by simp[hpM,List.getElem?_append]
@[simp] theorem zG2 {H:zaa} {tn:Int} {tks:List VT} {s:List (IT × Nat)}:(hpM H tn tks s).length=H.length+2:=by simp[hpM]
@[simp] theorem ybx {H:zaa} {tn:Int} {tks:List VT} {s:List (IT × Nat)} {c:AB} {J:zaa}:(hpM H tn tks s++c::J)[H.length+2]?=some c:=by rw[←zG2 (H:=H) (tn:=tn) (tks:=tks) (s:=s)];simp
@[simp] theorem ybv {H:zaa} {tn:Int} {tks:List VT} {s:List (IT × Nat)} {J:zaa}:(hpM H tn tks s++J)[H.length]?=some (.cells [.int .i64 5,.int .i64 tn,.sl (VT.css tks) .none]):=by simp[hpM,List.getElem?_append]
@[simp] theorem ybw {H:zaa} {tn:Int} {tks:List VT} {s:List (IT × Nat)}:(hpM H tn tks s)[H.length]?=some (.cells [.int .i64 5,.int .i64 tn,.sl (VT.css tks) .none]):=by simp[hpM,List.getElem?_append]
@[simp] theorem yby {H:zaa} {tn:Int} {tks:List VT} {s:List (IT × Nat)} (h:H.length<(hpM H tn tks s).length):(hpM H tn tks s)[H.length]=.cells [.int .i64 5,.int .i64 tn,.sl (VT.css tks) .none]:=by simp[hpM,List.getElem_append]
theorem zrE (g:List IT→Nat):∀ (l:List (List IT × Nat)) (k:Nat),zbd g (l.take k)≤zbd g l
 | l,0=>by simp
 | [],k+1=>by simp
 | r::l,k+1=>by have:=zrE g l k;simp only[List.take_succ_cons,zfN];omega
theorem zzJ (ca:Int) (C:List (IT × Nat)):∀ R:List (List IT × Nat),zaG (λ_=>1) (R.flatMap λr=>C.map λw=>(bef (.mk ca r.1) w.1,r.2*w.2))=zbd (λ_=>1) R*zaG (λ_=>1) C
 | []=>by simp
 | r::R=>by rw[List.flatMap_cons,zil,zzJ ca C R,zkE,zgK (bef (.mk ca r.1)),zfN,Nat.add_mul];simp
theorem zFQ (s a b:List (IT × Nat)):zaD s (a++b)=zaD (zaD s a) b:=by simp[zaD]
theorem zwu {s:List (IT × Nat)} (F:List IT × Nat→List (IT × Nat)) (R:List (List IT × Nat)) {j:Nat} (hj:j<R.length):zaD s ((R.take (j+1)).flatMap F)=zaD (zaD s ((R.take j).flatMap F)) (F R[j]):=by rw[List.take_succ_eq_append_getElem hj,List.flatMap_append,zFQ,List.flatMap_cons,List.flatMap_nil,List.append_nil]
theorem zHn {aa:List Dat} (hk:zbv aa) (h8:∀ D∈aa,D.cons.length≤8) (hD:zbq aa=true) {f:Nat} (hQ:zi5 aa f) (hM:zi3 aa f):zi3 aa (f+1):=by
 intro t l m hf dR cT jo hl hm h6 hn H K hK;obtain⟨k,tn,tks⟩:=t;simp only[VT.kind]at jo;subst jo;refine ACalls.out (zXx λhs=>?_);have bS:(VT.mk 5 tn tks).cs=[.int .i64 5,.int .i64 tn,.sl (VT.css tks) .none]:=rfl;cases l with
 | nil=>
  have e:zaP aa (f+1) (.mk 5 tn tks) [] m=[(.mk 0 m,1)]:=by rw[zaP]
  rw[e]at hK;simp[zoz,IT.css,zaq,zaI,zcs,AV.known,bS,Nat.add_assoc];refine zfa 1 (by omega) _ _ ?_;exact zo9 (.mk 0 m) (by simp only[IT.nodes,IT.nodesL]at hn ⊢;omega) H [_] hs K hK
 | cons a l=>
  cases m with
  | nil=>
   have e:zaP aa (f+1) (.mk 5 tn tks) (a::l) []=[(.mk 0 (a::l),1)]:=by rw[zaP]
   rw[e]at hK;have hb:(((l.length:Int)+1) == 0)=false:=by simp;omega
   simp[zoz,zaq,zaI,zcs,AV.known,bS,hb,Nat.add_assoc];refine zfa 1 (by omega) _ _ ?_;exact zo9 (.mk 0 (a::l)) (by simp only[IT.nodes,IT.nodesL]at hn ⊢;omega) H [_] hs K hK
  | cons b m=>
   obtain⟨ca,pa⟩:=a;obtain⟨cb,pb⟩:=b;obtain⟨la,ll,el⟩:=zgC h8 _ _ l hl;obtain⟨mb,mm,em⟩:=zgC h8 _ _ m hm;obtain⟨ca0,ca8,psa,dW,ik,jm,ea⟩:=zfF la;obtain⟨cb0,cb8,psb,iJ,cv,jn,eb⟩:=zfF mb;have na:=(IT.mk ca pa).nodes_pos;have nb:=(IT.mk cb pb).nodes_pos;simp only[IT.nodesL]at hf hn;obtain⟨A,hA⟩:∃ A,A=zaP aa f (.mk 5 tn tks) l (.mk cb pb::m):=⟨_,rfl⟩;obtain⟨B,hB⟩:∃ B,B=zaP aa f (.mk 5 tn tks) (.mk ca pa::l) m:=⟨_,rfl⟩;obtain⟨C,hC⟩:∃ C,C=zaP aa f (.mk 5 tn tks) l m:=⟨_,rfl⟩;obtain⟨A1,A2⟩:=(zcq h8 f).2.2 (.mk 5 tn tks) l (.mk cb pb::m) (by simp only[IT.nodesL];omega) ll hm (by omega);obtain⟨B1,B2⟩:=(zcq h8 f).2.2 (.mk 5 tn tks) (.mk ca pa::l) m (by simp only[IT.nodesL];omega) hl mm (by omega);obtain⟨C1,C2⟩:=(zcq h8 f).2.2 (.mk 5 tn tks) l m (by omega) ll mm (by omega);rw[←hA]at A1 A2;rw[←hB]at B1 B2;rw[←hC]at C1 C2;simp only[IT.nodesL]at A1 B1
   replace A2:=Nat.le_trans A2 (zcw (by omega))
   replace B2:=Nat.le_trans B2 (zcw (by omega))
   replace C2:=Nat.le_trans C2 (zcw (by omega))
   have Al:=zep λp hp=>(A1 p hp).1;have Bl:=zep λp hp=>(B1 p hp).1;have Cl:=zep λp hp=>(C1 p hp).1;have bm:=IT.len_le l;have hml:=IT.len_le m;have bI:(((l.length:Int)+1) == 0)=false:=by simp;omega
   have bq:(((m.length:Int)+1) == 0)=false:=by simp;omega
   have iq:∀ (x:List IT),∀ c∈IT.css x,c.length=2:=λx c hc=>by rw[IT.css_map]at hc;obtain⟨v,_,rfl⟩:=List.mem_map.1 hc;simp
   have mw:∀ j≤A.length,Gd (zaD [] ((A.take j).map λw=>(bef (.mk ca pa) w.1,w.2))):=by
    intro j;induction j with
    | zero=>intro _;exact Gd.nil
    | succ j ih=>intro hj;rw[zdr _ _ (show j<A.length by omega)];have:=(A1 A[j] (List.getElem_mem (by omega))).2.2.2.2.2.2;exact (ih (by omega)).add (by simp only[bef,IT.nodes,IT.nodesL]at this ⊢;simp only[IT.nodes]at hn;omega) _
   have tl1:(List.take (l.length+1) (IT.css (.mk ca pa::l))).tail=IT.css l:=by simp[IT.css,List.take_of_length_le]
   have tl2:(List.take (m.length+1) (IT.css (.mk cb pb::m))).tail=IT.css m:=by simp[IT.css,List.take_of_length_le]
   have gF:∀ (e:IT) (w:IT),IT.nodesL (zaH w)≤320→e.nodes≤320→(bef e w).nodes≤1000:=λe w h1 h2=>by simp only[bef,IT.nodes,IT.nodesL];omega
   simp[zoz,zaq,zaI,zcs,AV.known,bS,bI,bq,Nat.add_assoc];refine⟨iq _,?_⟩;rw[tl1,←bS];refine zaB (.sl (zaL A) .none) (λJ=>by rw[hA];exact hM _ l (.mk cb pb::m) (by simp only[IT.nodesL];omega) dR cT rfl ll hm (by omega) (by simp only[IT.nodesL];omega) _ _ ⟨rfl,rfl⟩) ?_;simp[Nat.add_assoc];unfold zoF;refine ALoop.vec 9 zax 5 rfl ?_;have bL:(H++[AB.cells (VT.mk 5 tn tks).cs]).length=H.length+1:=by simp
   rw[bL,List.append_assoc];show zoF _ _ _ _ (.ov (H.length+1) (zaD [] ((A.take 0).map λw=>(bef (.mk ca pa) w.1,w.2))).length) _ _ _ (hpM H tn tks (zaD [] ((A.take 0).map λw=>(bef (.mk ca pa) w.1,w.2)))) _;refine zXt (Inv:=λq t9 t44 H'=>∃ j:Nat,j≤A.length∧A.length-j=q∧t44=.int .i64 j∧t9=.ov (H.length+1) (zaD [] ((A.take j).map λw=>(bef (.mk ca pa) w.1,w.2))).length∧H'=hpM H tn tks (zaD [] ((A.take j).map λw=>(bef (.mk ca pa) w.1,w.2)))) A.length ?_ ?_
   ·intro _;exact⟨0,by omega,rfl,rfl,rfl,rfl⟩
   ·rintro q t9 t44 H' ⟨j,hj,rfl,rfl,rfl,rfl⟩ hsc7 hlen7 hsF7 Kb7 gp;by_cases aQ:j<A.length
    ·have hw:=A1 A[j] (List.getElem_mem aQ);have my:=zd3 (List.getElem_mem aQ);have aq:=zdr (s:=[]) (λw:IT × Nat=>(bef (.mk ca pa) w.1,w.2)) A aQ;have kD:zaG (λ_=>1) (zaD [] ((A.take j).map λw=>(bef (.mk ca pa) w.1,w.2)))≤729:=by rw[zeh,zcT,Nat.zero_add,zgK];exact Nat.le_trans (zgJ _ _ _) A2
     have hG:=mw j (by omega);generalize iL:zaD [] ((A.take j).map λw=>(bef (.mk ca pa) w.1,w.2))=s at *;simp[zvJ,aQ,zc8,zcB,zcJ,wi j (by omega)];refine⟨zd7 _,?_⟩;have kE:(bef (.mk ca pa) A[j].1).nodes≤1000:=gF _ _ (by omega) (by omega);have kF:A[j].1.nodes≤1000:=by have:=hw.2.2.2.2.2.2;have:=zh6 A[j].1;omega
     refine zaB (.agg (bef (.mk ca pa) A[j].1).cs) (λJ=>zph _ _ kF _ _ ⟨rfl,rfl⟩) ?_;refine zfk hG (by omega) (bef (.mk ca pa) A[j].1) kE A[j].2 (by omega) (H.length+1) _ _ zpM ?_;rw[zpN];exact gp _ _ ⟨A.length-(j+1),by omega,Back.at (J:=[.cells (tmC A[j])]) (H2:=hpM H tn tks (zba s (bef (.mk ca pa) A[j].1) A[j].2)) rfl (by simp) (zji hs) (by simp[zoE,ux,AV.sc,AV.scA,AV.scB,AV.scV]) ⟨_,_,rfl,j+1,by omega,rfl,rfl,by rw[aq],by rw[aq]⟩⟩
    ·obtain rfl:j=A.length:=by omega
     rw[List.take_length];obtain⟨s1,a7⟩:∃ s1,s1=zaD [] (A.map λw=>(bef (.mk ca pa) w.1,w.2)):=⟨_,rfl⟩;have hG1:Gd s1:=by have:=mw A.length (Nat.le_refl _);rw[List.take_length,←a7]at this;exact this
     have hN1:zaG (λ_=>1) s1≤729:=by rw[a7,zeh,zcT,Nat.zero_add,zgK];exact A2
     rw[←a7];have hsB:∀ j≤B.length,Gd (zaD s1 ((B.take j).map λw=>(bef (.mk cb pb) w.1,w.2))):=by
      intro j;induction j with
      | zero=>intro _;exact hG1
      | succ j ih=>intro hj;rw[zdr _ _ (show j<B.length by omega)];have:=(B1 B[j] (List.getElem_mem (by omega))).2.2.2.2.2.2;exact (ih (by omega)).add (gF _ _ (by omega) (by omega)) _
     simp[zvJ,Nat.add_assoc];refine⟨iq _,?_⟩;rw[tl2,←bS];refine zaB (.sl (zaL B) .none) (λJ=>by rw[hB];exact hM _ (.mk ca pa::l) m (by simp only[IT.nodesL];omega) dR cT rfl hl mm (by omega) (by simp only[IT.nodesL];omega) _ _ ⟨rfl,rfl⟩) ?_;simp[Nat.add_assoc];show zvL _ _ _ _ (.ov (H.length+1) (zaD s1 ((B.take 0).map λw=>(bef (.mk cb pb) w.1,w.2))).length) _ _ _ (hpM H tn tks (zaD s1 ((B.take 0).map λw=>(bef (.mk cb pb) w.1,w.2)))) _;refine zXq (Inv:=λq t9 t66 H'=>∃ j:Nat,j≤B.length∧B.length-j=q∧t66=.int .i64 j∧t9=.ov (H.length+1) (zaD s1 ((B.take j).map λw=>(bef (.mk cb pb) w.1,w.2))).length∧H'=hpM H tn tks (zaD s1 ((B.take j).map λw=>(bef (.mk cb pb) w.1,w.2)))) B.length ?_ ?_
     ·intro _;exact⟨0,by omega,rfl,rfl,rfl,rfl⟩
     ·rintro q t9 t66 H' ⟨j,hj,rfl,rfl,rfl,rfl⟩ hsc12 hlen12 hsF12 Kb12 hKb12;by_cases aQ:j<B.length
      ·have hw:=B1 B[j] (List.getElem_mem aQ);have my:=zd3 (List.getElem_mem aQ);have aq:=zdr (s:=s1) (λw:IT × Nat=>(bef (.mk cb pb) w.1,w.2)) B aQ;have kD:zaG (λ_=>1) (zaD s1 ((B.take j).map λw=>(bef (.mk cb pb) w.1,w.2)))≤1500:=by rw[zeh,zgK];have:=zgJ (λ_=>1) B j;omega
       have hG:=hsB j (by omega);generalize iL:zaD s1 ((B.take j).map λw=>(bef (.mk cb pb) w.1,w.2))=s at *;simp[zoA,aQ,zc8,zcB,zcJ,wi j (by omega)];refine⟨zd7 _,?_⟩;have kE:(bef (.mk cb pb) B[j].1).nodes≤1000:=gF _ _ (by omega) (by omega);have kF:B[j].1.nodes≤1000:=by have:=hw.2.2.2.2.2.2;have:=zh6 B[j].1;omega
       refine zaB (.agg (bef (.mk cb pb) B[j].1).cs) (λJ=>zph _ _ kF _ _ ⟨rfl,rfl⟩) ?_;refine zfk hG (by omega) (bef (.mk cb pb) B[j].1) kE B[j].2 (by omega) (H.length+1) _ _ zpM ?_;rw[zpN];exact hKb12 _ _ ⟨B.length-(j+1),by omega,Back.at (J:=[.cells (tmC B[j])]) (H2:=hpM H tn tks (zba s (bef (.mk cb pb) B[j].1) B[j].2)) rfl (by simp) (zji hs) (by simp[zoB,ux,AV.sc,AV.scA,AV.scB,AV.scV]) ⟨_,_,rfl,j+1,by omega,rfl,rfl,by rw[aq],by rw[aq]⟩⟩
      ·obtain rfl:j=B.length:=by omega
       rw[List.take_length];obtain⟨s2,br⟩:∃ s2,s2=zaD s1 (B.map λw=>(bef (.mk cb pb) w.1,w.2)):=⟨_,rfl⟩;have hG2:Gd s2:=by have:=hsB B.length (Nat.le_refl _);rw[List.take_length,←br]at this;exact this
       have hN2:zaG (λ_=>1) s2≤1500:=by rw[br,zeh,zgK];omega
       rw[←br];have bj:∀ (s:List (IT × Nat)) (J:zaa),s=zaP aa (f+1) (.mk 5 tn tks) (.mk ca pa::l) (.mk cb pb::m)→Out H.length K (.ov (H.length+1) s.length) (hpM H tn tks s++J):=by intro s J eh;subst eh;have:=zkm (H:=H) (J:=[.cells [.int .i64 5,.int .i64 tn,.sl (VT.css tks) .none],.vec zax 5 (zaP aa (f+1) (.mk 5 tn tks) (.mk ca pa::l) (.mk cb pb::m)).length (tms (zaP aa (f+1) (.mk 5 tn tks) (.mk ca pa::l) (.mk cb pb::m)))]++J) (K:=K) (zaP aa (f+1) (.mk 5 tn tks) (.mk ca pa::l) (.mk cb pb::m)) (H.length+1) (by omega) (by simp[List.getElem?_append]) hs hK;simpa[hpM]using this
       by_cases bb:ca=cb
       ·subst bb;have c5:zaP aa (f+1) (.mk 5 tn tks) (.mk ca pa::l) (.mk ca pb::m)=zaD s2 ((zca aa f ((za9 aa (.mk 5 tn tks) ca).getD []) pa pb).flatMap λr=>C.map λw=>(bef (.mk ca r.1) w.1,r.2*w.2)):=by rw[zaP,if_neg (by simp[zaS]),br,a7,hA,hB,hC];rfl
        rw[dW]at iJ;cases iJ;obtain⟨lf,gu⟩:∃ lf,zbj aa (.mk 5 tn tks) ca=some lf:=by
         cases gu:zbj aa (.mk 5 tn tks) ca with
         | none=>simp[za9,gu]at dW
         | some lf=>exact⟨lf,rfl⟩
        obtain⟨bs,kj,hlb2,jN,cz,cj,_⟩:=zrd hk gu;rw[dW]at cz;have dB:psa=pick lf bs:=Option.some.inj cz;have hpsl:psa.length≤8:=by rw[dB];have:=zh9 lf bs;omega
        have jp:∀ x∈psa,x.nodes≤1000∧zaV aa 0 x=true:=λx hx=>by rw[dB]at hx;have hm:=zgz hx;have:=cj x hm;exact⟨by omega,zpC hD (zAb cT) gu _ hm⟩
        obtain⟨R,hR⟩:∃ R,R=zca aa f psa pa pb:=⟨_,rfl⟩;obtain⟨R1,R2⟩:=(zcq h8 f).2.1 psa pa pb (by simp only[IT.nodes]at hf;omega) ik.symm cv.symm jm jn (by omega);rw[←hR]at R1 R2;have C3:=((zcq h8 f).2.2 (.mk 5 tn tks) l m (by omega) ll mm (by omega)).2;rw[←hC]at C3;have hRC:zbd (λ_=>1) R*zaG (λ_=>1) C≤729:=by refine Nat.le_trans (Nat.mul_le_mul R2 C3) ?_;rw[←zkq (by omega) (by omega)];exact zcw (by omega)
        have hR7:zbd (λ_=>1) R≤729:=Nat.le_trans R2 (zcw (by omega));have Rl:=zpW λp hp=>(R1 p hp).1;rw[dW,Option.getD_some,←hR]at c5;simp[zoA,IT.cs,Nat.add_assoc];refine zaB (.tup [.sl (VT.css psa) .none,.bool true]) (λJ=>by
         have:=zAz aa hk (.mk 5 tn tks) dR ca (hpM H tn tks s2++J) (λv H'=>v=.tup [.sl (VT.css psa) .none,.bool true]∧H'=hpM H tn tks s2++J) (by rw[dW];exact⟨rfl,rfl⟩);exact this) ?_
        simp;refine⟨iq _,iq _,?_⟩;rw[tl1,tl2,←bS];refine zaB (.sl (zaL C) .none) (λJ=>by rw[hC];exact hM _ l m (by omega) dR cT rfl ll mm (by omega) (by omega) _ _ ⟨rfl,rfl⟩) ?_;refine zaB (.sl (zaK R) .none) (λJ=>by rw[hR];exact hQ psa pa pb (by simp only[IT.nodes]at hf;omega) ik.symm cv.symm (by omega) jp jm jn (by omega) (by simp only[IT.nodes]at hn;omega) _ _ ⟨rfl,rfl⟩) ?_;simp;obtain⟨F,hF⟩:∃ F:List IT × Nat→List (IT × Nat),F=λr=>C.map λw=>(bef (.mk ca r.1) w.1,r.2*w.2):=⟨_,rfl⟩;have hFN:∀ L,zaG (λ_=>1) (List.flatMap F L)=zbd (λ_=>1) L*zaG (λ_=>1) C:=λL=>by rw[hF];exact zzJ ca C L
        have hFg:∀ r∈R,∀ (i:Nat) (s:List (IT × Nat)),i≤C.length→Gd s→Gd (zaD s ((C.take i).map λw=>(bef (.mk ca r.1) w.1,r.2*w.2))):=by
         intro r hr i s hi hs;induction i with
         | zero=>exact hs
         | succ i ih=>rw[zdr _ _ (show i<C.length by omega)];have h1:=(R1 r hr).2.2.2.2.2.2;have h2:=(C1 C[i] (List.getElem_mem (by omega))).2.2.2.2.2.2;exact (ih (by omega)).add (gF _ _ (by omega) (by simp only[IT.nodes]at hn ⊢;omega)) _
        have jq:∀ j≤R.length,Gd (zaD s2 ((R.take j).flatMap F)):=by
         intro j;induction j with
         | zero=>intro _;exact hG2
         | succ j ih=>intro hj;rw[zwu _ _ (show j<R.length by omega)];have:=hFg R[j] (List.getElem_mem (by omega)) C.length _ (Nat.le_refl _) (ih (by omega));rw[List.take_length]at this;rw[hF]at this ⊢;exact this
        show zvM _ (.ov (H.length+1) (zaD s2 ((R.take 0).flatMap F)).length) _ _ _ _ (hpM H tn tks (zaD s2 ((R.take 0).flatMap F))) _;refine zXr (Inv:=λq t9 t120 H'=>∃ j:Nat,j≤R.length∧R.length-j=q∧t120=.int .i64 j∧t9=.ov (H.length+1) (zaD s2 ((R.take j).flatMap F)).length∧H'=hpM H tn tks (zaD s2 ((R.take j).flatMap F))) R.length ?_ ?_
        ·intro _;exact⟨0,by omega,rfl,rfl,rfl,rfl⟩
        ·rintro q t9 t120 H' ⟨j,hj,rfl,rfl,rfl,rfl⟩ hsc21 hlen21 hsF21 Kb21 hKb21;by_cases aQ:j<R.length
         ·have hr:=R1 R[j] (List.getElem_mem aQ);have kG:=zp0 (List.getElem_mem aQ);have aq:=zwu (s:=s2) F R aQ;have kD:zaG (λ_=>1) (zaD s2 ((R.take j).flatMap F))≤2300:=by rw[zeh,hFN];have:=Nat.mul_le_mul_right (zaG (λ_=>1) C) (zrE (λ_=>1) R j);omega
          have hG:=jq j (by omega);generalize iL:zaD s2 ((R.take j).flatMap F)=s at *;simp[zvH,aQ];obtain⟨cr,jr⟩:∃ cr:List AV,cr=.sl (IT.css R[j].1) .none::zai (R[j].2:Int):=⟨_,rfl⟩;have cr1:cr[0]?=some (.sl (IT.css R[j].1) .none):=by rw[jr];rfl
          have cr3:List.take 3 (List.drop 1 cr)=zai (R[j].2:Int):=by rw[jr];simp[List.take_of_length_le]
          have crl:cr.length=4:=by rw[jr];simp
          have crs:∀ n,cr.all (AV.scA n)=true:=λn=>by rw[jr];simp[AV.scA,AV.scB,zai]
          rw[←jr];have hp24:∀ s',HSc (hpM H tn tks s'++[.cells cr]):=λs'=>(zji hs).append (by simp only[AB.sc,List.all_cons,List.all_nil,crs];rfl);have hat3:∀ s' c,(hpM H tn tks s'++[.cells cr,c])[H.length+3]?=some c:=λs' c=>by
           have e:H.length+3=(hpM H tn tks s'++[AB.cells cr]).length:=by simp
           rw[e,show hpM H tn tks s'++[AB.cells cr,c]=(hpM H tn tks s'++[.cells cr])++[c] by simp,List.getElem?_append_right (Nat.le_refl _)];simp
          have en:=hr.2.2.2.2.2.2;refine zXs (Inv:=λq t9 t126 H'=>∃ i:Nat,i≤C.length∧C.length-i=q∧t126=.int .i64 i∧t9=.ov (H.length+1) (zaD s ((C.take i).map λw=>(bef (.mk ca R[j].1) w.1,R[j].2*w.2))).length∧H'=hpM H tn tks (zaD s ((C.take i).map λw=>(bef (.mk ca R[j].1) w.1,R[j].2*w.2)))++[.cells cr]) C.length ?_ ?_
          ·intro _;exact⟨0,by omega,rfl,rfl,rfl,rfl⟩
          ·rintro q t9 t126 H' ⟨i,hi,rfl,rfl,rfl,rfl⟩ hsc24 hlen24 hsF24 Kb24 hKb24;by_cases be:i<C.length
           ·have hw:=C1 C[i] (List.getElem_mem be);have my:=zd3 (List.getElem_mem be);have hstep2:=zdr (s:=s) (λw:IT × Nat=>(bef (.mk ca R[j].1) w.1,R[j].2*w.2)) C be;have hprod:R[j].2*C[i].2≤729:=Nat.le_trans (Nat.mul_le_mul kG my) hRC;have hNi:zaG (λ_=>1) (zaD s ((C.take i).map λw=>(bef (.mk ca R[j].1) w.1,R[j].2*w.2)))≤3100:=by rw[zeh,zkE,zgK (bef (.mk ca R[j].1))];have:=Nat.mul_le_mul kG (zgJ (λ_=>1) C i);omega
            have hGi:=hFg R[j] (List.getElem_mem aQ) i s (by omega) hG;generalize hsd2:zaD s ((C.take i).map λw=>(bef (.mk ca R[j].1) w.1,R[j].2*w.2))=s' at *;have du:Sm (R[j].2:Int):=zcb (Nat.lt_of_le_of_lt (show R[j].2≤729 by omega) (by decide));have fa:Sm (C[i].2:Int):=zcb (Nat.lt_of_le_of_lt (show C[i].2≤729 by omega) (by decide));have cra:∀ k,zbp false 1 0 cr k=k (.sl (IT.css R[j].1) .none):=λk=>by rw[jr];simp
            have crt:List.take 3 cr.tail=zai (R[j].2:Int):=by rw[jr];simp[List.take_of_length_le]
            have mz:([.int .i64 ca,.sl (IT.css R[j].1) .none]:List AV)=(IT.mk ca R[j].1).cs:=rfl;simp[zvI,be,zc8,zcB,zcJ,hat3,cra,crt,crl,IT.cs,zaq,zaI,wi i (by omega)];refine⟨zd7 _,?_⟩;rw[mz];have kE:(bef (.mk ca R[j].1) C[i].1).nodes≤1000:=gF _ _ (by omega) (by simp only[IT.nodes]at hn ⊢;omega);have kF:C[i].1.nodes≤1000:=by have:=hw.2.2.2.2.2.2;have:=zh6 C[i].1;omega
            refine zaB (.agg (bef (.mk ca R[j].1) C[i].1).cs) (λJ=>zph _ _ kF _ _ ⟨rfl,rfl⟩) ?_;refine zaB (.agg (zai ((R[j].2*C[i].2:Nat):Int))) (λJ=>ziI _ _ du fa _ _ ⟨by rw[Int.natCast_mul],rfl⟩) ?_;refine zfk hGi (by omega) (bef (.mk ca R[j].1) C[i].1) kE (R[j].2*C[i].2) (by omega) (H.length+1) _ _ zpM ?_;rw[zpN];exact hKb24 _ _ ⟨C.length-(i+1),by omega,Back.at (J:=[.cells (tmC C[i])]) (H2:=hpM H tn tks (zba s' (bef (.mk ca R[j].1) C[i].1) (R[j].2*C[i].2))++[.cells cr]) (by simp) (by simp) (hp24 _) (by simp[zoD,ux,AV.sc,AV.scA,AV.scB,AV.scV]) ⟨_,_,rfl,i+1,by omega,rfl,rfl,by rw[hstep2],by rw[hstep2]⟩⟩
           ·obtain rfl:i=C.length:=by omega
            rw[List.take_length];have hFj:F R[j]=C.map λw=>(bef (.mk ca R[j].1) w.1,R[j].2*w.2):=by rw[hF]
            rw[hFj]at aq;simp[zvI,wi j (by omega)];exact hKb21 _ _ ⟨R.length-(j+1),by omega,Back.at (J:=[.cells cr]) (H2:=hpM H tn tks (zaD s (C.map λw=>(bef (.mk ca R[j].1) w.1,R[j].2*w.2)))) rfl (by simp) (zji hs) (by simp[zoC,ux,AV.sc,AV.scA,AV.scB,AV.scV]) ⟨_,_,rfl,j+1,by omega,rfl,rfl,by rw[aq],by rw[aq]⟩⟩
         ·obtain rfl:j=R.length:=by omega
          rw[List.take_length];have:=bj (zaD s2 (R.flatMap F)) [] (by rw[c5,hF]);simp[zvH];simpa using this
       ·have c5:zaP aa (f+1) (.mk 5 tn tks) (.mk ca pa::l) (.mk cb pb::m)=s2:=by rw[zaP,if_pos (by simpa[zaS]using bb),br,a7,hA,hB]
        have kH:(ca != cb)=true:=by simpa using bb
        have:=bj s2 [] c5.symm;simp[zoA,IT.cs,kH,Nat.add_assoc];simpa using this
theorem zhn:∀ n,n<13→fct n≤479001600:=by decide
theorem zlQ (n:Nat) (hn:n≤12) (H:zaa) (K:Kt) (hK:K (.agg (zai (fct n:Int))) H):ACalls tP zgp [.int .i64 n] H K:=by
 refine ACalls.out (zNg λhs=>?_);simp[zBt,Nat.add_assoc];refine zfa 1 (by omega) _ _ ?_;simp[Nat.add_assoc,zc3];have hsc:∀ z:Int,HSc (H++[.cells [.bool false,.snil,.snil],.cells (zai z)]):=λz=>hs.append (by simp[AB.sc,zai,AV.scA,AV.scB]);refine zNe (Inv:=λq t4 H'=>∃ i:Nat,1≤i∧i≤12∧(i≤n∨i=1)∧n-i=q∧t4=.int .i64 ((i+1:Nat):Int)∧H'=H++[.cells [.bool false,.snil,.snil],.cells (zai (fct i:Int))]) (n-1) ?_ ?_
 ·intro _;exact⟨1,by omega,by omega,by omega,rfl,rfl,rfl⟩
 ·rintro q t4 H' ⟨i,hi1,hi2,hi3,rfl,rfl,rfl⟩ aJ am aM Kb au;by_cases ak:i+1≤n
  ·have aG:((i+1:Nat):Int)≤(n:Int):=by omega
   have gv:(i:Int)+1≤(n:Int):=by omega
   have hf:=zhn i (by omega);simp[zsM,gv];refine zaB (.agg (zai ((i+1:Nat):Int))) (λJ=>by
    have:=zfa (i+1) (by omega) (H++[.cells [.bool false,.snil,.snil],.cells (zai (fct i:Int))]++J) (λv H'=>v=.agg (zai ((i+1:Nat):Int))∧H'=H++[.cells [.bool false,.snil,.snil],.cells (zai (fct i:Int))]++J) ⟨rfl,rfl⟩;simpa using this) ?_
   refine zaB (.agg (zai (fct (i+1):Int))) (λJ=>ziI _ _ (zcb (Nat.lt_of_le_of_lt hf (by decide))) (zcb (Nat.lt_of_le_of_lt (show i+1≤13 by omega) (by decide))) _ _ ⟨by rw[fct,Int.natCast_mul,Int.mul_comm],rfl⟩) ?_;have w:IntKind.i64.wrap ((i:Int)+1+1)=((i+1+1:Nat):Int):=by rw[zaw (by omega) (by omega)];omega
   simp[Nat.add_assoc,zc3,w];exact au _ _ ⟨n-(i+1),by omega,Back.here (by simp) (hsc _) (by simp[zlP,ux,AV.sc,AV.scA,AV.scB,AV.scV]) ⟨_,rfl,i+1,by omega,by omega,by omega,rfl,by simp;omega,rfl⟩⟩
  ·have gv:¬ ((i:Int)+1≤(n:Int)):=by omega
   have he:fct i=fct n:=by
    by_cases h:i=n
    ·rw[h]
    ·have:n=0∧i=1:=by omega
     rw[this.1,this.2];rfl
   rw[←he]at hK;simp[zsM,gv,Nat.add_assoc,zc3];exact zcv hs hK
theorem zH5:∀ a,a<7→∀ b,b<7→∀ k,k<13→(k≤a+b∧max a b≤k→(fct k=pcf a b k*(fct (k-a)*fct (k-b)*fct (a+b-k))∧fct (k-a)*fct (k-b)*fct (a+b-k)<1000000000∧0<fct (k-a)*fct (k-b)*fct (a+b-k))):=by
 have:=(by decide +kernel:((List.range 7).all λa=>(List.range 7).all λb=>(List.range 13).all λk=>decide (¬ (k≤a+b∧max a b≤k)∨(fct k=pcf a b k*(fct (k-a)*fct (k-b)*fct (a+b-k))∧fct (k-a)*fct (k-b)*fct (a+b-k)<1000000000∧0<fct (k-a)*fct (k-b)*fct (a+b-k))))=true);intro a ha b hb k hk h;have h1:=List.all_eq_true.mp this a (List.mem_range.mpr ha);have h2:=List.all_eq_true.mp h1 b (List.mem_range.mpr hb);have h3:=List.all_eq_true.mp h2 k (List.mem_range.mpr hk);rcases of_decide_eq_true h3 with h4 | h4
 ·exact absurd h h4
 ·exact h4
def zbE (l:List Nat):List (List AV):=l.map λ(z:Nat)=>zai (z:Int)
@[simp] theorem zIc (l:List Nat):(zbE l).length=l.length:=by simp[zbE]
@[simp] theorem ybL {l:List Nat} {i:Nat} (h:i<(zbE l).length):(zbE l)[i]=zai ((l[i]'(by simpa using h):Nat):Int):=by simp[zbE]
def zby (a b n:Nat):List Nat:=(List.range n).map (pcf a b)
theorem zXj (a b:Nat) (ha:a≤6) (hb:b≤6) (H:zaa) (K:Kt) (hK:K (.tup [.sl (zbE (zby a b (a+b+1))) .none,.bool true]) H):ACalls tP zq4 [.int .i64 a,.int .i64 b] H K:=by
 refine ACalls.out (zXh λhs=>?_);have c1:¬ ((a:Int)<0):=by omega
 have c2:¬ ((b:Int)<0):=by omega
 have c3:¬ ((16:Int)<(a:Int)):=by omega
 have c4:¬ ((16:Int)<(b:Int)):=by omega
 simp[zEZ,c1,c2,c3,c4];unfold zoy;refine ALoop.own 6 zfq 3 rfl ?_;show zoy (.int .i64 a) (.int .i64 b) (.sl (zbE (zby a b 0)) (.own H.length)) (.int .i64 0) (H++[.perm zfq 3 0]) _;have hsc:∀ n,HSc (H++[.perm zfq 3 n]):=λn=>hs.append (by simp[AB.sc]);refine zXf (Inv:=λq t6 t7 H'=>∃ k:Nat,k≤a+b+1∧a+b+1-k=q∧t7=.int .i64 k∧t6=.sl (zbE (zby a b k)) (.own H.length)∧H'=H++[.perm zfq 3 k]) (a+b+1) ?_ ?_
 ·intro _;exact⟨0,by omega,rfl,rfl,rfl,rfl⟩
 ·rintro q t6 t7 H' ⟨k,hk,rfl,rfl,rfl,rfl⟩ aJ am aM Kb au;have wab:IntKind.i64.wrap ((a:Int)+(b:Int))=((a+b:Nat):Int):=by rw[zaw (by omega) (by omega)];omega
  by_cases ak:k≤a+b
  ·have aG:(k:Int)≤(a:Int)+(b:Int):=by omega
   have bH:(zby a b k).length=k:=by simp[zby]
   have aq:zbE (zby a b k)++[zai (pcf a b k:Int)]=zbE (zby a b (k+1)):=by simp[zbE,zby,List.range_succ]
   have hj:∀ (z:Nat) (J:zaa),z=pcf a b k→zox (.int .i64 a) (.int .i64 b) (.sl (zbE (zby a b k)) (.own H.length)) (.int .i64 k) (.ptr (H.length+1) 0) (H++([.perm zfq 3 k,.cells (zai (z:Int))]++J)) (Out H.length K) Kb:=by intro z J hz;subst hz;simp[zox,zau,zaQ,plain,AV.pd,zcI,wi k (by omega),zc3];simp only[zav,zaM,zaJ];simp[bH,List.set_append_right];refine⟨⟨by omega,by omega⟩,?_⟩;rw[aq];exact au _ _ ⟨a+b+1-(k+1),by omega,Back.at (J:=.cells (zai (pcf a b k:Int))::J) (H2:=H++[.perm zfq 3 (k+1)]) (by simp) (by simp) (hsc _) (by simp[zow,ux,AV.sc,AV.scA,AV.scB,AV.scV]) ⟨_,_,rfl,k+1,by omega,rfl,rfl,rfl,rfl⟩⟩
   simp[zvF,wab,aG,Nat.add_assoc];refine zfa 0 (by omega) _ _ ?_;have gK:(if (b:Int)>(a:Int) then (b:Int) else (a:Int))=((max a b:Nat):Int):=by split <;> omega
   have iu:(if a<b then (b:Int) else (a:Int))=((max a b:Nat):Int):=by split <;> omega
   simp[Nat.add_assoc,zc3,iu];by_cases hm:max a b≤k
   ·obtain⟨d1,d2,d3⟩:=zH5 a (by omega) b (by omega) k (by omega) ⟨ak,hm⟩;have hm':((max a b:Nat):Int)≤(k:Int):=by omega
    have w1:IntKind.i64.wrap ((k:Int)-(a:Int))=((k-a:Nat):Int):=by rw[zaw (by omega) (by omega)];omega
    have w2:IntKind.i64.wrap ((k:Int)-(b:Int))=((k-b:Nat):Int):=by rw[zaw (by omega) (by omega)];omega
    have w3:IntKind.i64.wrap ((a:Int)+(b:Int)-(k:Int))=((a+b-k:Nat):Int):=by rw[zaw (by omega) (by omega)];omega
    have f1:=zhn (k-a) (by omega);have f2:=zhn (k-b) (by omega);have f3:=zhn (a+b-k) (by omega);have fd:∀ x y:Nat,x*y<1000000000→Sm ((x*y:Nat):Int):=λx y h=>zcb (Nat.lt_trans h (by decide));have fL:∀ i:Nat,fct i≤479001600→Sm (fct i:Int):=λi h=>zcb (Nat.lt_of_le_of_lt h (by decide));have p3:0<fct (a+b-k):=by
     rcases Nat.eq_zero_or_pos (fct (a+b-k)) with h | h
     ·rw[h]at d3;omega
     ·exact h
    have d4:fct (k-a)*fct (k-b)<1000000000:=Nat.lt_of_le_of_lt (Nat.le_mul_of_pos_right _ p3) d2;simp[hm,w1,w2,w3];refine zlQ (k-a) (by omega) _ _ ?_;refine zlQ (k-b) (by omega) _ _ ?_;refine ziI _ _ (fL _ f1) (fL _ f2) _ _ ?_;refine zlQ (a+b-k) (by omega) _ _ ?_;rw[←Int.natCast_mul];refine ziI _ _ (fd _ _ d4) (fL _ f3) _ _ ?_;rw[←Int.natCast_mul];generalize hd:fct (k-a)*fct (k-b)*fct (a+b-k)=d at d1 d2 d3 ⊢;simp[Nat.add_assoc,zc3];refine zaB (.agg (zai (fct k:Int))) (λJ=>zlQ k (by omega) _ _ ⟨rfl,rfl⟩) ?_;have f4:=zhn k (by omega);refine zaB (.tup [.agg (zai (pcf a b k:Int)),.bool true]) (λJ=>by
     rw[d1]at f4 ⊢;exact zNl (pcf a b k) d (Nat.lt_of_le_of_lt f4 (by decide)) d3 d2 _ _ ⟨rfl,rfl⟩) ?_
    simp[Nat.add_assoc,zc3];exact hj (pcf a b k) [.cells (zai (d:Int))] rfl
   ·have hz:pcf a b k=0:=by simp[pcf];omega
    have hm':¬ (((max a b:Nat):Int)≤(k:Int)):=by omega
    simp[hm];exact hj 0 [] hz.symm
  ·obtain rfl:k=a+b+1:=by omega
   have aG:¬ ((a:Int)+(b:Int)+1≤(a:Int)+(b:Int)):=by omega
   simp[zvF,wab,aG];exact⟨⟨rfl,rfl⟩,Out.tup (bs:=[.sl (zbE (zby a b (a+b+1))) .none,.bool true]) hs hK ⟨slV,zaY rfl rfl,trivial⟩⟩
def hpL (H:zaa) (t:VT) (i j:IT) (s:List (IT × Nat)):zaa:=H++[.cells t.cs,.cells i.cs,.cells j.cs,.vec zax 5 s.length (tms s)]
theorem zpK {H:zaa} (hs:HSc H) {t:VT} {i j:IT} {s:List (IT × Nat)}:HSc (hpL H t i j s):=
 hs.append (by
  obtain⟨kt,nt,tk⟩:=t;obtain⟨ni,li⟩:=i;obtain⟨nj,lj⟩:=j;simp only[AB.sc,List.all_cons,List.all_nil,zgQ];simp[AV.scA,AV.scB,VT.cs,IT.cs])
theorem zpL {H:zaa} {t:VT} {i j:IT} {s s':List (IT × Nat)} {J:zaa}:(hpL H t i j s++J).set (H.length+3) (.vec zax 5 s'.length (tms s'))=hpL H t i j s'++J:=by simp[hpL,List.set_append]
theorem zpJ {H:zaa} {t:VT} {i j:IT} {s:List (IT × Nat)} {J:zaa}:(hpL H t i j s++J)[H.length+3]?=some (.vec zax 5 s.length (tms s)):=by simp[hpL,List.getElem?_append]
@[simp] theorem zG1 {H:zaa} {t:VT} {i j:IT} {s:List (IT × Nat)}:(hpL H t i j s).length=H.length+4:=by simp[hpL]
@[simp] theorem ybu {H:zaa} {t:VT} {i j:IT} {s:List (IT × Nat)} {c:AB} {J:zaa}:(hpL H t i j s++c::J)[H.length+4]?=some c:=by rw[←zG1 (H:=H) (t:=t) (i:=i) (j:=j) (s:=s)];simp
theorem zHv {aa:List Dat} (hk:zbv aa) (h8:∀ D∈aa,D.cons.length≤8) (hD:zbq aa=true) {f:Nat} (hQ:zi5 aa f) (hM:zi3 aa f):zoX aa (f+1):=by
 intro t i j hf dR cT hi hj h6 hn H K hK;obtain⟨k,tn,tks⟩:=t;obtain⟨n,l⟩:=i;obtain⟨n',m⟩:=j;simp only[IT.nodes]at hf hn;refine ACalls.out (zUt λhs=>?_);have emp:Gd ([]:List (IT × Nat)):=Gd.nil;have bS:(VT.mk k tn tks).cs=[.int .i64 k,.int .i64 tn,.sl (VT.css tks) .none]:=rfl;have dZ:(IT.mk n l).cs=[.int .i64 n,.sl (IT.css l) .none]:=rfl;have eN:(IT.mk n' m).cs=[.int .i64 n',.sl (IT.css m) .none]:=rfl;have fE:(H++[AB.cells (VT.mk k tn tks).cs,.cells (IT.mk n l).cs,.cells (IT.mk n' m).cs]).length=H.length+3:=by simp
 have bj:∀ (s:List (IT × Nat)) (J:zaa),s=za8 aa (f+1) (.mk k tn tks) (.mk n l) (.mk n' m)→Out H.length K (.ov (H.length+3) s.length) (hpL H (.mk k tn tks) (.mk n l) (.mk n' m) s++J):=by intro s J eh;subst eh;have:=zkm (H:=H) (J:=[.cells (VT.mk k tn tks).cs,.cells (IT.mk n l).cs,.cells (IT.mk n' m).cs,.vec zax 5 (za8 aa (f+1) (.mk k tn tks) (.mk n l) (.mk n' m)).length (tms (za8 aa (f+1) (.mk k tn tks) (.mk n l) (.mk n' m)))]++J) (K:=K) (za8 aa (f+1) (.mk k tn tks) (.mk n l) (.mk n' m)) (H.length+3) (by omega) (by simp[List.getElem?_append]) hs hK;simpa[hpL]using this
 by_cases k6:k=6
 ·subst k6;have ev:∀ (n:Int) (l:List IT),0≤rdV aa (.mk n l) (.mk 6 tn tks)→n=0∧l.length=tks.length∧rdV aa (.mk n l) (.mk 6 tn tks)=rdA aa l tks 0:=λn l h=>by
   rw[rdV]at h ⊢;simp only[VT.kind,VT.kids,if_true]at h ⊢;by_cases hn:n=0
   ·by_cases hl:tks.length=l.length
    ·simp[hn,hl]
    ·simp[hn,hl]at h
   ·simp[hn]at h
  obtain⟨i1,i2,i3⟩:=ev n l hi;obtain⟨j1,j2,j3⟩:=ev n' m hj;rw[i3]at hi h6;rw[j3]at hj h6;have dP:=VT.len_le tks;have bf:∀ (ts:List VT) (x:VT),x∈ts→x.nodes≤VT.nodesL ts:=by
   intro ts;induction ts with
   | nil=>intro x hx;simp at hx
   | cons t ts ih=>
    intro x hx;simp only[VT.nodesL];rcases List.mem_cons.1 hx with rfl | hx
    ·omega
    ·have:=ih x hx;omega
  have js:∀ x∈tks,x.nodes≤1000∧zaV aa 0 x=true:=λx hx=>by have:=bf tks x hx;simp only[VT.nodes]at dR;exact⟨by omega,zrR cT x hx⟩
  simp only[VT.nodes]at dR;obtain⟨R,hR⟩:∃ R,R=zca aa f tks l m:=⟨_,rfl⟩;obtain⟨R1,R2⟩:=(zcq h8 f).2.1 tks l m (by omega) i2 j2 hi hj h6;rw[←hR]at R1 R2
  replace R2:=Nat.le_trans R2 (zcw h6)
  have Rl:=zpW λp hp=>(R1 p hp).1;have c5:za8 aa (f+1) (.mk 6 tn tks) (.mk n l) (.mk n' m)=zaD [] (R.map λr=>(.mk 0 r.1,r.2)):=by rw[za8,hR];simp[VT.kind,VT.kids,zaH]
  have jq:∀ q≤R.length,Gd (zaD [] ((R.take q).map λr=>(IT.mk 0 r.1,r.2))):=by
   intro q;induction q with
   | zero=>intro _;exact Gd.nil
   | succ q ih=>intro hq;rw[zdr _ _ (show q<R.length by omega)];have:=(R1 R[q] (List.getElem_mem (by omega))).2.2.2.2.2.2;exact (ih (by omega)).add (by simp only[IT.nodes];omega) _
  simp[ziP,bS,dZ,eN,Nat.add_assoc];refine hQ tks l m (by omega) i2 j2 (by omega) js hi hj h6 (by omega) _ _ ?_;rw[←hR];simp;rw[←bS,←dZ,←eN];unfold znJ;refine ALoop.vec 9 zax 5 rfl ?_;rw[fE,List.append_assoc];show znJ (.ov (H.length+3) (zaD [] ((R.take 0).map λr=>(IT.mk 0 r.1,r.2))).length) _ _ _ (hpL H (.mk 6 tn tks) (.mk n l) (.mk n' m) (zaD [] ((R.take 0).map λr=>(IT.mk 0 r.1,r.2)))) _;refine zUp (Inv:=λq t9 t35 H'=>∃ q':Nat,q'≤R.length∧R.length-q'=q∧t35=.int .i64 q'∧t9=.ov (H.length+3) (zaD [] ((R.take q').map λr=>(IT.mk 0 r.1,r.2))).length∧H'=hpL H (.mk 6 tn tks) (.mk n l) (.mk n' m) (zaD [] ((R.take q').map λr=>(IT.mk 0 r.1,r.2)))) R.length ?_ ?_
  ·intro _;exact⟨0,by omega,rfl,rfl,rfl,rfl⟩
  ·rintro q t9 t35 H' ⟨q',hq,rfl,rfl,rfl,rfl⟩ jt gw ju Kb6 d5;by_cases dw:q'<R.length
   ·have hr:=R1 R[q'] (List.getElem_mem dw);have kG:=zp0 (List.getElem_mem dw);have aq:=zdr (s:=[]) (λr:List IT × Nat=>(IT.mk 0 r.1,r.2)) R dw;have kD:zaG (λ_=>1) (zaD [] ((R.take q').map λr=>(IT.mk 0 r.1,r.2)))≤729:=by rw[zeh,zcT,Nat.zero_add,zgI];exact Nat.le_trans (zrE (λ_=>1) R q') R2
    have hG:=jq q' (by omega);generalize iL:zaD [] ((R.take q').map λr=>(IT.mk 0 r.1,r.2))=s at *;have mz:([.int .i64 0,.sl (IT.css R[q'].1) .none]:List AV)=(IT.mk 0 R[q'].1).cs:=rfl;simp[zuN,dw,zaq,zaI,wi q' (by omega),AV.known];rw[mz];have en:=hr.2.2.2.2.2.2;refine zfk hG (by omega) (IT.mk 0 R[q'].1) (by simp only[IT.nodes];omega) R[q'].2 (by omega) (H.length+3) _ _ zpJ ?_;rw[zpL];exact d5 _ _ ⟨R.length-(q'+1),by omega,Back.at (J:=[.cells (.sl (IT.css R[q'].1) .none::zai (R[q'].2:Int))]) (H2:=hpL H (.mk 6 tn tks) (.mk n l) (.mk n' m) (zba s (IT.mk 0 R[q'].1) R[q'].2)) rfl (by simp) (zpK hs) (by simp[znF,ux,AV.sc,AV.scA,AV.scB,AV.scV]) ⟨_,_,rfl,q'+1,by omega,rfl,rfl,by rw[aq],by rw[aq]⟩⟩
   ·obtain rfl:q'=R.length:=by omega
    rw[List.take_length];have:=bj (zaD [] (R.map λr=>(IT.mk 0 r.1,r.2))) [] c5.symm;simp[zuN,zf3,znG];simpa using this
 ·by_cases k7:k=7
  ·subst k7;have ev:∀ (n:Int) (l:List IT),0≤rdV aa (.mk n l) (.mk 7 tn tks)→0≤n∧n≤6∧rdV aa (.mk n l) (.mk 7 tn tks)=n:=λn l h=>by
    rw[rdV]at h ⊢;simp only[VT.kind,k6,if_false,if_true]at h ⊢;by_cases hc:0≤n∧n≤6∧l.length=0
    ·rw[if_pos hc];exact⟨hc.1,hc.2.1,rfl⟩
    ·rw[if_neg hc]at h;omega
   obtain⟨i1,i2,i3⟩:=ev n l hi;obtain⟨j1,j2,j3⟩:=ev n' m hj;rw[i3]at hi h6;rw[j3]at hj h6;obtain⟨a,rfl⟩:∃ a:Nat,n=a:=⟨n.toNat,by omega⟩;obtain⟨b,rfl⟩:∃ b:Nat,n'=b:=⟨n'.toNat,by omega⟩;have c5:za8 aa (f+1) (.mk 7 tn tks) (.mk a l) (.mk b m)=zaD [] (zaW a b):=by rw[za8];simp[VT.kind,zaS]
   simp[ziP,bS,dZ,eN,Nat.add_assoc];refine zXj a b (by omega) (by omega) _ _ ?_;simp;rw[←bS,←dZ,←eN];unfold znH;refine ALoop.vec 9 zax 5 rfl ?_;rw[fE,List.append_assoc];have bH:(zby a b (a+b+1)).length=a+b+1:=by simp[zby]
   have jq:∀ q≤a+b+1,Gd (zaD [] ((zaW a b).take q)):=by
    intro q;induction q with
    | zero=>intro _;exact Gd.nil
    | succ q ih=>
     intro hq;have jv:q<(zaW a b).length:=by simp[zaW];omega
     have:=zdr (s:=[]) (λr:IT × Nat=>r) (zaW a b) jv;simp only[List.map_id']at this;rw[this];exact (ih (by omega)).add (by simp[zaW,IT.nodes,IT.nodesL]) _
   have mA:zaG (λ_=>1) (zaW a b)≤729:=by rw[zaW,zgI];have:=zpf a (by omega) b (by omega) (by omega);unfold zkG at this;refine Nat.le_trans (by simpa using this) (Nat.le_trans (Nat.pow_le_pow_right (by omega) (show a+b≤6 by omega)) (by decide))
   show znH (.ov (H.length+3) (zaD [] ((zaW a b).take 0)).length) _ _ _ (hpL H (.mk 7 tn tks) (.mk a l) (.mk b m) (zaD [] ((zaW a b).take 0))) _;refine zUn (Inv:=λq t9 t59 H'=>∃ q':Nat,q'≤a+b+1∧a+b+1-q'=q∧t59=.int .i64 q'∧t9=.ov (H.length+3) (zaD [] ((zaW a b).take q')).length∧H'=hpL H (.mk 7 tn tks) (.mk a l) (.mk b m) (zaD [] ((zaW a b).take q'))) (a+b+1) ?_ ?_
   ·intro _;exact⟨0,by omega,rfl,rfl,rfl,rfl⟩
   ·rintro q t9 t59 H' ⟨q',hq,rfl,rfl,rfl,rfl⟩ hsc13 hlen13 hsF13 Kb13 dv;have dX:(zaW a b).length=a+b+1:=by simp[zaW]
    by_cases dw:q'<a+b+1
    ·have jv:q'<(zaW a b).length:=by omega
     have aq:=zdr (s:=[]) (λr:IT × Nat=>r) (zaW a b) jv;simp only[List.map_id']at aq;have kD:zaG (λ_=>1) (zaD [] ((zaW a b).take q'))≤729:=by rw[zeh,zcT,Nat.zero_add];exact Nat.le_trans (zgJ _ _ _) mA
     have hG:=jq q' (by omega);have he:(zaW a b)[q']=(.mk (q':Int) [],pcf a b q'):=by simp[zaW]
     have hc:=zd3 (List.getElem_mem jv);rw[he]at aq hc;generalize iL:zaD [] ((zaW a b).take q')=s at *;have cF:(zby a b (a+b+1))[q']'(by omega)=pcf a b q':=by simp[zby]
     have jw:(q':Int)<(a:Int)+(b:Int)+1:=by omega
     have ki:(zbE (zby a b (a+b+1)))[q']?=some (zai (pcf a b q':Int)):=by simp[zbE,zby,dw]
     simp[zuL,bH,jw,cF,ki,zaq,zaI,wi q' (by omega),AV.known];refine ACalls.wk (args':=[.ov (H.length+3) s.length,.agg (IT.mk (q':Int) []).cs,.agg (zai (pcf a b q':Int))]) ?_ ⟨.rfl',.agg ⟨.refl _,.snil,trivial⟩,.rfl',trivial⟩;refine zfk hG (by omega) (IT.mk (q':Int) []) (by simp[IT.nodes,IT.nodesL]) (pcf a b q') (by omega) (H.length+3) _ _ zpJ ?_;rw[zpL];exact dv _ _ ⟨a+b+1-(q'+1),by omega,Back.at (J:=[.cells (zai (pcf a b q':Int))]) (H2:=hpL H (.mk 7 tn tks) (.mk a l) (.mk b m) (zba s (.mk (q':Int) []) (pcf a b q'))) rfl (by simp) (zpK hs) (by simp[znD,ux,AV.sc,AV.scA,AV.scB,AV.scV]) ⟨_,_,by simp only[bH];rfl,q'+1,by omega,rfl,rfl,by rw[aq],by rw[aq]⟩⟩
    ·obtain rfl:q'=a+b+1:=by omega
     rw[List.take_of_length_le (by omega)];have:=bj (zaD [] (zaW a b)) [] c5.symm;simp[zuL,zf3,znG,bH];simpa using this
  ·by_cases k5:k=5
   ·subst k5;have ev:∀ (n:Int) (l:List IT),0≤rdV aa (.mk n l) (.mk 5 tn tks)→n=0∧l.length≤6∧rdV aa (.mk n l) (.mk 5 tn tks)=rdE aa l (.mk 5 tn tks) 0:=λn l h=>by
     rw[zid]at h ⊢;by_cases hc:n=0∧l.length≤6
     ·rw[if_pos hc];exact⟨hc.1,hc.2,rfl⟩
     ·rw[if_neg hc]at h;omega
    obtain⟨i1,i2,i3⟩:=ev n l hi;obtain⟨j1,j2,j3⟩:=ev n' m hj;rw[i3]at hi h6;rw[j3]at hj h6;obtain⟨R,hR⟩:∃ R,R=zaP aa f (.mk 5 tn tks) l m:=⟨_,rfl⟩;obtain⟨R1,R2⟩:=(zcq h8 f).2.2 (.mk 5 tn tks) l m (by omega) hi hj h6;rw[←hR]at R1 R2
    replace R2:=Nat.le_trans R2 (zcw h6)
    have Rl:=zep λp hp=>(R1 p hp).1;have c5:za8 aa (f+1) (.mk 5 tn tks) (.mk n l) (.mk n' m)=zaD [] R:=by rw[za8,hR];simp[VT.kind,zaH]
    simp[ziP,bS,dZ,eN,Nat.add_assoc];rw[←bS];refine hM (.mk 5 tn tks) l m (by omega) dR cT rfl hi hj h6 (by omega) _ _ ?_;rw[←hR];simp;rw[←dZ,←eN];have jq:∀ q≤R.length,Gd (zaD [] (R.take q)):=by
     intro q;induction q with
     | zero=>intro _;exact Gd.nil
     | succ q ih=>intro hq;have:=zdr (s:=[]) (λr:IT × Nat=>r) R (show q<R.length by omega);simp only[List.map_id']at this;rw[this];have h1:=(R1 R[q] (List.getElem_mem (by omega))).2.2.2.2.2.2;have h2:=zh6 R[q].1;exact (ih (by omega)).add (by omega) _
    unfold znI;refine ALoop.vec 9 zax 5 rfl ?_;rw[fE,List.append_assoc];show znI (.ov (H.length+3) (zaD [] (R.take 0)).length) _ _ _ (hpL H (.mk 5 tn tks) (.mk n l) (.mk n' m) (zaD [] (R.take 0))) _;refine zUo (Inv:=λq t9 t80 H'=>∃ q':Nat,q'≤R.length∧R.length-q'=q∧t80=.int .i64 q'∧t9=.ov (H.length+3) (zaD [] (R.take q')).length∧H'=hpL H (.mk 5 tn tks) (.mk n l) (.mk n' m) (zaD [] (R.take q'))) R.length ?_ ?_
    ·intro _;exact⟨0,by omega,rfl,rfl,rfl,rfl⟩
    ·rintro q t9 t80 H' ⟨q',hq,rfl,rfl,rfl,rfl⟩ hsc19 hlen19 hsF19 Kb19 hKb19;by_cases dw:q'<R.length
     ·have hr:=R1 R[q'] (List.getElem_mem dw);have kG:=zd3 (List.getElem_mem dw);have aq:=zdr (s:=[]) (λr:IT × Nat=>r) R dw;simp only[List.map_id']at aq;have kD:zaG (λ_=>1) (zaD [] (R.take q'))≤729:=by rw[zeh,zcT,Nat.zero_add];exact Nat.le_trans (zgJ _ _ _) R2
      have hG:=jq q' (by omega);generalize iL:zaD [] (R.take q')=s at *;simp[zuM,dw,zc8,zcB,zcJ,wi q' (by omega)];refine⟨zd7 _,?_⟩;have en:=hr.2.2.2.2.2.2;have cI:=zh6 R[q'].1;refine zfk hG (by omega) R[q'].1 (by omega) R[q'].2 (by omega) (H.length+3) _ _ zpJ ?_;rw[zpL];exact hKb19 _ _ ⟨R.length-(q'+1),by omega,Back.at (J:=[.cells (tmC R[q'])]) (H2:=hpL H (.mk 5 tn tks) (.mk n l) (.mk n' m) (zba s R[q'].1 R[q'].2)) rfl (by simp) (zpK hs) (by simp[znE,ux,AV.sc,AV.scA,AV.scB,AV.scV]) ⟨_,_,rfl,q'+1,by omega,rfl,rfl,by rw[aq],by rw[aq]⟩⟩
     ·obtain rfl:q'=R.length:=by omega
      rw[List.take_length];have:=bj (zaD [] R) [] c5.symm;simp[zuM,zf3,znG];simpa using this
   ·have c5:za8 aa (f+1) (.mk k tn tks) (.mk n l) (.mk n' m)=[(.mk 0 [],1)]:=by rw[za8];simp[VT.kind,k6,k7,k5]
    rw[c5]at hK;have b6:(k == 6)=false:=by simpa using k6
    have b7:(k == 7)=false:=by simpa using k7
    have b5:(k == 5)=false:=by simpa using k5
    simp[ziP,bS,dZ,eN,b6,b7,b5,zaq,zaI,AV.known,Nat.add_assoc];refine zfa 1 (by omega) _ _ ?_;refine ACalls.wk (args':=[.snil,.agg (IT.mk 0 []).cs,.agg (zai 1)]) ?_ ⟨.rfl',.agg ⟨.refl _,.snil,trivial⟩,.rfl',trivial⟩;exact zo9 (.mk 0 []) (by simp[IT.nodes,IT.nodesL]) H [_,_,_] hs K hK
theorem zyd {aa:List Dat} (hk:zbv aa) (h8:∀ D∈aa,D.cons.length≤8) (hD:zbq aa=true):∀ f,zoX aa f∧zi5 aa f∧zi3 aa f
 | 0=>⟨λt i j h=>by have:=i.nodes_pos;omega,λts l m h=>by omega,λt l m h=>by omega⟩
 | f+1=>by obtain⟨h1,h2,h3⟩:=zyd hk h8 hD f;exact⟨zHv hk h8 hD h2 h3,zHw h8 h1,zHn hk h8 hD h2 h3⟩
theorem zXB {aa:List Dat} (hk:zbv aa) (h8:∀ D∈aa,D.cons.length≤8) (t:VT) (ht:t.nodes≤1000) (v:IT) (hv:v.nodes≤900) (H:zaa) (K:Kt) (hK:K (.int .i64 (rdV aa v t)) H):ACalls tP zq5 [.sl (aa.map Dat.cs) .none,.agg t.cs,.agg v.cs] H K:=by refine ACalls.out (zXA λhs=>?_);obtain⟨x,y,z,aC,hx,hy,hz⟩:=zbs t;obtain⟨x2,y2,aP,bg,fB⟩:=zck v;simp[zE3,aC,aP,Nat.add_assoc];rw[←aC,←aP];refine zEg hk h8 _ v (Nat.le_refl _) hv t ht _ _ ?_;exact Out.int rfl (Nat.le_refl _) hs hK
def ofD (aa:List Dat) (t:VT) (s:List (IT × Nat)) (d:Nat):List (IT × Nat):=s.filter λp=>rdV aa p.1 t == (d:Int)
def zbC (aa:List Dat) (t:VT) (s:List (IT × Nat)) (d:Nat):List (IT × Nat):=(List.range d).flatMap (ofD aa t s)
theorem zq6 (aa:List Dat) (t:VT) (s:List (IT × Nat)) (d:Nat):zbC aa t s (d+1)=zbC aa t s d++ofD aa t s d:=by simp[zbC,List.range_succ]
theorem zyu (aa:List Dat) (t:VT) (f:IT→Nat):∀ (s:List (IT × Nat)),(∀ p∈s,0≤rdV aa p.1 t∧rdV aa p.1 t≤6)→∀ d:Nat,zaG f (zbC aa t s d)=zaG f (s.filter λp=>decide (rdV aa p.1 t<(d:Int)))
 | s,h,0=>by
  have:(s.filter λp=>decide (rdV aa p.1 t<((0:Nat):Int)))=[]:=by rw[List.filter_eq_nil_iff];intro p hp;have:=h p hp;simp;omega
  rw[this];rfl
 | s,h,d+1=>by
  rw[zq6,zil,zyu aa t f s h d];unfold ofD;clear h;induction s with
  | nil=>rfl
  | cons p s ih=>
   simp only[List.filter_cons];by_cases h1:rdV aa p.1 t<(d:Int)
   ·have h2:(rdV aa p.1 t == (d:Int))=false:=by simp;omega
    have h3:rdV aa p.1 t<((d+1:Nat):Int):=by omega
    simp only[h1,h2,h3,decide_true,if_true,Bool.false_eq_true,if_false,zc6];omega
   ·by_cases h2:rdV aa p.1 t=(d:Int)
    ·have h3:rdV aa p.1 t<((d+1:Nat):Int):=by omega
     have h4:(rdV aa p.1 t == (d:Int))=true:=by simpa using h2
     simp only[h1,h4,h3,decide_true,decide_false,if_true,Bool.false_eq_true,if_false,zc6];omega
    ·have h3:¬ rdV aa p.1 t<((d+1:Nat):Int):=by omega
     have h4:(rdV aa p.1 t == (d:Int))=false:=by simpa using h2
     simp only[h1,h4,h3,decide_false,if_false,Bool.false_eq_true];omega
theorem zHU {aa:List Dat} {t:VT} {s:List (IT × Nat)} (h:∀ p∈s,0≤rdV aa p.1 t∧rdV aa p.1 t≤6) (f:IT→Nat):zaG f (zbC aa t s 7)=zaG f s:=by rw[zyu aa t f s h 7];congr 1;rw[List.filter_eq_self];intro p hp;have:=h p hp;simp;omega
theorem zHT {aa:List Dat} {t:VT} {s:List (IT × Nat)} {d:Nat}:∀ p∈zbC aa t s d,p∈s:=by intro p hp;obtain⟨k,_,h⟩:=List.mem_flatMap.1 hp;exact (List.mem_filter.1 h).1
theorem zyv {aa:List Dat} {t:VT} {s:List (IT × Nat)} {d j:Nat} (hj:j<s.length):ofD aa t (s.take (j+1)) d=ofD aa t (s.take j) d++if rdV aa s[j].1 t=(d:Int) then [s[j]] else []:=by
 rw[List.take_succ_eq_append_getElem hj];simp only[ofD,List.filter_append,List.filter_cons,List.filter_nil];by_cases h:rdV aa s[j].1 t=(d:Int)
 ·simp[h]
 ·have h4:(rdV aa s[j].1 t == (d:Int))=false:=by simpa using h
  simp[h,h4]
theorem zki {aa:List Dat} {t:VT} {s:List (IT × Nat)} {d:Nat}:(ofD aa t s d).length≤s.length:=List.length_filter_le _ _
theorem zkk {aa:List Dat} {t:VT} {s:List (IT × Nat)}:∀ d:Nat,(zbC aa t s d).length≤d*s.length
 | 0=>by simp[zbC]
 | d+1=>by rw[zq6,List.length_append,Nat.succ_mul];have:=zkk (aa:=aa) (t:=t) (s:=s) d;have:=zki (aa:=aa) (t:=t) (s:=s) (d:=d);omega
theorem zJR (a:List (IT × Nat)) (p:IT × Nat):zaL a++[tmC p]=zaL (a++[p]):=by simp[zaL]
theorem zUB {aa:List Dat} (hk:zbv aa) (h8:∀ D∈aa,D.cons.length≤8) (t:VT) (ht:t.nodes≤1000) (s:List (IT × Nat)) (iM:∀ p∈s,p.1.nodes≤900) (hl:s.length≤1000) (H:zaa) (K:Kt) (hK:K (.sl (zaL (zbC aa t s 7)) .none) H):ACalls tP zqS [.sl (aa.map Dat.cs) .none,.agg t.cs,.sl (zaL s) .none] H K:=by
 refine ACalls.out (zUz λhs=>?_);obtain⟨x,y,z,aC,hx,hy,hz⟩:=zbs t;simp[zDQ,aC,Nat.add_assoc];rw[←aC];unfold znM;refine ALoop.own 7 zax 5 rfl ?_;have di:(H++[AB.cells t.cs]).length=H.length+1:=by simp
 rw[di,List.append_assoc];show znM _ _ _ (.sl (zaL (zbC aa t s 0)) (.own (H.length+1))) _ (H++[.cells t.cs,.perm zax 5 0]) _;have kI:∀ n,HSc (H++[.cells t.cs,.perm zax 5 n]):=λn=>hs.append (by
  obtain⟨k,m,ks⟩:=t;simp[AB.sc,VT.cs,AV.scA,AV.scB])
 refine zUw (Inv:=λq t7 t8 H'=>∃ d:Nat,d≤7∧7-d=q∧t8=.int .i64 d∧t7=.sl (zaL (zbC aa t s d)) (.own (H.length+1))∧H'=H++[.cells t.cs,.perm zax 5 (zbC aa t s d).length]) 7 ?_ ?_
 ·intro _;exact⟨0,by omega,rfl,rfl,rfl,rfl⟩
 ·rintro q t7 t8 H' ⟨d,hd,rfl,rfl,rfl,rfl⟩ eA hlen3 hsF3 Kb3 hKb3;have gO:=zkk (aa:=aa) (t:=t) (s:=s) d;have hdl2:d*s.length≤7000:=Nat.mul_le_mul (show d≤7 by omega) hl;by_cases ak:d≤6
  ·have aG:(d:Int)≤6:=by omega
   simp[zuP,aG,Nat.add_assoc];refine zUx (Inv:=λq t7 t17 H'=>∃ j:Nat,j≤s.length∧s.length-j=q∧t17=.int .i64 j∧t7=.sl (zaL (zbC aa t s d++ofD aa t (s.take j) d)) (.own (H.length+1))∧H'=H++[.cells t.cs,.perm zax 5 (zbC aa t s d++ofD aa t (s.take j) d).length]) s.length ?_ ?_
   ·intro _;exact⟨0,by omega,rfl,rfl,by simp[ofD],by simp[ofD]⟩
   ·rintro q t7 t17 H' ⟨j,hj,rfl,rfl,rfl,rfl⟩ jt gw ju Kb6 d5;by_cases aQ:j<s.length
    ·have aq:=zyv (aa:=aa) (t:=t) (d:=d) aQ;have hol:(ofD aa t (s.take j) d).length≤1000:=Nat.le_trans zki (by simp;omega);generalize iL:ofD aa t (s.take j) d=o at *;generalize mw:zbC aa t s d=A at *;have hn:=iM _ (List.getElem_mem aQ);simp[zuQ,aQ,zc8,zcB,aC,Nat.add_assoc];refine⟨zd7 _,?_⟩;rw[←aC];refine zXB hk h8 t ht s[j].1 (by omega) _ _ ?_;by_cases he:rdV aa s[j].1 t=(d:Int)
     ·rw[if_pos he]at aq;have cZ:plain ([.int .i64 0,.snil,.bool false,.snil,.snil]:List AV)=some [.int .i64 0,.sl [] .none,.bool false,.sl [] .none,.sl [] .none]:=rfl;simp[he,znL,zuT,zc8,zau,zaQ,zks,cZ,wi j (by omega)];simp only[zav,zaM,zaJ];simp[List.set_append_right];refine⟨⟨by omega,by omega⟩,?_⟩;rw[zJR,List.append_assoc,←aq];have ct:A.length+o.length+1=(A++ofD aa t (s.take (j+1)) d).length:=by rw[aq];simp;omega
      rw[ct];exact d5 _ _ ⟨s.length-(j+1),by omega,Back.at (J:=[.cells (tmC s[j])]) (H2:=H++[.cells t.cs,.perm zax 5 (A++ofD aa t (s.take (j+1)) d).length]) (by simp) (by simp) (kI _) (by simp[ziQ,ux,AV.sc,AV.scA,AV.scB,AV.scV]) ⟨_,_,rfl,j+1,by omega,rfl,rfl,rfl,rfl⟩⟩
     ·have jQ:(rdV aa s[j].1 t == (d:Int))=false:=by simpa using he
      rw[if_neg he,List.append_nil]at aq;simp[jQ,znL,zuT,wi j (by omega)];exact d5 _ _ ⟨s.length-(j+1),by omega,Back.at (J:=[.cells (tmC s[j])]) (H2:=H++[.cells t.cs,.perm zax 5 (A++o).length]) (by simp) (by simp) (kI _) (by simp[ziQ,ux,AV.sc,AV.scA,AV.scB,AV.scV]) ⟨_,_,rfl,j+1,by omega,rfl,rfl,by rw[aq],by rw[aq]⟩⟩
    ·obtain rfl:j=s.length:=by omega
     rw[List.take_length,←zq6];simp[zuQ,wi d (by omega)];exact hKb3 _ _ ⟨7-(d+1),by omega,Back.here (by simp) (kI _) (by simp[znK,ux,AV.sc,AV.scA,AV.scB,AV.scV]) ⟨_,_,rfl,d+1,by omega,rfl,rfl,rfl,rfl⟩⟩
  ·obtain rfl:d=7:=by omega
   simp[zuP];exact Out.at (b:=.sl (zaL (zbC aa t s 7)) .none) rfl (Nat.le_refl _) hs (.atom (.sl _ _)) rfl rfl hK
def zbb:List (IT × Nat)→IT→Nat→List (IT × Nat)
 | [],i,c=>[(i,c)]
 | p::s,i,c=>if IT.same p.1 i then (p.1,p.2+c)::s else p::zbb s i c
theorem zzg (i:IT):IT.same i i=true:=(IT.cmp_zero i i).1 (zgg i)
theorem zo8 (g:IT→Nat) (i:IT) (c:Nat):∀ s:List (IT × Nat),zaE g (zbb s i c)=zaE g s+c*g i
 | []=>by simp[zbb]
 | p::s=>by
  unfold zbb;split
  ·rename_i h;rw[zbh,zbh,same_eq _ _ h,Nat.add_mul];omega
  ·rw[zbh,zbh,zo8 g i c s];omega
theorem zha {i:IT} {c:Nat}:∀ {s:List (IT × Nat)} {p:IT × Nat},p∈zbb s i c→p.1=i∧c≤p.2∨p∈s
 | [],p,h=>by simp[zbb]at h;rw[h];exact .inl ⟨rfl,Nat.le_refl _⟩
 | x::s,p,h=>by
  unfold zbb at h;split at h
  ·rename_i he;rcases List.mem_cons.1 h with rfl | h
   ·exact .inl ⟨same_eq _ _ he,by simp⟩
   ·exact .inr (List.mem_cons_of_mem _ h)
  ·rcases List.mem_cons.1 h with rfl | h
   ·exact .inr List.mem_cons_self
   ·rcases zha h with h | h
    ·exact .inl h
    ·exact .inr (List.mem_cons_of_mem _ h)
theorem zwA {i:IT} {c:Nat}:∀ {s:List (IT × Nat)},(s.map Prod.fst).Nodup→((zbb s i c).map Prod.fst).Nodup
 | [],_=>by simp[zbb]
 | x::s,h=>by
  rw[List.map_cons,List.nodup_cons]at h;unfold zbb;split
  ·rw[List.map_cons,List.nodup_cons];exact h
  ·rename_i he;rw[List.map_cons,List.nodup_cons];refine⟨λhx=>?_,zwA h.2⟩;obtain⟨p,hp,hpe⟩:=List.mem_map.1 hx;rcases zha hp with ⟨h1,_⟩ | h1
   ·exact he (by rw[←hpe,h1,zzg])
   ·exact h.1 (List.mem_map.2 ⟨p,h1,hpe⟩)
theorem zwy {i:IT} {c:Nat}:∀ {s:List (IT × Nat)} {k:Nat} (hk:k<s.length),s[k].1=i→(s.map Prod.fst).Nodup→zbb s i c=s.set k (s[k].1,s[k].2+c)
 | x::s,0,_,he,_=>by simp only[List.getElem_cons_zero]at he;unfold zbb;rw[if_pos (by rw[he];exact zzg i)];rfl
 | x::s,k+1,hk,he,hn=>by
  rw[List.map_cons,List.nodup_cons]at hn;simp only[List.getElem_cons_succ]at he;have cg:k<s.length:=by simpa using hk
  unfold zbb;rw[if_neg λh=>hn.1 (by rw[same_eq _ _ h,←he];exact List.mem_map.2 ⟨s[k],List.getElem_mem cg,rfl⟩),zwy cg he hn.2];rfl
theorem zwB {i:IT} {c:Nat}:∀ {s:List (IT × Nat)},(∀ p∈s,p.1≠i)→zbb s i c=s++[(i,c)]
 | [],_=>rfl
 | x::s,h=>by unfold zbb;rw[if_neg λhe=>h x List.mem_cons_self (same_eq _ _ he),zwB λp hp=>h p (List.mem_cons_of_mem _ hp)];rfl
def zbA (s l:List (IT × Nat)):List (IT × Nat):=l.foldl (λs p=>zbb s p.1 p.2) s
theorem zGo (s:List (IT × Nat)):zbA s []=s:=rfl
theorem zGp (s l:List (IT × Nat)) (p:IT × Nat):zbA s (l++[p])=zbb (zbA s l) p.1 p.2:=by simp[zbA]
theorem zpq (g:IT→Nat):∀ (l s:List (IT × Nat)),zaE g (zbA s l)=zaE g s+zaE g l
 | [],s=>by simp[zbA]
 | p::l,s=>by have:=zpq g l (zbb s p.1 p.2);rw[zo8]at this;show zaE g (zbA (zbb s p.1 p.2) l)=_;rw[this,zbh];omega
theorem zpp:∀ (l s:List (IT × Nat)),(s.map Prod.fst).Nodup→((zbA s l).map Prod.fst).Nodup
 | [],s,h=>h
 | p::l,s,h=>zpp l _ (zwA h)
theorem zxc:∀ (l s:List (IT × Nat)),(∀ q∈s,0<q.2)→(∀ q∈l,0<q.2)→∀ p∈zbA s l,0<p.2∧((∃ q∈s,q.1=p.1)∨∃ q∈l,q.1=p.1)
 | [],s,hs,_,p,hp=>⟨hs p hp,.inl ⟨p,hp,rfl⟩⟩
 | x::l,s,hs,hl,p,hp=>by
  have hx:=hl x List.mem_cons_self;obtain⟨h1,h2⟩:=zxc l (zbb s x.1 x.2) (λq hq=>(zha hq).elim (λh=>Nat.lt_of_lt_of_le hx h.2) (hs q)) (λq hq=>hl q (List.mem_cons_of_mem _ hq)) p hp;refine⟨h1,?_⟩;rcases h2 with ⟨q,hq,he⟩ | ⟨q,hq,he⟩
  ·rcases zha hq with ⟨h,_⟩ | h
   ·exact .inr ⟨x,List.mem_cons_self,by rw[←he,h]⟩
   ·exact .inl ⟨q,h,he⟩
  ·exact .inr ⟨q,List.mem_cons_of_mem _ hq,he⟩
theorem zF3 {aa:List Dat} {t:VT} {d:Nat} {s r L:List (IT × Nat)} (hr:r.Perm (ofD aa t s d)) (hso:r.Pairwise λp q=>¬ IT.cmp q.1 p.1<0) (hn:(s.map Prod.fst).Nodup) (hs:∀ p∈s,0<p.2) (hL:Asc L) (eO:∀ p∈L,0<p.2) (dl:∀ g:IT→Nat,zaE g s=zaE g L):r=ofD aa t L d:=by
 have mB:(r.map Prod.fst).Nodup:=((hr.map Prod.fst).nodup_iff).2 (hn.sublist ((List.filter_sublist).map _));have hasc:Asc r:=by
  unfold List.Nodup at mB;rw[List.pairwise_map]at mB;refine (hso.and mB).imp λ{p q} h=>?_;have h0:=IT.cmp_anti p.1 q.1;by_cases h1:IT.cmp p.1 q.1=0
  ·exact absurd (zpn h1) h.2
  ·omega
 refine zwL hasc (hL.sublist List.filter_sublist) (λp hp=>hs p (List.mem_filter.1 (hr.subset hp)).1) (λp hp=>eO p (List.mem_filter.1 hp).1) λg=>?_;rw[zJI g hr];have h1:=zkF g (λx=>rdV aa x t == (d:Int)) s;have h2:=zkF g (λx=>rdV aa x t == (d:Int)) L;unfold ofD;rw[h1,h2,dl]
theorem zHp (aa:List Dat) (f:Nat) (t:VT) (i j:IT):Asc (za8 aa f t i j):=by
 have h0:Asc ([]:List (IT × Nat)):=List.Pairwise.nil;cases f with
 | zero=>rw[za8];exact h0
 | succ f=>
  rw[za8];split
  ·exact zi8 _ _ h0
  ·split
   ·exact zi8 _ _ h0
   ·split
    ·exact zi8 _ _ h0
    ·exact List.pairwise_singleton _ _
mutual
def wrI:IT→List UInt8
 | .mk n ks=>UInt8.ofNat (48+n.toNat)::(if ks.length=0 then [] else 40::(zbl ks++[41]))
def zbl:List IT→List UInt8
 | []=>[]
 | k::ks=>wrI k++44::zbl ks
end
mutual
def Dig:IT→Prop
 | .mk n ks=>0≤n∧n≤9∧zcM ks
def zcM:List IT→Prop
 | []=>True
 | k::ks=>Dig k∧zcM ks
end
theorem zv4:∀ {ks:List IT},zcM ks→∀ k∈ks,Dig k
 | k::ks,h,x,hx=>by
  rw[zcM]at h;rcases List.mem_cons.1 hx with rfl | hx
  ·exact h.1
  ·exact zv4 h.2 x hx
theorem zoU:∀ {ks:List IT},(∀ k∈ks,Dig k)→zcM ks
 | [],_=>by rw[zcM];trivial
 | k::ks,h=>by rw[zcM];exact⟨h k List.mem_cons_self,zoU λx hx=>h x (List.mem_cons_of_mem _ hx)⟩
theorem zGE {a b:Int} (ha:0≤a) (ha9:a≤9) (hb:0≤b) (hb9:b≤9) (h:UInt8.ofNat (48+a.toNat)=UInt8.ofNat (48+b.toNat)):a=b:=by have:=congrArg UInt8.toNat h;rw[UInt8.toNat_ofNat_of_lt' (by show _<256;omega),UInt8.toNat_ofNat_of_lt' (by show _<256;omega)]at this;omega
theorem zxk {a:Int} (ha:0≤a) (ha9:a≤9):UInt8.ofNat (48+a.toNat)≠41:=by intro h;have:=congrArg UInt8.toNat h;rw[UInt8.toNat_ofNat_of_lt' (by show _<256;omega)]at this;simp at this;omega
theorem zr0 (k:IT) (s:List UInt8):∃ r,wrI k++s=UInt8.ofNat (48+(zaS k).toNat)::r:=by obtain⟨n,ks⟩:=k;rw[wrI];exact⟨_,rfl⟩
theorem zv5 {k:IT} (h:Dig k):0≤zaS k∧zaS k≤9:=by obtain⟨n,ks⟩:=k;rw[Dig]at h;exact⟨h.1,h.2.1⟩
mutual
theorem zAs:∀ (i j:IT) (s s':List UInt8),Dig i→Dig j→s.head?≠some 40→s'.head?≠some 40→wrI i++s=wrI j++s'→i=j∧s=s'
 | .mk n ks,.mk m ls,s,s',hi,hj,h1,h2,h=>by
  rw[Dig]at hi hj;rw[wrI,wrI,List.cons_append,List.cons_append,List.cons.injEq]at h;obtain rfl:=zGE hi.1 hi.2.1 hj.1 hj.2.1 h.1;have h':=h.2;by_cases hk:ks.length=0
  ·obtain rfl:=List.eq_nil_of_length_eq_zero hk;by_cases hl:ls.length=0
   ·obtain rfl:=List.eq_nil_of_length_eq_zero hl;simp at h';exact⟨rfl,h'⟩
   ·rw[if_pos (show ([]:List IT).length=0 from rfl),if_neg hl]at h';rw[List.nil_append]at h';rw[h']at h1;simp at h1
  ·by_cases hl:ls.length=0
   ·obtain rfl:=List.eq_nil_of_length_eq_zero hl;rw[if_neg hk,if_pos (show ([]:List IT).length=0 from rfl),List.nil_append]at h';rw[←h']at h2;simp at h2
   ·rw[if_neg hk,if_neg hl,List.cons_append,List.cons_append,List.cons.injEq]at h';have h3:=h'.2;simp only[List.append_assoc,List.cons_append,List.nil_append]at h3;obtain⟨e1,e2⟩:=zAq ks ls s s' hi.2.2 hj.2.2 h3;exact⟨by rw[e1],e2⟩
theorem zAq:∀ (ks ls:List IT) (s s':List UInt8),zcM ks→zcM ls→zbl ks++41::s=zbl ls++41::s'→ks=ls∧s=s'
 | [],[],s,s',_,_,h=>by rw[zbl,List.nil_append,List.nil_append]at h;simp at h;exact⟨rfl,h⟩
 | [],l::ls,s,s',_,hl,h=>by rw[zcM]at hl;rw[zbl,zbl,List.append_assoc,List.nil_append,List.cons_append]at h;obtain⟨r,hr⟩:=zr0 l (44::(zbl ls++41::s'));rw[hr]at h;have h0:=(List.cons.inj h).1;have:=zv5 hl.1;exact absurd h0.symm (zxk this.1 this.2)
 | k::ks,[],s,s',hk,_,h=>by rw[zcM]at hk;rw[zbl,zbl,List.append_assoc,List.nil_append,List.cons_append]at h;obtain⟨r,hr⟩:=zr0 k (44::(zbl ks++41::s));rw[hr]at h;have h0:=(List.cons.inj h).1;have:=zv5 hk.1;exact absurd h0 (zxk this.1 this.2)
 | k::ks,l::ls,s,s',hk,hl,h=>by rw[zcM]at hk hl;rw[zbl,zbl,List.append_assoc,List.append_assoc,List.cons_append,List.cons_append]at h;obtain⟨e1,e2⟩:=zAs k l (44::(zbl ks++41::s)) (44::(zbl ls++41::s')) hk.1 hl.1 (by simp) (by simp) h;rw[List.cons.injEq]at e2;obtain⟨e3,e4⟩:=zAq ks ls s s' hk.2 hl.2 e2.2;exact⟨by rw[e1,e3],e4⟩
end
theorem zAt {i j:IT} (hi:Dig i) (hj:Dig j) (h:wrI i=wrI j):i=j:=
 (zAs i j [] [] hi hj (by simp) (by simp) (by rw[h])).1
theorem zGD {aa:List Dat} (h8:∀ D∈aa,D.cons.length≤8):∀ (m:Nat) (i:IT),i.nodes≤m→∀ t:VT,0≤rdV aa i t→Dig i:=by
 intro m;induction m with
 | zero=>intro i h;have:=i.nodes_pos;omega
 | succ m ih=>
  have hA:∀ (l:List IT) (ts:List VT),IT.nodesL l≤m→l.length=ts.length→0≤rdA aa l ts 0→zcM l:=by intro l ts hm hl h;refine zoU λk hk=>?_;obtain⟨j,hj,rfl⟩:=List.getElem_of_mem hk;have:=(zeZ (aa:=aa) l ts 0 (by omega) hl h).1 j hj (by omega);exact ih l[j] (by have:=zdQ hj;omega) ts[j] this
  intro i hm t h;obtain⟨n,ks⟩:=i;obtain⟨k,tn,tks⟩:=t;simp only[IT.nodes]at hm;rw[Dig];by_cases k6:k=6
  ·subst k6;rw[rdV]at h;simp only[VT.kind,VT.kids,if_true]at h;by_cases hn:n=0
   ·by_cases hl:tks.length=ks.length
    ·simp[hn,hl]at h;exact⟨by omega,by omega,hA ks tks (by omega) hl.symm h⟩
    ·simp[hn,hl]at h
   ·simp[hn]at h
  ·by_cases k7:k=7
   ·subst k7;rw[rdV]at h;simp only[VT.kind,k6,if_false,if_true]at h;by_cases hc:0≤n∧n≤6∧ks.length=0
    ·obtain rfl:=List.eq_nil_of_length_eq_zero hc.2.2;exact⟨hc.1,by omega,by rw[zcM];trivial⟩
    ·rw[if_neg hc]at h;omega
   ·by_cases k5:k=5
    ·subst k5;rw[zid]at h;by_cases hc:n=0∧ks.length≤6
     ·rw[if_pos hc]at h;refine⟨by omega,by omega,zoU λx hx=>?_⟩;obtain⟨j,hj,rfl⟩:=List.getElem_of_mem hx;have hn:=zdQ hj;obtain⟨c,eks,he⟩:∃ c eks,ks[j]=.mk c eks:=⟨zaS ks[j],zaH ks[j],by cases ks[j];rfl⟩;obtain⟨ps,e1,e2,e3⟩:=zIg h8 h hj he;have hrE:0≤rdE aa [ks[j]] (.mk 5 tn tks) 0:=by have h0:=h;rw[zry ks]at h0;exact (zkv h8 (.mk 5 tn tks) (ks.map λx=>[x]) 0 (by omega) (by omega) h0).1 [ks[j]] (List.mem_map.2 ⟨ks[j],List.getElem_mem hj,rfl⟩)
      rw[he]at hrE;obtain⟨c0,c8,_⟩:=zfF hrE;rw[he,Dig];rw[he]at hn;simp only[IT.nodes]at hn;exact⟨c0,by omega,hA eks ps (by omega) e2.symm e3.1⟩
     ·rw[if_neg hc]at h;omega
    ·rw[rdV]at h;simp only[VT.kind,k6,k7,k5,if_false]at h;by_cases hc:n=0∧ks.length=0
     ·obtain rfl:=List.eq_nil_of_length_eq_zero hc.2;exact⟨by omega,by omega,by rw[zcM];trivial⟩
     ·rw[if_neg hc]at h;omega
def kvS:List (IT × Nat)→Nat→List (List UInt8 × AV)
 | [],_=>[]
 | p::s,k=>(wrI p.1,.int .i64 k)::kvS s (k+1)
theorem zxR {i:IT} (hi:Dig i):∀ (s:List (IT × Nat)) (k:Nat),(∀ p∈s,Dig p.1)→(∀ p∈s,p.1≠i)→zbO (kvS s k) (wrI i)=none∧∀ c,zcH (kvS s k) (wrI i) (.int .i64 (k+s.length:Nat))=kvS (s++[(i,c)]) k
 | [],k,_,_=>by simp[kvS,zbO,zcH]
 | p::s,k,h,hn=>by
  have hb:(wrI p.1 == wrI i)=false:=by simp only[beq_eq_false_iff_ne,ne_eq];intro he;exact hn p (by simp) (zAt (h p (by simp)) hi he)
  obtain⟨h1,h2⟩:=zxR hi s (k+1) (λq hq=>h q (by simp[hq])) (λq hq=>hn q (by simp[hq]));refine⟨by simp[kvS,zbO,hb,h1],λc=>?_⟩;have:=h2 c;rw[show k+1+s.length=k+(p::s).length by simp;omega]at this;simp[kvS,zcH,hb]at this ⊢;exact this
theorem zxT {i:IT} (hi:Dig i):∀ (s:List (IT × Nat)) (k j:Nat) (hj:j<s.length),(∀ p∈s,Dig p.1)→(s.map Prod.fst).Nodup→s[j].1=i→zbO (kvS s k) (wrI i)=some (.int .i64 (k+j:Nat))
 | p::s,k,0,hj,h,hn,he=>by simp at he;simp[kvS,zbO,he]
 | p::s,k,j+1,hj,h,hn,he=>by
  simp only[List.getElem_cons_succ]at he;simp only[List.map_cons,List.nodup_cons]at hn;have hb:(wrI p.1 == wrI i)=false:=by simp only[beq_eq_false_iff_ne,ne_eq];intro hh;have:=zAt (h p (by simp)) hi hh;exact hn.1 (by rw[this,←he];exact List.mem_map.2 ⟨_,List.getElem_mem (by simpa using hj),rfl⟩)
  have:=zxT hi s (k+1) j (by simpa using hj) (λq hq=>h q (by simp[hq])) hn.2 he;rw[show k+1+j=k+(j+1) by omega]at this;simp[kvS,zbO,hb,this]
theorem zxQ:∀ (s s':List (IT × Nat)) (k:Nat),s.map Prod.fst=s'.map Prod.fst→kvS s k=kvS s' k
 | [],[],_,_=>rfl
 | [],_::_,_,h=>by simp at h
 | _::_,[],_,h=>by simp at h
 | p::s,q::s',k,h=>by simp only[List.map_cons,List.cons.injEq]at h;rw[kvS,kvS,h.1,zxQ s s' (k+1) h.2]
theorem zHc (s:List (IT × Nat)) {j:Nat} (hj:j<s.length) (c k:Nat):kvS (s.set j (s[j].1,c)) k=kvS s k:=by
 refine zxQ _ _ _ ?_;rw[List.map_set];refine List.ext_getElem (by simp) λn h1 h2=>?_;rw[List.getElem_set];split
 ·rename_i h;subst h;simp
 ·rfl
theorem zxS {n:Nat}:∀ (s:List (IT × Nat)) (k:Nat),((kvS s k).all λp=>p.2.scV n)=true
 | [],_=>rfl
 | p::s,k=>by rw[kvS,List.all_cons,zxS s (k+1),Bool.and_true];simp[AV.scV,AV.scA,AV.scB]
mutual
theorem zr1:∀ i:IT,(wrI i).length+1≤4*i.nodes
 | .mk n ks=>by
  have:=zkV ks;rw[wrI];simp only[IT.nodes];split
  ·simp;omega
  ·rename_i h;have hl:=IT.len_le ks;simp;omega
theorem zkV:∀ ks:List IT,(zbl ks).length≤4*IT.nodesL ks
 | []=>by simp[zbl]
 | k::ks=>by have:=zr1 k;have:=zkV ks;rw[zbl];simp only[IT.nodesL,List.length_append,List.length_cons];omega
end
section
open Go.RowKit
set_option maxHeartbeats 1000000 in
set_option maxRecDepth 100000 in
theorem zGw (b:Nat) (w:World) (h0:w.cell? ⟨b,0,none⟩=some (.pointer (some ⟨b,0,none⟩))) :
  Calls tP zhO #[.pointer (some ⟨b,0,none⟩)] w λe w'=>e=.returned (.tuple #[])∧w'=w:=by
 obtain⟨j,hj⟩:∃ j,tP.info? 112=some j:=Option.isSome_iff_exists.1 (by kernel_rfl)
 go_enter Tryz.func169,Tryz.ntmps169
 go_wp2
 rw[Lib.run_neq_ptr_same w _ Tryz.underlying109 hj]
 go_wp2
 go_end0
 exact⟨rfl,rfl⟩
set_option maxHeartbeats 1000000 in
set_option maxRecDepth 100000 in
theorem zGv (b:Nat) (w:World) (h0:w.cell? ⟨b,0,none⟩=some (.pointer none)) (aU:w.shape? b=some (112,2)) (hfz:w.frozen? ⟨b,0,none⟩=false) :
  Calls tP zhO #[.pointer (some ⟨b,0,none⟩)] w λe w'=>e=.returned (.tuple #[])∧w'=w.setCell ⟨b,0,none⟩ (.pointer (some ⟨b,0,none⟩)):=by
 obtain⟨j,hj⟩:∃ j,tP.info? 112=some j:=Option.isSome_iff_exists.1 (by kernel_rfl);have hjs:j.size=2:=by
  have:(tP.info? 112).map (·.size)=some 2:=by kernel_rfl
  rw[hj]at this;simpa using this
 go_enter Tryz.func169,Tryz.ntmps169
 go_wp2
 rw[Lib.run_to_unsafe w ⟨b,0,none⟩ Tryz.underlying109 Tryz.underlying256 hj (by rw[hjs];decide) aU (Nat.zero_lt_succ 1)];simp only[Result.andThen];rw[Oper.upon_value]
 go_wp2
 rw[run_callFunc_extern Tryz.func214 (by kernel_rfl) (by kernel_rfl) (by kernel_rfl) (e:=Extern.AbiNoEscape.same) (by kernel_rfl)];rw[Lib.run_noEscape];simp only[Result.andThen];rw[Oper.upon_value]
 go_wp2
 rw[Lib.run_from_unsafe w ⟨b,0,none⟩ Tryz.underlying256 Tryz.underlying109 hj aU (by kernel_rfl)];simp only[Result.andThen];rw[Oper.upon_value]
 go_wp2
 go_end0
 exact⟨rfl,rfl⟩
set_option maxHeartbeats 2000000 in
set_option maxRecDepth 100000 in
theorem zKf (b:Nat) (s:ByteArray) (v v':Value) (w w1 w2:World)
  (ci:Calls tP zhO #[.pointer (some ⟨b,0,none⟩)] w λe w'=>e=.returned (.tuple #[])∧w'=w1)
  (bI:w1.heap[b]?=some (.cells #[.pointer (some ⟨b,0,none⟩),v] 112 (0,0)))
  (hr:∀ ty,(Builtin.append_ #[110,9] ty #[v,.string s]).run tP w1=.ok v' w2)
  (bq:w2.heap[b]?=some (.cells #[.pointer (some ⟨b,0,none⟩),v] 112 (0,0))) (bK:∃ ao n cap,v'=.slice ao n cap) :
  Calls tP zjy #[.pointer (some ⟨b,0,none⟩),.string s] w λe w'=>e=.returned (.tuple #[.int .i64 s.size,.nilIface])∧w'=w2.setCell ⟨b,1,none⟩ v':=by
 obtain⟨ao,n',cap,rfl⟩:=bK;have c1:w1.cell? ⟨b,1,none⟩=some v:=by rw[Lib.cell_of_heap bI];rfl
 have d1:w2.cell? ⟨b,1,none⟩=some v:=by rw[Lib.cell_of_heap bq];rfl
 have f1:w2.frozen? ⟨b,1,none⟩=false:=Lib.frozen_of_heap bq 1
 go_enter Tryz.func126,Tryz.ntmps126
 go_wp2_with (go_at_call 169;refine ci.mono ?_)
 rintro e w1' ⟨rfl,rfl⟩
 go_wp2_with (at_builtin;refine Go.Proofs.YtdmamdnkcefmmaaGreatDoor.wpList_append_str rfl _ _ 110 9 rfl rfl rfl hr ?_)
 go_wp2
 go_ret2
 exact⟨rfl,rfl⟩
theorem zw0:∃ i,tP.info? 5=some i∧i.zero=some (.int .u8 0)∧i.size=1∧i.bytes=1:=by
 obtain⟨i,hi⟩:∃ i,tP.info? 5=some i:=Option.isSome_iff_exists.1 (by kernel_rfl);have h1:(tP.info? 5).map (·.size)=some 1:=by kernel_rfl
 have h2:(tP.info? 5).map (·.bytes)=some 1:=by kernel_rfl
 have h3:(tP.info? 5).bind (·.zero)=some (.int .u8 0):=by kernel_rfl
 rw[hi]at h1 h2 h3;exact⟨i,hi,by simpa using h3,by simpa using h1,by simpa using h2⟩
theorem zxd {B:Nat} {w:World} {G:Gh} {H:zaa} (hH:HRel B w G H) {id b:Nat} {p c:AV} (hp:p=.nilp∨p=.ptr id 0) (h1:H[id]?=some (.bld 112 [p,c])) (hμ:G.μ[id]?=some (.blk b)) :
  ∃ w1 v,Calls tP zhO #[.pointer (some ⟨b,0,none⟩)] w (λe w'=>e=.returned (.tuple #[])∧w'=w1)∧Ext B w G w1 G∧HRel B w1 G (H.set id (.bld 112 [.ptr id 0,c])) ∧
   w1.heap[b]?=some (.cells #[.pointer (some ⟨b,0,none⟩),v] 112 (0,0))∧ARel w1 G v c:=by
 obtain⟨hB,hL,⟨vs⟩,hw,hc⟩:=hH.ok id _ _ h1 hμ
 match vs,hc with
 | [vp,v],⟨jH,hv,_⟩=>
  have hvp':vp=.pointer none∨vp=.pointer (some ⟨b,0,none⟩):=by
   rcases hp with rfl | rfl
   ·exact .inl jH
   ·obtain⟨b',k1,k2⟩:=jH;rw[hμ]at k1;cases k1;exact .inr k2
  have aq:=hH.storeB (cs':=[.ptr id 0,c]) (vs':=#[.pointer (some ⟨b,0,none⟩),v]) h1 hμ hw ⟨⟨b,hμ,rfl⟩,hv,trivial⟩;rcases hvp' with rfl | rfl
  ·refine⟨_,v,?_,aq.1,aq.2,setRow_heap w b _ _ _ _ hw,aq.1.arel hv⟩;refine (zGv b w (by rw[Lib.cell_of_heap hw];rfl) (by simp[World.shape?,hw]) (Lib.frozen_of_heap hw 0)).mono ?_;rintro e w' ⟨rfl,rfl⟩;refine⟨rfl,?_⟩;rw[setCell_eq_setRow w b 0 _ _ _ _ hw];rfl
  ·refine⟨w,v,zGw b w (by rw[Lib.cell_of_heap hw];rfl),Ext.refl _ _ _,?_,hw,hv⟩;refine hH.reCellB h1 λus hus=>?_
   match us,hus with
   | [u1,u2],⟨k1,k2⟩=>
    refine⟨?_,k2⟩;rcases hp with rfl | rfl
    ·cases jH
    ·exact k1
theorem zFy {H:zaa} {id id2:Nat} {l s:List UInt8} {p:AV} (hp:p=.nilp∨p=.ptr id 0) (h1:H[id]?=some (.bld 112 [p,.sl (bcs l) (.own id2)])) (h2:H[id2]?=some (.perm 5 1 l.length))
  (hn:l.length+s.length≤140737488355328) {K:AV→zaa→Prop}
  (hK:K (.tup [.int .i64 s.length,.nili]) ((H.set id2 (.perm 5 1 (l.length+s.length))).set id (.bld 112 [.ptr id 0,.sl (bcs (l++s)) (.own id2)]))) :
  ACalls tP zjy [.ptr id 0,.str s] H K:=by
 intro B w G ⟨vs⟩ hH hv
 match vs,hv with
 | [v0,v1],⟨⟨b,hμ,dF⟩,eS,_⟩=>
  have eS:v1=.string ⟨s.toArray⟩:=eS;subst dF eS;obtain⟨w1,v,ci,fX,di,jO,lv⟩:=zxd hH hp h1 hμ;obtain⟨hd,v',size,n',hμ2,aS,heq⟩:=lv;have aB:id≠id2:=by rintro rfl;rw[h1]at h2;cases h2
  have jx:(H.set id (.bld 112 [.ptr id 0,.sl (bcs l) (.own id2)]))[id2]?=some (.perm 5 1 l.length):=by rw[List.getElem?_set_ne aB];exact h2
  have az:=di.ok id2 _ _ jx hμ2;obtain⟨a7,ek,⟨xs,ar⟩,hL2⟩:=az;subst a7 ek;obtain⟨rfl,aO⟩:=heq (zek l);have jy:v.ownBlock≠some b:=λh=>aB (di.dist id id2 _ _ b hμ hμ2 rfl h);have gx:b<w1.heap.size:=di.lt id _ b hμ rfl;obtain⟨i,hi,hz,aD,bt⟩:=zw0;have gK:maxLen=9223372036854775807:=rfl;have key:∃ v' w2 G2,(∀ ty,(Builtin.append_ #[110,9] ty #[v,.string ⟨s.toArray⟩]).run tP w1=.ok v' w2)∧Ext B w1 G w2 G2 ∧
    HRel B w2 G2 ((H.set id (.bld 112 [.ptr id 0,.sl (bcs l) (.own id2)])).set id2 (.perm 5 1 (l.length+s.length)))∧ARel w2 G2 v' (.sl (bcs (l++s)) (.own id2))∧w2.heap[b]?=w1.heap[b]?:=by
   by_cases hs:s=[]
   ·subst hs;refine⟨v,w1,G,λty=>zHZ Tryz.underlying110 Tryz.underlying9 hi aD ar _ rfl,Ext.refl _ _ _,?_,?_,rfl⟩
    ·have:(H.set id (.bld 112 [.ptr id 0,.sl (bcs l) (.own id2)])).set id2 (.perm 5 1 (l.length+([]:List UInt8).length))=H.set id (.bld 112 [.ptr id 0,.sl (bcs l) (.own id2)]):=by
      apply List.ext_getElem?;intro k;by_cases hk:k=id2
      ·subst hk;rw[List.getElem?_set_self (List.getElem?_eq_some_iff.1 jx).1,jx];rfl
      ·rw[List.getElem?_set_ne (λh=>hk h.symm)]
     rw[this];exact di
    ·rw[List.append_nil];exact⟨hd,v,1,_,hμ2,aS,heq⟩
   ·have bU:0<s.length:=List.length_pos_iff.2 hs;obtain⟨v',w2,aw,aT,aF⟩:=zHY (P:=tP) (ty:=110) (B:=B) Tryz.underlying110 Tryz.underlying9 hi hz aD bt ar ⟨s.toArray⟩ (by simpa[ByteArray.size]using bU) (by simp[ByteArray.size];omega) (by simpa[ByteArray.size]using hn) di.base;have jR:(⟨s.toArray⟩:ByteArray).size=s.length:=rfl;rw[jR]at aT;have hx:All2 (DRel w1 G.L) xs (bcs l).flatten:=zr2 ar hd (zek l) (zfl l);obtain⟨G2,fw,cE,hT⟩:=zko di jx hμ2 ar aT aF (zek s) bU (zek l) (zfl l) (zfl s) hx (zF5 s);refine⟨v',w2,G2,λty=>aw,fw,cE,by rw[←zwQ];exact hT,?_⟩;rcases aF with ⟨g,k1,_,k3⟩ | ⟨_,k3⟩
    ·exact k3.block b gx (λh=>jy (by rw[k1,h]))
    ·exact k3.block b gx (by simp)
  obtain⟨v',w2,G2,aw,fw,cE,gy,bq⟩:=key;have fa:=bq.trans jO;have hμ':=(fw.blk hμ);obtain⟨kJ,fE⟩:=cE.storeB (id:=id) (cs':=[.ptr id 0,.sl (bcs (l++s)) (.own id2)]) (vs':=#[.pointer (some ⟨b,0,none⟩),v']) (by rw[List.getElem?_set_ne (λh=>aB h.symm)];exact List.getElem?_set_self (List.getElem?_eq_some_iff.1 h1).1) hμ' fa ⟨⟨b,hμ',rfl⟩,gy,trivial⟩;refine (zKf b ⟨s.toArray⟩ v v' w w1 w2 ci jO aw fa ?_).mono ?_
  ·obtain⟨fJ,_⟩:=gy;generalize bcs (l++s)=cs at fJ;cases fJ with
   | slE a c=>exact⟨_,_,_,rfl⟩
   | sl=>exact⟨_,_,_,rfl⟩
  ·rintro e w' ⟨rfl,rfl⟩;have aW:w2.setCell ⟨b,1,none⟩ v'=w2.setRow b #[.pointer (some ⟨b,0,none⟩),v']:=by rw[setCell_eq_setRow w2 b 1 _ _ _ _ fa];rfl
   rw[aW];refine⟨_,_,_,G2,rfl,(fX.trans fw).trans kJ,?_,?_,hK⟩
   ·rw[List.set_comm _ _ aB,List.set_set]at fE;exact fE
   ·exact⟨#[.int .i64 s.length,.nilIface],rfl,rfl,rfl,trivial⟩
theorem zGd:tP.cellsOf 5=1:=by kernel_rfl
set_option maxHeartbeats 2000000 in
set_option maxRecDepth 100000 in
theorem zJF {fr:Nat × Nat} (b g cap n:Nat) (p:Value) (cur:Array Value) (l:List UInt8) (w:World) (h0:l≠[]) (jz:w.heap[b]?=some (.cells #[p,.slice (some ⟨g,0,none⟩) l.length cap] 112 (0,0)))
  (hg:w.heap[g]?=some (.cells cur 5 fr)) (bG:l.length≤cap) (c7:cap≤maxLen) (aN:cur.size=cap)
  (aH:∀ j x,l[j]?=some x→w.cell? ((⟨g,0,none⟩:Addr).add j)=some (.int .u8 x.toNat)) :
  Calls tP zh1 #[.pointer (some ⟨b,0,none⟩)] w λe w'=>e=.returned (.string ⟨l.toArray⟩)∧w'=w.drew.freeze ⟨g,0,none⟩ l.length:=by
 have dc:l.length≠0:=by simpa using h0
 have c1:w.drew.cell? ⟨b,1,none⟩=some (.slice (some ⟨g,0,none⟩) l.length cap):=by have:w.drew.heap[b]?=some (.cells #[p,.slice (some ⟨g,0,none⟩) l.length cap] 112 (0,0)):=jz;rw[Lib.cell_of_heap this];rfl
 have hSD:(Builtin.unsafeSliceData_ #[110] 174 #[.slice (some ⟨g,0,none⟩) l.length cap]).run tP w.drew=.ok (.pointer (some ⟨g,0,none⟩)) w.drew:=
  Lib.run_unsafeSliceData_row _ _ _ _ _ _ (by omega)
 have hUS:(Builtin.unsafeString_ #[174,3] 9 #[.pointer (some ⟨g,0,none⟩),.int .i64 l.length]).run tP w.drew=.ok (.string ⟨l.toArray⟩) (w.drew.freeze ⟨g,0,none⟩ l.length):=by refine Lib.run_unsafeString_row w.drew 174 3 9 5 Tryz.underlying174 zGd g cur.size (by have ff:w.drew.heap[g]?=some (.cells cur 5 fr):=hg;simp[World.shape?,ff]) l h0 (by omega) (by unfold maxLen at c7;omega) ?_;intro j x hx;exact aH j x hx
 go_enter Tryz.func76,Tryz.ntmps76
 go_wp2
 go_region
 all_goals (go_wp2;go_ret;exact⟨rfl,rfl⟩)
theorem zwR {w:World} {L:Nat→Nat}:∀ {l:List UInt8} {xs:List Value},All2 (DRel w L) xs (bcs l).flatten→xs=l.map λb=>Value.int .u8 b.toNat
 | [],[],_=>rfl
 | [],_::_,h=>h.elim
 | _::_,[],h=>h.elim
 | c::l,x::xs,⟨bC,bg⟩=>by cases bC;rw[List.map_cons,zwR (l:=l) bg]
end
section
variable (t0:AV) (H:zaa) (K:Kt)
def zSA (_:Nat):List Bool:=[]
noncomputable def zSB:Code:=Tryz.f240.body.getD .skip
def zul:Prop:=zac .lss false t0 (.int .i64 10) λt4=>zag t4 (zac .add false t0 (.int .i64 1) λt7=>zaN 0 0 (.str [48,49,50,51,52,53,54,55,56,57,97,98,99,100,101,102,103,104,105,106,107,108,109,110,111,112,113,114,115,116,117,118,119,120,121,122]) (some t0) (some t7) λt8=>K t8 H) (zac .mul false t0 (.int .i64 2) λt10=>zac .mul false t0 (.int .i64 2) λt12=>zac .add false t12 (.int .i64 2) λt13=>zaN 0 0 (.str [48,48,48,49,48,50,48,51,48,52,48,53,48,54,48,55,48,56,48,57,49,48,49,49,49,50,49,51,49,52,49,53,49,54,49,55,49,56,49,57,50,48,50,49,50,50,50,51,50,52,50,53,50,54,50,55,50,56,50,57,51,48,51,49,51,50,51,51,51,52,51,53,51,54,51,55,51,56,51,57,52,48,52,49,52,50,52,51,52,52,52,53,52,54,52,55,52,56,52,57,53,48,53,49,53,50,53,51,53,52,53,53,53,54,53,55,53,56,53,57,54,48,54,49,54,50,54,51,54,52,54,53,54,54,54,55,54,56,54,57,55,48,55,49,55,50,55,51,55,52,55,53,55,54,55,55,55,56,55,57,56,48,56,49,56,50,56,51,56,52,56,53,56,54,56,55,56,56,56,57,57,48,57,49,57,50,57,51,57,52,57,53,57,54,57,55,57,56,57,57]) (some t10) (some t13) λt14=>K t14 H)
def zL9 (_:Nat):List Bool:=[]
noncomputable def zMa:Code:=Tryz.f127.body.getD .skip
def zL8:Prop:=ACalls tP zyg [t0] H λt4 H=>K t4 H
def zPP (_:Nat):List Bool:=[]
noncomputable def zPQ:Code:=Tryz.f170.body.getD .skip
def zPO:Prop:=ACalls tP zqD [t0,(.int .i64 10)] H λt4 H=>K t4 H
variable {t0} {H} {K}
theorem zSC (h:HSc H→zul t0 H K):ACalls tP zqI [t0] H K:=
 acb zSA Tryz.func240 zSB (by kernel_rfl) (by kernel_rfl) h
theorem zMb (h:HSc H→zL8 t0 H K):ACalls tP zqc [t0] H K:=
 acb zL9 Tryz.func127 zMa (by kernel_rfl) (by kernel_rfl) h
theorem zPR (h:HSc H→zPO t0 H K):ACalls tP zyg [t0] H K:=
 acb zPP Tryz.func170 zPQ (by kernel_rfl) (by kernel_rfl) h
end
section
open Go.RowKit
def small (n:Nat):List UInt8:=if n<10 then [48+UInt8.ofNat n] else [48+UInt8.ofNat (n / 10),48+UInt8.ofNat (n % 10)]
def digs:List UInt8:=[48,49,50,51,52,53,54,55,56,57,97,98,99,100,101,102,103,104,105,106,107,108,109,110,111,112,113,114,115,116,117,118,119,120,121,122]
def pairs:List UInt8:=(List.range 100).flatMap λn=>[48+UInt8.ofNat (n / 10),48+UInt8.ofNat (n % 10)]
theorem zGF:∀ n,n<10→(digs.take (n+1)).drop n=small n:=by decide
theorem zH1:∀ n,n<100→10≤n→(pairs.take (2*n+2)).drop (2*n)=small n:=by decide
theorem zIY (n:Nat) (hn:n<100) (H:zaa) (K:Kt) (hK:K (.str (small n)) H):ACalls tP zqI [.int .i64 n] H K:=by
 refine zSC λhs=>?_;by_cases eX:n<10
 ·have:(n:Int)<10:=by omega
  have e1:IntKind.i64.wrap ((n:Int)+1)=((n+1:Nat):Int):=by rw[zaw (by omega) (by omega)];omega
  simp[zul,this];rw[e1];refine⟨by omega,⟨by omega,by omega⟩,?_⟩;have cK:K (.str ((digs.take (n+1)).drop n)) H:=by rw[zGF n eX];exact hK
  rw[Int.toNat_natCast];exact cK
 ·have:¬ (n:Int)<10:=by omega
  have e1:IntKind.i64.wrap ((n:Int)*2)=((2*n:Nat):Int):=by rw[zaw (by omega) (by omega)];omega
  have e2:IntKind.i64.wrap (((2*n:Nat):Int)+2)=((2*n+2:Nat):Int):=by rw[zaw (by omega) (by omega)];omega
  simp[zul,this];rw[e1,e2];refine⟨by omega,by omega,⟨by omega,by omega⟩,?_⟩;have cK:K (.str ((pairs.take (2*n+2)).drop (2*n))) H:=by rw[zH1 n hn (by omega)];exact hK
  have hp:pairs=[48,48,48,49,48,50,48,51,48,52,48,53,48,54,48,55,48,56,48,57,49,48,49,49,49,50,49,51,49,52,49,53,49,54,49,55,49,56,49,57,50,48,50,49,50,50,50,51,50,52,50,53,50,54,50,55,50,56,50,57,51,48,51,49,51,50,51,51,51,52,51,53,51,54,51,55,51,56,51,57,52,48,52,49,52,50,52,51,52,52,52,53,52,54,52,55,52,56,52,57,53,48,53,49,53,50,53,51,53,52,53,53,53,54,53,55,53,56,53,57,54,48,54,49,54,50,54,51,54,52,54,53,54,54,54,55,54,56,54,57,55,48,55,49,55,50,55,51,55,52,55,53,55,54,55,55,55,56,55,57,56,48,56,49,56,50,56,51,56,52,56,53,56,54,56,55,56,56,56,57,57,48,57,49,57,50,57,51,57,52,57,53,57,54,57,55,57,56,57,57]:=by decide
  rw[hp]at cK;rw[Int.toNat_natCast,Int.toNat_natCast];exact cK
theorem zG6 (n:Nat) (hn:n<100) (w:World) (R:World→Prop) (s:ByteArray)
  (hs:Calls tP zqI #[.int .i64 n] w λe w'=>e=.returned (.string s)∧R w') :
  Calls tP zqD #[.int .i64 n,.int .i64 10] w λe w'=>e=.returned (.string s)∧R w':=by
 have a1:((0:Int)≤(n:Int)):=by omega
 have a2:((n:Int)<100):=by omega
 go_enter Tryz.func215,Tryz.ntmps215
 go_wp2_with (go_at_call 240;refine hs.mono ?_)
 rintro e w1 ⟨rfl,hR⟩
 go_wp2
 go_ret
 exact⟨rfl,hR⟩
theorem zG7 (n:Nat) (hn:n<100) (H:zaa) (K:Kt) (hK:K (.str (small n)) H):ACalls tP zqD [.int .i64 n,.int .i64 10] H K:=by
 intro B w G ⟨vs⟩ hH hv
 match vs,hv with
 | [v0,v1],⟨h0,h1,_⟩=>
  have h0:v0=.int .i64 n:=h0;have h1:v1=.int .i64 10:=h1;subst h0 h1;have hs:=zIY n hn H (λr H'=>r=.str (small n)∧H'=H) ⟨rfl,rfl⟩ B w G #[.int .i64 n] hH ⟨rfl,trivial⟩;refine (zG6 n hn w (λw'=>∃ G',Ext B w G w' G'∧HRel B w' G' H) ⟨(small n).toArray⟩ (hs.mono ?_)).mono ?_
  ·rintro e w1 ⟨v,r,H',G',rfl,hE,aV,hT,rfl,rfl⟩;have hT:v=.string ⟨(small n).toArray⟩:=hT;exact⟨by rw[hT],G',hE,aV⟩
  ·rintro e w1 ⟨rfl,G',hE,aV⟩;exact⟨_,.str (small n),_,G',rfl,hE,aV,rfl,hK⟩
theorem zFo (n:Nat) (hn:n<100) (H:zaa) (K:Kt) (hK:K (.str (small n)) H):ACalls tP zqc [.int .i64 n] H K:=
 zMb λhs=>zPR λhs=>zG7 n hn _ _ hK
end
@[congr] theorem zYZ {m:WM} {g:Bool} {H:zaa} {p:(AV→zaa→Prop)→Prop} {k:AV→zaa→Prop}:zdJ m g H p k=zdJ m g H p k:=rfl
def wb (H:zaa) (id id2:Nat) (l:List UInt8):zaa:=(H.set id2 (.perm 5 1 l.length)).set id (.bld 112 [.ptr id 0,.sl (bcs l) (.own id2)])
structure Wb (H:zaa) (id id2:Nat) (l:List UInt8):Prop where
 ne:id≠id2
 h1:∃ p,(p=.nilp∨p=.ptr id 0)∧H[id]?=some (.bld 112 [p,.sl (bcs l) (.own id2)])
 h2:H[id2]?=some (.perm 5 1 l.length)
section
variable {H J:zaa} {id id2:Nat} {l l' s:List UInt8}
theorem Wb.lt1 (h:Wb H id id2 l):id<H.length:=by obtain⟨p,_,h⟩:=h.h1;exact (List.getElem?_eq_some_iff.1 h).1
theorem Wb.lt2 (h:Wb H id id2 l):id2<H.length:=(List.getElem?_eq_some_iff.1 h.h2).1
@[simp] theorem yck:(wb H id id2 l).length=H.length:=by simp[wb]
theorem zkU (aB:id≠id2):wb (wb H id id2 l) id id2 l'=wb H id id2 l':=by unfold wb;rw[List.set_comm _ _ aB,List.set_set,List.set_set]
theorem Wb.app (h:Wb H id id2 l):Wb (H++J) id id2 l:=by obtain⟨p,hp,h1⟩:=h.h1;exact⟨h.ne,⟨p,hp,by rw[List.getElem?_append_left h.lt1];exact h1⟩,by rw[List.getElem?_append_left h.lt2];exact h.h2⟩
theorem Wb.wb_app (h:Wb H id id2 l):wb (H++J) id id2 l'=wb H id id2 l'++J:=by unfold wb;rw[List.set_append_left _ _ h.lt2,List.set_append_left _ _ (by simpa using h.lt1)]
theorem Wb.next (h:Wb H id id2 l):Wb (wb H id id2 l') id id2 l':=by
 refine⟨h.ne,⟨_,.inr rfl,?_⟩,?_⟩
 ·unfold wb;rw[List.getElem?_set_self (by simpa using h.lt1)]
 ·unfold wb;rw[List.getElem?_set_ne h.ne,List.getElem?_set_self h.lt2]
theorem Wb.hsc (h:Wb H id id2 l) (hs:HSc H):HSc (wb H id id2 l'):=by refine HSc.set (HSc.set hs rfl) ?_;have:=h.lt1;have:=h.lt2;simp[AB.sc,AV.scA,AV.scB];try omega
theorem Ws (h:Wb H id id2 l) (hn:l.length+s.length≤140737488355328) {K:AV→zaa→Prop} (hK:K (.tup [.int .i64 s.length,.nili]) (wb H id id2 (l++s))) :
  ACalls tP zjy [.ptr id 0,.str s] H K:=by
 obtain⟨p,hp,h1⟩:=h.h1;refine zFy hp h1 h.h2 hn ?_;unfold wb at hK;rwa [List.length_append]at hK
end
section
open Go.RowKit
variable {P:Program} {B:Nat} {w:World} {G:Gh} {H:zaa}
theorem HRel.toFrz (h:HRel B w G H) {id e n:Nat} (hn:0<n) (hH:H[id]?=some (.perm e 1 n)):HRel B w G (H.set id (.frz e 1 n)):=by
 refine⟨by simp[h.len],?_,h.dist,h.fresh,h.lt,h.base⟩;intro i ab gi h1 h2;by_cases hi:i=id
 ·subst hi;rw[List.getElem?_set_self (List.getElem?_eq_some_iff.1 hH).1]at h1;cases h1;have az:=h.ok i _ _ hH h2;cases gi with
  | blk b=>exact az.elim
  | gap=>exact az.elim
  | own v s n'=>
   obtain⟨rfl,rfl,⟨xs,bZ,hx⟩,hL⟩:=az;rcases hx with ⟨_,h0⟩ | ⟨g,cap,cur,rfl,fc,hg,bG,c7,d7,eP⟩
   ·omega
   ·exact⟨g,cap,cur,_,rfl,rfl,rfl,hg,fc,hL g rfl,bG,c7,d7⟩
 ·rw[List.getElem?_set_ne (λh=>hi h.symm)]at h1;exact h.ok i ab gi h1 h2
theorem ACalls.toFrz {f:FuncId} {args:List AV} {K:Kt} (h:ACalls P f args H λr H'=>∃ id e n,0<n∧H'[id]?=some (.perm e 1 n)∧K r (H'.set id (.frz e 1 n))):ACalls P f args H K:=by intro B w G vs hH hv;refine (h B w G vs hH hv).mono λex w' ⟨v,r,H',G',h1,h2,h3,h4,h5⟩=>?_;obtain⟨id,e,n,hn,ap,hk⟩:=h5;exact⟨v,r,_,G',h1,h2,h3.toFrz hn ap,h4,hk⟩
end
section
open Go.RowKit
theorem zFu {H:zaa} {id id2:Nat} {l:List UInt8} {p:AV} (h0:l≠[]) (h1:H[id]?=some (.bld 112 [p,.sl (bcs l) (.own id2)])) (h2:H[id2]?=some (.frz 5 1 l.length)) {K:AV→zaa→Prop}
  (hK:K (.str l) H):ACalls tP zh1 [.ptr id 0] H K:=by
 intro B w G ⟨vs⟩ hH hv
 match vs,hv with
 | [v0],⟨⟨b,hμ,dF⟩,_⟩=>
  subst dF;obtain⟨hB,hL,⟨us⟩,hw,hc⟩:=hH.ok id _ _ h1 hμ
  match us,hc with
  | [vp,v],⟨jH,⟨hd,v',size,n',hμ2,aS,heq⟩,_⟩=>
   obtain⟨g,cap,cur,fr,a7,ek,bK,k2,k3,k4,k5,k6,k7⟩:=hH.ok id2 _ _ h2 hμ2;subst a7 ek;obtain⟨rfl,aO⟩:=heq (zek l);have bF:=Ext.drew B w G (w.drawn+1) (Nat.le_succ _);have hHd:=hH.drew (w.drawn+1) (Nat.le_succ _);have aB:bcs l≠[]:=λh=>h0 (by simpa[bcs]using h);obtain⟨b',off,cap',zs,fS,gD,lK,jC,_⟩:=hd.flat aB (zfl l);rw[bK]at fS;simp only[Value.slice.injEq,Option.some.injEq,Addr.mk.injEq]at fS;obtain⟨⟨rfl,rfl,_⟩,_,rfl⟩:=fS;have fO:zs=l.map λb=>Value.int .u8 b.toNat:=zwR lK;subst bK;refine (zJF b g cap l.length vp cur l w h0 hw k2 k5 k6 (by omega) ?_).mono ?_
   ·intro j x hj;have:=jC j (.int .u8 x.toNat) (by rw[fO,List.getElem?_map,hj];rfl);by_cases h0j:j=0
    ·subst h0j;simpa[Addr.add]using this
    ·simpa[Addr.add,h0j]using this
   ·rintro e w' ⟨rfl,rfl⟩;obtain⟨fX,di⟩:=hHd.freezeG h2 hμ2 l.length;exact⟨_,(.str l),_,G,rfl,bF.trans fX,di,rfl,hK⟩
theorem wpList_append_any {P:Program} {w:World} {aj:Array Oper} {rest:List Oper} {o:Oper} {a:Act} {Q:Exit→Act→World→Prop} (jj:o.guard=none) (sl x:Operand) (t u:TypeId)
  (ho:o.op=.call { callee:=.builtin .append,args:=#[sl,x],argTypes:=#[t,u] }) {v v' xv:Value} {w':World} (hs:a.eval sl=v) (hx:a.eval x=xv)
  (hr:∀ ty,(Builtin.append_ #[t,u] ty #[v,xv]).run P w=.ok v' w') (h:wpList P aj Q rest (a.put o.dst v') w'):wpList P aj Q (o::rest) a w:=by
 refine wpList_plain jj λK hK=>?_;unfold Oper.wp execOp;simp only[ho,resolve,invoke,builtin,Sem.run_bind,Sem.run_pure,Result.andThen_ok,List.map_toArray,List.map_cons,List.map_nil,hs,hx,hr];exact hK _ _ h
set_option maxHeartbeats 2000000 in
set_option maxRecDepth 100000 in
theorem zKe (b:Nat) (c:UInt8) (v v':Value) (w w1 w2:World)
  (ci:Calls tP zhO #[.pointer (some ⟨b,0,none⟩)] w λe w'=>e=.returned (.tuple #[])∧w'=w1)
  (bI:w1.heap[b]?=some (.cells #[.pointer (some ⟨b,0,none⟩),v] 112 (0,0)))
  (hr:∀ ty,(Builtin.append_ #[110,110] ty #[v,.slice (some ⟨w1.heap.size,0,none⟩) 1 1]).run tP (w1.alloc (.cells #[.int .u8 c.toNat] 5))=.ok v' w2)
  (bq:w2.heap[b]?=some (.cells #[.pointer (some ⟨b,0,none⟩),v] 112 (0,0))) (bK:∃ ao n cap,v'=.slice ao n cap) :
  Calls tP zgo #[.pointer (some ⟨b,0,none⟩),.int .u8 c.toNat] w λe w'=>e=.returned .nilIface∧w'=w2.setCell ⟨b,1,none⟩ v':=by
 obtain⟨ao,n',cap,rfl⟩:=bK;have c1:w1.cell? ⟨b,1,none⟩=some v:=by rw[Lib.cell_of_heap bI];rfl
 have d1:w2.cell? ⟨b,1,none⟩=some v:=by rw[Lib.cell_of_heap bq];rfl
 have f1:w2.frozen? ⟨b,1,none⟩=false:=Lib.frozen_of_heap bq 1
 go_enter Tryz.func128,Tryz.ntmps128
 go_wp2_with (go_at_call 169;refine ci.mono ?_)
 rintro e w1' ⟨rfl,rfl⟩
 go_wp2_with (at_builtin;refine Go.Proofs.YtdmamdnkcefmmaaGreatDoor.wpList_append_any rfl _ _ 110 110 rfl rfl rfl hr ?_)
 go_wp2
 go_ret
 exact⟨rfl,rfl⟩
theorem zFx {H:zaa} {id id2:Nat} {l:List UInt8} {c:UInt8} {p:AV} (hp:p=.nilp∨p=.ptr id 0) (h1:H[id]?=some (.bld 112 [p,.sl (bcs l) (.own id2)])) (h2:H[id2]?=some (.perm 5 1 l.length))
  (hn:l.length+1≤140737488355328) {K:AV→zaa→Prop}
  (hK:K .nili ((H.set id2 (.perm 5 1 (l.length+1))).set id (.bld 112 [.ptr id 0,.sl (bcs (l++[c])) (.own id2)]))) :
  ACalls tP zgo [.ptr id 0,.int .u8 c.toNat] H K:=by
 intro B w G ⟨vs⟩ hH hv
 match vs,hv with
 | [v0,v1],⟨⟨b,hμ,dF⟩,eS,_⟩=>
  have eS:v1=.int .u8 c.toNat:=eS;subst dF eS;obtain⟨w1,v,ci,fX,di,jO,hva0⟩:=zxd hH hp h1 hμ;obtain⟨mC,kK⟩:=di.other (.cells #[.int .u8 c.toNat] 5);have lv:=mC.arel hva0;obtain⟨W,hW⟩:∃ W,W=w1.alloc (.cells #[.int .u8 c.toNat] 5):=⟨_,rfl⟩;rw[←hW]at mC kK lv;obtain⟨hd,v',size,n',hμ2,aS,heq⟩:=lv;have aB:id≠id2:=by rintro rfl;rw[h1]at h2;cases h2
  have jx:(H.set id (.bld 112 [.ptr id 0,.sl (bcs l) (.own id2)]))[id2]?=some (.perm 5 1 l.length):=by rw[List.getElem?_set_ne aB];exact h2
  have az:=kK.ok id2 _ _ jx hμ2;obtain⟨a7,ek,⟨xs,ar⟩,hL2⟩:=az;subst a7 ek;obtain⟨rfl,aO⟩:=heq (zek l);have jy:v.ownBlock≠some b:=λh=>aB (di.dist id id2 _ _ b hμ hμ2 rfl h);have gx:b<W.heap.size:=kK.lt id _ b hμ rfl;have dO:W.heap[b]?=w1.heap[b]?:=by rw[hW];exact zcN (di.lt id _ b hμ rfl)
  obtain⟨i,hi,hz,aD,bt⟩:=zw0;have gK:maxLen=9223372036854775807:=rfl;have key:∃ v' w2 G2,(∀ ty,(Builtin.append_ #[110,110] ty #[v,.slice (some ⟨w1.heap.size,0,none⟩) 1 1]).run tP W=.ok v' w2)∧Ext B W G w2 G2 ∧
    HRel B w2 G2 ((H.set id (.bld 112 [.ptr id 0,.sl (bcs l) (.own id2)])).set id2 (.perm 5 1 (l.length+1)))∧ARel w2 G2 v' (.sl (bcs (l++[c])) (.own id2))∧w2.heap[b]?=W.heap[b]?:=by
   have hown0:W.ownsRow B 5 i.size v l.length xs:=by rw[aD];exact ar
   obtain⟨v',w2,aw,aT,aF⟩:=zkn (P:=tP) (ty:=110) (t:=110) (B:=B) Tryz.underlying110 hi hz (by rw[aD];rfl) hown0 ⟨w1.heap.size,0,none⟩ 1 1 [.int .u8 c.toNat] (by rw[aD];rfl) (λj u hu=>by
    have hj:j=0:=by have:=(List.getElem?_eq_some_iff.1 hu).1;simp at this;omega
    subst hj;simp at hu;subst hu;rw[hW];show (match (w1.alloc (.cells #[.int .u8 c.toNat] 5)).heap[w1.heap.size]? with | some (.cells c _ _)=>c[0]? | _=>none)=_;rw[zds];rfl) (λu hu=>by simp at hu;subst hu;rfl) (by omega) (by omega) (by rw[bt];omega) kK.base
   rw[aD]at aT;have hx:All2 (DRel W G.L) xs (bcs l).flatten:=zr2 ar hd (zek l) (zfl l);obtain⟨G2,fw,cE,hT⟩:=zko kK jx hμ2 ar aT aF (ys:=bcs [c]) (zek [c]) (by omega) (zek l) (zfl l) (zfl [c]) hx ⟨.int _ _,trivial⟩;refine⟨v',w2,G2,λty=>aw,fw,cE,by rw[←zwQ];exact hT,?_⟩;rcases aF with ⟨g,k1,_,k3⟩ | ⟨_,k3⟩
   ·exact k3.block b gx (λh=>jy (by rw[k1,h]))
   ·exact k3.block b gx (by simp)
  obtain⟨v',w2,G2,aw,fw,cE,gy,bq⟩:=key;have fa:=bq.trans (dO.trans jO);have hμ':=(fw.blk hμ);obtain⟨kJ,fE⟩:=cE.storeB (id:=id) (cs':=[.ptr id 0,.sl (bcs (l++[c])) (.own id2)]) (vs':=#[.pointer (some ⟨b,0,none⟩),v']) (by rw[List.getElem?_set_ne (λh=>aB h.symm)];exact List.getElem?_set_self (List.getElem?_eq_some_iff.1 h1).1) hμ' fa ⟨⟨b,hμ',rfl⟩,gy,trivial⟩;rw[hW]at aw;refine (zKe b c v v' w w1 w2 ci jO aw fa ?_).mono ?_
  ·obtain⟨fJ,_⟩:=gy;generalize bcs (l++[c])=cs at fJ;cases fJ with
   | slE a c=>exact⟨_,_,_,rfl⟩
   | sl=>exact⟨_,_,_,rfl⟩
  ·rintro e w' ⟨rfl,rfl⟩;have aW:w2.setCell ⟨b,1,none⟩ v'=w2.setRow b #[.pointer (some ⟨b,0,none⟩),v']:=by rw[setCell_eq_setRow w2 b 1 _ _ _ _ fa];rfl
   rw[aW];refine⟨_,_,_,G2,rfl,((fX.trans mC).trans fw).trans kJ,?_,?_,hK⟩
   ·rw[List.set_comm _ _ aB,List.set_set]at fE;exact fE
   ·rfl
theorem Wy {H:zaa} {id id2:Nat} {l:List UInt8} {c:UInt8} (h:Wb H id id2 l) (hn:l.length+1≤1000000000) {K:AV→zaa→Prop} (hK:K .nili (wb H id id2 (l++[c]))) :
  ACalls tP zgo [.ptr id 0,.int .u8 c.toNat] H K:=by
 obtain⟨p,hp,h1⟩:=h.h1;refine zFx hp h1 h.h2 (by omega) ?_;unfold wb at hK;rwa [List.length_append]at hK
end
section
open Go.Shelf
def zKk:Go.Shelf.Ren:=⟨λ| 4=>176 | n=>n,λ| 22=>26 | 25=>28 | n=>n,λ| n=>n⟩
theorem zKj:Go.Proofs.Lays8.n4 tP zKk:={
 mixed:=by kernel_rfl
 f4:=⟨Tryz.f176.name,by decide,Tryz.func176.trans (congrArg some (by kernel_rfl))⟩
 t0:=Tryz.underlying0
 a0:=Tryz.isAgg0
 z0:=Tryz.sizeOf0
 v0:=Tryz.zeroValue0
 t3:=Tryz.underlying3
 a3:=Tryz.isAgg3
 z3:=Tryz.sizeOf3
 v3:=Tryz.zeroValue3
 t4:=Tryz.underlying4
 a4:=Tryz.isAgg4
 z4:=Tryz.sizeOf4
 v4:=Tryz.zeroValue4
 t9:=Tryz.underlying9
 a9:=Tryz.isAgg9
 z9:=Tryz.sizeOf9
 v9:=Tryz.zeroValue9
 t20:=Tryz.underlying20
 a20:=Tryz.isAgg20
 z20:=Tryz.sizeOf20
 v20:=Tryz.zeroValue20
 t22:=Tryz.underlying26
 a22:=Tryz.isAgg26
 z22:=Tryz.sizeOf26
 v22:=Tryz.zeroValue26 }
def zKo:Go.Shelf.Ren:=⟨λ| 4=>141 | n=>n,λ| 22=>31 | 25=>55 | n=>n,λ| n=>n⟩
theorem zKn:Go.Proofs.Lays8.n4 tP zKo:={
 mixed:=by kernel_rfl
 f4:=⟨Tryz.f141.name,by decide,Tryz.func141.trans (congrArg some (by kernel_rfl))⟩
 t0:=Tryz.underlying0
 a0:=Tryz.isAgg0
 z0:=Tryz.sizeOf0
 v0:=Tryz.zeroValue0
 t3:=Tryz.underlying3
 a3:=Tryz.isAgg3
 z3:=Tryz.sizeOf3
 v3:=Tryz.zeroValue3
 t4:=Tryz.underlying4
 a4:=Tryz.isAgg4
 z4:=Tryz.sizeOf4
 v4:=Tryz.zeroValue4
 t9:=Tryz.underlying9
 a9:=Tryz.isAgg9
 z9:=Tryz.sizeOf9
 v9:=Tryz.zeroValue9
 t20:=Tryz.underlying20
 a20:=Tryz.isAgg20
 z20:=Tryz.sizeOf20
 v20:=Tryz.zeroValue20
 t22:=Tryz.underlying31
 a22:=Tryz.isAgg31
 z22:=Tryz.sizeOf31
 v22:=Tryz.zeroValue31 }
end
section
variable (t0 t3 t6 t9 t10 t11 t25 t26 t27:AV) (H:zaa) (K:Kt) (Kb3 Kb11:Lt)
def zfP:Nat→List Bool | 3=>rl false [0,1,2,1,5,3,24] | 11=>rl false [6,1,18,3,8] | _=>[]
noncomputable def ziy:Code:=Tryz.f134.body.getD .skip
noncomputable def zBl:List ResultVar:=Tryz.f134.results.toList
def zlD:List AV:=t0::ux 2 (t3::ux 5 (t9::t10::t11::ux 24 []))
def zML:List Bool:=zfP 3
noncomputable def zMH:Code:=zar [1,1,0,1,0,0] ziy
def zMF:AExit→List AV→zaa→Prop:=zas tP zfP [1,1,0,1,0] ziy (zaz tP zBl K)
def zBk:Prop:=ALoop tP zMH (zMF K) (zlD t0 t3 t9 t10 t11) H
def zBi (t0 t3 t9 t10 t11:AV) (H:zaa) (K:Kt) (Kb3:Lt):Prop:=zac .add false t11 (.int .i64 1) λt22=>Kb3 (zlD t0 t3 t9 t10 t22) H
def zBh:Prop:=zBi t0 t3 t9 t10 t11 H K Kb3
def zlC:List AV:=ux 6 (t6::ux 18 (t25::t26::t27::ux 8 []))
def zMK:List Bool:=zfP 11
noncomputable def zMG:Code:=zar [1,1,1,1,0,1,0,0] ziy
def zME:AExit→List AV→zaa→Prop:=zas tP zfP [1,1,1,1,0,1,0] ziy (zaz tP zBl K)
def zBj:Prop:=ALoop tP zMG (zME K) (zlC t6 t25 t26 t27) H
def zsF:Prop:=zac .lss false t27 t26 λt28=>zag t28 (zak 1 t25 t27 λt29=>zae false 1 t29 H λt30=>zav zbf 2 32 t6 t30 H λt33 H=>zac .add false t27 (.int .i64 1) λt34=>Kb11 (zlC t33 t25 t26 t34) H) (K t6 H)
def zsG:Prop:=zac .lss false t11 t10 λt12=>zag t12 (zak 1 t9 t11 λt13=>zae false 1 t13 H λt14=>zah 1 t14 λt17=>zac .add false t3 t17 λt18=>zac .lss false t18 (.int .i64 0) λt20=>zag t20 (False) (zBh t0 t18 t9 t10 t11 H K Kb3)) (ACalls tP zyi [.snil,t3] H λt24 H=>zah 1 t0 λt26=>zBj t24 t0 t26 (.int .i64 0) H K)
def zBg:Prop:=zah 1 t0 λt10=>zBk t0 (.int .i64 0) t0 t10 (.int .i64 0) H K
def zf7:Nat→List Bool | 3=>rl false [0,1,2,1,5,3,24] | 11=>rl false [6,1,18,3,8] | _=>[]
noncomputable def ziV:Code:=Tryz.f87.body.getD .skip
noncomputable def zER:List ResultVar:=Tryz.f87.results.toList
def zor:List AV:=t0::ux 2 (t3::ux 5 (t9::t10::t11::ux 24 []))
def zW3:List Bool:=zf7 3
noncomputable def zWZ:Code:=zar [1,1,0,1,0,0] ziV
def zWX:AExit→List AV→zaa→Prop:=zas tP zf7 [1,1,0,1,0] ziV (zaz tP zER K)
def zEQ:Prop:=ALoop tP zWZ (zWX K) (zor t0 t3 t9 t10 t11) H
def zEO (t0 t3 t9 t10 t11:AV) (H:zaa) (K:Kt) (Kb3:Lt):Prop:=zac .add false t11 (.int .i64 1) λt22=>Kb3 (zor t0 t3 t9 t10 t22) H
def zEN:Prop:=zEO t0 t3 t9 t10 t11 H K Kb3
def zoq:List AV:=ux 6 (t6::ux 18 (t25::t26::t27::ux 8 []))
def zW2:List Bool:=zf7 11
noncomputable def zWY:Code:=zar [1,1,1,1,0,1,0,0] ziV
def zWW:AExit→List AV→zaa→Prop:=zas tP zf7 [1,1,1,1,0,1,0] ziV (zaz tP zER K)
def zEP:Prop:=ALoop tP zWY (zWW K) (zoq t6 t25 t26 t27) H
def zvx:Prop:=zac .lss false t27 t26 λt28=>zag t28 (zak 1 t25 t27 λt29=>zae false 1 t29 H λt30=>zav zax 5 88 t6 t30 H λt33 H=>zac .add false t27 (.int .i64 1) λt34=>Kb11 (zoq t33 t25 t26 t34) H) (K t6 H)
def zvy:Prop:=zac .lss false t11 t10 λt12=>zag t12 (zak 1 t9 t11 λt13=>zae false 1 t13 H λt14=>zah 1 t14 λt17=>zac .add false t3 t17 λt18=>zac .lss false t18 (.int .i64 0) λt20=>zag t20 (False) (zEN t0 t18 t9 t10 t11 H K Kb3)) (ACalls tP zyf [.snil,t3] H λt24 H=>zah 1 t0 λt26=>zEP t24 t0 t26 (.int .i64 0) H K)
def zEM:Prop:=zah 1 t0 λt10=>zEQ t0 (.int .i64 0) t0 t10 (.int .i64 0) H K
variable {t0 t3 t6 t9 t10 t11 t25 t26 t27} {H} {K} {Kb3 Kb11}
theorem zMI (Inv:Nat→AV→AV→zaa→Prop) (n:Nat) (h0:HSc H→Inv n t6 t27 H)
  (ac:Rd2 (λt6=>λt27=>zlC t6 t25 t26 t27) (λt6=>λt27=>λH Kb11=>zsF t6 t25 t26 t27 H K Kb11) H Inv):zBj t6 t25 t26 t27 H K:=
 lp2 (M:=zfP) zMK t6 t27 (by kernel_rfl) Inv n h0 ac
theorem zMJ (Inv:Nat→AV→AV→zaa→Prop) (n:Nat) (h0:HSc H→Inv n t3 t11 H)
  (ac:Rd2 (λt3=>λt11=>zlD t0 t3 t9 t10 t11) (λt3=>λt11=>λH Kb3=>zsG t0 t3 t9 t10 t11 H K Kb3) H Inv):zBk t0 t3 t9 t10 t11 H K:=
 lp2 (M:=zfP) zML t3 t11 (by kernel_rfl) Inv n h0 ac
theorem zMM (h:HSc H→zBg t0 H K):ACalls tP zqi [t0] H K:=
 acb zfP Tryz.func134 ziy (by kernel_rfl) (by kernel_rfl) h
theorem zW0 (Inv:Nat→AV→AV→zaa→Prop) (n:Nat) (h0:HSc H→Inv n t6 t27 H)
  (ac:Rd2 (λt6=>λt27=>zoq t6 t25 t26 t27) (λt6=>λt27=>λH Kb11=>zvx t6 t25 t26 t27 H K Kb11) H Inv):zEP t6 t25 t26 t27 H K:=
 lp2 (M:=zf7) zW2 t6 t27 (by kernel_rfl) Inv n h0 ac
theorem zW1 (Inv:Nat→AV→AV→zaa→Prop) (n:Nat) (h0:HSc H→Inv n t3 t11 H)
  (ac:Rd2 (λt3=>λt11=>zor t0 t3 t9 t10 t11) (λt3=>λt11=>λH Kb3=>zvy t0 t3 t9 t10 t11 H K Kb3) H Inv):zEQ t0 t3 t9 t10 t11 H K:=
 lp2 (M:=zf7) zW3 t3 t11 (by kernel_rfl) Inv n h0 ac
theorem zW4 (h:HSc H→zEM t0 H K):ACalls tP zq3 [t0] H K:=
 acb zf7 Tryz.func87 ziV (by kernel_rfl) (by kernel_rfl) h
end
section
variable (t0 t1 t2 t3 t4 t5 t6 t7 t8 t9 t10 t11 t12 t15 t16 t17 t18 t19 t20 t23 t24 t25 t57 t58 t59:AV) (H:zaa) (K:Kt) (Kb1 Kb3 Kb4 Kb5 Kb14:Lt)
def zTL (_:Nat):List Bool:=[]
noncomputable def zTM:Code:=Tryz.f41.body.getD .skip
def zDJ:Prop:=zat t1 H λt3 H=>zae true 3 t3 H λt6=>zdZ H λt7 H=>zaq [.snil,(.int .i64 0),(.int .i64 0),.snil,.unk,.snil] [(0,1),(1,3),(4,1),(5,1)] [(0,t0),(1,t6),(2,t7)] λt8=>zat t8 H λt9 H=>K t9 H
def znq:Nat→List Bool | 1=>rl false [0,1,8,3,55] | 400007=>rl false [0,1] | _=>[]
noncomputable def zuC:Code:=Tryz.f42.body.getD .skip
noncomputable def zTU:List ResultVar:=Tryz.f42.results.toList
def ziL:List AV:=t0::ux 8 (t9::t10::t11::ux 55 [])
def zTS:List Bool:=znq 1
noncomputable def zTQ:Code:=zar [1,0,0] zuC
def zTP:AExit→List AV→zaa→Prop:=zas tP znq [1,0] zuC (zaz tP zTU K)
def zDL:Prop:=ALoop tP zTQ (zTP K) (ziL t0 t9 t10 t11) H
def zuD (t0 t9 t10 t11:AV) (H:zaa) (K:Kt) (Kb1:Lt):Prop:=zac .add false t11 (.int .i64 1) λt66=>Kb1 (ziL t0 t9 t10 t66) H
def znr:Prop:=zuD t0 t9 t10 t11 H K Kb1
def zuB:Prop:=zac .lss false t11 t10 λt12=>zag t12 (zak 5 t9 t11 λt13=>zae true 5 t13 H λt14=>zay [(.int .i64 0),.snil,(.bool false),.snil,.snil] H λt5 H=>zao 5 t5 t14 H λH=>zo4 112 [.nilp,.snil] H λt6 H=>zaf 0 t5 λt15=>zae true 2 t15 H λt16=>ACalls tP zj6 [t6,t16] H λt17 H=>zab H (λK'=>K' t0 H) λt19=>zab H (λK'=>za7 t19 (K' · H)) λt20=>zab H (λK'=>zaf 4 t20 (K' · H)) λt21=>zab H (λK'=>zaj false 1 t21 H (K' · H)) λt22=>zaA H (λH K'=>ACalls tP zh1 [t6] H K') λt23=>zab H (λK'=>zdK (.int .i64 0) true t22 t23 H (K' · H)) λt24=>zab H (λK'=>K' t24 H) λt18=>zab H (λK'=>zaC t18 0 (K' · H)) λt25=>zab H (λK'=>zaC t18 1 (K' · H)) λt26=>zab H (λK'=>K' t25 H) λt7=>zab H (λK'=>K' t26 H) λt8=>zag t8 (zab H (λK'=>K' t0 H) λt28=>zab H (λK'=>za7 t28 (K' · H)) λt29=>zab H (λK'=>zaf 5 t29 (K' · H)) λt30=>zab H (λK'=>zae false 1 t30 H (K' · H)) λt31=>zab H (λK'=>K' t7 H) λt32=>zab H (λK'=>K' t0 H) λt33=>zab H (λK'=>za7 t33 (K' · H)) λt34=>zab H (λK'=>zaf 5 t34 (K' · H)) λt35=>zab H (λK'=>zae false 1 t35 H (K' · H)) λt36=>zab H (λK'=>K' t7 H) λt37=>zab H (λK'=>zak 5 t36 t37 (K' · H)) λt38=>zab H (λK'=>zaf 2 t38 (K' · H)) λt39=>zab H (λK'=>zae true 3 t39 H (K' · H)) λt40=>zab H (λK'=>zaf 2 t5 (K' · H)) λt41=>zab H (λK'=>zae true 3 t41 H (K' · H)) λt42=>zaA H (λH K'=>ACalls tP zqY [t40,t42] H K') λt43=>zab H (λK'=>zak 5 t31 t32 (K' · H)) λt44=>zab H (λK'=>zaf 2 t44 (K' · H)) λt45=>zao 3 t45 t43 H λH=>znr t0 t9 t10 t11 H K Kb1) (zab H (λK'=>K' t0 H) λt46=>zab H (λK'=>za7 t46 (K' · H)) λt47=>zab H (λK'=>zaf 4 t47 (K' · H)) λt48=>zab H (λK'=>zaj false 1 t48 H (K' · H)) λt49=>zaA H (λH K'=>ACalls tP zh1 [t6] H K') λt50=>zab H (λK'=>K' t0 H) λt51=>zab H (λK'=>za7 t51 (K' · H)) λt52=>zab H (λK'=>zaf 5 t52 (K' · H)) λt53=>zab H (λK'=>zaj false 1 t53 H (K' · H)) λt54=>zab H (λK'=>zah 1 t54 (K' · H)) λt55=>zcW t49 t50 t55 H λH=>zab H (λK'=>K' t0 H) λt56=>zab H (λK'=>K' t0 H) λt57=>zab H (λK'=>za7 t57 (K' · H)) λt58=>zab H (λK'=>zaf 5 t58 (K' · H)) λt59=>zab H (λK'=>zaj false 1 t59 H (K' · H)) λt60=>zab H (λK'=>zaj true 5 t5 H (K' · H)) λt61=>zab H (λK'=>zau 5 [(.int .i64 0),.snil,(.bool false),.snil,.snil] 1 [(0,t61)] (K' · H)) λt62=>zav zax 5 88 t60 t62 H λt63 H=>zab H (λK'=>za7 t56 (K' · H)) λt64=>zab H (λK'=>zaf 5 t64 (K' · H)) λt65=>zao 1 t65 t63 H λH=>znr t0 t9 t10 t11 H K Kb1)) (zaF [] (K · H))
def zDK:Prop:=zah 1 t1 λt10=>zDL t0 t1 t10 (.int .i64 0) H K
def zf1:Nat→List Bool | 4=>rl false [0,1,3,2,9,3,50] | 14=>rl false [4,1,52,3,8] | _=>[]
noncomputable def ziO:Code:=Tryz.f44.body.getD .skip
noncomputable def zDP:List ResultVar:=Tryz.f44.results.toList
def znB:List AV:=t0::ux 3 (t4::t5::ux 9 (t15::t16::t17::ux 50 []))
def zUf:List Bool:=zf1 4
noncomputable def zUb:Code:=zar [1,1,1,0,1,0,0] ziO
def zT9:AExit→List AV→zaa→Prop:=zas tP zf1 [1,1,1,0,1,0] ziO (zaz tP zDP K)
def znC:Prop:=ALoop tP zUb (zT9 K) (znB t0 t4 t5 t15 t16 t17) H
def zDN (t0 t4 t5 t15 t16 t17:AV) (H:zaa) (K:Kt) (Kb4:Lt):Prop:=zac .add false t17 (.int .i64 1) λt54=>Kb4 (znB t0 t4 t5 t15 t16 t54) H
def zuK:Prop:=zDN t0 t4 t5 t15 t16 t17 H K Kb4
def znA:List AV:=ux 4 (t4::ux 52 (t57::t58::t59::ux 8 []))
def zUe:List Bool:=zf1 14
noncomputable def zUa:Code:=zar [1,1,1,1,1,0,1,0,0] ziO
def zT8:AExit→List AV→zaa→Prop:=zas tP zf1 [1,1,1,1,1,0,1,0] ziO (zaz tP zDP K)
def zDO:Prop:=ALoop tP zUa (zT8 K) (znA t4 t57 t58 t59) H
def zuJ:Prop:=zac .lss false t59 t58 λt60=>zag t60 (zak 1 t57 t59 λt61=>zae false 1 t61 H λt62=>ACalls tP zyl [t62,(.fn zka [])] H λt64 H=>zac .add false t59 (.int .i64 1) λt65=>Kb14 (znA t4 t57 t58 t65) H) (ACalls tP zq3 [t4] H λt67 H=>zaF [t67,(.int .i64 0)] (K · H))
def znz:Prop:=zac .lss false t17 t16 λt18=>zag t18 (zak 5 t15 t17 λt19=>zae true 5 t19 H λt20=>zay [(.int .i64 0),.snil,(.bool false),.snil,.snil] H λt7 H=>zao 5 t7 t20 H λH=>zaf 2 t7 λt21=>zae true 3 t21 H λt22=>ACalls tP zj8 [t22] H λt23 H=>zac .neq false t23 (.int .i64 0) λt24=>zag t24 (zab H (λK'=>K' t0 H) λt25=>zab H (λK'=>za7 t25 (K' · H)) λt26=>zab H (λK'=>zaf 0 t26 (K' · H)) λt27=>zab H (λK'=>zaj false 1 t27 H (K' · H)) λt28=>zab H (λK'=>K' t0 H) λt29=>zab H (λK'=>za7 t29 (K' · H)) λt30=>zab H (λK'=>zaf 1 t30 (K' · H)) λt31=>zab H (λK'=>zaj true 3 t31 H (K' · H)) λt32=>zab H (λK'=>zaf 0 t7 (K' · H)) λt33=>zab H (λK'=>zaj true 2 t33 H (K' · H)) λt34=>zaA H (λH K'=>ACalls tP zhX [t28,t32,t34] H K') λt35=>zab H (λK'=>K' t35 H) λt8=>zab H (λK'=>K' t4 H) λt36=>zab H (λK'=>K' t8 H) λt37=>zab H (λK'=>K' t4 H) λt38=>zab H (λK'=>K' t8 H) λt39=>zab H (λK'=>zak 1 t38 t39 (K' · H)) λt40=>zab H (λK'=>zaj false 1 t40 H (K' · H)) λt41=>zab H (λK'=>zaf 0 t7 (K' · H)) λt42=>zab H (λK'=>zaj true 2 t42 H (K' · H)) λt43=>zaA H (λH K'=>ACalls tP zj9 [t43] H K') λt44=>zab H (λK'=>zaf 2 t7 (K' · H)) λt45=>zab H (λK'=>zaj true 3 t45 H (K' · H)) λt46=>zaA H (λH K'=>ACalls tP zq2 [t46] H K') λt47=>zab H (λK'=>zaq [(.int .i64 0),.snil,(.bool false),.snil,.snil] [(0,2),(2,3)] [(0,t44),(1,t47)] (K' · H)) λt48=>zab H (λK'=>zau 5 [(.int .i64 0),.snil,(.bool false),.snil,.snil] 1 [(0,t48)] (K' · H)) λt49=>zav zax 5 88 t41 t49 H λt50 H=>zab H (λK'=>zak 1 t36 t37 (K' · H)) λt51=>zao 1 t51 t50 H λH=>zac .add false t5 (.int .i64 1) λt53=>zuK t0 t4 t53 t15 t16 t17 H K Kb4) (zuK t0 t4 t5 t15 t16 t17 H K Kb4)) (zac .gtr false t5 (.int .i64 1000) λt56=>zag t56 (zaF [.snil,(.int .i64 9)] (K · H)) (zah 1 t4 λt58=>zDO t4 t4 t58 (.int .i64 0) H K))
def zDM:Prop:=zbe 24 [.snil] (.int .i64 7) (.int .i64 7) H λt11 H=>za7 t0 λt13=>zaf 5 t13 λt14=>zae false 1 t14 H λt15=>zah 1 t15 λt16=>znC t0 t11 (.int .i64 0) t15 t16 (.int .i64 0) H K
def zof:Nat→List Bool | 5=>rl false [0,1,17,3,11] | _=>[]
noncomputable def zvm:Code:=Tryz.f75.body.getD .skip
noncomputable def zWe:List ResultVar:=Tryz.f75.results.toList
def zog:List AV:=t0::ux 17 (t18::t19::t20::ux 11 [])
def zWc:List Bool:=zof 5
noncomputable def zWa:Code:=zar [1,1,1,0,1,0,1,0,0] zvm
def zV9:AExit→List AV→zaa→Prop:=zas tP zof [1,1,1,0,1,0,1,0] zvm (zaz tP zWe K)
def zEv:Prop:=ALoop tP zWa (zV9 K) (zog t0 t18 t19 t20) H
def zvl:Prop:=zac .lss false t20 t19 λt21=>zag t21 (zak 2 t18 t20 λt22=>zae true 2 t22 H λt23=>zay [(.int .i64 0),.snil] H λt5 H=>zao 2 t5 t23 H λH=>zae true 2 t5 H λt25=>ACalls tP zj6 [t0,t25] H λt26 H=>ACalls tP zgo [t0,(.int .u8 44)] H λt28 H=>zac .add false t20 (.int .i64 1) λt29=>Kb5 (zog t0 t18 t19 t29) H) (ACalls tP zgo [t0,(.int .u8 41)] H λt31 H=>zaF [] (K · H))
def zEu:Prop:=zat t1 H λt3 H=>zaf 0 t3 λt7=>zae false 1 t7 H λt8=>ACalls tP zqc [t8] H λt9 H=>ACalls tP zjy [t0,t9] H λt10 H=>zaf 1 t3 λt11=>zae false 1 t11 H λt12=>zah 1 t12 λt13=>zac .gtr false t13 (.int .i64 0) λt14=>zag t14 (ACalls tP zgo [t0,(.int .u8 40)] H λt16 H=>zaf 1 t3 λt17=>zae false 1 t17 H λt18=>zah 1 t18 λt19=>zEv t0 t18 t19 (.int .i64 0) H K) (zaF [] (K · H))
def zon:Nat→List Bool | 3=>rl false [2,2,6,3,12] | _=>[]
noncomputable def zvw:Code:=Tryz.f82.body.getD .skip
noncomputable def zWK:List ResultVar:=Tryz.f82.results.toList
def zoo:List AV:=ux 2 (t2::t3::ux 6 (t10::t11::t12::ux 12 []))
def zWI:List Bool:=zon 3
noncomputable def zWG:Code:=zar [1,1,0,1,0,0] zvw
def zWF:AExit→List AV→zaa→Prop:=zas tP zon [1,1,0,1,0] zvw (zaz tP zWK K)
def zop:Prop:=ALoop tP zWG (zWF K) (zoo t2 t3 t10 t11 t12) H
def zvv:Prop:=zac .lss false t12 t11 λt13=>zag t13 (zak 2 t10 t12 λt14=>zae true 2 t14 H λt15=>zay [(.int .i64 0),.snil] H λt5 H=>zao 2 t5 t15 H λH=>zab H (λK'=>zaf 1 t3 (K' · H)) λt16=>zab H (λK'=>zaj false 1 t16 H (K' · H)) λt17=>zab H (λK'=>zaj true 2 t5 H (K' · H)) λt18=>zaA H (λH K'=>ACalls tP zj9 [t18] H K') λt19=>zab H (λK'=>zau 2 [(.int .i64 0),.snil] 1 [(0,t19)] (K' · H)) λt20=>zav zbf 2 32 t17 t20 H λt21 H=>zab H (λK'=>zaf 1 t3 (K' · H)) λt22=>zao 1 t22 t21 H λH=>zac .add false t12 (.int .i64 1) λt23=>Kb3 (zoo t2 t3 t10 t11 t23) H) (zae true 2 t3 H λt24=>zao 2 t2 t24 H λH=>zae true 2 t2 H λr0=>K r0 H)
def zEI:Prop:=zat t0 H λt1 H=>zay [(.int .i64 0),.snil] H λt2 H=>zaf 0 t1 λt6=>zae false 1 t6 H λt7=>zaq [(.int .i64 0),.snil] [(0,1),(1,1)] [(0,t7)] λt8=>zay [(.int .i64 0),.snil] H λt3 H=>zao 2 t3 t8 H λH=>zaf 1 t1 λt9=>zae false 1 t9 H λt10=>zah 1 t10 λt11=>zop t2 t3 t10 t11 (.int .i64 0) H K
def zWM (_:Nat):List Bool:=[]
noncomputable def zWN:Code:=Tryz.f83.body.getD .skip
def zEJ:Prop:=zat t0 H λt1 H=>zay [(.bool false),.snil,.snil] H λt2 H=>zae true 3 t1 H λt3=>ACalls tP zes [t3] H λt4 H=>ACalls tP zeW [t4] H λt5 H=>zao 3 t2 t5 H λH=>zae true 3 t2 H λr0=>K r0 H
def zWQ (_:Nat):List Bool:=[]
noncomputable def zWR:Code:=Tryz.f85.body.getD .skip
def zEK:Prop:=zat t0 H λt2 H=>zat t1 H λt3 H=>zaf 0 t2 λt5=>zae true 2 t5 H λt6=>zaf 0 t3 λt7=>zae true 2 t7 H λt8=>ACalls tP zgv [t6,t8] H λt9 H=>K t9 H
def zWs (_:Nat):List Bool:=[]
noncomputable def zWt:Code:=Tryz.f79.body.getD .skip
def zEE:Prop:=zac .lss false t0 (.int .i64 0) λt7=>zad t7 false H (λK'=>K' t0 H) λt9 H=>zad t7 false H (λK'=>zac .gtr false t9 (.int .i64 16) (K' · H)) λt10 H=>zam t7 (.bool true) t10 λt11=>zad t11 false H (λK'=>K' t1 H) λt13 H=>zad t11 false H (λK'=>zac .lss false t13 (.int .i64 0) (K' · H)) λt14 H=>zam t11 (.bool true) t14 λt15=>zad t15 false H (λK'=>K' t1 H) λt17 H=>zad t15 false H (λK'=>zac .gtr false t17 (.int .i64 16) (K' · H)) λt18 H=>zam t15 (.bool true) t18 λt19=>zag t19 (zaF [.snil,(.bool false)] (K · H)) (ACalls tP zqf [t0,t1] H λt22 H=>zaF [t22,(.bool true)] (K · H))
def zlw:Nat→List Bool | 3=>rl false [0,2,3,2,28] | _=>[]
noncomputable def zsz:Code:=Tryz.f131.body.getD .skip
noncomputable def zMn:List ResultVar:=Tryz.f131.results.toList
def zlx:List AV:=t0::t1::ux 3 (t5::t6::ux 28 [])
def zMl:List Bool:=zlw 3
noncomputable def zMj:Code:=zar [1,1,0,1,0,0] zsz
def zMi:AExit→List AV→zaa→Prop:=zas tP zlw [1,1,0,1,0] zsz (zaz tP zMn K)
def zBa:Prop:=ALoop tP zMj (zMi K) (zlx t0 t1 t5 t6) H
def zsy:Prop:=zac .add false t0 t1 λt18=>zac .leq false t6 t18 λt19=>zag t19 (ACalls tP zjI [t6,t0] H λt26 H=>zac .sub false t6 t1 λt30=>ACalls tP zjI [t0,t30] H λt31 H=>ACalls tP zfB [t26,t31] H λt32 H=>zak 3 t5 t6 λt33=>zao 3 t33 t32 H λH=>zac .add false t6 (.int .i64 1) λt21=>Kb3 (zlx t0 t1 t5 t21) H) (K t5 H)
def zA9:Prop:=zac .add false t0 t1 λt9=>zac .add false t9 (.int .i64 1) λt10=>ACalls tP zqz [t10] H λt11 H=>zff t0 t1 λt14=>zBa t0 t1 t11 t14 H K
def zmF:Nat→List Bool | 3=>rl false [3,1,4,2,8] | _=>[]
noncomputable def ztG:Code:=Tryz.f174.body.getD .skip
noncomputable def zQa:List ResultVar:=Tryz.f174.results.toList
def zmG:List AV:=ux 3 (t3::ux 4 (t8::t9::ux 8 []))
def zP8:List Bool:=zmF 3
noncomputable def zP6:Code:=zar [1,1,0,1,0,0] ztG
def zP5:AExit→List AV→zaa→Prop:=zas tP zmF [1,1,0,1,0] ztG (zaz tP zQa K)
def zCy:Prop:=ALoop tP zP6 (zP5 K) (zmG t3 t8 t9) H
def ztF:Prop:=zac .lss false t9 t8 λt10=>zag t10 (ACalls tP zdz [(.int .i64 0)] H λt14 H=>zak 3 t3 t9 λt15=>zao 3 t15 t14 H λH=>zac .add false t9 (.int .i64 1) λt16=>Kb3 (zmG t3 t8 t16) H) (K t3 H)
def zCx:Prop:=zbe 56 [(.bool false),.snil,.snil] t0 t0 H λt6 H=>zah 1 t6 λt8=>zCy t6 t8 (.int .i64 0) H K
def zlE:Nat→List Bool | 4=>rl false [7,1,1,1,13,3,15] | _=>[]
noncomputable def zsH:Code:=Tryz.f135.body.getD .skip
noncomputable def zMS:List ResultVar:=Tryz.f135.results.toList
def zlG:List AV:=ux 7 (t7::ux 1 (t9::ux 13 (t23::t24::t25::ux 15 [])))
def zMQ:List Bool:=zlE 4
noncomputable def zMO:Code:=zar [1,1,1,0,1,0,0] zsH
def zMN:AExit→List AV→zaa→Prop:=zas tP zlE [1,1,1,0,1,0] zsH (zaz tP zMS K)
def zlI:Prop:=ALoop tP zMO (zMN K) (zlG t7 t9 t23 t24 t25) H
def zBn (t7 t9 t23 t24 t25:AV) (H:zaa) (K:Kt) (Kb4:Lt):Prop:=zac .add false t25 (.int .i64 1) λt39=>Kb4 (zlG t7 t9 t23 t24 t39) H
def zlH:Prop:=zBn t7 t9 t23 t24 t25 H K Kb4
def zlF:Prop:=zac .lss false t25 t24 λt26=>zag t26 (zak 1 t23 t25 λt28=>zae false 1 t28 H λt29=>aUn .not t29 λt31=>zag t31 (zak 3 t7 t25 λt35=>zae true 3 t35 H λt36=>zau 3 [(.int .i64 0),(.int .i64 0),.snil] 1 [(0,t36)] λt37=>zav za1 3 40 t9 t37 H λt38 H=>zlH t7 t38 t23 t24 t25 H K Kb4) (zlH t7 t9 t23 t24 t25 H K Kb4)) (K t9 H)
def zBm:Prop:=zat t1 H λt4 H=>zae true 3 t4 H λt14=>ACalls tP zjG [t0,t14,t2] H λt16 H=>zaC t16 0 λt17=>zaC t16 1 λt18=>zaf 1 t4 λt20=>zae false 1 t20 H λt21=>ACalls tP zfx [t0,t21,t2] H λt23 H=>zah 1 t23 λt24=>zlI t17 .snil t23 t24 (.int .i64 0) H K
variable {t0 t1 t2 t3 t4 t5 t6 t7 t8 t9 t10 t11 t12 t15 t16 t17 t18 t19 t20 t23 t24 t25 t57 t58 t59} {H} {K} {Kb1 Kb3 Kb4 Kb5 Kb14}
theorem zTN (h:HSc H→zDJ t0 t1 H K):ACalls tP zqP [t0,t1] H K:=
 acb zTL Tryz.func41 zTM (by kernel_rfl) (by kernel_rfl) h
theorem zTR (Inv:Nat→AV→zaa→Prop) (n:Nat) (h0:HSc H→Inv n t11 H)
  (ac:Rd1 (λt11=>ziL t0 t9 t10 t11) (λt11=>λH Kb1=>zuB t0 t9 t10 t11 H K Kb1) H Inv):zDL t0 t9 t10 t11 H K:=
 lp1 (M:=znq) zTS t11 (by kernel_rfl) Inv n h0 ac
theorem zTT (h:HSc H→zDK t0 t1 H K):ACalls tP zqQ [t0,t1] H K:=
 acb znq Tryz.func42 zuC (by kernel_rfl) (by kernel_rfl) h
theorem zUc (Inv:Nat→AV→zaa→Prop) (n:Nat) (h0:HSc H→Inv n t59 H)
  (ac:Rd1 (λt59=>znA t4 t57 t58 t59) (λt59=>λH Kb14=>zuJ t4 t57 t58 t59 H K Kb14) H Inv):zDO t4 t57 t58 t59 H K:=
 lp1 (M:=zf1) zUe t59 (by kernel_rfl) Inv n h0 ac
theorem zUd (Inv:Nat→AV→AV→zaa→Prop) (n:Nat) (h0:HSc H→Inv n t5 t17 H)
  (ac:Rd2 (λt5=>λt17=>znB t0 t4 t5 t15 t16 t17) (λt5=>λt17=>λH Kb4=>znz t0 t4 t5 t15 t16 t17 H K Kb4) H Inv):znC t0 t4 t5 t15 t16 t17 H K:=
 lp2 (M:=zf1) zUf t5 t17 (by kernel_rfl) Inv n h0 ac
theorem zUg (h:HSc H→zDM t0 H K):ACalls tP zqR [t0] H K:=
 acb zf1 Tryz.func44 ziO (by kernel_rfl) (by kernel_rfl) h
theorem zWb (Inv:Nat→AV→zaa→Prop) (n:Nat) (h0:HSc H→Inv n t20 H)
  (ac:Rd1 (λt20=>zog t0 t18 t19 t20) (λt20=>λH Kb5=>zvl t0 t18 t19 t20 H K Kb5) H Inv):zEv t0 t18 t19 t20 H K:=
 lp1 (M:=zof) zWc t20 (by kernel_rfl) Inv n h0 ac
theorem zWd (h:HSc H→zEu t0 t1 H K):ACalls tP zj6 [t0,t1] H K:=
 acb zof Tryz.func75 zvm (by kernel_rfl) (by kernel_rfl) h
theorem zWH (Inv:Nat→AV→zaa→Prop) (n:Nat) (h0:HSc H→Inv n t12 H)
  (ac:Rd1 (λt12=>zoo t2 t3 t10 t11 t12) (λt12=>λH Kb3=>zvv t2 t3 t10 t11 t12 H K Kb3) H Inv):zop t2 t3 t10 t11 t12 H K:=
 lp1 (M:=zon) zWI t12 (by kernel_rfl) Inv n h0 ac
theorem zWJ (h:HSc H→zEI t0 H K):ACalls tP zj9 [t0] H K:=
 acb zon Tryz.func82 zvw (by kernel_rfl) (by kernel_rfl) h
theorem zWO (h:HSc H→zEJ t0 H K):ACalls tP zq2 [t0] H K:=
 acb zWM Tryz.func83 zWN (by kernel_rfl) (by kernel_rfl) h
theorem zWS (h:HSc H→zEK t0 t1 H K):ACalls tP zka [t0,t1] H K:=
 acb zWQ Tryz.func85 zWR (by kernel_rfl) (by kernel_rfl) h
theorem zWu (h:HSc H→zEE t0 t1 H K):ACalls tP zqZ [t0,t1] H K:=
 acb zWs Tryz.func79 zWt (by kernel_rfl) (by kernel_rfl) h
theorem zMk (Inv:Nat→AV→zaa→Prop) (n:Nat) (h0:HSc H→Inv n t6 H)
  (ac:Rd1 (λt6=>zlx t0 t1 t5 t6) (λt6=>λH Kb3=>zsy t0 t1 t5 t6 H K Kb3) H Inv):zBa t0 t1 t5 t6 H K:=
 lp1 (M:=zlw) zMl t6 (by kernel_rfl) Inv n h0 ac
theorem zMm (h:HSc H→zA9 t0 t1 H K):ACalls tP zqf [t0,t1] H K:=
 acb zlw Tryz.func131 zsz (by kernel_rfl) (by kernel_rfl) h
theorem zP7 (Inv:Nat→AV→zaa→Prop) (n:Nat) (h0:HSc H→Inv n t9 H)
  (ac:Rd1 (λt9=>zmG t3 t8 t9) (λt9=>λH Kb3=>ztF t3 t8 t9 H K Kb3) H Inv):zCy t3 t8 t9 H K:=
 lp1 (M:=zmF) zP8 t9 (by kernel_rfl) Inv n h0 ac
theorem zP9 (h:HSc H→zCx t0 H K):ACalls tP zqz [t0] H K:=
 acb zmF Tryz.func174 ztG (by kernel_rfl) (by kernel_rfl) h
theorem zMP (Inv:Nat→AV→AV→zaa→Prop) (n:Nat) (h0:HSc H→Inv n t9 t25 H)
  (ac:Rd2 (λt9=>λt25=>zlG t7 t9 t23 t24 t25) (λt9=>λt25=>λH Kb4=>zlF t7 t9 t23 t24 t25 H K Kb4) H Inv):zlI t7 t9 t23 t24 t25 H K:=
 lp2 (M:=zlE) zMQ t9 t25 (by kernel_rfl) Inv n h0 ac
theorem zMR (h:HSc H→zBm t0 t1 t2 H K):ACalls tP zqj [t0,t1,t2] H K:=
 acb zlE Tryz.func135 zsH (by kernel_rfl) (by kernel_rfl) h
end
end Go.Proofs.YtdmamdnkcefmmaaGreatDoor

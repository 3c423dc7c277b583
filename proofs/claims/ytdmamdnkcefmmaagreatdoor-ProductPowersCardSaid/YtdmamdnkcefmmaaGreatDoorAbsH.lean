import Derived.Test.YtdmamdnkcefmmaaGreatDoorAbsG
import Derived.MapKept
set_option linter.unusedSimpArgs false
set_option linter.unusedVariables false
set_option maxRecDepth 8000
namespace Go.Proofs.YtdmamdnkcefmmaaGreatDoor
section
open Go.RowKit

variable {P:Program} {B:Nat} {w:World} {G:Gh} {H:zaa}

theorem zJ8(v:Value):VRel w G v (zeE v):=by
 unfold zeE;split
 ·rename_i cs;refine⟨cs,rfl,?_⟩;refine All2.of_get (by simp) λi x y hx hy=>?_;rw[List.getElem?_map,hx]at hy;simp at hy;rw[←hy];exact ARel.of_b (zg2 x)
 ·exact VRel.of_a (ARel.of_b (zg2 v))
theorem zBJ{t e:TypeId}(h:zeV P t=some e):∃k,P.underlying t=some (.map k e)∧P.underlying k=some .string:=by
 unfold zeV at h;cases hu:P.underlying t with
 |none=>simp[hu]at h
 |some d=>
  simp only[hu,Option.bind_some]at h;cases d <;> simp only[]at h <;> try (cases h;done)
  rename_i k e';split at h
  ·rename_i hk;cases h;exact⟨k,rfl,hk⟩
  ·cases h

theorem zqB{s:List UInt8}{x:AV}:∀ {es:List MapEntry} {kvs:List (List UInt8 × AV)} (i:Nat),All2 (ERel w G) es kvs →
  (zbY kvs s=none∧Instr.findNow .string (.string ⟨s.toArray⟩) es i=some none∧zcQ kvs s x=kvs++[(s,x)]) ∨
  (∃j e v,zbY kvs s=some v∧Instr.findNow .string (.string ⟨s.toArray⟩) es i=some (some (i+j,e.val))∧es[j]?=some e∧VRel w G e.val v∧e.key=.string ⟨s.toArray⟩∧zcQ kvs s x=kvs.set j (s,x))
 |[],[],i,_=>.inl ⟨rfl,rfl,rfl⟩
 |e::es,p::kvs,i,h=>by
  obtain⟨⟨hk,hv⟩,ht⟩:=h;have hbeq:((⟨s.toArray⟩:ByteArray) == ⟨p.1.toArray⟩)=(p.1 == s):=by
   have e1:((⟨s.toArray⟩:ByteArray) == ⟨p.1.toArray⟩)=(s.toArray == p.1.toArray):=rfl;rw[e1,ct,ba,ba];constructor
   ·intro h;have:=congrArg Array.toList h;simpa using this.symm
   ·intro h;rw[h]
  have eZ:Instr.sameNow .string (.string ⟨s.toArray⟩) e.key=some (p.1 == s):=by rw[hk];simp only[Instr.sameNow,hbeq]
  cases hb:(p.1 == s) with
  |true=>
   right;rw[hb]at eZ;have gJ:p.1=s:=by simpa using hb
   exact⟨0,e,p.2,by simp only[zbY,hb],by simp only[Instr.findNow,eZ,Nat.add_zero],rfl,hv,by rw[hk,gJ],by simp only[zcQ,hb,List.set_cons_zero]⟩
  |false=>
   rw[hb]at eZ;rcases zqB (s:=s) (x:=x) (i+1) ht with ⟨h1,h2,h3⟩|⟨j,e',v,h1,h2,h3,h4,h5,h6⟩
   ·exact .inl ⟨by simp only[zbY,hb,h1],by simp only[Instr.findNow,eZ,h2],by simp only[zcQ,hb,h3,List.cons_append]⟩
   ·refine .inr ⟨j+1,e',v,by simp only[zbY,hb,h1],?_,by simpa using h3,h4,h5,by simp only[zcQ,hb,h6,List.set_cons_succ]⟩;simp only[Instr.findNow,eZ,h2];congr 3;omega
 |[],_::_,_,h=>h.elim
 |_::_,[],_,h=>h.elim

theorem zLh{t:TypeId}{K:AV→zaa→Prop}(hH:HRel B w G H)(h:zec H K):OpOK P B w G K (((do pure (.value (←Instr.makeMap t none))):Sem Next).run P w):=by
 obtain⟨he,eU⟩:=hH.newMap;have et:((do pure (.value (←Instr.makeMap t none))):Sem Next).run P w=.ok (.value (.map (some w.heap.size))) (w.alloc (.map #[] 0)):=by simp[Instr.makeMap,newObj,Sem.run,World.alloc_eq]
 rw[et];refine⟨.map H.length,_,_,he,eU,⟨w.heap.size,?_,rfl⟩,h⟩;rw[←hH.len];simp

theorem zLe{t e:TypeId}{z vm vk:Value}{m k:AV}{ok:Bool}{K:AV→Prop}(hH:HRel B w G H)(ht:zeV P t=some e)(hz:zbJ P e=some z)(hm:TRel w G vm m)(hk:TRel w G vk k)(h:zdU (zeE z) ok m k H K):∃u,(Instr.lookup t vm vk ok).run P w=.ok u w∧∃av,TRel w G u av∧K av:=by
 obtain⟨kt,hu,kq⟩:=zBJ ht;unfold zdU at h;split at h
 ·rename_i id s;split at h
  ·rename_i kvs kT;obtain⟨b,hμ,rfl⟩:=hm;cases hk;obtain⟨_,_,es,clk,hw,eX⟩:=hH.ok id _ _ kT hμ;have iZ:MapKept.IsKey .string (.string ⟨s.toArray⟩):=trivial;rcases zqB (s:=s) (x:=.unk) 0 eX with ⟨h1,h2,_⟩ | ⟨j,e',v,h1,h2,h3,h4,h5,_⟩
   ·rw[h1]at h;have hzv:VRel w G z (zeE z):=zJ8 z;cases ok with
    |false=>refine⟨z,?_,_,zAu z,h⟩;simp[Instr.lookup,za7 hu,MapKept.run_getObj_map hw,MapKept.run_checkKey kq iZ,MapKept.run_findKey kq h2,zfo hz]
    |true=>refine⟨.tuple #[z,.bool false],?_,.tup [zeE z,.bool false],⟨_,rfl,hzv,rfl,trivial⟩,h⟩;simp[Instr.lookup,za7 hu,MapKept.run_getObj_map hw,MapKept.run_checkKey kq iZ,MapKept.run_findKey kq h2,zfo hz]
   ·rw[h1]at h;cases ok with
    |false=>refine⟨e'.val,?_,_,TRel.of_v h4,h⟩;simp[Instr.lookup,za7 hu,MapKept.run_getObj_map hw,MapKept.run_checkKey kq iZ,MapKept.run_findKey kq h2]
    |true=>refine⟨.tuple #[e'.val,.bool true],?_,.tup [v,.bool true],⟨_,rfl,h4,rfl,trivial⟩,h⟩;simp[Instr.lookup,za7 hu,MapKept.run_getObj_map hw,MapKept.run_checkKey kq iZ,MapKept.run_findKey kq h2]
  ·exact h.elim
 ·exact h.elim

theorem zAY{t e:TypeId}{vm vk vx:Value}{m k x:AV}{K:zaa→Prop}(hH:HRel B w G H)(ht:zeV P t=some e)(hm:TRel w G vm m)(hk:TRel w G vk k)(hx:TRel w G vx x)(h:zc9 m k x H K):∃w' H',(Instr.mapUpdate t vm vk vx).run P w=.ok () w'∧Ext B w G w' G∧HRel B w' G H'∧K H':=by
 obtain⟨kt,hu,kq⟩:=zBJ ht;unfold zc9 at h;split at h
 ·rename_i id s;split at h
  ·rename_i kvs kT;obtain⟨b,hμ,rfl⟩:=hm;cases hk;obtain⟨_,_,es,clk,hw,eX⟩:=hH.ok id _ _ kT hμ;have iZ:MapKept.IsKey .string (.string ⟨s.toArray⟩):=trivial;split at h
   ·exact h.elim
   ·rename_i hnt;have hv:VRel w G vx x:=by cases x <;> first | exact hx | exact (hnt _ rfl).elim
    rcases zqB (s:=s) (x:=x) 0 eX with ⟨h1,h2,h6⟩|⟨j,e',v,h1,h2,h3,h4,h5,h6⟩
    ·rw[h6]at h;obtain⟨he,eU⟩:=hH.storeMap (es':=es.push ⟨.string ⟨s.toArray⟩,vx,clk⟩) (clk':=clk+1) kT hμ hw (kvs':=kvs++[(s,x)]) (by
      rw[Array.toList_push];exact eX.append ⟨⟨rfl,hv⟩,trivial⟩)
     refine⟨_,_,?_,he,eU,h⟩;simp[Instr.mapUpdate,za7 hu,MapKept.run_getObj_map hw,MapKept.run_checkKey kq iZ,MapKept.run_findKey kq h2,MapKept.run_setObj_map _ hw]
    ·rw[h6]at h;have hj:es[j]?=some e':=by simpa using h3
     have eI:j<es.size:=(Array.getElem?_eq_some_iff.1 hj).1;obtain⟨he,eU⟩:=hH.storeMap (es':=es.modify j λe=>{ e with key:=.string ⟨s.toArray⟩,val:=vx }) (clk':=clk) kT hμ hw (kvs':=kvs.set j (s,x)) (by
      have e1:(es.modify j λe=>{ e with key:=.string ⟨s.toArray⟩,val:=vx }).toList=es.toList.set j { e' with key:=.string ⟨s.toArray⟩,val:=vx }:=by rw[Array.toList_modify,List.modify_eq_set];simp[hj]
      rw[e1];exact eX.set j ⟨rfl,hv⟩)
     refine⟨_,_,?_,he,eU,h⟩;have gh:(Instr.keyThatStays (((es[j]?).map (·.key)).getD (.string ⟨s.toArray⟩)) (.string ⟨s.toArray⟩)).run P w=.ok (.string ⟨s.toArray⟩) w:=by rw[hj];simp only[Option.map_some,Option.getD_some,h5];exact MapKept.run_keyThatStays iZ
     simp only[aC]at h2;simp[Instr.mapUpdate,za7 hu,MapKept.run_getObj_map hw,MapKept.run_checkKey kq iZ,MapKept.run_findKey kq h2,gh,MapKept.run_setObj_map _ hw]
  ·exact h.elim
 ·exact h.elim
end
section
open Go.RowKit

variable {P:Program} {B:Nat} {w:World} {G:Gh} {H:zaa}

structure GrB (w w':World) (g:Option Nat):Prop where
 dr:w.drawn≤w'.drawn
 os:w'.os=w.os
 tape:w'.tape=w.tape
 output:w'.output=w.output
 size:w.heap.size≤w'.heap.size
 block:∀k,k<w.heap.size→some k≠g→w'.heap[k]?=w.heap[k]?
theorem zqy(w:World)(o:Obj):w.drawn≤(w.drew.alloc o).drawn:=bL _

theorem ziJ{t t' ty e:TypeId}{a c:Option Addr}{n cap cap':Nat}(he:zbj P t=some e)(oJ:zbj P t'=some e)(hs:∃ s,za4 P e=some s)(hk:n≤cap):
  (Builtin.append_ #[t,t'] ty #[.slice a n cap,.slice c 0 cap']).run P w=.ok (.slice a n cap) w:=by
 obtain⟨s,hs⟩:=hs;have hl:∀x,(loadCells x 0).run P w=.ok #[] w:=λx=>by simpa using run_loadCells_list (P:=P) w x [] (by simp)
 have eL:∀x,(storeCells x [] 0).run P w=.ok () w:=λx=>rfl;cases a <;> cases c <;> simp[Builtin.append_,za7 (zcf he),za7 (zcf oJ),zb6 hs,Builtin.lenOf,hk,Builtin.firstCells,hl,eL]

theorem zk0{t ty e:TypeId}{i:TypeInfo}{z:Value}(ht:P.underlying t=some (.slice e))(hi:P.info? e=some i)(hz:i.zero=some z)(iI:z.cells.size=i.size){v:Value}{n:Nat}{xs:List Value}(er:w.ownsRow B e i.size v n xs)(a:Addr)(m c:Nat)(news:List Value)(hl:news.length=m*i.size)(iw:∀ j u,news[j]?=some u→w.cell? (a.add j)=some u)(h1:∀ u∈news,u.oneCell'=true)(hm:0<m)(np:n+m≤maxLen)(gj:(n+m)*i.bytes≤140737488355328)(i4:B≤w.heap.size):
  ∃ v' w',(Builtin.append_ #[t,t] ty #[v,.slice (some a) m c]).run P w=.ok v' w'∧w'.ownsRow B e i.size v' (n+m) (xs++news) ∧
   ((∃g,v.ownBlock=some g∧v'.ownBlock=some g∧GrB w w' (some g))∨(v'.ownBlock=some w.heap.size∧GrB w w' none)):=by
 have hsmall:n+m≤9223372036854775807:=by simp only[maxLen]at np;omega
 have ek:(xs++news).length=(n+m)*i.size:=by rw[aw,er.1,hl,a8]
 have grown:∀ (old:Nat),old<n+m →
   (w.drew.alloc (.cells (xs.toArray++news.toArray++Builtin.zeroCells z.cells (grownCap w (n+m) old e-(n+m))) e)).ownsRow B e i.size
    (.slice (some ⟨w.heap.size,0,none⟩) (n+m) (grownCap w (n+m) old e)) (n+m) (xs++news) ∧
   GrB w (w.drew.alloc (.cells (xs.toArray++news.toArray++Builtin.zeroCells z.cells (grownCap w (n+m) old e-(n+m))) e)) none:=by
  intro old ho;have gK:=grownCap_ge w (n+m) old e;have fO:grownCap w (n+m) old e≤maxLen:=grownCap_le_maxLen w (n+m) old e np;refine⟨⟨ek,.inr ⟨w.heap.size,_,_,rfl,i4,zdE (w:=w.drew) _,gK,fO,?_,?_⟩⟩,⟨zqy w _,rfl,rfl,rfl,by simp,λk hk _=>zcX (w:=w.drew) hk⟩⟩
  ·simp only[cy,bQ,size_zeroCells,iI,er.1,hl,←a8];congr 1;omega
  ·simp only[dl,aq];rw[←aq,←ek];exact cE
 rcases er.2 with ⟨rfl,rfl⟩|⟨g,cap,cur,rfl,gZ,hg,nn,fO,eN,fu⟩
 ·have hx:xs=[]:=aB (by simpa using er.1);subst hx;have hr:=run_append_nil (P:=P) w t ty e i z ht hi hz a m c news hl iw hm (by omega) (by have hb:=gj;simp only[aC]at hb;omega);have fB:=grown 0 (by omega);simp only[aC,List.nil_append,cO]at fB ⊢;exact⟨_,_,hr,fB.1,.inr ⟨rfl,fB.2⟩⟩
 ·by_cases ix:n+m≤cap
  ·have fd:n*i.size+news.length≤cur.size:=by rw[hl,eN,←a8];exact ar _ ix
   have hr:=run_append_room (P:=P) w t ty e i ht hi g n cap cur hg a m c news hl iw h1 ix fd;refine⟨_,_,hr,⟨ek,.inr ⟨g,cap,_,rfl,gZ,setRow_heap w g cur _ e _ hg,ix,fO,?_,?_⟩⟩,.inl ⟨g,rfl,rfl,⟨ac _,rfl,rfl,rfl,by simp,λk _ hk=>setRow_other w g k _ (λe=>hk (by simp[e]))⟩⟩⟩
   ·simp only[bQ,aw,aT,de,Array.length_toList];omega
   ·rw[fu,←ek];exact cE
  ·have holds:∀j u,xs[j]?=some u→w.cell? ((⟨g,0,none⟩:Addr).add j)=some u:=er.cells (g:=g) rfl;have hr:=run_append_grow (P:=P) w t ty e i z ht hi hz ⟨g,0,none⟩ n cap xs er.1 holds a m c news hl iw (by omega) (by omega) (growslice_fits (by omega) gj);have fB:=grown cap (by omega);exact⟨_,_,hr,fB.1,.inr ⟨rfl,fB.2⟩⟩

theorem zyS{t ty e:TypeId}{i:TypeInfo}{z:Value}(ht:P.underlying t=some (.slice e))(hi:P.info? e=some i)(hz:i.zero=some z)(iI:z.cells.size=i.size){ad:Option Addr}{n:Nat}{xs:List Value}(gc:xs.length=n*i.size)(hx:∀ b,ad=some b→∀ j u,xs[j]?=some u→w.cell? (b.add j)=some u)(hn:ad=none→n=0)(a:Addr)(m c:Nat)(news:List Value)(hl:news.length=m*i.size)(iw:∀ j u,news[j]?=some u→w.cell? (a.add j)=some u)(hm:0<m)(np:n+m≤maxLen)(gj:(n+m)*i.bytes≤140737488355328)(i4:B≤w.heap.size):
  ∃v' w',(Builtin.append_ #[t,t] ty #[.slice ad n n,.slice (some a) m c]).run P w=.ok v' w'∧w'.ownsRow B e i.size v' (n+m) (xs++news)∧v'.ownBlock=some w.heap.size∧GrB w w' none:=by
 have hsmall:n+m≤9223372036854775807:=by simp only[maxLen]at np;omega
 have ek:(xs++news).length=(n+m)*i.size:=by rw[aw,gc,hl,a8]
 have grown:∀ (old:Nat),old<n+m →
   (w.drew.alloc (.cells (xs.toArray++news.toArray++Builtin.zeroCells z.cells (grownCap w (n+m) old e-(n+m))) e)).ownsRow B e i.size
    (.slice (some ⟨w.heap.size,0,none⟩) (n+m) (grownCap w (n+m) old e)) (n+m) (xs++news) ∧
   GrB w (w.drew.alloc (.cells (xs.toArray++news.toArray++Builtin.zeroCells z.cells (grownCap w (n+m) old e-(n+m))) e)) none:=by
  intro old ho;have gK:=grownCap_ge w (n+m) old e;have fO:grownCap w (n+m) old e≤maxLen:=grownCap_le_maxLen w (n+m) old e np;refine⟨⟨ek,.inr ⟨w.heap.size,_,_,rfl,i4,zdE (w:=w.drew) _,gK,fO,?_,?_⟩⟩,⟨zqy w _,rfl,rfl,rfl,by simp,λk hk _=>zcX (w:=w.drew) hk⟩⟩
  ·simp only[cy,bQ,size_zeroCells,iI,gc,hl,←a8];congr 1;omega
  ·simp only[dl,aq];rw[←aq,←ek];exact cE
 cases ad with
 |none=>obtain rfl:=hn rfl;have jh:xs=[]:=aB (by simpa using gc);subst jh;have hr:=run_append_nil (P:=P) w t ty e i z ht hi hz a m c news hl iw hm (by omega) (by have hb:=gj;simp only[aC]at hb;omega);have fB:=grown 0 (by omega);simp only[aC,List.nil_append,cO]at fB ⊢;exact⟨_,_,hr,fB.1,rfl,fB.2⟩
 |some b=>have hr:=run_append_grow (P:=P) w t ty e i z ht hi hz b n n xs gc (hx b rfl) a m c news hl iw (by omega) (by omega) (growslice_fits (by omega) gj);have fB:=grown n (by omega);exact⟨_,_,hr,fB.1,rfl,fB.2⟩
theorem zk1{e:TypeId}{size n m id:Nat}{v v':Value}{w':World}{xs news:List Value}{es ys:List (List AV)}(hH:HRel B w G H)(gL:H[id]?=some (.perm e size n))(hμ:G.μ[id]?=some (.own v size n))(er:w.ownsRow B e size v n xs)(eR:w'.ownsRow B e size v' (n+m) (xs++news))(eD:(∃ g,v.ownBlock=some g∧v'.ownBlock=some g∧GrB w w' (some g))∨(v'.ownBlock=some w.heap.size∧GrB w w' none))(hm:ys.length=m)(g7:0<m)(eX:es.length=n)(hse:∀ c∈es,c.length=size)(mV:∀ c∈ys,c.length=size)(hx:All2 (DRel w G.L) xs es.flatten)(hn:All2 (DRel w G.L) news ys.flatten):
  ∃G',Ext B w G w' G'∧HRel B w' G' (H.set id (.perm e size (n+m)))∧TRel w' G' v' (.sl (es++ys) (.own id)):=by
 obtain⟨_,_,⟨_,_⟩,jS⟩:=hH.ok id _ _ gL hμ;obtain⟨gF,fk⟩:=eR;rcases fk with ⟨hv,hz⟩|⟨g,cap,cur,hv,ko,kr,fP,ib,je,jP⟩
 ·omega
 subst hv;have eR:w'.ownsRow B e size (.slice (some ⟨g,0,none⟩) (n+m) cap) (n+m) (xs++news):=⟨gF,.inr ⟨g,cap,cur,rfl,ko,kr,fP,ib,je,jP⟩⟩;obtain⟨_,_,hglt,jp⟩:=zdL eR;have eD:(v.ownBlock=some g∧GrB w w' (some g))∨(g=w.heap.size∧GrB w w' none):=by
  rcases eD with ⟨g0,h1,h2,h3⟩|⟨h1,h2⟩
  ·simp[Value.ownBlock]at h2;subst h2;exact .inl ⟨h1,h3⟩
  ·simp[Value.ownBlock]at h1;exact .inr ⟨h1,h2⟩
 have hB:∀b,v.ownBlock=some b→B≤b:=λb hb=>by
  rcases er.2 with ⟨rfl,_⟩|⟨g0,cap0,cur0,rfl,ou,_⟩
  ·simp[Value.ownBlock]at hb
  ·simp[Value.ownBlock]at hb;omega
 have ku:G.L g≤(n+m)*size:=by
  rcases eD with ⟨h,_⟩|⟨h,_⟩
  ·rw[jS g h];exact ar _ (by omega)
  ·rw[hH.fresh g (by omega)];exact bv _
 -- all other blocks are asx they were
 have eZ:∀b,b<w.heap.size→b≠g→w'.heap[b]?=w.heap[b]?:=by
  intro b hb ey;rcases eD with ⟨_,h⟩|⟨_,h⟩
  ·exact h.block b hb (by simp[ey])
  ·exact h.block b hb (by simp)
 have f8:w.heap.size≤w'.heap.size:=by rcases eD with ⟨_,h⟩|⟨_,h⟩ <;> exact h.size
 have il:∀(id':Nat) gi b,id'≠id→G.μ[id']?=some gi→gi.block=some b→b≠g:=by
  intro id' gi b ey h1 h2 gZ;subst gZ;rcases eD with ⟨h,_⟩|⟨h,_⟩
  ·exact ey (hH.dist id' id gi _ b h1 hμ h2 (by simpa[GI.block]using h))
  ·have:=hH.lt id' gi b h1 h2;omega
 have f9:id<G.μ.length:=(List.getElem?_eq_some_iff.1 hμ).1;have he:Ext B w G w' ⟨λb=>if b=g then (n+m)*size else G.L b,G.μ.set id (.own (.slice (some ⟨g,0,none⟩) (n+m) cap) size (n+m))⟩:=by
  refine⟨by rcases eD with ⟨_,h⟩|⟨_,h⟩ <;> exact h.dr,?_,?_,?_,?_⟩
  ·have hb:∀k,k<B→w'.heap[k]?=w.heap[k]?:=λk hk=>eZ k (aV hk hH.base) (by
    intro qb;subst qb;rcases eD with ⟨h,_⟩|⟨h,_⟩
    ·have:=hB k h;omega
    ·have:=hH.base;omega)
   rcases eD with ⟨_,h⟩|⟨_,h⟩ <;> exact⟨h.os,h.tape,h.output,h.size,hb⟩
  ·intro b;by_cases hb:b=g
   ·subst hb;simpa using ku
   ·simp[hb]
  ·intro b off iJ;by_cases gZ:b=g
   ·subst gZ;rcases eD with ⟨h,_⟩ | ⟨h,_⟩
    ·rcases er.2 with ⟨rfl,_⟩ | ⟨g0,cap0,cur0,rfl,ou,hw0,_⟩
     ·simp[Value.ownBlock]at h
     ·simp[Value.ownBlock]at h;subst h;rw[jS _ rfl]at iJ;obtain⟨gc,_,_,gM⟩:=zdL er;rw[gM off iJ,jp off (aV iJ (ar _ (by omega))),List.getElem?_append_left (by omega)]
    ·rw[hH.fresh b (by omega)]at iJ;omega
   ·exact zfH (eZ b (zju hH iJ) gZ)
  ·intro id' gi h1;by_cases en:id'=id
   ·subst en;rw[hμ]at h1;cases h1;exact⟨_,List.getElem?_set_self f9,rfl,.inr (by omega)⟩
   ·exact⟨gi,by simp only[];rw[List.getElem?_set_ne (λh=>en h.symm)];exact h1,gi.le_refl⟩
 have e7:∀ (id':Nat) gi,(G.μ.set id (.own (.slice (some ⟨g,0,none⟩) (n+m) cap) size (n+m)))[id']?=some gi →
   (id'=id∧gi=.own (.slice (some ⟨g,0,none⟩) (n+m) cap) size (n+m))∨(id'≠id∧G.μ[id']?=some gi):=by
  intro id' gi h;by_cases en:id'=id
  ·subst en;rw[List.getElem?_set_self f9]at h;cases h;exact .inl ⟨rfl,rfl⟩
  ·rw[List.getElem?_set_ne (λh=>en h.symm)]at h;exact .inr ⟨en,h⟩
 refine⟨_,he,⟨by simp[hH.len],?_,?_,?_,?_,ap hH.base f8⟩,⟨?_,_,size,n+m,List.getElem?_set_self f9,by simp;omega,λ_=>⟨rfl,λc hc=>?_⟩⟩⟩
 ·intro id' ab gi h1 h2;rcases e7 id' gi h2 with ⟨rfl,rfl⟩ | ⟨en,h2⟩
  ·have ei:id'<H.length:=by rw[←hH.len];exact f9
   rw[List.getElem?_set_self ei]at h1;cases h1;refine⟨rfl,rfl,⟨_,eR⟩,λb hb=>?_⟩;simp[Value.ownBlock]at hb;subst hb;simp
  ·rw[List.getElem?_set_ne (λh=>en h.symm)]at h1;refine(hH.ok id' ab gi h1 h2).keep he (λb hb=>?_);have ey:=il id' gi b en h2 hb;exact⟨eZ b (hH.lt id' gi b h2 hb) ey,by simp[ey]⟩
 ·intro i1 i2 gi1 gi2 b h1 h2 h3 h4;rcases e7 i1 gi1 h1 with ⟨e1,e2⟩ | ⟨jq,k1⟩ <;> rcases e7 i2 gi2 h2 with ⟨e3,e4⟩ | ⟨l6,k2⟩
  ·rw[e1,e3]
  ·rw[e2]at h3;simp[GI.block,Value.ownBlock]at h3;exact absurd h3.symm (il i2 gi2 b l6 k2 h4)
  ·rw[e4]at h4;simp[GI.block,Value.ownBlock]at h4;exact absurd h4.symm (il i1 gi1 b jq k1 h3)
  ·exact hH.dist i1 i2 gi1 gi2 b k1 k2 h3 h4
 ·intro b hb;have ey:b≠g:=by intro h;subst h;omega
  simp[ey,hH.fresh b (by omega)]
 ·intro i1 gi b h1 h2;rcases e7 i1 gi h1 with ⟨rfl,rfl⟩ | ⟨jq,h1⟩
  ·simp[GI.block,Value.ownBlock]at h2;omega
  ·have:=hH.lt i1 gi b h1 h2;omega
 ·have ey:es++ys≠[]:=by intro h;have:=congrArg List.length h;rw[aw,List.length_nil]at this;omega
  have eO:∀c∈es++ys,c.length=size:=λc hc=>(aX.1 hc).elim (hse c) (mV c);have ek:(es++ys).length=n+m:=by simp;omega
  have fp:=DRel.of_flat (w:=w') (L:=λb=>if b=g then (n+m)*size else G.L b) (g:=g) (cap:=cap) (zs:=xs++news) eO ey (by omega) (by simp[eX,hm])
   (by rw[cg];exact(hx.append hn).mono λ_ _=>he.drel)
   (λj u hj=>by
    have l5:j<(n+m)*size:=by rw[←gF];exact(List.getElem?_eq_some_iff.1 hj).1
    rw[jp j l5];exact hj)
  rw[ek]at fp;exact fp
 ·rcases aX.1 hc with h | h
  ·exact hse c h
  ·exact mV c h

theorem ziU{e:TypeId}{size n m id:Nat}{v v':Value}{w':World}{xs news:List Value}{cs ds:List AV}(hH:HRel B w G H)(gL:H[id]?=some (.vec e size n cs))(hμ:G.μ[id]?=some (.own v size n))(er:w.ownsRow B e size v n xs)(eR:w'.ownsRow B e size v' (n+m) (xs++news))(eD:(∃ g,v.ownBlock=some g∧v'.ownBlock=some g∧GrB w w' (some g))∨(v'.ownBlock=some w.heap.size∧GrB w w' none))(g7:0<m)(hx:All2 (ARel w G) xs cs)(hn:All2 (ARel w G) news ds):
  ∃G',Ext B w G w' G'∧HRel B w' G' (H.set id (.vec e size (n+m) (cs++ds)))∧TRel w' G' v' (.ov id (n+m)):=by
 obtain⟨_,_,⟨_,_,_⟩,jS⟩:=hH.ok id _ _ gL hμ;obtain⟨gF,fk⟩:=eR;rcases fk with ⟨hv,hz⟩|⟨g,cap,cur,hv,ko,kr,fP,ib,je,jP⟩
 ·omega
 subst hv;have eR:w'.ownsRow B e size (.slice (some ⟨g,0,none⟩) (n+m) cap) (n+m) (xs++news):=⟨gF,.inr ⟨g,cap,cur,rfl,ko,kr,fP,ib,je,jP⟩⟩;obtain⟨_,_,hglt,jp⟩:=zdL eR;have eD:(v.ownBlock=some g∧GrB w w' (some g))∨(g=w.heap.size∧GrB w w' none):=by
  rcases eD with ⟨g0,h1,h2,h3⟩|⟨h1,h2⟩
  ·simp[Value.ownBlock]at h2;subst h2;exact .inl ⟨h1,h3⟩
  ·simp[Value.ownBlock]at h1;exact .inr ⟨h1,h2⟩
 have hB:∀b,v.ownBlock=some b→B≤b:=λb hb=>by
  rcases er.2 with ⟨rfl,_⟩|⟨g0,cap0,cur0,rfl,ou,_⟩
  ·simp[Value.ownBlock]at hb
  ·simp[Value.ownBlock]at hb;omega
 have ku:G.L g=0:=by
  rcases eD with ⟨h,_⟩|⟨h,_⟩
  ·exact jS g h
  ·exact hH.fresh g (by omega)
 have eZ:∀b,b<w.heap.size→b≠g→w'.heap[b]?=w.heap[b]?:=by
  intro b hb ey;rcases eD with ⟨_,h⟩|⟨_,h⟩
  ·exact h.block b hb (by simp[ey])
  ·exact h.block b hb (by simp)
 have f8:w.heap.size≤w'.heap.size:=by rcases eD with ⟨_,h⟩|⟨_,h⟩ <;> exact h.size
 have il:∀(id':Nat) gi b,id'≠id→G.μ[id']?=some gi→gi.block=some b→b≠g:=by
  intro id' gi b ey h1 h2 gZ;subst gZ;rcases eD with ⟨h,_⟩|⟨h,_⟩
  ·exact ey (hH.dist id' id gi _ b h1 hμ h2 (by simpa[GI.block]using h))
  ·have:=hH.lt id' gi b h1 h2;omega
 have f9:id<G.μ.length:=(List.getElem?_eq_some_iff.1 hμ).1;have he:Ext B w G w' ⟨G.L,G.μ.set id (.own (.slice (some ⟨g,0,none⟩) (n+m) cap) size (n+m))⟩:=by
  refine⟨by rcases eD with ⟨_,h⟩|⟨_,h⟩ <;> exact h.dr,?_,λ_=>ac _,?_,?_⟩
  ·have hb:∀k,k<B→w'.heap[k]?=w.heap[k]?:=λk hk=>eZ k (aV hk hH.base) (by
    intro qb;subst qb;rcases eD with ⟨h,_⟩|⟨h,_⟩
    ·have:=hB k h;omega
    ·have:=hH.base;omega)
   rcases eD with ⟨_,h⟩|⟨_,h⟩ <;> exact⟨h.os,h.tape,h.output,h.size,hb⟩
  ·intro b off iJ;by_cases gZ:b=g
   ·subst gZ;omega
   ·exact zfH (eZ b (zju hH iJ) gZ)
  ·intro id' gi h1;by_cases en:id'=id
   ·subst en;rw[hμ]at h1;cases h1;exact⟨_,List.getElem?_set_self f9,rfl,.inr (by omega)⟩
   ·exact⟨gi,by simp only[];rw[List.getElem?_set_ne (λh=>en h.symm)];exact h1,gi.le_refl⟩
 have e7:∀ (id':Nat) gi,(G.μ.set id (.own (.slice (some ⟨g,0,none⟩) (n+m) cap) size (n+m)))[id']?=some gi →
   (id'=id∧gi=.own (.slice (some ⟨g,0,none⟩) (n+m) cap) size (n+m))∨(id'≠id∧G.μ[id']?=some gi):=by
  intro id' gi h;by_cases en:id'=id
  ·subst en;rw[List.getElem?_set_self f9]at h;cases h;exact .inl ⟨rfl,rfl⟩
  ·rw[List.getElem?_set_ne (λh=>en h.symm)]at h;exact .inr ⟨en,h⟩
 refine⟨_,he,⟨by simp[hH.len],?_,?_,?_,?_,ap hH.base f8⟩,⟨⟨_,_,rfl,λ_=>⟨g,rfl⟩,fP⟩,_,size,n+m,List.getElem?_set_self f9,ac _,λ_=>rfl⟩⟩
 ·intro id' ab gi h1 h2;rcases e7 id' gi h2 with ⟨rfl,rfl⟩ | ⟨en,h2⟩
  ·have ei:id'<H.length:=by rw[←hH.len];exact f9
   rw[List.getElem?_set_self ei]at h1;cases h1;refine⟨rfl,rfl,⟨_,eR,(hx.mono λ_ _=>he.arel).append (hn.mono λ_ _=>he.arel)⟩,λb hb=>?_⟩;simp[Value.ownBlock]at hb;subst hb;exact ku
  ·rw[List.getElem?_set_ne (λh=>en h.symm)]at h1;refine(hH.ok id' ab gi h1 h2).keep he (λb hb=>?_);have ey:=il id' gi b en h2 hb;exact⟨eZ b (hH.lt id' gi b h2 hb) ey,rfl⟩
 ·intro i1 i2 gi1 gi2 b h1 h2 h3 h4;rcases e7 i1 gi1 h1 with ⟨e1,e2⟩ | ⟨jq,k1⟩ <;> rcases e7 i2 gi2 h2 with ⟨e3,e4⟩ | ⟨l6,k2⟩
  ·rw[e1,e3]
  ·rw[e2]at h3;simp[GI.block,Value.ownBlock]at h3;exact absurd h3.symm (il i2 gi2 b l6 k2 h4)
  ·rw[e4]at h4;simp[GI.block,Value.ownBlock]at h4;exact absurd h4.symm (il i1 gi1 b jq k1 h3)
  ·exact hH.dist i1 i2 gi1 gi2 b k1 k2 h3 h4
 ·intro b hb;exact hH.fresh b (by omega)
 ·intro i1 gi b h1 h2;rcases e7 i1 gi h1 with ⟨rfl,rfl⟩ | ⟨jq,h1⟩
  ·simp[GI.block,Value.ownBlock]at h2;omega
  ·have:=hH.lt i1 gi b h1 h2;omega

end
end Go.Proofs.YtdmamdnkcefmmaaGreatDoor

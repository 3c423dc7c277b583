import Derived.Test.YtaifokkaaahdoaaGreatDoorAbsP
import Derived.WideKeyRuns
set_option linter.unusedSimpArgs false
set_option linter.unusedVariables false
set_option linter.unusedSectionVars false
set_option maxRecDepth 8000
namespace Go.Abs
open Go Go.RowKit

variable {P:Program} {B:Nat} {w:World} {G:Gh} {H:zaa}

structure GrB (w w':World) (g:Option Nat):Prop where
 dr:w.drawn≤w'.drawn
 os:w'.os=w.os
 tape:w'.tape=w.tape
 output:w'.output=w.output
 size:w.heap.size≤w'.heap.size
 block:∀k,k<w.heap.size→some k≠g→w'.heap[k]?=w.heap[k]?
theorem zun(w:World)(o:Obj):w.drawn≤(w.drew.alloc o).drawn:=Nat.le_succ _

theorem zih{t t' ty e:TypeId}{a c:Option Addr}{n cap cap':Nat}(he:zbf P t=some e)(he':zbf P t'=some e)(hs:∃ s,zaP P e=some s)(hk:n≤cap):
  (Builtin.append_ #[t,t'] ty #[.slice a n cap,.slice c 0 cap']).run P w=.ok (.slice a n cap) w:=by
 obtain⟨s,hs⟩:=hs;have hl:∀x,(loadCells x 0).run P w=.ok #[] w:=λx=>by simpa using run_loadCells_list (P:=P) w x [] (by simp)
 have hst:∀x,(storeCells x [] 0).run P w=.ok () w:=λx=>rfl;cases a <;> cases c <;> simp[Builtin.append_,zaS (zbG he),zaS (zbG he'),zbx hs,Builtin.lenOf,hk,Builtin.firstCells,hl,hst]

theorem zpw{t ty e:TypeId}{i:TypeInfo}{z:Value}(ht:P.underlying t=some (.slice e))(hi:P.info? e=some i)(hz:i.zero=some z)(hzs:z.cells.size=i.size){v:Value}{n:Nat}{xs:List Value}(hown:w.ownsRow B e i.size v n xs)(a:Addr)(m c:Nat)(news:List Value)(hl:news.length=m*i.size)(hnews:∀ j u,news[j]?=some u→w.cell? (a.add j)=some u)(h1:∀ u∈news,u.oneCell'=true)(hm:0<m)(h63:n+m≤maxLen)(hbytes:(n+m)*i.bytes≤140737488355328)(hbase:B≤w.heap.size):
  ∃ v' w',(Builtin.append_ #[t,t] ty #[v,.slice (some a) m c]).run P w=.ok v' w'∧w'.ownsRow B e i.size v' (n+m) (xs++news) ∧
   ((∃g,v.ownBlock=some g∧v'.ownBlock=some g∧GrB w w' (some g))∨(v'.ownBlock=some w.heap.size∧GrB w w' none)):=by
 have hsmall:n+m≤9223372036854775807:=by simp only[maxLen]at h63;omega
 have hlen:(xs++news).length=(n+m)*i.size:=by rw[List.length_append,hown.1,hl,Nat.add_mul]
 have grown:∀ (old:Nat),old<n+m →
   (w.drew.alloc (.cells (xs.toArray++news.toArray++Builtin.zeroCells z.cells (grownCap w (n+m) old e-(n+m))) e)).ownsRow B e i.size
    (.slice (some ⟨w.heap.size,0,none⟩) (n+m) (grownCap w (n+m) old e)) (n+m) (xs++news) ∧
   GrB w (w.drew.alloc (.cells (xs.toArray++news.toArray++Builtin.zeroCells z.cells (grownCap w (n+m) old e-(n+m))) e)) none:=by
  intro old ho;have hge:=grownCap_ge w (n+m) old e;have hcm:grownCap w (n+m) old e≤maxLen:=grownCap_le_maxLen w (n+m) old e h63;refine⟨⟨hlen,.inr ⟨w.heap.size,_,_,rfl,hbase,zes (w:=w.drew) _,hge,hcm,?_,?_⟩⟩,⟨zun w _,rfl,rfl,rfl,by simp,λk hk _=>zdh (w:=w.drew) hk⟩⟩
  ·simp only[Array.size_append,List.size_toArray,size_zeroCells,hzs,hown.1,hl,←Nat.add_mul];congr 1;omega
  ·simp only[Array.toList_append,List.append_assoc];rw[←List.append_assoc,←hlen];exact List.take_left
 rcases hown.2 with ⟨rfl,rfl⟩|⟨g,cap,cur,rfl,hbg,hg,hnc,hcm,hcs,htake⟩
 ·have hx:xs=[]:=List.eq_nil_of_length_eq_zero (by simpa using hown.1);subst hx;have hr:=run_append_nil (P:=P) w t ty e i z ht hi hz a m c news hl hnews hm (by omega) (by have hb:=hbytes;simp only[Nat.zero_add]at hb;omega);have hgr:=grown 0 (by omega);simp only[Nat.zero_add,List.nil_append,Array.empty_append]at hgr ⊢;exact⟨_,_,hr,hgr.1,.inr ⟨rfl,hgr.2⟩⟩
 ·by_cases hroom:n+m≤cap
  ·have hfit:n*i.size+news.length≤cur.size:=by rw[hl,hcs,←Nat.add_mul];exact Nat.mul_le_mul_right _ hroom
   have hr:=run_append_room (P:=P) w t ty e i ht hi g n cap cur hg a m c news hl hnews h1 hroom hfit;refine⟨_,_,hr,⟨hlen,.inr ⟨g,cap,_,rfl,hbg,setRow_heap w g cur _ e _ hg,hroom,hcm,?_,?_⟩⟩,.inl ⟨g,rfl,rfl,⟨Nat.le_refl _,rfl,rfl,rfl,by simp,λk _ hk=>setRow_other w g k _ (λe=>hk (by simp[e]))⟩⟩⟩
   ·simp only[List.size_toArray,List.length_append,List.length_take,List.length_drop,Array.length_toList];omega
   ·rw[htake,←hlen];exact List.take_left
  ·have holds:∀j u,xs[j]?=some u→w.cell? ((⟨g,0,none⟩:Addr).add j)=some u:=hown.cells (g:=g) rfl;have hr:=run_append_grow (P:=P) w t ty e i z ht hi hz ⟨g,0,none⟩ n cap xs hown.1 holds a m c news hl hnews (by omega) (by omega) (growslice_fits (by omega) hbytes);have hgr:=grown cap (by omega);exact⟨_,_,hr,hgr.1,.inr ⟨rfl,hgr.2⟩⟩

theorem zof{t ty e:TypeId}{i:TypeInfo}{z:Value}(ht:P.underlying t=some (.slice e))(hi:P.info? e=some i)(hz:i.zero=some z)(hzs:z.cells.size=i.size){ad:Option Addr}{n:Nat}{xs:List Value}(hxl:xs.length=n*i.size)(hx:∀ b,ad=some b→∀ j u,xs[j]?=some u→w.cell? (b.add j)=some u)(hn:ad=none→n=0)(a:Addr)(m c:Nat)(news:List Value)(hl:news.length=m*i.size)(hnews:∀ j u,news[j]?=some u→w.cell? (a.add j)=some u)(hm:0<m)(h63:n+m≤maxLen)(hbytes:(n+m)*i.bytes≤140737488355328)(hbase:B≤w.heap.size):
  ∃v' w',(Builtin.append_ #[t,t] ty #[.slice ad n n,.slice (some a) m c]).run P w=.ok v' w'∧w'.ownsRow B e i.size v' (n+m) (xs++news)∧v'.ownBlock=some w.heap.size∧GrB w w' none:=by
 have hsmall:n+m≤9223372036854775807:=by simp only[maxLen]at h63;omega
 have hlen:(xs++news).length=(n+m)*i.size:=by rw[List.length_append,hxl,hl,Nat.add_mul]
 have grown:∀ (old:Nat),old<n+m →
   (w.drew.alloc (.cells (xs.toArray++news.toArray++Builtin.zeroCells z.cells (grownCap w (n+m) old e-(n+m))) e)).ownsRow B e i.size
    (.slice (some ⟨w.heap.size,0,none⟩) (n+m) (grownCap w (n+m) old e)) (n+m) (xs++news) ∧
   GrB w (w.drew.alloc (.cells (xs.toArray++news.toArray++Builtin.zeroCells z.cells (grownCap w (n+m) old e-(n+m))) e)) none:=by
  intro old ho;have hge:=grownCap_ge w (n+m) old e;have hcm:grownCap w (n+m) old e≤maxLen:=grownCap_le_maxLen w (n+m) old e h63;refine⟨⟨hlen,.inr ⟨w.heap.size,_,_,rfl,hbase,zes (w:=w.drew) _,hge,hcm,?_,?_⟩⟩,⟨zun w _,rfl,rfl,rfl,by simp,λk hk _=>zdh (w:=w.drew) hk⟩⟩
  ·simp only[Array.size_append,List.size_toArray,size_zeroCells,hzs,hxl,hl,←Nat.add_mul];congr 1;omega
  ·simp only[Array.toList_append,List.append_assoc];rw[←List.append_assoc,←hlen];exact List.take_left
 cases ad with
 |none=>obtain rfl:=hn rfl;have hx0:xs=[]:=List.eq_nil_of_length_eq_zero (by simpa using hxl);subst hx0;have hr:=run_append_nil (P:=P) w t ty e i z ht hi hz a m c news hl hnews hm (by omega) (by have hb:=hbytes;simp only[Nat.zero_add]at hb;omega);have hgr:=grown 0 (by omega);simp only[Nat.zero_add,List.nil_append,Array.empty_append]at hgr ⊢;exact⟨_,_,hr,hgr.1,rfl,hgr.2⟩
 |some b=>have hr:=run_append_grow (P:=P) w t ty e i z ht hi hz b n n xs hxl (hx b rfl) a m c news hl hnews (by omega) (by omega) (growslice_fits (by omega) hbytes);have hgr:=grown n (by omega);exact⟨_,_,hr,hgr.1,rfl,hgr.2⟩
theorem zvY{e:TypeId}{size n m id:Nat}{v v':Value}{w':World}{xs news:List Value}{es ys:List (List AV)}(hH:HRel B w G H)(hHid:H[id]?=some (.perm e size n))(hμ:G.μ[id]?=some (.own v size n))(hown:w.ownsRow B e size v n xs)(hown':w'.ownsRow B e size v' (n+m) (xs++news))(hcase:(∃ g,v.ownBlock=some g∧v'.ownBlock=some g∧GrB w w' (some g))∨(v'.ownBlock=some w.heap.size∧GrB w w' none))(hm:ys.length=m)(hm0:0<m)(hes:es.length=n)(hse:∀ c∈es,c.length=size)(hsy:∀ c∈ys,c.length=size)(hx:All2 (DRel w G.L) xs es.flatten)(hn:All2 (DRel w G.L) news ys.flatten):
  ∃G',Ext B w G w' G'∧HRel B w' G' (H.set id (.perm e size (n+m)))∧TRel w' G' v' (.sl (es++ys) (.own id)):=by
 obtain⟨_,_,⟨_,_⟩,hLown⟩:=hH.ok id _ _ hHid hμ;obtain⟨hl',hrow⟩:=hown';rcases hrow with ⟨hv,hz⟩|⟨g,cap,cur,hv,hBg,hg',hc1,hc2,hc3,hc4⟩
 ·omega
 subst hv;have hown':w'.ownsRow B e size (.slice (some ⟨g,0,none⟩) (n+m) cap) (n+m) (xs++news):=⟨hl',.inr ⟨g,cap,cur,rfl,hBg,hg',hc1,hc2,hc3,hc4⟩⟩;obtain⟨_,_,hglt,hcell'⟩:=zdJ hown';have hcase:(v.ownBlock=some g∧GrB w w' (some g))∨(g=w.heap.size∧GrB w w' none):=by
  rcases hcase with ⟨g0,h1,h2,h3⟩|⟨h1,h2⟩
  ·simp[Value.ownBlock]at h2;subst h2;exact .inl ⟨h1,h3⟩
  ·simp[Value.ownBlock]at h1;exact .inr ⟨h1,h2⟩
 have hB:∀b,v.ownBlock=some b→B≤b:=λb hb=>by
  rcases hown.2 with ⟨rfl,_⟩|⟨g0,cap0,cur0,rfl,hB0,_⟩
  ·simp[Value.ownBlock]at hb
  ·simp[Value.ownBlock]at hb;omega
 have hLg:G.L g≤(n+m)*size:=by
  rcases hcase with ⟨h,_⟩|⟨h,_⟩
  ·rw[hLown g h];exact Nat.mul_le_mul_right _ (by omega)
  ·rw[hH.fresh g (by omega)];exact Nat.zero_le _
 -- all other blocks are asx they were
 have hsame:∀b,b<w.heap.size→b≠g→w'.heap[b]?=w.heap[b]?:=by
  intro b hb hne;rcases hcase with ⟨_,h⟩|⟨_,h⟩
  ·exact h.block b hb (by simp[hne])
  ·exact h.block b hb (by simp)
 have hsize:w.heap.size≤w'.heap.size:=by rcases hcase with ⟨_,h⟩|⟨_,h⟩ <;> exact h.size
 have hoth:∀(id':Nat) gi b,id'≠id→G.μ[id']?=some gi→gi.block=some b→b≠g:=by
  intro id' gi b hne h1 h2 hbg;subst hbg;rcases hcase with ⟨h,_⟩|⟨h,_⟩
  ·exact hne (hH.dist id' id gi _ b h1 hμ h2 (by simpa[GI.block]using h))
  ·have:=hH.lt id' gi b h1 h2;omega
 have hidlt:id<G.μ.length:=(List.getElem?_eq_some_iff.1 hμ).1;have he:Ext B w G w' ⟨λb=>if b=g then (n+m)*size else G.L b,G.μ.set id (.own (.slice (some ⟨g,0,none⟩) (n+m) cap) size (n+m))⟩:=by
  refine⟨DR.set (by rcases hcase with ⟨_,h⟩|⟨_,h⟩ <;> exact h.dr) rfl (by simp),?_,?_,?_,?_⟩
  ·have hb:∀k,k<B→w'.heap[k]?=w.heap[k]?:=λk hk=>hsame k (Nat.lt_of_lt_of_le hk hH.base) (by
    intro hkg;subst hkg;rcases hcase with ⟨h,_⟩|⟨h,_⟩
    ·have:=hB k h;omega
    ·have:=hH.base;omega)
   rcases hcase with ⟨_,h⟩|⟨_,h⟩ <;> exact⟨h.os,h.tape,h.output,h.size,hb⟩
  ·intro b;by_cases hb:b=g
   ·subst hb;simpa using hLg
   ·simp[hb]
  ·intro b off hoff;by_cases hbg:b=g
   ·subst hbg;rcases hcase with ⟨h,_⟩ | ⟨h,_⟩
    ·rcases hown.2 with ⟨rfl,_⟩ | ⟨g0,cap0,cur0,rfl,hB0,hw0,_⟩
     ·simp[Value.ownBlock]at h
     ·simp[Value.ownBlock]at h;subst h;rw[hLown _ rfl]at hoff;obtain⟨hxl,_,_,hc0⟩:=zdJ hown;rw[hc0 off hoff,hcell' off (Nat.lt_of_lt_of_le hoff (Nat.mul_le_mul_right _ (by omega))),List.getElem?_append_left (by omega)]
    ·rw[hH.fresh b (by omega)]at hoff;omega
   ·exact zgq (hsame b (zhg hH hoff) hbg)
  ·intro id' gi h1;by_cases hid:id'=id
   ·subst hid;rw[hμ]at h1;cases h1;exact⟨_,List.getElem?_set_self hidlt,rfl,.inr (by omega)⟩
   ·exact⟨gi,by simp only[];rw[List.getElem?_set_ne (λh=>hid h.symm)];exact h1,gi.le_refl⟩
 have hsplit:∀ (id':Nat) gi,(G.μ.set id (.own (.slice (some ⟨g,0,none⟩) (n+m) cap) size (n+m)))[id']?=some gi →
   (id'=id∧gi=.own (.slice (some ⟨g,0,none⟩) (n+m) cap) size (n+m))∨(id'≠id∧G.μ[id']?=some gi):=by
  intro id' gi h;by_cases hid:id'=id
  ·subst hid;rw[List.getElem?_set_self hidlt]at h;cases h;exact .inl ⟨rfl,rfl⟩
  ·rw[List.getElem?_set_ne (λh=>hid h.symm)]at h;exact .inr ⟨hid,h⟩
 refine⟨_,he,⟨by simp[hH.len],?_,?_,?_,?_,Nat.le_trans hH.base hsize⟩,⟨?_,_,size,n+m,List.getElem?_set_self hidlt,by simp;omega,λ_=>⟨rfl,λc hc=>?_⟩⟩⟩
 ·intro id' ab gi h1 h2;rcases hsplit id' gi h2 with ⟨rfl,rfl⟩ | ⟨hid,h2⟩
  ·have hlt:id'<H.length:=by rw[←hH.len];exact hidlt
   rw[List.getElem?_set_self hlt]at h1;cases h1;refine⟨rfl,rfl,⟨_,hown'⟩,λb hb=>?_⟩;simp[Value.ownBlock]at hb;subst hb;simp
  ·rw[List.getElem?_set_ne (λh=>hid h.symm)]at h1;refine(hH.ok id' ab gi h1 h2).keep he (λb hb=>?_);have hne:=hoth id' gi b hid h2 hb;exact⟨hsame b (hH.lt id' gi b h2 hb) hne,by simp[hne]⟩
 ·intro i1 i2 gi1 gi2 b h1 h2 h3 h4;rcases hsplit i1 gi1 h1 with ⟨e1,e2⟩ | ⟨hn1,k1⟩ <;> rcases hsplit i2 gi2 h2 with ⟨e3,e4⟩ | ⟨hn2,k2⟩
  ·rw[e1,e3]
  ·rw[e2]at h3;simp[GI.block,Value.ownBlock]at h3;exact absurd h3.symm (hoth i2 gi2 b hn2 k2 h4)
  ·rw[e4]at h4;simp[GI.block,Value.ownBlock]at h4;exact absurd h4.symm (hoth i1 gi1 b hn1 k1 h3)
  ·exact hH.dist i1 i2 gi1 gi2 b k1 k2 h3 h4
 ·intro b hb;have hne:b≠g:=by intro h;subst h;omega
  simp[hne,hH.fresh b (by omega)]
 ·intro i1 gi b h1 h2;rcases hsplit i1 gi h1 with ⟨rfl,rfl⟩ | ⟨hn1,h1⟩
  ·simp[GI.block,Value.ownBlock]at h2;omega
  ·have:=hH.lt i1 gi b h1 h2;omega
 ·have hne:es++ys≠[]:=by intro h;have:=congrArg List.length h;rw[List.length_append,List.length_nil]at this;omega
  have hall:∀c∈es++ys,c.length=size:=λc hc=>(List.mem_append.1 hc).elim (hse c) (hsy c);have hlen:(es++ys).length=n+m:=by simp;omega
  have hfl:=DRel.of_flat (w:=w') (L:=λb=>if b=g then (n+m)*size else G.L b) (g:=g) (cap:=cap) (zs:=xs++news) hall hne (by omega) (by simp[hes,hm])
   (by rw[List.flatten_append];exact(hx.append hn).mono λ_ _=>he.drel)
   (λj u hj=>by
    have hj':j<(n+m)*size:=by rw[←hl'];exact(List.getElem?_eq_some_iff.1 hj).1
    rw[hcell' j hj'];exact hj)
  rw[hlen]at hfl;exact hfl
 ·rcases List.mem_append.1 hc with h | h
  ·exact hse c h
  ·exact hsy c h

theorem zgX{e:TypeId}{size n m id:Nat}{v v':Value}{w':World}{xs news:List Value}{cs ds:List AV}(hH:HRel B w G H)(hHid:H[id]?=some (.vec e size n cs))(hμ:G.μ[id]?=some (.own v size n))(hown:w.ownsRow B e size v n xs)(hown':w'.ownsRow B e size v' (n+m) (xs++news))(hcase:(∃ g,v.ownBlock=some g∧v'.ownBlock=some g∧GrB w w' (some g))∨(v'.ownBlock=some w.heap.size∧GrB w w' none))(hm0:0<m)(hx:All2 (ARel w G) xs cs)(hn:All2 (ARel w G) news ds):
  ∃G',Ext B w G w' G'∧HRel B w' G' (H.set id (.vec e size (n+m) (cs++ds)))∧TRel w' G' v' (.ov id (n+m)):=by
 obtain⟨_,_,⟨_,_,_⟩,hLown⟩:=hH.ok id _ _ hHid hμ;obtain⟨hl',hrow⟩:=hown';rcases hrow with ⟨hv,hz⟩|⟨g,cap,cur,hv,hBg,hg',hc1,hc2,hc3,hc4⟩
 ·omega
 subst hv;have hown':w'.ownsRow B e size (.slice (some ⟨g,0,none⟩) (n+m) cap) (n+m) (xs++news):=⟨hl',.inr ⟨g,cap,cur,rfl,hBg,hg',hc1,hc2,hc3,hc4⟩⟩;obtain⟨_,_,hglt,hcell'⟩:=zdJ hown';have hcase:(v.ownBlock=some g∧GrB w w' (some g))∨(g=w.heap.size∧GrB w w' none):=by
  rcases hcase with ⟨g0,h1,h2,h3⟩|⟨h1,h2⟩
  ·simp[Value.ownBlock]at h2;subst h2;exact .inl ⟨h1,h3⟩
  ·simp[Value.ownBlock]at h1;exact .inr ⟨h1,h2⟩
 have hB:∀b,v.ownBlock=some b→B≤b:=λb hb=>by
  rcases hown.2 with ⟨rfl,_⟩|⟨g0,cap0,cur0,rfl,hB0,_⟩
  ·simp[Value.ownBlock]at hb
  ·simp[Value.ownBlock]at hb;omega
 have hLg:G.L g=0:=by
  rcases hcase with ⟨h,_⟩|⟨h,_⟩
  ·exact hLown g h
  ·exact hH.fresh g (by omega)
 have hsame:∀b,b<w.heap.size→b≠g→w'.heap[b]?=w.heap[b]?:=by
  intro b hb hne;rcases hcase with ⟨_,h⟩|⟨_,h⟩
  ·exact h.block b hb (by simp[hne])
  ·exact h.block b hb (by simp)
 have hsize:w.heap.size≤w'.heap.size:=by rcases hcase with ⟨_,h⟩|⟨_,h⟩ <;> exact h.size
 have hoth:∀(id':Nat) gi b,id'≠id→G.μ[id']?=some gi→gi.block=some b→b≠g:=by
  intro id' gi b hne h1 h2 hbg;subst hbg;rcases hcase with ⟨h,_⟩|⟨h,_⟩
  ·exact hne (hH.dist id' id gi _ b h1 hμ h2 (by simpa[GI.block]using h))
  ·have:=hH.lt id' gi b h1 h2;omega
 have hidlt:id<G.μ.length:=(List.getElem?_eq_some_iff.1 hμ).1;have he:Ext B w G w' ⟨G.L,G.μ.set id (.own (.slice (some ⟨g,0,none⟩) (n+m) cap) size (n+m))⟩:=by
  refine⟨DR.set (by rcases hcase with ⟨_,h⟩|⟨_,h⟩ <;> exact h.dr) rfl (by simp),?_,λ_=>Nat.le_refl _,?_,?_⟩
  ·have hb:∀k,k<B→w'.heap[k]?=w.heap[k]?:=λk hk=>hsame k (Nat.lt_of_lt_of_le hk hH.base) (by
    intro hkg;subst hkg;rcases hcase with ⟨h,_⟩|⟨h,_⟩
    ·have:=hB k h;omega
    ·have:=hH.base;omega)
   rcases hcase with ⟨_,h⟩|⟨_,h⟩ <;> exact⟨h.os,h.tape,h.output,h.size,hb⟩
  ·intro b off hoff;by_cases hbg:b=g
   ·subst hbg;omega
   ·exact zgq (hsame b (zhg hH hoff) hbg)
  ·intro id' gi h1;by_cases hid:id'=id
   ·subst hid;rw[hμ]at h1;cases h1;exact⟨_,List.getElem?_set_self hidlt,rfl,.inr (by omega)⟩
   ·exact⟨gi,by simp only[];rw[List.getElem?_set_ne (λh=>hid h.symm)];exact h1,gi.le_refl⟩
 have hsplit:∀ (id':Nat) gi,(G.μ.set id (.own (.slice (some ⟨g,0,none⟩) (n+m) cap) size (n+m)))[id']?=some gi →
   (id'=id∧gi=.own (.slice (some ⟨g,0,none⟩) (n+m) cap) size (n+m))∨(id'≠id∧G.μ[id']?=some gi):=by
  intro id' gi h;by_cases hid:id'=id
  ·subst hid;rw[List.getElem?_set_self hidlt]at h;cases h;exact .inl ⟨rfl,rfl⟩
  ·rw[List.getElem?_set_ne (λh=>hid h.symm)]at h;exact .inr ⟨hid,h⟩
 refine⟨_,he,⟨by simp[hH.len],?_,?_,?_,?_,Nat.le_trans hH.base hsize⟩,⟨⟨_,_,rfl,λ_=>⟨g,rfl⟩,hc1⟩,_,size,n+m,List.getElem?_set_self hidlt,Nat.le_refl _,λ_=>rfl⟩⟩
 ·intro id' ab gi h1 h2;rcases hsplit id' gi h2 with ⟨rfl,rfl⟩ | ⟨hid,h2⟩
  ·have hlt:id'<H.length:=by rw[←hH.len];exact hidlt
   rw[List.getElem?_set_self hlt]at h1;cases h1;refine⟨rfl,rfl,⟨_,hown',(hx.mono λ_ _=>he.arel).append (hn.mono λ_ _=>he.arel)⟩,λb hb=>?_⟩;simp[Value.ownBlock]at hb;subst hb;exact hLg
  ·rw[List.getElem?_set_ne (λh=>hid h.symm)]at h1;refine(hH.ok id' ab gi h1 h2).keep he (λb hb=>?_);have hne:=hoth id' gi b hid h2 hb;exact⟨hsame b (hH.lt id' gi b h2 hb) hne,rfl⟩
 ·intro i1 i2 gi1 gi2 b h1 h2 h3 h4;rcases hsplit i1 gi1 h1 with ⟨e1,e2⟩ | ⟨hn1,k1⟩ <;> rcases hsplit i2 gi2 h2 with ⟨e3,e4⟩ | ⟨hn2,k2⟩
  ·rw[e1,e3]
  ·rw[e2]at h3;simp[GI.block,Value.ownBlock]at h3;exact absurd h3.symm (hoth i2 gi2 b hn2 k2 h4)
  ·rw[e4]at h4;simp[GI.block,Value.ownBlock]at h4;exact absurd h4.symm (hoth i1 gi1 b hn1 k1 h3)
  ·exact hH.dist i1 i2 gi1 gi2 b k1 k2 h3 h4
 ·intro b hb;exact hH.fresh b (by omega)
 ·intro i1 gi b h1 h2;rcases hsplit i1 gi h1 with ⟨rfl,rfl⟩ | ⟨hn1,h1⟩
  ·simp[GI.block,Value.ownBlock]at h2;omega
  ·have:=hH.lt i1 gi b h1 h2;omega

end Go.Abs
namespace Go.Abs
open Go Go.RowKit

variable {P:Program} {B:Nat} {w:World} {G:Gh} {H:zaa}

theorem zxf{t e:TypeId}(h:zeH P t=some e):∃k i,P.underlying t=some (.map k e)∧P.underlying k=some (.array 2 i)∧P.underlying i=some (.int .i64)∧zaP P i=some 1:=by
 unfold zeH at h;cases hu:P.underlying t with
 |none=>simp[hu]at h
 |some d=>
  simp only[hu,Option.bind_some]at h;cases d <;> simp only[]at h <;> try (cases h;done)
  rename_i k e';split at h
  ·rename_i i hk;split at h
   ·rename_i hi hs;cases h;exact⟨k,i,rfl,hk,hi,hs⟩
   ·cases h
  ·cases h
section
variable {k i:TypeId} (hk:P.underlying k=some (.array 2 i)) (hi:P.underlying i=some (.int .i64)) (hs:zaP P i=some 1)
include hi in
theorem zgP(w:World)(p:Int×Int)(j:Nat)(hj:j<2):(part i #[.int .i64 p.1,.int .i64 p.2] j).run P w=.ok (.int .i64 (if j=0 then p.1 else p.2)) w:=by
 have hp:P.plainKey i=true:=by unfold Program.plainKey;rw[hi]
 refine run_part_plain w hp ?_
 match j,hj with
 |0,_=>rfl
 |1,_=>rfl
include hk hi hs in
theorem zE5(w:World)(p q:Int×Int):(Op.equal k (zbU p) (zbU q)).run P w=.ok (p == q) w:=by
 obtain⟨ti,hti⟩:∃ti,P.info? i=some ti:=by
  unfold zaP at hs;cases h:P.info? i with
  |none=>simp[h]at hs
  |some ti=>exact⟨ti,rfl⟩
 have hc:P.cellsOf i=1:=by unfold zaP at hs;rw[hti]at hs;simp[Program.cellsOf,hti]at hs ⊢;exact hs
 have hcell:∀(a b:Int) (d:Nat),(Op.equalIn (d+1) i (.int .i64 a) (.int .i64 b)).run P w=.ok (a == b) w:=λa b d=>by simp[Op.equalIn,run_underlying hi]
 unfold Op.equal Op.maxDepth zbU;rw[run_equalIn_array w 9999 _ _ hk hti,hc];have p0:=zgP hi w p 0 (by omega);have q0:=zgP hi w q 0 (by omega);have p1:=zgP hi w p 1 (by omega);have q1:=zgP hi w q 1 (by omega);obtain⟨a,b⟩:=p;obtain⟨c,d⟩:=q;have e:((a,b) == (c,d))=(a == c && b == d):=rfl;rw[e];simp only[if_true,Nat.one_ne_zero,if_false]at p0 q0 p1 q1;simp only[List.range,List.range.loop,Op.eqItems,Sem.run_bind,Nat.mul_one,p0,q0,Result.andThen_ok,hcell];cases h1:a == c
 ·simp
 ·simp[p1,q1,hcell];by_cases hbd:b=d
  ·simp[hbd]
  ·have:(b == d)=false:=by simpa using hbd
   simp[hbd,this]
include hk hi hs in
theorem zn9(w:World){s:Int × Int}{x:AV}:∀ {es:List MapEntry} {kvs:List ((Int × Int) × AV)} (j:Nat),All2 (ERelP w G) es kvs →
  (zb9 kvs s=none∧(Instr.findAsking k (zbU s) es j).run P w=.ok none w∧zcG kvs s x=kvs++[(s,x)]) ∨
  (∃n e v,zb9 kvs s=some v∧(Instr.findAsking k (zbU s) es j).run P w=.ok (some (j+n,e.val)) w∧es[n]?=some e∧VRel w G e.val v∧e.key=zbU s∧zcG kvs s x=kvs.set n (s,x))
 |[],[],j,_=>.inl ⟨rfl,by simp[Instr.findAsking],rfl⟩
 |e::es,p::kvs,j,h=>by
  obtain⟨⟨hke,hv⟩,ht⟩:=h;have heq:=zE5 hk hi hs w s p.1;have hsym:(p.1 == s)=(s == p.1):=by rw[Bool.eq_iff_iff,beq_iff_eq,beq_iff_eq];exact⟨Eq.symm,Eq.symm⟩
  cases hb:(s == p.1) with
  |true=>
   right;rw[hb]at heq hsym;have hps:s=p.1:=by simpa using hb
   exact⟨0,e,p.2,by simp only[zb9,hsym],by simp[Instr.findAsking,hke,heq],rfl,hv,by rw[hke,hps],by simp only[zcG,hsym,List.set_cons_zero]⟩
  |false=>
   rw[hb]at heq hsym;rcases zn9 w (s:=s) (x:=x) (j+1) ht with ⟨h1,h2,h3⟩|⟨n,e',v,h1,h2,h3,h4,h5,h6⟩
   ·exact .inl ⟨by simp only[zb9,hsym,h1],by simp[Instr.findAsking,hke,heq,h2],by simp only[zcG,hsym,h3,List.cons_append]⟩
   ·refine .inr ⟨n+1,e',v,by simp only[zb9,hsym,h1],?_,by simpa using h3,h4,h5,by simp only[zcG,hsym,h6,List.set_cons_succ]⟩;simp[Instr.findAsking,hke,heq,h2];omega
 |[],_::_,_,h=>h.elim
 |_::_,[],_,h=>h.elim
theorem zE0(hi:P.underlying i=some (.int .i64))(w:World)(em:Bool)(n:Nat)(a:Int):(Instr.checkKey em (n+1) i (.int .i64 a)).run P w=.ok () w:=by simp[Instr.checkKey,run_underlying hi]
include hk hi hs in
theorem zE1(w:World)(em:Bool)(s:Int×Int)(n:Nat):(Instr.checkKey em (n+2) k (zbU s)).run P w=.ok () w:=by have hsz:(sizeOf i).run P w=.ok 1 w:=zbx hs;have h0:=zgP hi w s 0 (by omega);have h1:=zgP hi w s 1 (by omega);unfold zbU;rw[Instr.checkKey];simp only[Sem.run_bind,run_underlying hk,Result.andThen_ok];simp only[Std.Legacy.Range.forIn_eq_forIn_range',Std.Legacy.Range.size,Nat.sub_zero,Nat.add_one_sub_one,Nat.div_one];simp only[List.range',List.forIn_cons,List.forIn_nil,Sem.run_bind,hsz,Result.andThen_ok,Nat.zero_mul,Nat.zero_add,Nat.one_mul,h0,h1,zE0 hi,Sem.run_pure,if_true,Nat.one_ne_zero,if_false]
include hk hi hs in
theorem zwo(w:World)(em:Bool)(s:Int×Int):(Instr.checkKey em 10000 k (zbU s)).run P w=.ok () w:=zE1 hk hi hs w em s 9998
end
theorem zFT{t:TypeId}{K:AV→zaa→Prop}(hH:HRel B w G H)(h:zeq H K):OpOK P B w G K (((do pure (.value (←Instr.makeMap t none))):Sem Next).run P w):=by
 obtain⟨he,hH'⟩:=hH.newMapP;have hrun:((do pure (.value (←Instr.makeMap t none))):Sem Next).run P w=.ok (.value (.map (some w.heap.size))) (w.alloc (.map #[] 0)):=by simp[Instr.makeMap,newObj,Sem.run,World.alloc_eq]
 rw[hrun];refine⟨.map H.length,_,_,he,hH',⟨w.heap.size,?_,rfl⟩,h⟩;rw[←hH.len];simp
theorem zkA{kt i:TypeId}(hk:P.underlying kt=some (.array 2 i))(w:World)(x:Value)(es:List MapEntry):(Instr.findKey kt x es).run P w=(Instr.findAsking kt x es).run P w:=run_findKey_eq w (by rw[hk]) x es
theorem ztF{v:Value}{a b:Int}(h:TRel w G v (.agg [.int .i64 a,.int .i64 b])):v=zbU (a,b):=by
 obtain⟨cs,rfl,hr⟩:=h;obtain⟨l⟩:=cs
 match l,hr with
 |[x,y],hr=>obtain⟨h1,h2,_⟩:=hr;cases h1;cases h2;rfl
theorem zFP{t e:TypeId}{z vm vk:Value}{m k:AV}{ok:Bool}{K:AV→Prop}(hH:HRel B w G H)(ht:zeH P t=some e)(hz:zbn P e=some z)(hm:TRel w G vm m)(hk:TRel w G vk k)(h:zeo (zcY z) ok m k H K):∃u,(Instr.lookup t vm vk ok).run P w=.ok u w∧∃av,TRel w G u av∧K av:=by
 obtain⟨kt,it,hu,huk,hui,hus⟩:=zxf ht;unfold zeo at h;split at h
 ·rename_i id a b;split at h
  ·rename_i kvs hkvs;obtain⟨bl,hμ,rfl⟩:=hm;have hvk:=ztF hk;subst hvk;obtain⟨_,_,es,clk,hw,hes⟩:=hH.ok id _ _ hkvs hμ;have hck:=λem=>zwo huk hui hus w em (a,b);rcases zn9 huk hui hus w (s:=(a,b)) (x:=.unk) 0 hes with ⟨h1,h2,_⟩ | ⟨j,e',v,h1,h2,h3,h4,h5,_⟩
   ·rw[h1]at h;have hzv:VRel w G z (zcY z):=zwe z;rw[←zkA huk]at h2;cases ok with
    |false=>refine⟨z,?_,_,zpE z,h⟩;simp[Instr.lookup,zaS hu,MapKept.run_getObj_map hw,hck,h2,zea hz]
    |true=>refine⟨.tuple #[z,.bool false],?_,.tup [zcY z,.bool false],⟨_,rfl,hzv,rfl,trivial⟩,h⟩;simp[Instr.lookup,zaS hu,MapKept.run_getObj_map hw,hck,h2,zea hz]
   ·rw[h1]at h;rw[←zkA huk]at h2;cases ok with
    |false=>refine⟨e'.val,?_,_,TRel.of_v h4,h⟩;simp[Instr.lookup,zaS hu,MapKept.run_getObj_map hw,hck,h2]
    |true=>refine⟨.tuple #[e'.val,.bool true],?_,.tup [v,.bool true],⟨_,rfl,h4,rfl,trivial⟩,h⟩;simp[Instr.lookup,zaS hu,MapKept.run_getObj_map hw,hck,h2]
  ·exact h.elim
 ·exact h.elim
theorem zE6(w:World)(s:Int×Int):(Instr.keyThatStays (zbU s) (zbU s)).run P w=.ok (zbU s) w:=by simp[Instr.keyThatStays,Instr.sameBits,zbU]
theorem zwH{t e:TypeId}{vm vk vx:Value}{m k x:AV}{K:zaa→Prop}(hH:HRel B w G H)(ht:zeH P t=some e)(hm:TRel w G vm m)(hk:TRel w G vk k)(hx:TRel w G vx x)(h:zdg m k x H K):∃w' H',(Instr.mapUpdate t vm vk vx).run P w=.ok () w'∧Ext B w G w' G∧HRel B w' G H'∧K H':=by
 obtain⟨kt,it,hu,huk,hui,hus⟩:=zxf ht;unfold zdg at h;split at h
 ·rename_i id a b;split at h
  ·rename_i kvs hkvs;obtain⟨bl,hμ,rfl⟩:=hm;have hvk:=ztF hk;subst hvk;obtain⟨_,_,es,clk,hw,hes⟩:=hH.ok id _ _ hkvs hμ;have hck:=λem=>zwo huk hui hus w em (a,b);split at h
   ·exact h.elim
   ·rename_i hnt;have hv:VRel w G vx x:=by cases x <;> first | exact hx | exact (hnt _ rfl).elim
    rcases zn9 huk hui hus w (s:=(a,b)) (x:=x) 0 hes with ⟨h1,h2,h6⟩|⟨j,e',v,h1,h2,h3,h4,h5,h6⟩
    ·rw[h6]at h;rw[←zkA huk]at h2;obtain⟨he,hH'⟩:=hH.storeMapP (es':=es.push ⟨zbU (a,b),vx,clk⟩) (clk':=clk+1) hkvs hμ hw (kvs':=kvs++[((a,b),x)]) (by
      rw[Array.toList_push];exact hes.append ⟨⟨rfl,hv⟩,trivial⟩)
     refine⟨_,_,?_,he,hH',h⟩;simp[Instr.mapUpdate,zaS hu,MapKept.run_getObj_map hw,hck,h2,MapKept.run_setObj_map _ hw]
    ·rw[h6]at h;rw[←zkA huk]at h2;have hj:es[j]?=some e':=by simpa using h3
     have hjl:j<es.size:=(Array.getElem?_eq_some_iff.1 hj).1;obtain⟨he,hH'⟩:=hH.storeMapP (es':=es.modify j λe=>{ e with key:=zbU (a,b),val:=vx }) (clk':=clk) hkvs hμ hw (kvs':=kvs.set j ((a,b),x)) (by
      have e1:(es.modify j λe=>{ e with key:=zbU (a,b),val:=vx }).toList=es.toList.set j { e' with key:=zbU (a,b),val:=vx }:=by rw[Array.toList_modify,List.modify_eq_set];simp[hj]
      rw[e1];exact hes.set j ⟨rfl,hv⟩)
     refine⟨_,_,?_,he,hH',h⟩;have hks:(Instr.keyThatStays (((es[j]?).map (·.key)).getD (zbU (a,b))) (zbU (a,b))).run P w=.ok (zbU (a,b)) w:=by rw[hj];simp only[Option.map_some,Option.getD_some,h5];exact zE6 w _
     simp only[Nat.zero_add]at h2;simp[Instr.mapUpdate,zaS hu,MapKept.run_getObj_map hw,hck,h2,hks,MapKept.run_setObj_map _ hw]
  ·exact h.elim
 ·exact h.elim
end Go.Abs

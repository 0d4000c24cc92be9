/- The document's own system in memory: every block has one owner. The document's system beside the pro -/
import Derived.Test.YtoiajjobecinpaaGreatTM29
import Derived.Test.YtoiajjobecinpaaGreatTM30
set_option maxHeartbeats 4000000
set_option maxRecDepth 100000
namespace Go.Proofs.YtoiajjobecinpaaGreat
open Go.RowKit Go.Shelf Go.Lib Go.Proofs
set_option linter.unusedVariables false
set_option linter.unusedSimpArgs false
inductive ROwn
 | rsys
 | crow
 | trow
 | rnames
 | turns
 | outs
 | rgroups
 | srow
 | qu (i:Nat)
 | qrow (i:Nat)
deriving DecidableEq
structure RSy where
 cores:List (Int×Ln)
 ts:List Tk
 gs:List (Bool×Int)
 acc:List xS
 ps:List (Int×Bool)
structure RBk where
 crv:Value
 trv:Value
 srv:Value
 nb:Nat
 tb:Nat
 ob:Nat
 gb:Nat
 qbs:List Nat
 qv:Nat->Value
def vg (l:List (Int×Int)):List Value:=l.flatMap fun x=>[I x.1,I x.2]
theorem XY (l:List (Int×Int)):(vg l).length=l.length*2:=by
 induction l with
 | nil=>rfl
 | cons a b ih=>simp only[vg,List.flatMap_cons,List.length_append] at ih⊢;rw[ih];simp;omega
instance:Inhabited (Int×Ln):=⟨(0,default)⟩
def ZL (sv:List (Int×Int)):Prop:=(sv.map (·.1)).Nodup/\∀x∈sv,0<=x.1/\x.1<=100000000
structure RAt (W:World) (rb:Nat) (B:RBk) (own:Nat->Option ROwn) (r:RSy):Prop where
 c0:W.cell? ⟨rb,0,none⟩=some B.crv
 c1:W.cell? ⟨rb,1,none⟩=some B.trv
 c2:W.cell? ⟨rb,2,none⟩=some (.pointer (some ⟨B.nb,0,none⟩))
 c3:W.cell? ⟨rb,3,none⟩=some (.pointer (some ⟨B.gb,0,none⟩))
 acc:∀i,i<16->W.cell? ⟨rb,4+i*4,none⟩=some (I (r.acc.getD i default).1)/\W.cell? ⟨rb,4+i*4+1,none⟩=some (I (r.acc.getD i default).2.1) /\
  W.cell? ⟨rb,4+i*4+2,none⟩=some (I (r.acc.getD i default).2.2.1)/\W.cell? ⟨rb,4+i*4+3,none⟩=some (I (r.acc.getD i default).2.2.2)
 c68:W.cell? ⟨rb,68,none⟩=some B.srv
 live:∀i,W.frozen? ⟨rb,i,none⟩=false
 crow:W.ownsRow 0 71 1 B.crv B.qbs.length (ql B.qbs)
 trow:W.ownsRow 0 62 7 B.trv r.ts.length (zu r.ts)
 srow:∃sv:List (Int×Int),ZL sv/\W.ownsRow 0 156 2 B.srv sv.length (vg sv)
 names:NaAt W B.nb B.tb B.ob r.ps
 groups:GrAt W B.gb r.gs
 nq:B.qbs.length=r.cores.length
 q:∀i,i<r.cores.length->QuAt W B.qbs[i]! (B.qv i) r.cores[i]!.1 r.cores[i]!.2
 osys:own rb=some .rsys
 ocrow:∀k,B.crv.ownBlock=some k->own k=some .crow
 otrow:∀k,B.trv.ownBlock=some k->own k=some .trow
 osrow:∀k,B.srv.ownBlock=some k->own k=some .srow
 onb:own B.nb=some .rnames
 otb:own B.tb=some .turns
 oob:own B.ob=some .outs
 ogb:own B.gb=some .rgroups
 oq:∀i,i<r.cores.length->own B.qbs[i]! = some (.qu i)
 oqr:∀i,i<r.cores.length->∀k,(B.qv i).ownBlock=some k->own k=some (.qrow i)
 lt:∀k,own k≠none->k<W.heap.size
section
variable {W W':World} {rb:Nat} {B:RBk} {own:Nat->Option ROwn} {r:RSy}
structure Kept (X:ROwn->Prop) (own:Nat->Option ROwn) (W W':World):Prop where
 size:W.heap.size<=W'.heap.size
 block:∀k x,own k=some x->¬X x->W'.heap[k]? = W.heap[k]?
theorem RAt.same (h:RAt W rb B own r) (hs:W.heap.size<=W'.heap.size) (hk:∀k,own k≠none->W'.heap[k]? = W.heap[k]?):RAt W' rb B own r:=by
 have hb:∀k x,own k=some x->W'.heap[k]? = W.heap[k]?:=fun k x hx=>hk k (by rw[hx];simp);have h0:∀i,W'.cell? ⟨rb,i,none⟩=W.cell? ⟨rb,i,none⟩:=fun i=>World.cell?_of_block (hb _ _ h.osys);have h1:∀i,W'.frozen? ⟨rb,i,none⟩=W.frozen? ⟨rb,i,none⟩:=fun i=>World.frozen?_of_block (hb _ _ h.osys);refine⟨(h0 _).trans h.c0,(h0 _).trans h.c1,(h0 _).trans h.c2,(h0 _).trans h.c3,fun i hi=>?_,(h0 _).trans h.c68,fun i=>(h1 i).trans (h.live i),zb h.crow (fun k hk=>hb k _ (h.ocrow k hk)),
  zb h.trow (fun k hk=>hb k _ (h.otrow k hk)),?_,h.names.same (hb _ _ h.onb) (hb _ _ h.otb) (hb _ _ h.oob),h.groups.same (hb _ _ h.ogb),h.nq,fun i hi=>(h.q i hi).same (hb _ _ (h.oq i hi)) (fun k hk=>hb k _ (h.oqr i hi k hk)),
  h.osys,h.ocrow,h.otrow,h.osrow,h.onb,h.otb,h.oob,h.ogb,h.oq,h.oqr,fun k hk=>Nat.lt_of_lt_of_le (h.lt k hk) hs⟩
 · obtain⟨a,b,c,d⟩:=h.acc i hi;exact⟨(h0 _).trans a,(h0 _).trans b,(h0 _).trans c,(h0 _).trans d⟩
 · obtain⟨sv,lQ,nQ⟩:=h.srow;exact⟨sv,lQ,zb nQ (fun k hk=>hb k _ (h.osrow k hk))⟩
theorem RAt.below (h:RAt W rb B own r) (hb:Below W.heap.size W W'):RAt W' rb B own r:=h.same hb.size (fun k hk=>hb.block k (h.lt k hk))
theorem RAt.setQ (h:RAt W rb B own r) {i:Nat} (hi:i<r.cores.length) {v':Value} {tag':Int} {l':Ln} (hQ:QuAt W' B.qbs[i]! v' tag' l') (ht:Touch (fun j=>j=B.qbs[i]!\/(B.qv i).ownBlock=some j) W W')
 (hv:∀j,v'.ownBlock=some j->(B.qv i).ownBlock=some j\/W.heap.size<=j) :
 RAt W' rb ⟨B.crv,B.trv,B.srv,B.nb,B.tb,B.ob,B.gb,B.qbs,fun x=>if x=i then v' else B.qv x⟩ (fun k=>if v'.ownBlock=some k then some (.qrow i) else own k) ⟨r.cores.set i (tag',l'),r.ts,r.gs,r.acc,r.ps⟩:=by
 have hb:∀k x,own k=some x->x≠.qu i->x≠.qrow i->W'.heap[k]? = W.heap[k]?:=fun k x hx h1 h2=>ht.block k (h.lt k (by rw[hx];simp)) (fun hh=>by
  rcases hh with rfl | hh
  · rw[h.oq i hi] at hx;exact h1 (Option.some.inj hx).symm
  · rw[h.oqr i hi k hh] at hx;exact h2 (Option.some.inj hx).symm)
 have ho:∀k x,own k=some x->x≠.qrow i->(if v'.ownBlock=some k then some (.qrow i) else own k)=some x:=fun k x hx h2=>by
  rw[if_neg]
  · exact hx
  · intro hh;rcases hv k hh with e | e
    · rw[h.oqr i hi k e] at hx;exact h2 (Option.some.inj hx).symm
    · have:=h.lt k (by rw[hx];simp);omega
 have h0:∀i,W'.cell? ⟨rb,i,none⟩=W.cell? ⟨rb,i,none⟩:=fun i=>World.cell?_of_block (hb _ _ h.osys (by simp) (by simp));have h1:∀i,W'.frozen? ⟨rb,i,none⟩=W.frozen? ⟨rb,i,none⟩:=fun i=>World.frozen?_of_block (hb _ _ h.osys (by simp) (by simp));have hc:∀x,x<(r.cores.set i (tag',l')).length->x<r.cores.length:=fun x hx=>by simpa using hx
 have hg:∀x,x<r.cores.length->(r.cores.set i (tag',l'))[x]! = if i=x then(tag',l') else r.cores[x]!:=fun x hx=>by
  rw[getElem!_pos _ x (by simpa using hx),List.getElem_set];split
  · rfl
  · rw[getElem!_pos _ x hx]
 refine⟨(h0 _).trans h.c0,(h0 _).trans h.c1,(h0 _).trans h.c2,(h0 _).trans h.c3,fun i hi=>?_,(h0 _).trans h.c68,fun i=>(h1 i).trans (h.live i),zb h.crow (fun k hk=>hb k _ (h.ocrow k hk) (by simp) (by simp)),
  zb h.trow (fun k hk=>hb k _ (h.otrow k hk) (by simp) (by simp)),?_,h.names.same (hb _ _ h.onb (by simp) (by simp)) (hb _ _ h.otb (by simp) (by simp)) (hb _ _ h.oob (by simp) (by simp)),h.groups.same (hb _ _ h.ogb (by simp) (by simp)),by simpa using h.nq,fun x hx=>?_,
  ho _ _ h.osys (by simp),fun k hk=>ho _ _ (h.ocrow k hk) (by simp),fun k hk=>ho _ _ (h.otrow k hk) (by simp),fun k hk=>ho _ _ (h.osrow k hk) (by simp),ho _ _ h.onb (by simp),ho _ _ h.otb (by simp),ho _ _ h.oob (by simp),ho _ _ h.ogb (by simp),fun x hx=>ho _ _ (h.oq x (hc x hx)) (by simp),fun x hx k hk=>?_,fun k hk=>?_⟩
 · obtain⟨a,b,c,d⟩:=h.acc i hi;exact⟨(h0 _).trans a,(h0 _).trans b,(h0 _).trans c,(h0 _).trans d⟩
 · obtain⟨sv,lQ,nQ⟩:=h.srow;exact⟨sv,lQ,zb nQ (fun k hk=>hb k _ (h.osrow k hk) (by simp) (by simp))⟩
 · have F3:=hc x hx;simp only[hg x F3];by_cases e:i=x
   · subst e;rw[if_pos rfl,if_pos rfl];exact hQ
   · rw[if_neg e,if_neg (fun e2=>e e2.symm)];exact(h.q x F3).same (hb _ _ (h.oq x F3) (by simp;exact fun e2=>e e2.symm) (by simp)) (fun k hk=>hb k _ (h.oqr x F3 k hk) (by simp) (by simp;exact fun e2=>e e2.symm))
 · simp only at hk⊢;by_cases e:x=i
   · subst e;rw[if_pos rfl] at hk;rw[if_pos hk]
   · rw[if_neg e] at hk;exact ho _ _ (h.oqr x (hc x hx) k hk) (by simp;exact e)
 · by_cases e:v'.ownBlock=some k
   · exact hQ.lt.2 k e
   · rw[if_neg e] at hk;exact Nat.lt_of_lt_of_le (h.lt k hk) ht.size
theorem RAt.setT (h:RAt W rb B own r) {ts':List Tk} (hr:W'.ownsRow 0 62 7 B.trv ts'.length (zu ts')) (ht:Touch (fun j=>B.trv.ownBlock=some j) W W'):RAt W' rb B own ⟨r.cores,ts',r.gs,r.acc,r.ps⟩:=by
 have hb:∀k x,own k=some x->x≠.trow->W'.heap[k]? = W.heap[k]?:=fun k x hx h1=>ht.block k (h.lt k (by rw[hx];simp)) (fun hh=>by
  rw[h.otrow k hh] at hx;exact h1 (Option.some.inj hx).symm)
 have h0:∀i,W'.cell? ⟨rb,i,none⟩=W.cell? ⟨rb,i,none⟩:=fun i=>World.cell?_of_block (hb _ _ h.osys (by simp));have h1:∀i,W'.frozen? ⟨rb,i,none⟩=W.frozen? ⟨rb,i,none⟩:=fun i=>World.frozen?_of_block (hb _ _ h.osys (by simp));refine⟨(h0 _).trans h.c0,(h0 _).trans h.c1,(h0 _).trans h.c2,(h0 _).trans h.c3,fun i hi=>?_,(h0 _).trans h.c68,fun i=>(h1 i).trans (h.live i),zb h.crow (fun k hk=>hb k _ (h.ocrow k hk) (by simp)),
  hr,?_,h.names.same (hb _ _ h.onb (by simp)) (hb _ _ h.otb (by simp)) (hb _ _ h.oob (by simp)),h.groups.same (hb _ _ h.ogb (by simp)),h.nq,fun i hi=>(h.q i hi).same (hb _ _ (h.oq i hi) (by simp)) (fun k hk=>hb k _ (h.oqr i hi k hk) (by simp)),
  h.osys,h.ocrow,h.otrow,h.osrow,h.onb,h.otb,h.oob,h.ogb,h.oq,h.oqr,fun k hk=>Nat.lt_of_lt_of_le (h.lt k hk) ht.size⟩
 · obtain⟨a,b,c,d⟩:=h.acc i hi;exact⟨(h0 _).trans a,(h0 _).trans b,(h0 _).trans c,(h0 _).trans d⟩
 · obtain⟨sv,lQ,nQ⟩:=h.srow;exact⟨sv,lQ,zb nQ (fun k hk=>hb k _ (h.osrow k hk) (by simp))⟩
theorem RAt.newT (h:RAt W rb B own r) {v':Value} {ts':List Tk} (mQ:W'.cell? ⟨rb,1,none⟩=some v') (l8:∀i,i≠1->W'.cell? ⟨rb,i,none⟩=W.cell? ⟨rb,i,none⟩) (Gw:∀i,W'.frozen? ⟨rb,i,none⟩=W.frozen? ⟨rb,i,none⟩)
 (hr:W'.ownsRow W.heap.size 62 7 v' ts'.length (zu ts')) (ht:Touch (fun j=>j=rb) W W') :
 RAt W' rb ⟨B.crv,v',B.srv,B.nb,B.tb,B.ob,B.gb,B.qbs,B.qv⟩ (fun k=>if v'.ownBlock=some k then some .trow else own k) ⟨r.cores,ts',r.gs,r.acc,r.ps⟩:=by
 have hb:∀k x,own k=some x->x≠.rsys->W'.heap[k]? = W.heap[k]?:=fun k x hx h1=>ht.block k (h.lt k (by rw[hx];simp)) (fun hh=>by
  subst hh;rw[h.osys] at hx;exact h1 (Option.some.inj hx).symm)
 have ho:∀k x,own k=some x->(if v'.ownBlock=some k then some .trow else own k)=some x:=fun k x hx=>by
  rw[if_neg]
  · exact hx
  · intro hh;have h1:=(hr.lt k hh).1;have:=h.lt k (by rw[hx];simp);omega
 refine⟨(l8 _ (by decide)).trans h.c0,mQ,(l8 _ (by decide)).trans h.c2,(l8 _ (by decide)).trans h.c3,fun i hi=>?_,(l8 _ (by decide)).trans h.c68,fun i=>(Gw i).trans (h.live i),zb h.crow (fun k hk=>hb k _ (h.ocrow k hk) (by simp)),
  zM hr (Nat.zero_le _),?_,h.names.same (hb _ _ h.onb (by simp)) (hb _ _ h.otb (by simp)) (hb _ _ h.oob (by simp)),h.groups.same (hb _ _ h.ogb (by simp)),h.nq,fun i hi=>(h.q i hi).same (hb _ _ (h.oq i hi) (by simp)) (fun k hk=>hb k _ (h.oqr i hi k hk) (by simp)),
  ho _ _ h.osys,fun k hk=>ho _ _ (h.ocrow k hk),fun k hk=>if_pos hk,fun k hk=>ho _ _ (h.osrow k hk),ho _ _ h.onb,ho _ _ h.otb,ho _ _ h.oob,ho _ _ h.ogb,fun x hx=>ho _ _ (h.oq x hx),fun x hx k hk=>ho _ _ (h.oqr x hx k hk),fun k hk=>?_⟩
 · obtain⟨a,b,c,d⟩:=h.acc i hi;exact⟨(l8 _ (by omega)).trans a,(l8 _ (by omega)).trans b,(l8 _ (by omega)).trans c,(l8 _ (by omega)).trans d⟩
 · obtain⟨sv,lQ,nQ⟩:=h.srow;exact⟨sv,lQ,zb nQ (fun k hk=>hb k _ (h.osrow k hk) (by simp))⟩
 · by_cases e:v'.ownBlock=some k
   · exact(hr.lt k e).2
   · rw[if_neg e] at hk;exact Nat.lt_of_lt_of_le (h.lt k hk) ht.size
theorem RAt.setN (h:RAt W rb B own r) {ps':List (Int×Bool)} (hn:NaAt W' B.nb B.tb B.ob ps') (ht:Touch (fun k=>k=B.nb\/k=B.tb\/k=B.ob) W W'):RAt W' rb B own ⟨r.cores,r.ts,r.gs,r.acc,ps'⟩:=by
 have hb:∀k x,own k=some x->x≠.rnames->x≠.turns->x≠.outs->W'.heap[k]? = W.heap[k]?:=fun k x hx h1 h2 h3=>ht.block k (h.lt k (by rw[hx];simp)) (fun hh=>by
  rcases hh with rfl | rfl | rfl
  · rw[h.onb] at hx;exact h1 (Option.some.inj hx).symm
  · rw[h.otb] at hx;exact h2 (Option.some.inj hx).symm
  · rw[h.oob] at hx;exact h3 (Option.some.inj hx).symm)
 have l7:∀k x,own k=some x->(x≠.rnames/\x≠.turns/\x≠.outs)->W'.heap[k]? = W.heap[k]?:=fun k x hx hh=>hb k x hx hh.1 hh.2.1 hh.2.2;have h0:∀i,W'.cell? ⟨rb,i,none⟩=W.cell? ⟨rb,i,none⟩:=fun i=>World.cell?_of_block (l7 _ _ h.osys (by simp));have h1:∀i,W'.frozen? ⟨rb,i,none⟩=W.frozen? ⟨rb,i,none⟩:=fun i=>World.frozen?_of_block (l7 _ _ h.osys (by simp));refine⟨(h0 _).trans h.c0,(h0 _).trans h.c1,(h0 _).trans h.c2,(h0 _).trans h.c3,fun i hi=>?_,(h0 _).trans h.c68,fun i=>(h1 i).trans (h.live i),zb h.crow (fun k hk=>l7 k _ (h.ocrow k hk) (by simp)),
  zb h.trow (fun k hk=>l7 k _ (h.otrow k hk) (by simp)),?_,hn,h.groups.same (l7 _ _ h.ogb (by simp)),h.nq,fun i hi=>(h.q i hi).same (l7 _ _ (h.oq i hi) (by simp)) (fun k hk=>l7 k _ (h.oqr i hi k hk) (by simp)),
  h.osys,h.ocrow,h.otrow,h.osrow,h.onb,h.otb,h.oob,h.ogb,h.oq,h.oqr,fun k hk=>Nat.lt_of_lt_of_le (h.lt k hk) ht.size⟩
 · obtain⟨a,b,c,d⟩:=h.acc i hi;exact⟨(h0 _).trans a,(h0 _).trans b,(h0 _).trans c,(h0 _).trans d⟩
 · obtain⟨sv,lQ,nQ⟩:=h.srow;exact⟨sv,lQ,zb nQ (fun k hk=>l7 k _ (h.osrow k hk) (by simp))⟩
theorem RAt.setG (h:RAt W rb B own r) {gs':List (Bool×Int)} (hn:GrAt W' B.gb gs') (ht:Touch (fun k=>k=B.gb) W W'):RAt W' rb B own ⟨r.cores,r.ts,gs',r.acc,r.ps⟩:=by
 have l7:∀k x,own k=some x->x≠.rgroups->W'.heap[k]? = W.heap[k]?:=fun k x hx h1=>ht.block k (h.lt k (by rw[hx];simp)) (fun hh=>by
  subst hh;rw[h.ogb] at hx;exact h1 (Option.some.inj hx).symm)
 have h0:∀i,W'.cell? ⟨rb,i,none⟩=W.cell? ⟨rb,i,none⟩:=fun i=>World.cell?_of_block (l7 _ _ h.osys (by simp));have h1:∀i,W'.frozen? ⟨rb,i,none⟩=W.frozen? ⟨rb,i,none⟩:=fun i=>World.frozen?_of_block (l7 _ _ h.osys (by simp));refine⟨(h0 _).trans h.c0,(h0 _).trans h.c1,(h0 _).trans h.c2,(h0 _).trans h.c3,fun i hi=>?_,(h0 _).trans h.c68,fun i=>(h1 i).trans (h.live i),zb h.crow (fun k hk=>l7 k _ (h.ocrow k hk) (by simp)),
  zb h.trow (fun k hk=>l7 k _ (h.otrow k hk) (by simp)),?_,h.names.same (l7 _ _ h.onb (by simp)) (l7 _ _ h.otb (by simp)) (l7 _ _ h.oob (by simp)),hn,h.nq,fun i hi=>(h.q i hi).same (l7 _ _ (h.oq i hi) (by simp)) (fun k hk=>l7 k _ (h.oqr i hi k hk) (by simp)),
  h.osys,h.ocrow,h.otrow,h.osrow,h.onb,h.otb,h.oob,h.ogb,h.oq,h.oqr,fun k hk=>Nat.lt_of_lt_of_le (h.lt k hk) ht.size⟩
 · obtain⟨a,b,c,d⟩:=h.acc i hi;exact⟨(h0 _).trans a,(h0 _).trans b,(h0 _).trans c,(h0 _).trans d⟩
 · obtain⟨sv,lQ,nQ⟩:=h.srow;exact⟨sv,lQ,zb nQ (fun k hk=>l7 k _ (h.osrow k hk) (by simp))⟩
theorem RAt.setA (h:RAt W rb B own r) (k:Nat) (hk:k<16) (hl:r.acc.length=16) (u0 u1 u2 u3:Int)
 (hc:∀j,W'.cell? ⟨rb,j,none⟩=if j=4+k*4 then some (I u0) else if j=4+k*4+1 then some (I u1) else if j=4+k*4+2 then some (I u2) else if j=4+k*4+3 then some (I u3) else W.cell? ⟨rb,j,none⟩)
 (Gw:∀i,W'.frozen? ⟨rb,i,none⟩=W.frozen? ⟨rb,i,none⟩) (ht:Touch (fun j=>j=rb) W W') :
 RAt W' rb B own ⟨r.cores,r.ts,r.gs,r.acc.set k (u0,u1,u2,u3),r.ps⟩:=by
 have hb:∀k x,own k=some x->x≠.rsys->W'.heap[k]? = W.heap[k]?:=fun k x hx h1=>ht.block k (h.lt k (by rw[hx];simp)) (fun hh=>by
  subst hh;rw[h.osys] at hx;exact h1 (Option.some.inj hx).symm)
 have l8:∀j,(j<4+k*4\/4+k*4+3<j)->W'.cell? ⟨rb,j,none⟩=W.cell? ⟨rb,j,none⟩:=fun j hj=>by
  rw[hc j,if_neg (by omega),if_neg (by omega),if_neg (by omega),if_neg (by omega)]
 refine⟨(l8 _ (by omega)).trans h.c0,(l8 _ (by omega)).trans h.c1,(l8 _ (by omega)).trans h.c2,(l8 _ (by omega)).trans h.c3,fun i hi=>?_,(l8 _ (by omega)).trans h.c68,fun i=>(Gw i).trans (h.live i),zb h.crow (fun k hk=>hb k _ (h.ocrow k hk) (by simp)),
  zb h.trow (fun k hk=>hb k _ (h.otrow k hk) (by simp)),?_,h.names.same (hb _ _ h.onb (by simp)) (hb _ _ h.otb (by simp)) (hb _ _ h.oob (by simp)),h.groups.same (hb _ _ h.ogb (by simp)),h.nq,fun i hi=>(h.q i hi).same (hb _ _ (h.oq i hi) (by simp)) (fun k hk=>hb k _ (h.oqr i hi k hk) (by simp)),
  h.osys,h.ocrow,h.otrow,h.osrow,h.onb,h.otb,h.oob,h.ogb,h.oq,h.oqr,fun k hk=>Nat.lt_of_lt_of_le (h.lt k hk) ht.size⟩
 · obtain⟨a,b,c,d⟩:=h.acc i hi;simp only
   rw[yP _ _ _ _ (by rw[hl];exact hk)];by_cases e:k=i
   · subst e;rw[if_pos rfl];refine⟨?_,?_,?_,?_⟩
     · rw[hc,if_pos rfl]
     · rw[hc,if_neg (by omega),if_pos rfl]
     · rw[hc,if_neg (by omega),if_neg (by omega),if_pos rfl]
     · rw[hc,if_neg (by omega),if_neg (by omega),if_neg (by omega),if_pos rfl]
   · rw[if_neg e];exact⟨(l8 _ (by omega)).trans a,(l8 _ (by omega)).trans b,(l8 _ (by omega)).trans c,(l8 _ (by omega)).trans d⟩
 · obtain⟨sv,lQ,nQ⟩:=h.srow;exact⟨sv,lQ,zb nQ (fun k hk=>hb k _ (h.osrow k hk) (by simp))⟩
theorem RAt.setS (h:RAt W rb B own r) {sv:List (Int×Int)} (lQ:ZL sv) (hr:W'.ownsRow 0 156 2 B.srv sv.length (vg sv)) (ht:Touch (fun j=>B.srv.ownBlock=some j) W W'):RAt W' rb B own r:=by
 have hb:∀k x,own k=some x->x≠.srow->W'.heap[k]? = W.heap[k]?:=fun k x hx h1=>ht.block k (h.lt k (by rw[hx];simp)) (fun hh=>by
  rw[h.osrow k hh] at hx;exact h1 (Option.some.inj hx).symm)
 have h0:∀i,W'.cell? ⟨rb,i,none⟩=W.cell? ⟨rb,i,none⟩:=fun i=>World.cell?_of_block (hb _ _ h.osys (by simp));have h1:∀i,W'.frozen? ⟨rb,i,none⟩=W.frozen? ⟨rb,i,none⟩:=fun i=>World.frozen?_of_block (hb _ _ h.osys (by simp));refine⟨(h0 _).trans h.c0,(h0 _).trans h.c1,(h0 _).trans h.c2,(h0 _).trans h.c3,fun i hi=>?_,(h0 _).trans h.c68,fun i=>(h1 i).trans (h.live i),zb h.crow (fun k hk=>hb k _ (h.ocrow k hk) (by simp)),
  zb h.trow (fun k hk=>hb k _ (h.otrow k hk) (by simp)),⟨sv,lQ,hr⟩,h.names.same (hb _ _ h.onb (by simp)) (hb _ _ h.otb (by simp)) (hb _ _ h.oob (by simp)),h.groups.same (hb _ _ h.ogb (by simp)),h.nq,fun i hi=>(h.q i hi).same (hb _ _ (h.oq i hi) (by simp)) (fun k hk=>hb k _ (h.oqr i hi k hk) (by simp)),
  h.osys,h.ocrow,h.otrow,h.osrow,h.onb,h.otb,h.oob,h.ogb,h.oq,h.oqr,fun k hk=>Nat.lt_of_lt_of_le (h.lt k hk) ht.size⟩
 obtain⟨a,b,c,d⟩:=h.acc i hi;exact⟨(h0 _).trans a,(h0 _).trans b,(h0 _).trans c,(h0 _).trans d⟩
theorem RAt.newS (h:RAt W rb B own r) {v':Value} {sv:List (Int×Int)} (mQ:W'.cell? ⟨rb,68,none⟩=some v') (l8:∀i,i≠68->W'.cell? ⟨rb,i,none⟩=W.cell? ⟨rb,i,none⟩) (Gw:∀i,W'.frozen? ⟨rb,i,none⟩=W.frozen? ⟨rb,i,none⟩)
 (lQ:ZL sv) (hr:W'.ownsRow 0 156 2 v' sv.length (vg sv)) (hv:∀j,v'.ownBlock=some j->B.srv.ownBlock=some j\/W.heap.size<=j) (ht:Touch (fun j=>j=rb\/B.srv.ownBlock=some j) W W') :
 RAt W' rb ⟨B.crv,B.trv,v',B.nb,B.tb,B.ob,B.gb,B.qbs,B.qv⟩ (fun k=>if v'.ownBlock=some k then some .srow else own k) r:=by
 have hb:∀k x,own k=some x->(x≠.rsys/\x≠.srow)->W'.heap[k]? = W.heap[k]?:=fun k x hx h1=>ht.block k (h.lt k (by rw[hx];simp)) (fun hh=>by
  rcases hh with rfl | hh
  · rw[h.osys] at hx;exact h1.1 (Option.some.inj hx).symm
  · rw[h.osrow k hh] at hx;exact h1.2 (Option.some.inj hx).symm)
 have ho:∀k x,own k=some x->x≠.srow->(if v'.ownBlock=some k then some .srow else own k)=some x:=fun k x hx h2=>by
  rw[if_neg]
  · exact hx
  · intro hh;rcases hv k hh with e | e
    · rw[h.osrow k e] at hx;exact h2 (Option.some.inj hx).symm
    · have:=h.lt k (by rw[hx];simp);omega
 refine⟨(l8 _ (by decide)).trans h.c0,(l8 _ (by decide)).trans h.c1,(l8 _ (by decide)).trans h.c2,(l8 _ (by decide)).trans h.c3,fun i hi=>?_,mQ,fun i=>(Gw i).trans (h.live i),zb h.crow (fun k hk=>hb k _ (h.ocrow k hk) (by simp)),
  zb h.trow (fun k hk=>hb k _ (h.otrow k hk) (by simp)),⟨sv,lQ,hr⟩,h.names.same (hb _ _ h.onb (by simp)) (hb _ _ h.otb (by simp)) (hb _ _ h.oob (by simp)),h.groups.same (hb _ _ h.ogb (by simp)),h.nq,fun i hi=>(h.q i hi).same (hb _ _ (h.oq i hi) (by simp)) (fun k hk=>hb k _ (h.oqr i hi k hk) (by simp)),
  ho _ _ h.osys (by simp),fun k hk=>ho _ _ (h.ocrow k hk) (by simp),fun k hk=>ho _ _ (h.otrow k hk) (by simp),fun k hk=>if_pos hk,ho _ _ h.onb (by simp),ho _ _ h.otb (by simp),ho _ _ h.oob (by simp),ho _ _ h.ogb (by simp),fun x hx=>ho _ _ (h.oq x hx) (by simp),fun x hx k hk=>ho _ _ (h.oqr x hx k hk) (by simp),fun k hk=>?_⟩
 · obtain⟨a,b,c,d⟩:=h.acc i hi;exact⟨(l8 _ (by omega)).trans a,(l8 _ (by omega)).trans b,(l8 _ (by omega)).trans c,(l8 _ (by omega)).trans d⟩
 · by_cases e:v'.ownBlock=some k
   · exact(hr.lt k e).2
   · rw[if_neg e] at hk;exact Nat.lt_of_lt_of_le (h.lt k hk) ht.size
end
structure RStep (own own':Nat->Option ROwn) (W W':World):Prop where
 new:∀k,own' k≠none->own k≠none\/W.heap.size<=k
 touch:Touch (fun k=>own k≠none) W W'
theorem RStep.below {own:Nat->Option ROwn} {W W':World} (h:Below W.heap.size W W'):RStep own own W W':=⟨fun _ hk=>.inl hk,Touch.of_below h⟩
theorem RStep.refl (own:Nat->Option ROwn) (W:World):RStep own own W W:=.below (Below.refl _ _)
theorem RStep.trans {o1 o2 o3:Nat->Option ROwn} {a b c:World} (h:RStep o1 o2 a b) (k:RStep o2 o3 b c):RStep o1 o3 a c:=
 ⟨fun j hj=>by
  rcases k.new j hj with h1 | h1
  · exact h.new j h1
  · exact .inr (Nat.le_trans h.touch.size h1),h.touch.trans (fun j hj=>h.new j hj) k.touch⟩
theorem RStep.keep {own:Nat->Option ROwn} {W W':World} {F:Nat->Prop} (h:Touch F W W') (hF:∀k,F k->own k≠none):RStep own own W W':=⟨fun _ hk=>.inl hk,h.wider hF⟩
theorem RStep.more {own:Nat->Option ROwn} {W W':World} {F:Nat->Prop} {v':Value} {x:ROwn} (h:Touch F W W') (hF:∀k,F k->own k≠none) (hv:∀j,v'.ownBlock=some j->own j≠none\/W.heap.size<=j):RStep own (fun k=>if v'.ownBlock=some k then some x else own k) W W':=
 ⟨fun k hk=>by
  by_cases e:v'.ownBlock=some k
  · exact hv k e
  · rw[if_neg e] at hk;exact .inl hk,h.wider hF⟩
def xr (ts:List Tk) (id:Int):Int:=Lib.idxBy (fun _ y=>decide (y.id=id)) ts default
theorem vN (ps:List Tk) (id:Int) :
 (xr ps id=-1/\∀p∈ps,p.id≠id)\/∃k,∃h:k<ps.length,xr ps id=(k:Int)/\ps[k].id=id/\∀j (hj:j<k),ps[j].id≠id:=by
 unfold xr Lib.idxBy;have gen:∀(ps:List Tk) (i:Nat),(Lib.idxByFrom (fun _ y=>decide (y.id=id)) default ps i=-1/\∀p∈ps,p.id≠id) \/
  ∃k,∃h:k<ps.length,Lib.idxByFrom (fun _ y=>decide (y.id=id)) default ps i=((i+k:Nat):Int)/\ps[k].id=id/\∀j (hj:j<k),ps[j].id≠id:=by
  intro ps;induction ps with
  | nil=>intro i;exact .inl ⟨rfl,by simp⟩
  | cons p l ih=>
   intro i;by_cases e:p.id=id
   · exact .inr ⟨0,by simp,by simp[Lib.idxByFrom,e],e,fun j hj=>absurd hj (Nat.not_lt_zero _)⟩
   · have ak:Lib.idxByFrom (fun _ (y:Tk)=>decide (y.id=id)) default (p::l) i=Lib.idxByFrom (fun _ y=>decide (y.id=id)) default l (i+1):=by simp[Lib.idxByFrom,e]
     rcases ih (i+1) with⟨h1,h2⟩ | ⟨k,hk,h1,h2,h3⟩
     · refine .inl ⟨ak.trans h1,?_⟩;intro q hq;rcases List.mem_cons.1 hq with rfl | hq
       · exact e
       · exact h2 q hq
     · refine .inr ⟨k+1,by simpa using hk,ak.trans (h1.trans (by congr 1;omega)),by simpa using h2,?_⟩;intro j hj;cases j with
       | zero=>simpa using e
       | succ j=>simpa using h3 j (by omega)
 have:=gen ps 0;simpa using this
structure SamT (u t:Tk):Prop where
 id:t.id=u.id
 w:t.w=u.w
 group:t.group=u.group
 core:t.core=u.core
 state:t.state=u.state
 mask:t.mask=u.mask
 lag:u.state≠2->t.lag=u.lag
theorem SamT.refl (t:Tk):SamT t t:=⟨rfl,rfl,rfl,rfl,rfl,rfl,fun _=>rfl⟩
structure Rel (s:Sy) (r:RSy):Prop where
 cores:r.cores=s.cores.map fun c=>(c.tag,c.l)
 gs:r.gs=s.gs
 acc:r.acc=s.acc
 ps:r.ps=s.ps
 srt:r.ts.Pairwise fun a b=>a.id%64<b.id%64
 at_:∀t∈r.ts,∃u,s.tasks t.id=some u/\SamT u t
 all:∀x u,s.tasks x=some u->∃t∈r.ts,t.id=x
 zero:∀g:Nat,g<16->zL s.gs g=false->s.acc.getD g default=(0,0,0,0)
 tags:∀c∈s.cores,c.tag=0\/c.tag=1\/c.tag=2
theorem Rel.core {s:Sy} {r:RSy} (h:Rel s r) {i:Nat} (hi:i<s.cores.length):r.cores.length=s.cores.length/\r.cores[i]! = (s.cores[i]!.tag,s.cores[i]!.l):=by
 have hl:r.cores.length=s.cores.length:=by rw[h.cores,List.length_map]
 refine⟨hl,?_⟩;rw[getElem!_pos _ i (by omega),getElem!_pos _ i hi];simp only[h.cores,List.getElem_map]
theorem Rel.len {s:Sy} {r:RSy} (h:Rel s r):r.cores.length=s.cores.length:=by rw[h.cores,List.length_map]
theorem Rel.find {s:Sy} {r:RSy} (h:Rel s r) {x:Int} {u:Tk} (hu:s.tasks x=some u) (hid:u.id=x):∃(k:Nat) (t:Tk),k<r.ts.length/\r.ts[k]? = some t/\xr r.ts x=(k:Int)/\SamT u t:=by
 obtain⟨t,ht,hx⟩:=h.all x u hu;rcases vN r.ts x with⟨-,hn⟩ | ⟨k,hk,hp,ly,-⟩
 · exact absurd hx (hn t ht)
 · obtain⟨u',FX,hS⟩:=h.at_ _ (List.getElem_mem hk);rw[ly,hu,Option.some.injEq] at FX;subst FX;exact⟨k,_,hk,List.getElem?_eq_getElem hk,hp,hS⟩
theorem Rel.gone {s:Sy} {r:RSy} (h:Rel s r) {x:Int} (hu:s.tasks x=none):xr r.ts x=-1:=by
 rcases vN r.ts x with⟨hp,-⟩ | ⟨k,hk,-,ly,-⟩
 · exact hp
 · obtain⟨u',FX,-⟩:=h.at_ _ (List.getElem_mem hk);rw[ly,hu] at FX;cases FX
theorem Qr {ts:List Tk} {k:Nat} {t t':Tk} (hk:ts[k]? = some t) (e:t'.id=t.id) (h:ts.Pairwise fun a b=>a.id%64<b.id%64):(ts.set k t').Pairwise fun a b=>a.id%64<b.id%64:=by
 obtain⟨aw,DZ⟩:=List.getElem?_eq_some_iff.1 hk;have h1:(ts.map (·.id)).Pairwise fun a b=>a%64<b%64:=List.pairwise_map.2 h;have h2:(ts.set k t').map (·.id)=ts.map (·.id):=by
  rw[List.map_set,e,<- DZ];have:(ts.map (·.id))[k]'(by simpa using aw)=ts[k].id:=by simp
  rw[<- this,List.set_getElem_self]
 exact(List.pairwise_map (f:=fun t:Tk=>t.id) (R:=fun a b:Int=>a%64<b%64)).1 (by rw[h2];exact h1)
theorem Rel.task {s:Sy} {r:RSy} (h:Rel s r) {x:Int} {u:Tk} (hu:s.tasks x=some u) {k:Nat} {t:Tk} (hk:r.ts[k]? = some t) (hS:SamT u t) (hid:u.id=x) {u' t':Tk} (tq:SamT u' t') (Fy:u'.id=x) :
 Rel (setTk s x u') ⟨r.cores,r.ts.set k t',r.gs,r.acc,r.ps⟩:=by
 obtain⟨aw,DZ⟩:=List.getElem?_eq_some_iff.1 hk;have FB:∀(i j:Nat) (hi:i<r.ts.length) (hj:j<r.ts.length),r.ts[i].id=r.ts[j].id->i=j:=fun i j hi hj e=>by
  have hp:=List.pairwise_iff_getElem.1 h.srt;rcases Nat.lt_trichotomy i j with ah | rfl | ah
  · have:=hp i j hi hj ah;omega
  · rfl
  · have:=hp j i hj hi ah;omega
 refine⟨h.cores,h.gs,h.acc,h.ps,Qr hk (by rw[tq.id,Fy,hS.id,hid]) h.srt,fun p hp=>?_,fun y v hv=>?_,h.zero,h.tags⟩
 · show∃u,(if p.id=x then some u' else s.tasks p.id)=some u/\SamT u p;rcases(ja r.ts k aw t' p).1 hp with rfl | ⟨i,hi,ay,rfl⟩
   · rw[if_pos (by rw[tq.id,Fy])];exact⟨u',rfl,tq⟩
   · rw[if_neg]
     · exact h.at_ _ (List.getElem_mem hi)
     · intro e;refine ay (FB i k hi aw ?_);rw[e,DZ,hS.id,hid]
 · change (if y=x then some u' else s.tasks y)=some v at hv;by_cases e:y=x
   · exact⟨t',(ja r.ts k aw t' t').2 (.inl rfl),by rw[tq.id,Fy,e]⟩
   · rw[if_neg e] at hv;obtain⟨p,hp,FP⟩:=h.all y v hv;obtain⟨i,hi,rfl⟩:=List.mem_iff_getElem.1 hp;refine⟨r.ts[i],(ja r.ts k aw t' _).2 (.inr ⟨i,hi,fun e2=>?_,rfl⟩),FP⟩;subst e2;rw[DZ,hS.id,hid] at FP;exact e FP.symm
theorem Rel.coreSet {s:Sy} {r:RSy} (h:Rel s r) (i:Nat) (c:Co) (hi:i<s.cores.length) (ht:c.tag=s.cores[i]!.tag):Rel (zN s i c) ⟨r.cores.set i (c.tag,c.l),r.ts,r.gs,r.acc,r.ps⟩:=by
 refine⟨?_,h.gs,h.acc,h.ps,h.srt,h.at_,h.all,h.zero,fun d hd=>?_⟩
 · show r.cores.set i (c.tag,c.l)=(s.cores.set i c).map _;rw[List.map_set,h.cores]
 · rcases List.mem_or_eq_of_mem_set hd with hd | rfl
   · exact h.tags d hd
   · rw[ht,getElem!_pos _ i hi];exact h.tags _ (List.getElem_mem hi)
theorem Rel.accSet {s:Sy} {r:RSy} (h:Rel s r) (acc:List xS) (hz:∀g:Nat,g<16->zL s.gs g=false->acc.getD g default=(0,0,0,0)):Rel (zU s acc) ⟨r.cores,r.ts,r.gs,acc,r.ps⟩:=
 ⟨h.cores,h.gs,rfl,h.ps,h.srt,h.at_,h.all,hz,h.tags⟩
theorem fF:∀(a b:List Int),a.Pairwise (fun x y=>x%64<y%64)->b.Pairwise (fun x y=>x%64<y%64)->(∀x,x∈a↔x∈b)->a=b
 | [],[],_,_,_=>rfl
 | [],y::b,_,_,h=>by have:=(h y).2 List.mem_cons_self;cases this
 | x::a,[],_,_,h=>by have:=(h x).1 List.mem_cons_self;cases this
 | x::a,y::b,ha,hb,h=>by
  obtain⟨a1,a2⟩:=List.pairwise_cons.1 ha;obtain⟨b1,b2⟩:=List.pairwise_cons.1 hb;have e:x=y:=by
   rcases List.mem_cons.1 ((h x).1 List.mem_cons_self) with e | e
   · exact e
   · rcases List.mem_cons.1 ((h y).2 List.mem_cons_self) with e2 | e2
     · exact e2.symm
     · have:=a1 y e2;have:=b1 x e;omega
  subst e;congr 1
  refine fF a b a2 b2 (fun z=>?_);constructor
  · intro hz;rcases List.mem_cons.1 ((h z).1 (List.mem_cons_of_mem _ hz)) with e | e
    · subst e;have:=a1 z hz;omega
    · exact e
  · intro hz;rcases List.mem_cons.1 ((h z).2 (List.mem_cons_of_mem _ hz)) with e | e
    · subst e;have:=b1 z hz;omega
    · exact e
theorem Rel.ids {k n:Nat} {b:Int} {s:Sy} {r:RSy} (h:Rel s r) (hI:InvY k b n s):r.ts.map (·.id)=zf s.ps:=by
 refine fF _ _ (List.pairwise_map.2 h.srt) (kX s.ps 0 (by rw[hI.pslen];omega)) (fun x=>?_);rw[List.mem_map];constructor
 · rintro⟨t,ht,rfl⟩;obtain⟨u,hu,-⟩:=h.at_ t ht;exact(hI.names t.id).1 (by rw[hu];simp)
 · intro hx;obtain⟨t,xs,ht,-⟩:=hI.some_ hx;exact h.all x t ht
theorem Rel.few {k n:Nat} {b:Int} {s:Sy} {r:RSy} (h:Rel s r) (hI:InvY k b n s):r.ts.length<=64:=by
 have:=congrArg List.length (h.ids hI);rw[List.length_map] at this;rw[this,<- hI.pslen];exact yl _ _
section
attribute [local go_sem] Oper.semAt_some
theorem RAt.tasks {W:World} {rb:Nat} {B:RBk} {own:Nat->Option ROwn} {r:RSy} (h:RAt W rb B own r):∃a c,B.trv=.slice a r.ts.length c/\∀(k:Nat) (t:Tk),r.ts[k]? = some t->∃g,a=some ⟨g,0,none⟩/\own g=some .trow/\W.cell? ⟨g,k*7,none⟩=some (I t.id) /\
 W.cell? ⟨g,k*7+1,none⟩=some (I t.w)/\W.cell? ⟨g,k*7+2,none⟩=some (I t.group)/\W.cell? ⟨g,k*7+3,none⟩=some (I t.core)/\W.cell? ⟨g,k*7+4,none⟩=some (I t.state) /\
 W.cell? ⟨g,k*7+5,none⟩=some (.int .u16 t.mask)/\W.cell? ⟨g,k*7+6,none⟩=some (I t.lag):=by
 obtain⟨a,c,hv,hr⟩:=zH h.trow;refine⟨a,c,hv,fun k t hk=>?_⟩;obtain⟨aw,rfl⟩:=List.getElem?_eq_some_iff.1 hk;have key:∀f v,f<7->(r.ts[k]).cells[f]? = some v->∃g,a=some ⟨g,0,none⟩/\W.cell? ⟨g,k*7+f,none⟩=some v:=fun f v hf hv=>by
  obtain⟨g,hg,-,-,hc⟩:=hr (k*7+f) v ((vz r.ts k f aw hf).trans hv);exact⟨g,hg,hc⟩
 obtain⟨g,hg,k0⟩:=key 0 _ (by omega) rfl;subst hg;have key2:∀f v,f<7->(r.ts[k]).cells[f]? = some v->W.cell? ⟨g,k*7+f,none⟩=some v:=fun f v hf hv=>by
  obtain⟨g',ic,hc⟩:=key f v hf hv;simp only[Option.some.injEq,Addr.mk.injEq,and_true] at ic;subst ic;exact hc
 exact⟨g,rfl,h.otrow g (by rw[hv];rfl),k0,key2 1 _ (by omega) rfl,key2 2 _ (by omega) rfl,key2 3 _ (by omega) rfl,key2 4 _ (by omega) rfl,key2 5 _ (by omega) rfl,key2 6 _ (by omega) rfl⟩
theorem yd (rb:Nat) (B:RBk) (own:Nat->Option ROwn) (r:RSy) (id:Int) (W:World) (h:RAt W rb B own r) (aT:r.ts.length<=1000) :
 Calls Tryz.prog 68 #[.pointer (some ⟨rb,0,none⟩),I id] W fun e w'=>e=.returned (I (xr r.ts id))/\W=w':=by
 obtain⟨a,c,hv,ae⟩:=h.tasks;have c3:=h.c1;rw[hv] at c3;have HC:=lH ae;have GL:=lH aT;clear h ae aT hv;go_enter Tryz.func68,Tryz.ntmps68;go_wp2_with fail
 go_loop [5] (fun x=>∃k:Nat,k<=r.ts.length/\x=I k/\Hid (∀j (hj:j<r.ts.length),j<k->r.ts[j].id≠id)) (fun x=>r.ts.length-(intOf x).toNat)
 case atStart=>exact⟨0,Nat.zero_le _,rfl,lH (fun j hj hk=>absurd hk (Nat.not_lt_zero j))⟩
 case round=>
  obtain⟨k,hk,rfl,HN⟩:=hrel;have aT:=GL.out;have aX:0<=(k:Int):=by omega
  by_cases aw:k<r.ts.length
  · obtain⟨g,rfl,-,k0,-⟩:=HC.out k _ (List.getElem?_eq_getElem aw);obtain⟨pid,iS⟩:∃x,r.ts[k].id=x:=⟨_,rfl⟩
    rw[iS] at k0;have HP:=lH iS;have iJ:(k:Int)<(r.ts.length:Int):=by omega
    clear iS;by_cases e:pid=id
    · have am:xr r.ts id=(k:Int):=by
       rcases vN r.ts id with⟨-,hn⟩ | ⟨j,hj,hp,h1,h2⟩
       · exact absurd (HP.out.trans e) (hn _ (List.getElem_mem aw))
       · rw[hp];congr 1
         rcases Nat.lt_trichotomy j k with ah | rfl | ah
         · exact absurd h1 (HN.out j hj ah)
         · rfl
         · exact absurd (HP.out.trans e) (h2 k ah)
      have aA:=lH am;clear am;subst e;go_wp2_with fail
      go_ret
      exact⟨by rw[aA.out];rfl,rfl⟩
    · have oC:Hid (∀j (hj:j<r.ts.length),j<k+1->r.ts[j].id≠id):=lH (fun j hj CZ=>by
       by_cases e2:j<k
       · exact HN.out j hj e2
       · obtain rfl:j=k:=by omega
         rw[HP.out];exact e)
      go_wp2_with fail
      go_round
      case rel=>exact⟨k+1,by omega,by go_num,oC⟩
      case measure=>simp[intOf];omega
  · obtain rfl:k=r.ts.length:=by omega
    have am:xr r.ts id=-1:=by
     rcases vN r.ts id with⟨hp,-⟩ | ⟨j,hj,hp,h1,h2⟩
     · exact hp
     · exact absurd h1 (HN.out j hj hj)
    have aA:=lH am;clear am;go_wp2_with fail
    go_ret
    exact⟨by rw[aA.out];rfl,rfl⟩
def yR (r:RSy) (x:G16):Bool:=xt (r.acc.getD x.1.toNat default).1 (r.acc.getD x.1.toNat default).2.1 (r.acc.getD x.1.toNat default).2.2.1 (r.acc.getD x.1.toNat default).2.2.2
theorem Rel.spent {s:Sy} {r:RSy} (h:Rel s r):yR r=zO s:=by
 funext x
 unfold yR zO;rw[h.acc]
theorem fp {W:World} {H:Nat} {v:Value} {xs:List G16} (h:W.ownsRow H 3 1 v xs.length (xs.map fun x=>I x.1)):∃a c,v=.slice a xs.length c/\∀(k:Nat) (x:G16),xs[k]? = some x->∃g,a=some ⟨g,0,none⟩/\H<=g/\g<W.heap.size/\W.cell? ⟨g,k,none⟩=some (I x.1):=by
 obtain⟨a,c,hv,hr⟩:=zH h;refine⟨a,c,hv,fun k x hk=>?_⟩;obtain⟨g,hg,g1,g2,hc⟩:=hr k (I x.1) (by rw[List.getElem?_map,hk];rfl);exact⟨g,hg,g1,g2,hc⟩
theorem ub (rb:Nat) (B:RBk) (own:Nat->Option ROwn) (r:RSy) (gid:Int) (xs:List G16) (W:World) (h:RAt W rb B own r) (hx:zq r.gs gid xs) (aT:xs.length<=100) :
 Calls Tryz.prog 82 #[.pointer (some ⟨rb,0,none⟩),I gid] W fun e w'=>e=.returned (.bool (xs.any (yR r)))/\Below W.heap.size W w':=by
 have mR:=jP B.gb r.gs gid xs W h.groups hx aT;have c3:=h.c3;have HR:=lH h;have GL:=lH aT;obtain⟨N,hN⟩:∃N,xs.length=N:=⟨_,rfl⟩
 have HN:=lH hN;clear h hx aT;go_enter Tryz.func82,Tryz.ntmps82;go_wp2_with fail
 refine mR.mono ?_;rintro e w1 ⟨v,rfl,aa,hB⟩;obtain⟨a,c,rfl,ae⟩:=fp aa;have HC:=lH ae;have HB:=lH hB;rw[hN];clear aa hB ae mR c3 hN;go_wp2_with fail
 go_loopw [6] (fun x wr=>∃k:Nat,k<=N/\x=I k/\Hid (Below w1.heap.size w1 wr)/\Hid (∀j (hj:j<xs.length),j<k->yR r xs[j]=false)) (fun x _=>N-(intOf x).toNat)
 case atStart=>exact⟨0,Nat.zero_le _,rfl,lH (Below.refl _ _),lH (fun j hj hk=>absurd hk (Nat.not_lt_zero j))⟩
 case round=>
  obtain⟨k,hk,rfl,Al,HS⟩:=hrel;have aX:0<=(k:Int):=by omega
  have aT:=GL.out;rw[HN.out] at aT;by_cases sU:k<N
  · have D0:k<xs.length:=by rw[HN.out];exact sU
    have aw:(k:Int)<(N:Int):=by omega
    obtain⟨g,rfl,g1,g2,kc⟩:=HC.out k _ (List.getElem?_eq_getElem D0);have iY:=(Al.out.cell (p:=⟨g,k,none⟩) g2).trans kc;obtain⟨z,hz⟩:∃z,xs[k]'D0=z:=⟨_,rfl⟩
    rw[hz] at iY;have HZ:=lH hz;obtain⟨⟨u,Ob,To⟩,F6⟩:∃z',z'=z:=⟨z,rfl⟩
    obtain⟨j,rfl⟩:=Int.eq_ofNat_of_zero_le Ob;have iW:=HB.out.trans (Al.out.mono HB.out.size)
    obtain⟨a0,a1,a2,a3⟩:=(HR.out.below iW).acc j (by omega);have il:yR r z=xt (r.acc.getD j default).1 (r.acc.getD j default).2.1 (r.acc.getD j default).2.2.1 (r.acc.getD j default).2.2.2:=by
     rw[<- F6];unfold yR;simp
    have af:=fC (r.acc.getD j default).1 (r.acc.getD j default).2.1 (r.acc.getD j default).2.2.1 (r.acc.getD j default).2.2.2;rw[<- il] at af;generalize(r.acc.getD j default).1=q at a0 af;generalize(r.acc.getD j default).2.1=p at a1 af;generalize(r.acc.getD j default).2.2.1=l at a2 af;generalize(r.acc.getD j default).2.2.2=f at a3 af;rw[<- F6] at iY;simp only at iY;clear F6 kc hz iW;cases hb:yR r z with
    | true=>
     rw[hb] at af il;have Ak:Hid (xs.any (yR r)=true):=lH (List.any_eq_true.2 ⟨z,by rw[<- HZ.out];exact List.getElem_mem D0,hb⟩);clear il hb;go_wp2_with fail
     go_region_law (go_simp;go_at_call 136;refine(af _).mono ?_;rintro e w2 ⟨rfl,ar⟩;have ew:=lH ar)
     clear ar af;go_wp2_with fail
     go_ret
     exact⟨by rw[Ak.out];rfl,HB.out.trans ((Al.out.drew.trans (Below.mono ew.out Al.out.size)).mono HB.out.size)⟩
    | false=>
     rw[hb] at af il;have iy:Hid (∀j (hj:j<xs.length),j<k+1->yR r xs[j]=false):=lH (fun i hi TR=>by
      by_cases e2:i<k
      · exact HS.out i hi e2
      · obtain rfl:i=k:=by omega
        rw[HZ.out,hb])
     clear il hb;go_wp2_with fail
     go_region_law (go_simp;go_at_call 136;refine(af _).mono ?_;rintro e w2 ⟨rfl,ar⟩;have ew:=lH (Al.out.drew.trans (Below.mono ar Al.out.size)))
     clear ar af;go_wp2_with fail
     go_roundw
     case rel=>exact⟨k+1,by omega,by go_num,ew,iy⟩
     case measure=>simp[intOf];omega
  · obtain rfl:k=N:=by omega
    have Ak:Hid (xs.any (yR r)=false):=lH (by
     rw[List.any_eq_false];intro x hx hh;obtain⟨i,hi,rfl⟩:=List.mem_iff_getElem.1 hx;rw[HS.out i hi (by rw[<- HN.out];exact hi)] at hh;cases hh)
    have ew:=lH (HB.out.trans (Al.out.mono HB.out.size));clear HC HN HS;go_wp2_with fail
    go_ret
    exact⟨by rw[Ak.out];rfl,ew.out⟩
theorem J2:(Tryz.prog.info? 4).map (fun i=>(i.zero,i.size,i.bytes))=some (some (.bool false),1,1):=by kernel_rfl
theorem Je (W:World):(Instr.makeSlice 22 (I 64) (I 64)).run Tryz.prog W=.ok (.slice (some ⟨W.heap.size,0,none⟩) 64 64) (W.alloc (.cells (Array.replicate 64 (I 0)) 3)):=by
 obtain⟨i,hi,hz,hs,hb⟩:=info_parts dD;have:=run_make (P:=Tryz.prog) W 22 3 i _ Tryz.underlying22 hi hz .i64 .i64 64 64 (by omega) (Int.le_refl _) (by rw[hb];omega) (by omega);rw[hs] at this;rw[this];simp only[show Int.toNat 64=64 from rfl];congr 4
 rw[<- Array.toList_inj];rw[show(I 0).cells=#[I 0] from rfl,toList_madeCells_one];simp
theorem Ko (W:World):(Instr.makeSlice 130 (I 64) (I 64)).run Tryz.prog W=.ok (.slice (some ⟨W.heap.size,0,none⟩) 64 64) (W.alloc (.cells (Array.replicate 64 (.bool false)) 4)):=by
 obtain⟨i,hi,hz,hs,hb⟩:=info_parts J2;have:=run_make (P:=Tryz.prog) W 130 4 i _ Tryz.underlying130 hi hz .i64 .i64 64 64 (by omega) (Int.le_refl _) (by rw[hb];omega) (by omega);rw[hs] at this;rw[this];simp only[show Int.toNat 64=64 from rfl];congr 4
 rw[<- Array.toList_inj];rw[show(Value.bool false).cells=#[Value.bool false] from rfl,toList_madeCells_one];simp
theorem UE {W:World} {nb tb ob:Nat} (h0:W.heap[nb]? = some (.cells #[.slice (some ⟨tb,0,none⟩) 64 64,.slice (some ⟨ob,0,none⟩) 64 64] 132 (0,0))) (h1:W.heap[tb]? = some (.cells (Array.replicate 64 (I 0)) 3 (0,0))) (h2:W.heap[ob]? = some (.cells (Array.replicate 64 (.bool false)) 4 (0,0))) (hn:nb≠tb/\nb≠ob/\tb≠ob):NaAt W nb tb ob (yH 64):=by
 refine⟨vv 64,?_,?_,fun i hi=>?_,fun i hi=>?_,fun i=>?_,fun i=>?_,hn⟩
 · simp only[World.cell?,h0];rfl
 · simp only[World.cell?,h0];rfl
 · rw[q7];simp only[World.cell?,h1];simp[hi]
 · rw[q7];simp only[World.cell?,h2];simp[hi]
 · simp only[World.frozen?,h1];simp
 · simp only[World.frozen?,h2];simp
theorem Za (W:World):Calls Tryz.prog 25 #[I 64] W fun e w'=>∃nb tb ob,e=.returned (.pointer (some ⟨nb,0,none⟩))/\NaAt w' nb tb ob (yH 64)/\Below W.heap.size W w'/\W.heap.size<=nb/\W.heap.size<=tb/\W.heap.size<=ob:=by
 have IJ:=Je;have rM:=Ko;have hX:∀(W:World) o1 o2 o3,(((W.alloc o1).alloc o2).alloc o3).heap[W.heap.size]? = some o1/\(((W.alloc o1).alloc o2).alloc o3).heap[W.heap.size+1]? = some o2/\(((W.alloc o1).alloc o2).alloc o3).heap[W.heap.size+1+1]? = some o3:=fun W o1 o2 o3=>by
  refine⟨?_,?_,?_⟩
  · rw[Below.heap_alloc _ _ _ (by simp;omega),Below.heap_alloc _ _ _ (by simp)];exact heap_alloc_new _ _
  · rw[Below.heap_alloc _ _ _ (by simp)];have:=heap_alloc_new (W.alloc o1) o2;rwa [zR] at this
  · have:=heap_alloc_new ((W.alloc o1).alloc o2) o3;rwa [zR,zR] at this
 have HX:=lH hX;have hN:∀(W:World) (nb tb ob:Nat),W.heap[nb]? = some (.cells #[.slice (some ⟨tb,0,none⟩) 64 64,.slice (some ⟨ob,0,none⟩) 64 64] 132 (0,0))->W.heap[tb]? = some (.cells (Array.replicate 64 (I 0)) 3 (0,0))->W.heap[ob]? = some (.cells (Array.replicate 64 (.bool false)) 4 (0,0))->nb≠tb/\nb≠ob/\tb≠ob->NaAt W nb tb ob (yH 64):=fun W nb tb ob h0 h1 h2 h3=>UE h0 h1 h2 h3;generalize ia:(Array.replicate 64 (I 0))=X1 at IJ hN;generalize iU:(Array.replicate 64 (Value.bool false))=X2 at rM hN;have HN:=lH hN;clear ia iU hX hN;go_enter Tryz.func25,Tryz.ntmps25;go_wp2_with fail
 go_region
 all_goals
  go_wp2_with fail
  go_ret
 · obtain⟨a1,a2,a3⟩:=HX.out W (.cells X1 3) (.cells X2 4) (.cells #[.slice (some ⟨W.heap.size,0,none⟩) 64 64,.slice (some ⟨W.heap.size+1,0,none⟩) 64 64] 132);exact⟨_,_,_,rfl,HN.out _ _ _ _ a3 a1 a2 (by omega),((((Below.refl _ _).alloc (Nat.le_refl _) _).alloc (by simp) _).alloc (by simp;omega) _).drew,by omega,by omega,by omega⟩
 · obtain⟨a1,a2,a3⟩:=HX.out W (.cells X2 4) (.cells X1 3) (.cells #[.slice (some ⟨W.heap.size+1,0,none⟩) 64 64,.slice (some ⟨W.heap.size,0,none⟩) 64 64] 132);exact⟨_,_,_,rfl,HN.out _ _ _ _ a3 a2 a1 (by omega),((((Below.refl _ _).alloc (Nat.le_refl _) _).alloc (by simp) _).alloc (by simp;omega) _).drew,by omega,by omega,by omega⟩
end
end Go.Proofs.YtoiajjobecinpaaGreat

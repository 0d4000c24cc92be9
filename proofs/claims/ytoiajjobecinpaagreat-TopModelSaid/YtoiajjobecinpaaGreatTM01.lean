/- What a call leaves as it was: all blocks but those of a set, and new ones. Weights: which may be, ho -/
import Derived.Test.YtoiajjobecinpaaGreatRows
import Derived.WalkKit
import Derived.ProofKit
import Derived.Below
import Derived.Laws.AppendOwn
import Derived.Lib.SlBy
import Derived.Shelf.SlicesQ.IndexFunc
import Derived.Ground.SlgfProg
import Derived.Deep.QuietTactic
import Derived.BigQuiet
import Derived.Deep.DeepCutAuto
import Derived.Deep.RegionHeld3
import Derived.Shelf.SlSortCmp.WholeK
import Derived.Ground.SlsfProg
import Derived.Deep.AppendLies
import Derived.Deep.RegionLaw
import Derived.StillTail
import Derived.Test.YtoiajjobecinpaaGreatTM00
set_option maxHeartbeats 4000000
set_option maxRecDepth 100000
namespace Go.Proofs.YtoiajjobecinpaaGreat
set_option linter.unusedVariables false
set_option linter.unusedSimpArgs false
open Go.RowKit
structure Touch (F:Nat->Prop) (W W':World):Prop where
 os:W'.os=W.os
 tape:W'.tape=W.tape
 output:W'.output=W.output
 size:W.heap.size<=W'.heap.size
 block:∀k,k<W.heap.size->¬F k->W'.heap[k]? = W.heap[k]?
theorem Touch.refl (F:Nat->Prop) (W:World):Touch F W W:=⟨rfl,rfl,rfl,Nat.le_refl _,fun _ _ _=>rfl⟩
def uk (B:Nat) (F G:Nat->Prop):Prop:=∀k,G k->F k\/B<=k
theorem uk.refl (B:Nat) (F:Nat->Prop):uk B F F:=fun _ h=>.inl h
theorem Touch.trans {F G:Nat->Prop} {a b c:World} (h:Touch F a b) (hg:uk a.heap.size F G) (k:Touch G b c):Touch F a c:=
 ⟨k.os.trans h.os,k.tape.trans h.tape,k.output.trans h.output,Nat.le_trans h.size k.size,fun i hi hf=>
  (k.block i (Nat.lt_of_lt_of_le hi h.size) (fun g=>(hg i g).elim hf (fun e=>by omega))).trans (h.block i hi hf)⟩
theorem Touch.wider {F G:Nat->Prop} {a b:World} (h:Touch F a b) (hs:∀k,F k->G k):Touch G a b:=
 ⟨h.os,h.tape,h.output,h.size,fun k hk hg=>h.block k hk (fun f=>hg (hs k f))⟩
theorem Touch.of_below {F:Nat->Prop} {a b:World} (h:Below a.heap.size a b):Touch F a b:=
 ⟨h.os,h.tape,h.output,h.size,fun k hk _=>h.block k hk⟩
theorem Touch.below {B:Nat} {F:Nat->Prop} {a b:World} (h:Touch F a b) (hB:B<=a.heap.size) (hF:∀k,F k->B<=k):Below B a b:=
 ⟨h.os,h.tape,h.output,h.size,fun k hk=>h.block k (by omega) (fun f=>by have:=hF k f;omega)⟩
theorem Touch.alloc {F:Nat->Prop} {a b:World} (h:Touch F a b) (o:Obj):Touch F a (b.alloc o):=
 ⟨h.os,h.tape,h.output,by simp;exact Nat.le_succ_of_le h.size,fun k hk hf=>(Below.heap_alloc _ _ _ (Nat.lt_of_lt_of_le hk h.size)).trans (h.block k hk hf)⟩
theorem Touch.drew {F:Nat->Prop} {a b:World} (h:Touch F a b):Touch F a b.drew:=⟨h.os,h.tape,h.output,h.size,h.block⟩
theorem Touch.setCell {F:Nat->Prop} {a b:World} (h:Touch F a b) {c i:Nat} {t:Option Nat} (hc:F c\/a.heap.size<=c) (v:Value):Touch F a (b.setCell ⟨c,i,none⟩ v):=by
 refine⟨h.os,h.tape,h.output,by simpa using h.size,fun k hk hf=>?_⟩;have ay:k≠c:=by
  rintro rfl;rcases hc with hc | hc
  · exact hf hc
  · omega
 rw[Below.heap_setCell _ _ _ _ ay];exact h.block k hk hf
end Go.Proofs.YtoiajjobecinpaaGreat
namespace Go.Proofs.YtoiajjobecinpaaGreat
open Go.RowKit
set_option linter.unusedVariables false
set_option linter.unusedSimpArgs false
def zQ (w:Int):Bool:=decide (1<=w)&&decide (w<=20)
theorem xo (x:Int) (w:World) :
 Calls Tryz.prog 94 #[I x] w fun e w'=>e=.returned (.bool (zQ x))/\w=w':=by
 unfold zQ;by_cases h1:1<=x
 · by_cases h2:x<=20
   · rw[decide_eq_true h1,decide_eq_true h2];go_enter Tryz.func94,Tryz.ntmps94;go_wp2
     go_ret
     exact⟨rfl,rfl⟩
   · rw[decide_eq_true h1,decide_eq_false h2];go_enter Tryz.func94,Tryz.ntmps94;go_wp2
     go_ret
     exact⟨rfl,rfl⟩
 · rw[decide_eq_false h1];go_enter Tryz.func94,Tryz.ntmps94;go_wp2
   go_ret
   exact⟨rfl,rfl⟩
def zF (x:Int):Int:=if zQ x=true then Int.tdiv 232792560 x else 0
end Go.Proofs.YtoiajjobecinpaaGreat
namespace Go.Proofs.YtoiajjobecinpaaGreat
set_option linter.unusedVariables false
set_option linter.unusedSimpArgs false
open Go.RowKit
structure Pt where
 id:Int
 w:Int
 v:Int
 day:Int
deriving DecidableEq,Inhabited
def Pt.cells (p:Pt):List Value:=[I p.id,I p.w,I p.v,I p.day]
def Pt.val (p:Pt):Value:=.agg p.cells.toArray
def zr:List Pt->List Value
 | []=>[]
 | p::l=>p.cells++zr l
theorem yu (l:List Pt):(zr l).length=l.length*4:=by
 induction l with
 | nil=>rfl
 | cons p l ih=>simp[zr,Pt.cells,ih];omega
theorem yO (a b:List Pt):zr (a++b)=zr a++zr b:=by
 induction a with
 | nil=>rfl
 | cons p l ih=>simp[zr,ih]
end Go.Proofs.YtoiajjobecinpaaGreat
namespace Go.Proofs.YtoiajjobecinpaaGreat
set_option linter.unusedSimpArgs false
open Go.RowKit
set_option linter.unusedVariables false
structure Ln where
 base:Int
 cur:Int
 ps:List Pt
deriving Inhabited
def T8 (p:Pt):Pt:=⟨p.id,p.w,p.v,p.v+4*zF p.w⟩
def yh (ps:List Pt) (id:Int):Int:=Lib.idxBy (fun _ y=>decide (y.id=id)) ps default
def vI (m q:Pt):Pt:=if q.v<m.v then q else m
def yv:List Pt->Pt
 | []=>default
 | p::l=>l.foldl vI p
def yY (base:Int):List Pt->Int
 | []=>base
 | p::l=>if base<(yv (p::l)).v then(yv (p::l)).v else base
def vH (p:Pt):List Pt->List Pt
 | []=>[p]
 | q::l=>if p.id<q.id then p::q::l else q::vH p l
def da (id w lag:Int):Bool:=decide (0<=id)&&(decide (id<=1073741824)&&(zQ w&&(decide (-1125899906842624<=lag)&&decide (lag<=1125899906842624))))
def zP (l:Ln) (id w lag:Int):Int:=if da id w lag=true then(if 0<=yh l.ps id then 4 else if l.ps.length=64 then 3 else 0) else 1
def xR (l:Ln) (id w lag:Int):Ln:=
 let ps:=vH (T8 ⟨id,w,l.base-lag,0⟩) l.ps
 ⟨yY l.base ps,l.cur,ps⟩
structure Ln.ok (l:Ln):Prop where
 base:-2305843009213693952<=l.base/\l.base<=2305843009213693952
 cur:-1<=l.cur/\l.cur<=1073741824
 len:l.ps.length<=64
 pt:∀p∈l.ps,(0<=p.id/\p.id<=1073741824)/\(1<=p.w/\p.w<=20)/\(-2305843009213693952<=p.v/\p.v<=2305843009213693952)/\(-4611686018427387904<=p.day/\p.day<=4611686018427387904)
theorem xZ (x:Int):0<=zF x/\zF x<=232792560:=by
 unfold zF zQ;split
 · rename_i h;simp only[Bool.and_eq_true,decide_eq_true_eq] at h;obtain⟨h1,h2⟩:=h;constructor
   · exact Int.tdiv_nonneg (by omega) (by omega)
   · rw[Int.tdiv_eq_ediv_of_nonneg (by omega)];exact Int.ediv_le_self _ (by omega)
 · omega
theorem zB (ps:List Pt) (id:Int) :
 (yh ps id=-1/\∀p∈ps,p.id≠id)\/∃k,∃h:k<ps.length,yh ps id=(k:Int)/\ps[k].id=id/\∀j (hj:j<k),ps[j].id≠id:=by
 unfold yh Lib.idxBy;have gen:∀(ps:List Pt) (i:Nat),(Lib.idxByFrom (fun _ y=>decide (y.id=id)) default ps i=-1/\∀p∈ps,p.id≠id) \/
  ∃k,∃h:k<ps.length,Lib.idxByFrom (fun _ y=>decide (y.id=id)) default ps i=((i+k:Nat):Int)/\ps[k].id=id/\∀j (hj:j<k),ps[j].id≠id:=by
  intro ps;induction ps with
  | nil=>intro i;exact .inl ⟨rfl,by simp⟩
  | cons p l ih=>
   intro i;by_cases e:p.id=id
   · exact .inr ⟨0,by simp,by simp[Lib.idxByFrom,e],e,fun j hj=>absurd hj (Nat.not_lt_zero _)⟩
   · have ak:Lib.idxByFrom (fun _ (y:Pt)=>decide (y.id=id)) default (p::l) i=Lib.idxByFrom (fun _ y=>decide (y.id=id)) default l (i+1):=by simp[Lib.idxByFrom,e]
     rcases ih (i+1) with⟨h1,h2⟩ | ⟨k,hk,h1,h2,h3⟩
     · refine .inl ⟨ak.trans h1,?_⟩;intro q hq;rcases List.mem_cons.1 hq with rfl | hq
       · exact e
       · exact h2 q hq
     · refine .inr ⟨k+1,by simpa using hk,ak.trans (h1.trans (by congr 1;omega)),by simpa using h2,?_⟩;intro j hj;cases j with
       | zero=>simpa using e
       | succ j=>simpa using h3 j (by omega)
 rcases gen ps 0 with h | ⟨k,hk,h1,h2⟩
 · exact .inl h
 · exact .inr ⟨k,hk,h1.trans (by congr 1;omega),h2⟩
end Go.Proofs.YtoiajjobecinpaaGreat
namespace Go.Proofs.YtoiajjobecinpaaGreat
open Go.RowKit Go.Shelf Go.Lib Go.Proofs
set_option linter.unusedVariables false
set_option linter.unusedSimpArgs false
structure LineAt (W:World) (b:Nat) (v:Value) (l:Ln):Prop where
 base:W.cell? ⟨b,0,none⟩=some (I l.base)
 cur:W.cell? ⟨b,1,none⟩=some (I l.cur)
 sl:W.cell? ⟨b,2,none⟩=some v
 live:∀i,W.frozen? ⟨b,i,none⟩=false
 row:W.ownsRow 0 338 4 v l.ps.length (zr l.ps)
 ne:v.ownBlock≠some b
def lfp (b:Nat) (v:Value) (k:Nat):Prop:=k=b\/v.ownBlock=some k
theorem LineAt.lt {W:World} {b:Nat} {v:Value} {l:Ln} (h:LineAt W b v l):∀k,lfp b v k->k<W.heap.size:=by
 intro k hk;rcases hk with rfl | hk
 · exact World.block_lt_of_cell? W _ h.base
 · exact(h.row.lt k hk).2
theorem zb {W W':World} {base:Nat} {e:TypeId} {size:Nat} {v:Value} {n:Nat} {xs:List Value} (h:W.ownsRow base e size v n xs)
 (hb:∀k,v.ownBlock=some k->W'.heap[k]? = W.heap[k]?):W'.ownsRow base e size v n xs:=by
 refine⟨h.1,?_⟩;rcases h.2 with hn | ⟨g,cap,cur,rfl,l7,la,rest⟩
 · exact .inl hn
 · exact .inr ⟨g,cap,cur,rfl,l7,(hb g rfl).trans la,rest⟩
theorem LineAt.same {W W':World} {b:Nat} {v:Value} {l:Ln} (h:LineAt W b v l) (hb:∀k,lfp b v k->W'.heap[k]? = W.heap[k]?):LineAt W' b v l:=by
 have h0:∀i,W'.cell? ⟨b,i,none⟩=W.cell? ⟨b,i,none⟩:=fun i=>World.cell?_of_block (hb b (.inl rfl));have h1:∀i,W'.frozen? ⟨b,i,none⟩=W.frozen? ⟨b,i,none⟩:=fun i=>World.frozen?_of_block (hb b (.inl rfl));exact⟨(h0 0).trans h.base,(h0 1).trans h.cur,(h0 2).trans h.sl,fun i=>(h1 i).trans (h.live i),zb h.row (fun k hk=>hb k (.inr hk)),h.ne⟩
theorem LineAt.touch {W W':World} {b:Nat} {v:Value} {l:Ln} {F:Nat->Prop} (h:LineAt W b v l) (ht:Touch F W W') (hF:∀k,lfp b v k->¬F k):LineAt W' b v l:=
 h.same (fun k hk=>ht.block k (h.lt k hk) (hF k hk))
theorem LineAt.below {W W':World} {b:Nat} {v:Value} {l:Ln} (h:LineAt W b v l) (hb:Below W.heap.size W W'):LineAt W' b v l:=
 h.same (fun k hk=>hb.block k (h.lt k hk))
theorem um (ps:List Pt):∀k i v,k<ps.length->(ps[k]!).cells[i]? = some v->(zr ps)[k*4+i]? = some v:=by
 induction ps with
 | nil=>intro k i v h;simp at h
 | cons p l ih=>
  intro k i v h hv;cases k with
  | zero=>
   have hi:i<p.cells.length:=(List.getElem?_eq_some_iff.1 hv).1;rw[show 0*4+i=i from by omega];rw[zr,List.getElem?_append_left hi];simpa using hv
  | succ k=>
   rw[zr,List.getElem?_append_right (by simp[Pt.cells];omega)];have:=ih k i v (by simpa using h) (by simpa using hv);rw[show(k+1)*4+i-p.cells.length=k*4+i from by simp[Pt.cells];omega];exact this
theorem ji {W:World} {g n c:Nat} {ps:List Pt} (h:W.ownsRow 0 338 4 (.slice (some ⟨g,0,none⟩) n c) ps.length (zr ps)) :
 ∀j,j<ps.length->∀i v,(ps[j]!).cells[i]? = some v->W.cell? ⟨g,0+j*4+i,none⟩=some v:=by
 intro j hj i v hv;have:=h.cells (g:=g) rfl _ _ (um ps j i v hj hv);rw[Nat.zero_add];simpa [Addr.add_lit] using this
theorem fZ (g:Nat) (lb:Array Value) (W:World) :
 Calls Tryz.prog 284 #[.slice none 0 0,.func (.func g) #[] lb] W fun e w'=>e=.returned (I (-1))/\W=w':=by
 go_enter Tryz.func284,Tryz.ntmps284;go_wp2
 go_loop [5,8] (fun _ i=>i=I 0) (fun _ i=>0)
 case atStart=>rfl
 case round=>
  subst hrel;go_wp2
  go_ret
  exact⟨rfl,rfl⟩
def vC (x y:Int):Int:=if x<y then -1 else if y<x then 1 else 0
theorem KV (x y:Int) (W:World):Calls Tryz.prog 283 #[I x,I y] W fun e w'=>e=.returned (I (vC x y))/\W=w':=by
 unfold vC;go_enter Tryz.func283,Tryz.ntmps283;go_wp2
 all_goals (go_ret;exact⟨by simp_all,rfl⟩)
theorem KU (p q:Pt) (W:World):Calls Tryz.prog 282 #[.agg p.cells.toArray,.agg q.cells.toArray] W fun e w'=>e=.returned (I (vC p.v q.v))/\Below W.heap.size W w':=by
 have aD:=fun W'=>KV p.v q.v W';generalize vC p.v q.v=r at aD⊢;obtain⟨i,ww,v,day⟩:=p;obtain⟨i2,ww2,v2,day2⟩:=q;show Calls Tryz.prog 282 #[.agg #[I i,I ww,I v,I day],.agg #[I i2,I ww2,I v2,I day2]] W _;go_enter Tryz.func282,Tryz.ntmps282;go_wp2_with fail
 refine(aD _).mono ?_;rintro e w' ⟨rfl,rfl⟩;go_wp2
 go_ret
 exact⟨rfl,((Below.refl _ _).alloc (Nat.le_refl _) _).alloc (by simp) _⟩
theorem jO {W:World} {g n c:Nat} {ps:List Pt} (h:W.ownsRow 0 338 4 (.slice (some ⟨g,0,none⟩) n c) ps.length (zr ps)) (j:Nat) (hj:j<ps.length) (p:Pt) (hp:ps[j]! = p) :
 W.cell? ⟨g,j*4,none⟩=some (I p.id)/\W.cell? ⟨g,j*4+1,none⟩=some (I p.w)/\W.cell? ⟨g,j*4+2,none⟩=some (I p.v)/\W.cell? ⟨g,j*4+3,none⟩=some (I p.day):=by
 subst hp;have key:∀i v,(ps[j]!).cells[i]? = some v->W.cell? ⟨g,j*4+i,none⟩=some v:=fun i v hi=>by
  have:=h.cells (g:=g) rfl _ _ (um ps j i v hj hi);simpa [Addr.add_lit] using this
 exact⟨key 0 _ rfl,key 1 _ rfl,key 2 _ rfl,key 3 _ rfl⟩
theorem YJ {W:World} {g n c:Nat} {ps:List Pt} (h:W.ownsRow 0 338 4 (.slice (some ⟨g,0,none⟩) n c) ps.length (zr ps)) (hj:0<ps.length) (p:Pt) (hp:ps[0]! = p) :
 W.cell? ⟨g,0,none⟩=some (I p.id)/\W.cell? ⟨g,1,none⟩=some (I p.w)/\W.cell? ⟨g,2,none⟩=some (I p.v)/\W.cell? ⟨g,3,none⟩=some (I p.day):=by
 have:=jO h 0 hj p hp;simpa using this
def yj (W:World) (B:Nat) (p:Pt):Prop:=W.heap[B]? = some (.cells p.cells.toArray 338 (0,0))
theorem yj.cells {W:World} {B:Nat} {p:Pt} (h:yj W B p) :
 W.cell? ⟨B,0,none⟩=some (I p.id)/\W.cell? ⟨B,1,none⟩=some (I p.w)/\W.cell? ⟨B,2,none⟩=some (I p.v)/\W.cell? ⟨B,3,none⟩=some (I p.day):=by
 unfold yj at h;refine⟨?_,?_,?_,?_⟩ <;> simp[World.cell?,h,Pt.cells]
theorem yj.frozen {W:World} {B:Nat} {p:Pt} (h:yj W B p) (i:Nat):W.frozen? ⟨B,i,none⟩=false:=by
 unfold yj at h;simp[World.frozen?,h]
theorem yj.lt {W:World} {B:Nat} {p:Pt} (h:yj W B p):B<W.heap.size:=(Array.getElem?_eq_some_iff.1 h).1
theorem yj.below {W W':World} {B C:Nat} {p:Pt} (h:yj W B p) (hb:Below C W W') (hc:B<C):yj W' B p:=(hb.block B hc).trans h
theorem yj.store4 {W:World} {B:Nat} {p:Pt} (h:yj W B p) (q:Pt) :
 yj ((((W.setCell ⟨B,0,none⟩ (I q.id)).setCell ⟨B,1,none⟩ (I q.w)).setCell ⟨B,2,none⟩ (I q.v)).setCell ⟨B,3,none⟩ (I q.day)) B q:=by
 unfold yj at h⊢;simp[World.setCell,Array.getElem?_modify,h,Pt.cells]
theorem yj.other4 {W:World} {B C:Nat} {p:Pt} (h:yj W B p) (ay:B≠C) (q:Pt) :
 yj ((((W.setCell ⟨C,0,none⟩ (I q.id)).setCell ⟨C,1,none⟩ (I q.w)).setCell ⟨C,2,none⟩ (I q.v)).setCell ⟨C,3,none⟩ (I q.day)) B p:=by
 unfold yj at h⊢;rw[Below.heap_setCell _ _ _ _ ay,Below.heap_setCell _ _ _ _ ay,Below.heap_setCell _ _ _ _ ay,Below.heap_setCell _ _ _ _ ay];exact h
theorem Wu {ps:List Pt} {n:Nat} {p:Pt} (h:ps.length=n) (hn:0<n) (hp:ps[0]! = p):yv (ps.take 1)=p:=by
 cases ps with
 | nil=>simp at h;omega
 | cons q l=>simpa [yv] using hp
theorem bS {ps:List Pt} {k:Nat} {p m:Pt} (h1:1<=k) (hk:k<ps.length) (hp:ps[k]! = p) (hm:yv (ps.take k)=m):yv (ps.take (k+1))=vI m p:=by
 cases ps with
 | nil=>simp at hk
 | cons q l=>
  cases k with
  | zero=>omega
  | succ k=>
   have eO:k<l.length:=by simpa using hk
   have FM:l[k]=p:=by rw[List.getElem!_cons_succ] at hp;rwa [getElem!_pos l k eO] at hp
   simp only[List.take_succ_cons,yv] at hm⊢;rw[List.take_succ_eq_append_getElem eO,List.foldl_append,hm,FM];rfl
def VN (W:World) (g k:Nat) (p:Pt):Prop:=
 W.cell? ⟨g,k*4,none⟩=some (I p.id)/\W.cell? ⟨g,k*4+1,none⟩=some (I p.w)/\W.cell? ⟨g,k*4+2,none⟩=some (I p.v)/\W.cell? ⟨g,k*4+3,none⟩=some (I p.day)
abbrev Js (W W0:World) (g k:Nat) (p m:Pt):Prop:=
 (W.cell? ⟨g,k*4,none⟩=some (I p.id)/\W.cell? ⟨g,k*4+1,none⟩=some (I p.w)/\W.cell? ⟨g,k*4+2,none⟩=some (I p.v)/\W.cell? ⟨g,k*4+3,none⟩=some (I p.day)) /\
 W.cell? ⟨W0.heap.size+1,0,none⟩=some (I m.id)/\W.cell? ⟨W0.heap.size+1,1,none⟩=some (I m.w)/\W.cell? ⟨W0.heap.size+1,2,none⟩=some (I m.v)/\W.cell? ⟨W0.heap.size+1,3,none⟩=some (I m.day)
def ZI (W0 W:World) (g k:Nat) (p m:Pt):Prop:=
 VN W g k p/\Below W0.heap.size W0 W/\yj W W0.heap.size ⟨0,0,0,0⟩/\yj W (W0.heap.size+1) m
theorem ZI.cells {W0 W:World} {g k:Nat} {p m:Pt} (h:ZI W0 W g k p m):Js W W0 g k p m:=⟨h.1,h.2.2.2.cells⟩
theorem ZI.below {W0 W W':World} {g k:Nat} {p m:Pt} (h:ZI W0 W g k p m) (hb:Below W.heap.size W W') (hg:g<W0.heap.size):ZI W0 W' g k p m:=by
 obtain⟨⟨c0,c1,c2,c3⟩,h1,h2,h3⟩:=h;have hs:=h1.size;have hc:∀i,W'.cell? ⟨g,i,none⟩=W.cell? ⟨g,i,none⟩:=fun i=>hb.cell (p:=⟨g,i,none⟩) (by show g<W.heap.size;omega);exact⟨⟨(hc _).trans c0,(hc _).trans c1,(hc _).trans c2,(hc _).trans c3⟩,h1.trans (hb.mono hs),h2.below hb h2.lt,h3.below hb h3.lt⟩
theorem bT (g cap:Nat) (ps:List Pt) (W:World) (h:W.ownsRow 0 338 4 (.slice (some ⟨g,0,none⟩) ps.length cap) ps.length (zr ps)) (hn:0<ps.length) (hm:ps.length<=64) :
 Calls Tryz.prog 281 #[.slice (some ⟨g,0,none⟩) ps.length cap,.func (.func 282) #[] #[]] W fun e w'=>e=.returned (.agg (yv ps).cells.toArray)/\Below W.heap.size W w':=by
 obtain⟨p0,NU⟩:∃p0,ps[0]! = p0:=⟨_,rfl⟩
 obtain⟨c0,c1,c2,c3⟩:=YJ h hn p0 NU;have hg:=(h.lt g rfl).2;have mF:¬(ps.length:Int)<1:=by omega
 obtain⟨n,HN⟩:∃n,Hid (ps.length=n):=⟨_,lH rfl⟩
 have HW:=lH h;have HP:=lH NU;clear h NU;rw[HN.out] at hn hm mF⊢;obtain⟨i,ww,v,day⟩:=p0;simp only at c0 c1 c2 c3;go_enter Tryz.func281,Tryz.ntmps281;go_wp2
 go_loopw [6] (fun x wr=>∃k:Nat,1<=k/\k<=n/\x=I k/\Hid (Below W.heap.size W wr/\yj wr W.heap.size ⟨0,0,0,0⟩/\yj wr (W.heap.size+1) (yv (ps.take k)))) (fun x _=>n-(intOf x).toNat)
 case atStart=>
  refine⟨1,Nat.le_refl _,hn,rfl,lH ⟨((Below.refl _ _).alloc (Nat.le_refl _) _).alloc (by simp) _,?_,?_⟩⟩
  · unfold yj;rw[Below.heap_alloc _ _ _ (by simp)];exact heap_alloc_new W _
  · rw[Wu HN.out hn HP.out];unfold yj;have:=heap_alloc_new (W.alloc (Obj.cells #[I 0,I 0,I 0,I 0] 338)) (Obj.cells #[I i,I ww,I v,I day] 338);simpa [Pt.cells] using this
 case round=>
  obtain⟨k,iY,ly,rfl,HR⟩:=hrel;clear c0 c1 c2 c3 mF;obtain⟨R1,R2,R3⟩:=HR.out;have hs:=R3.lt;obtain⟨m,AZ⟩:∃m,yv (ps.take k)=m:=⟨_,rfl⟩
  rw[AZ] at R3;have HM:=lH AZ;clear AZ;by_cases aS:k<n
  · obtain⟨p,hp⟩:∃p,ps[k]! = p:=⟨_,rfl⟩
    have rt:wr.ownsRow 0 338 4 (.slice (some ⟨g,0,none⟩) ps.length cap) ps.length (zr ps):=zb HW.out (fun j hj=>by simp[Value.ownBlock] at hj;subst hj;exact R1.block g hg);obtain⟨c0,c1,c2,c3⟩:=jO rt k (by rw[HN.out];exact aS) p hp;have HP:=lH hp;clear hp rt;obtain⟨d0,d1,d2,d3⟩:=R3.cells;have aD:=fun W'=>KU p m W';obtain⟨r,hr⟩:∃r,vC p.v m.v=r:=⟨_,rfl⟩
    rw[hr] at aD;have HC:=lH hr;clear hr;obtain⟨i1,ww1,v1,day1⟩:=p;obtain⟨i2,ww2,v2,day2⟩:=m;simp only[Pt.cells] at c0 c1 c2 c3 d0 d1 d2 d3 aD;have LM:g≠W.heap.size+1:=by omega
    have hq:Below W.heap.size W wr/\yj wr W.heap.size ⟨0,0,0,0⟩/\yj wr (W.heap.size+1) ⟨i2,ww2,v2,day2⟩:=⟨R1,R2,R3⟩
    have HW':=lH (⟨c0,c1,c2,c3⟩:VN wr g k ⟨i1,ww1,v1,day1⟩);clear R1 R2 R3 c0 c1 c2 c3 d0 d1 d2 d3;have ah:(k:Int)<(n:Int):=by omega
    have aX:0<=(k:Int):=by omega
    go_upto_region 7 with fail
    go_cut [27] (fun c W2=>c=.bool (decide (r<0))/\ZI W W2 g k ⟨i1,ww1,v1,day1⟩ ⟨i2,ww2,v2,day2⟩)
    case first=>
     have hS:ZI W wr.drew g k ⟨i1,ww1,v1,day1⟩ ⟨i2,ww2,v2,day2⟩:=⟨HW'.out,hq.1.drew,hq.2⟩
     go_wp2_with fail
     obtain⟨⟨c0,c1,c2,c3⟩,d0,d1,d2,d3⟩:=hS.cells;simp only at c0 c1 c2 c3 d0 d1 d2 d3;go_region_held3 (fun W2=>Js W2 W g k ⟨i1,ww1,v1,day1⟩ ⟨i2,ww2,v2,day2⟩) (first | (with_reducible exact hS.cells) | fail) (first | (go_at_call 282;with_reducible refine(aD _).mono ?_;rintro e w9 ⟨rfl,hb⟩;have hS:=hS.below hb hg;obtain⟨⟨c0,c1,c2,c3⟩,d0,d1,d2,d3⟩:=hS.cells;simp only at c0 c1 c2 c3 d0 d1 d2 d3) | fail)
     all_goals (go_wp2_with fail;go_meet;exact⟨rfl,hS⟩)
    case rest=>
     obtain⟨rfl,hS⟩:=hcut;have HS:=lH hS;obtain⟨⟨c0,c1,c2,c3⟩,d0,d1,d2,d3⟩:=hS.cells;simp only at c0 c1 c2 c3 d0 d1 d2 d3;have f:=fun i=>hS.2.2.2.frozen i;have f0:=f 0;have f1:=f 1;have f2:=f 2;have f3:=f 3;clear f hS;by_cases hr:r<0
     · have hd:decide (r<0)=true:=decide_eq_true hr;rw[hd];go_wp2
       go_roundw
       case rel=>
        have hS:=HS.out;refine⟨k+1,by omega,aS,by go_num,lH ⟨?_,hS.2.2.1.other4 (by omega) ⟨i1,ww1,v1,day1⟩,?_⟩⟩
        · exact(((hS.2.1.setCell (by simp) _).setCell (by simp) _).setCell (by simp) _).setCell (by simp) _
        · rw[bS iY (by rw[HN.out];exact aS) HP.out HM.out];have e:vI ⟨i2,ww2,v2,day2⟩ ⟨i1,ww1,v1,day1⟩=⟨i1,ww1,v1,day1⟩:=by
           have h1:=HC.out;unfold vC at h1;unfold vI;simp only at h1⊢;split
           · rfl
           · rename_i h2;rw[if_neg h2] at h1;split at h1 <;> omega
          rw[e];exact hS.2.2.2.store4 ⟨i1,ww1,v1,day1⟩
       case measure=>simp[intOf];omega
     · have hd:decide (r<0)=false:=decide_eq_false hr;rw[hd];go_wp2
       go_roundw
       case rel=>
        have hS:=HS.out;refine⟨k+1,by omega,aS,by go_num,lH ⟨hS.2.1,hS.2.2.1,?_⟩⟩;rw[bS iY (by rw[HN.out];exact aS) HP.out HM.out];have e:vI ⟨i2,ww2,v2,day2⟩ ⟨i1,ww1,v1,day1⟩=⟨i2,ww2,v2,day2⟩:=by
         have h1:=HC.out;unfold vC at h1;unfold vI;simp only at h1⊢;split
         · rename_i h2;rw[if_pos h2] at h1;omega
         · rfl
        rw[e];exact hS.2.2.2
       case measure=>simp[intOf];omega
  · obtain rfl:k=n:=by omega
    obtain⟨d0,d1,d2,d3⟩:=R3.cells;obtain⟨e0,e1,e2,e3⟩:=R2.cells;have f:=fun i=>R2.frozen i;have f0:=f 0;have f1:=f 1;have f2:=f 2;have f3:=f 3;clear f;have HB:=lH R1;have g:=(R2.store4 m).cells;obtain⟨g0,g1,g2,g3⟩:=g;have iG:=lH g0;have eV:=lH g1;have oO:=lH g2;have EC:=lH g3;clear R1 R2 R3 g0 g1 g2 g3;go_wp2
    have BG:yv ps=m:=by rw[<- HM.out,List.take_of_length_le (by rw[HN.out];exact Nat.le_refl _)]
    exact bodyPost_ret (v:=.agg m.cells.toArray) (by simp[results,Tryz.results281,go_sem,iG.out,eV.out,oO.out,EC.out,Pt.cells]) rfl ⟨by rw[BG],(((HB.out.setCell (by simp) _).setCell (by simp) _).setCell (by simp) _).setCell (by simp) _⟩
theorem QT {W w':World} (hb:Below (W.alloc (.cells #[I 0,I 0,I 0,I 0] 338)).heap.size (W.alloc (.cells #[I 0,I 0,I 0,I 0] 338)) w') :
 w'.cell? ⟨W.heap.size,0,none⟩=some (I 0)/\w'.cell? ⟨W.heap.size,1,none⟩=some (I 0)/\w'.cell? ⟨W.heap.size,2,none⟩=some (I 0)/\w'.cell? ⟨W.heap.size,3,none⟩=some (I 0):=by
 have aJ:yj w' W.heap.size ⟨0,0,0,0⟩:=(hb.block W.heap.size (by simp)).trans (heap_alloc_new W _)
 exact aJ.cells
theorem VZ {W w':World} (hb:Below (W.alloc (.cells #[I 0,I 0,I 0,I 0] 338)).heap.size (W.alloc (.cells #[I 0,I 0,I 0,I 0] 338)) w') :
 w'.frozen? ⟨W.heap.size,0,none⟩=false/\w'.frozen? ⟨W.heap.size,1,none⟩=false/\w'.frozen? ⟨W.heap.size,2,none⟩=false/\w'.frozen? ⟨W.heap.size,3,none⟩=false:=by
 have aJ:yj w' W.heap.size ⟨0,0,0,0⟩:=(hb.block W.heap.size (by simp)).trans (heap_alloc_new W _)
 exact⟨aJ.frozen _,aJ.frozen _,aJ.frozen _,aJ.frozen _⟩
theorem q8 (b:Nat) (v:Value) (l:Ln) (W:World) (h:LineAt W b v l) (ag:l.ps.length<=64) :
 Calls Tryz.prog 274 #[.pointer (some ⟨b,0,none⟩)] W fun e w'=>e=.returned (.tuple #[.agg (yv l.ps).cells.toArray,.bool (!l.ps.isEmpty)])/\Below W.heap.size W w':=by
 have le:=h.sl;have hb:=h.lt b (.inl rfl);have aa:=h.row;obtain⟨ps,HP⟩:∃ps,Hid (l.ps=ps):=⟨_,lH rfl⟩
 rw[HP.out] at aa ag⊢;rcases aa.2 with⟨rfl,h0⟩ | ⟨g,cap,cur,rfl,l7,la,hn,hm,mH,ht⟩
 · have:ps=[]:=List.length_eq_zero_iff.1 h0;have HR:=lH this;clear this h0 aa ag;rw[HR.out];go_enter Tryz.func274,Tryz.ntmps274;go_wp2
   exact bodyPost_ret (v:=.tuple #[.agg #[I 0,I 0,I 0,I 0],.bool false]) (by simp[results,Tryz.results274,go_sem]) rfl ⟨rfl,(Below.refl _ _).alloc (Nat.le_refl _) _⟩
 · clear la mH ht hn;cases iV:ps with
   | nil=>
    have HR:=lH iV;clear iV;rw[HR.out] at le;simp only[List.length_nil] at le;go_enter Tryz.func274,Tryz.ntmps274;go_wp2
    exact bodyPost_ret (v:=.tuple #[.agg #[I 0,I 0,I 0,I 0],.bool false]) (by simp[results,Tryz.results274,go_sem]) rfl ⟨rfl,(Below.refl _ _).alloc (Nat.le_refl _) _⟩
   | cons p0 l0=>
    rw[<- iV];have lp:0<ps.length:=by rw[iV];simp
    have he:(!ps.isEmpty)=true:=by rw[iV];rfl
    rw[he];have aD:=fun W' (hk:W'.ownsRow 0 338 4 (.slice (some ⟨g,0,none⟩) ps.length cap) ps.length (zr ps))=>bT g cap ps W' hk lp ag;have Bw:=aD _ (aa.alloc (.cells #[I 0,I 0,I 0,I 0] 338));obtain⟨m,LO⟩:∃m,yv ps=m:=⟨_,rfl⟩
    rw[LO] at Bw⊢;obtain⟨n,HN⟩:∃n,Hid (ps.length=n):=⟨_,lH rfl⟩
    rw[HN.out] at Bw le lp ag;have si:¬(n:Int)=0:=by omega
    have HR:=lH iV;clear iV aD aa he LO;go_enter Tryz.func274,Tryz.ntmps274;go_wp2_with fail
    refine Bw.mono ?_;rintro e w' ⟨rfl,i9⟩;obtain⟨d0,d1,d2,d3⟩:=QT (W:=W) i9;obtain⟨f0,f1,f2,f3⟩:=VZ (W:=W) i9;have HB:=lH i9;have aJ:yj w' W.heap.size ⟨0,0,0,0⟩:=(i9.block W.heap.size (by simp)).trans (heap_alloc_new W _)
    obtain⟨g0,g1,g2,g3⟩:=(aJ.store4 m).cells;have iG:=lH g0;have eV:=lH g1;have oO:=lH g2;have EC:=lH g3;clear i9 aJ g0 g1 g2 g3;obtain⟨i,ww,v,day⟩:=m;simp only[Pt.cells];go_wp2
    exact bodyPost_ret (v:=.tuple #[.agg #[I i,I ww,I v,I day],.bool true]) (by simp[results,Tryz.results274,go_sem,iG.out,eV.out,oO.out,EC.out]) rfl ⟨rfl,((((((Below.refl _ _).alloc (Nat.le_refl _) _).trans (HB.out.mono (by simp))).setCell (by simp) _).setCell (by simp) _).setCell (by simp) _).setCell (by simp) _⟩
end Go.Proofs.YtoiajjobecinpaaGreat
namespace Go.Proofs.YtoiajjobecinpaaGreat
open Go.RowKit Go.Shelf Go.Lib Go.Proofs Go.Sort
set_option linter.unusedVariables false
set_option linter.unusedSimpArgs false
def Tryz.l278_ren:Go.Shelf.Ren:=⟨fun | 6=>278 | 15=>181 | 14=>286 | 28=>199 | 29=>200 | 20=>288 | 21=>289 | 22=>290 | 23=>291 | 24=>292 | 25=>293 | 26=>294 | 27=>295 | 46=>296 | 47=>210 | 48=>211 | 49=>297 | 50=>298 | 57=>299 | n=>n,fun | 22=>265 | 24=>338 | 25=>363 | 3=>3 | 39=>154 | 0=>0 | 53=>296 | 55=>298 | 4=>4 | 46=>290 | 45=>289 | 50=>101 | 5=>5 | 9=>9 | 66=>307 | 70=>311 | 76=>325 | 77=>223 | n=>n,fun | n=>n⟩
theorem Tryz.l278:Go.Proofs.SlLaysF0.n6 Tryz.prog Tryz.l278_ren:={
 mixed:=by kernel_rfl
 f6:=⟨Tryz.f278.name,by decide,Tryz.func278.trans (congrArg some (by kernel_rfl))⟩
 f14:=⟨Tryz.f286.name,by decide,Tryz.func286.trans (congrArg some (by kernel_rfl))⟩
 f15:=Tryz.func181.trans (congrArg some (by kernel_rfl))
 f20:=⟨Tryz.f288.name,by decide,Tryz.func288.trans (congrArg some (by kernel_rfl))⟩
 f21:=⟨Tryz.f289.name,by decide,Tryz.func289.trans (congrArg some (by kernel_rfl))⟩
 f22:=⟨Tryz.f290.name,by decide,Tryz.func290.trans (congrArg some (by kernel_rfl))⟩
 f23:=⟨Tryz.f291.name,by decide,Tryz.func291.trans (congrArg some (by kernel_rfl))⟩
 f24:=⟨Tryz.f292.name,by decide,Tryz.func292.trans (congrArg some (by kernel_rfl))⟩
 f25:=⟨Tryz.f293.name,by decide,Tryz.func293.trans (congrArg some (by kernel_rfl))⟩
 f26:=⟨Tryz.f294.name,by decide,Tryz.func294.trans (congrArg some (by kernel_rfl))⟩
 f27:=⟨Tryz.f295.name,by decide,Tryz.func295.trans (congrArg some (by kernel_rfl))⟩
 f28:=Tryz.func199.trans (congrArg some (by kernel_rfl))
 f29:=Tryz.func200.trans (congrArg some (by kernel_rfl))
 f46:=⟨Tryz.f296.name,by decide,Tryz.func296.trans (congrArg some (by kernel_rfl))⟩
 f47:=Tryz.func210.trans (congrArg some (by kernel_rfl))
 f48:=Tryz.func211.trans (congrArg some (by kernel_rfl))
 f49:=⟨Tryz.f297.name,by decide,Tryz.func297.trans (congrArg some (by kernel_rfl))⟩
 f50:=⟨Tryz.f298.name,by decide,Tryz.func298.trans (congrArg some (by kernel_rfl))⟩
 f57:=⟨Tryz.f299.name,by decide,Tryz.func299.trans (congrArg some (by kernel_rfl))⟩
 t0:=Tryz.underlying0
 a0:=Tryz.isAgg0
 z0:=Tryz.sizeOf0
 v0:=Tryz.zeroValue0
 t3:=Tryz.underlying3
 a3:=Tryz.isAgg3
 z3:=Tryz.sizeOf3
 v3:=Tryz.zeroValue3
 t4:=Tryz.underlying4
 a4:=Tryz.isAgg4
 z4:=Tryz.sizeOf4
 v4:=Tryz.zeroValue4
 t5:=Tryz.underlying5
 a5:=Tryz.isAgg5
 z5:=Tryz.sizeOf5
 v5:=Tryz.zeroValue5
 t9:=Tryz.underlying9
 a9:=Tryz.isAgg9
 z9:=Tryz.sizeOf9
 v9:=Tryz.zeroValue9
 t22:=Tryz.underlying265
 a22:=Tryz.isAgg265
 z22:=Tryz.sizeOf265
 v22:=Tryz.zeroValue265
 t25:=Tryz.underlying363
 a25:=Tryz.isAgg363
 z25:=Tryz.sizeOf363
 v25:=Tryz.zeroValue363
 t39:=Tryz.underlying154
 a39:=Tryz.isAgg154
 z39:=Tryz.sizeOf154
 v39:=Tryz.zeroValue154
 t45:=Tryz.underlying289
 a45:=Tryz.isAgg289
 z45:=Tryz.sizeOf289
 v45:=Tryz.zeroValue289
 t46:=Tryz.underlying290
 a46:=Tryz.isAgg290
 z46:=Tryz.sizeOf290
 v46:=Tryz.zeroValue290
 t50:=Tryz.underlying101
 a50:=Tryz.isAgg101
 z50:=Tryz.sizeOf101
 v50:=Tryz.zeroValue101
 t53:=Tryz.underlying296
 a53:=Tryz.isAgg296
 z53:=Tryz.sizeOf296
 v53:=Tryz.zeroValue296
 t55:=Tryz.underlying298
 a55:=Tryz.isAgg298
 z55:=Tryz.sizeOf298
 v55:=Tryz.zeroValue298
 t66:=Tryz.underlying307
 a66:=Tryz.isAgg307
 z66:=Tryz.sizeOf307
 v66:=Tryz.zeroValue307
 t70:=Tryz.underlying311
 a70:=Tryz.isAgg311
 z70:=Tryz.sizeOf311
 v70:=Tryz.zeroValue311
 t76:=Tryz.underlying325
 a76:=Tryz.isAgg325
 z76:=Tryz.sizeOf325
 v76:=Tryz.zeroValue325
 t77:=Tryz.underlying223
 a77:=Tryz.isAgg223
 z77:=Tryz.sizeOf223
 v77:=Tryz.zeroValue223}
theorem Uc (x y:Int) (W:World):Calls Tryz.prog 160 #[I x,I y] W fun e w'=>e=.returned (I (vC x y))/\W=w':=by
 unfold vC;go_enter Tryz.func160,Tryz.ntmps160;go_wp2
 all_goals (go_ret;exact⟨by simp_all,rfl⟩)
theorem Yc (x y:Pt) (W:World):Calls Tryz.prog 279 #[.agg x.cells.toArray,.agg y.cells.toArray] W fun e w'=>e=.returned (I (vC x.id y.id))/\∃q os',w'=grow (W.drewN q) os':=by
 have aD:=fun W'=>Uc x.id y.id W';generalize vC x.id y.id=r at aD⊢;obtain⟨i,ww,v,day⟩:=x;obtain⟨i2,ww2,v2,day2⟩:=y;simp only at aD;show Calls Tryz.prog 279 #[.agg #[I i,I ww,I v,I day],.agg #[I i2,I ww2,I v2,I day2]] W _;go_enter Tryz.func279,Tryz.ntmps279;go_wp2_with (go_at_call 160;refine(aD _).mono ?_;rintro e w' ⟨rfl,rfl⟩)
 go_ret
 exact⟨rfl,0,_,by rw[alloc_eq_grow,alloc_eq_grow,grow_grow];rfl⟩
theorem Km (x y:Pt):ltOf (fun x y:Pt=>vC x.id y.id) x y=decide (x.id<y.id):=by
 unfold ltOf vC;by_cases h1:x.id<y.id
 · simp[h1]
 · by_cases h2:y.id<x.id <;> simp[h1,h2]
theorem J6:SWO (ltOf fun x y:Pt=>vC x.id y.id) where
 irrefl x:=by rw[Km];simp
 trans x y z h1 h2:=by rw[Km] at *;simp at *;omega
 ntrans x y z h1 h2:=by rw[Km] at *;simp at *;omega
theorem jz (p:Pt) (c:Nat) (hc:c<4):p.cells[c]? = some (p.cells[c]!):=by
 have:c=0\/c=1\/c=2\/c=3:=by omega
 rcases this with rfl | rfl | rfl | rfl <;> rfl
theorem qQ {W:World} {g n c:Nat} {ps:List Pt} (h:W.ownsRow 0 338 4 (.slice (some ⟨g,0,none⟩) n c) ps.length (zr ps)) :
 HoldsK Pt.cells 4 W g 0 ps.toArray:=by
 intro t ht;rw[size_flatK] at ht;have JQ:t<ps.length*4:=by simpa using ht
 have hk:t/4<ps.length:=by omega
 constructor
 · rw[get_flatK _ _ _ _ ht];have e:ps.toArray[t/4]! = ps[t/4]!:=by simp
   have:=h.cells (g:=g) rfl _ _ (um ps (t/4) (t%4) _ hk (jz _ _ (by omega)));rw[show t/4*4+t%4=t from by omega] at this;rw[Nat.zero_add,e];simpa [Addr.add_lit] using this
 · rcases h.2 with⟨h1,_⟩ | ⟨g',cap,cur,h1,_,la,_⟩
   · cases h1
   · simp only[Value.slice.injEq,Option.some.injEq,Addr.mk.injEq] at h1;obtain⟨⟨rfl,_⟩,_⟩:=h1;simp[World.frozen?,la]
theorem wU {W:World} {g cap:Nat} {cur:Array Value} {ps:List Pt} (hg:W.heap[g]? = some (.cells cur 338 (0,0))) (h1:ps.length<=cap) (h2:cap<=maxLen) (h3:cur.size=cap*4)
 (hc:∀k,k<ps.length->∀i v,(ps[k]!).cells[i]? = some v->W.cell? ⟨g,k*4+i,none⟩=some v) :
 W.ownsRow 0 338 4 (.slice (some ⟨g,0,none⟩) ps.length cap) ps.length (zr ps):=by
 refine⟨yu ps,.inr ⟨g,cap,cur,rfl,Nat.zero_le _,hg,h1,h2,h3,?_⟩⟩;apply List.ext_getElem?
 intro t;by_cases ht:t<ps.length*4
 · have hk:t/4<ps.length:=by omega
   have hv:=jz (ps[t/4]!) (t%4) (by omega);have e1:=um ps _ _ _ hk hv;have e2:=hc _ hk _ _ hv;rw[show t/4*4+t%4=t from by omega] at e1 e2;rw[e1,List.getElem?_take,if_pos ht];simpa [World.cell?,hg] using e2
 · rw[List.getElem?_take,if_neg ht,List.getElem?_eq_none];rw[yu];omega
end Go.Proofs.YtoiajjobecinpaaGreat
namespace Go.Proofs.YtoiajjobecinpaaGreat
open Go.RowKit Go.Shelf Go.Lib Go.Proofs
set_option linter.unusedVariables false
set_option linter.unusedSimpArgs false
theorem za {W:World} {p q:Addr} (x:Value) (h:q≠p):(W.setCell p x).cell? q=W.cell? q:=World.cell?_setCell_other _ _ _ _ (fun e=>h e.symm)
theorem LineAt.setBase {W:World} {b:Nat} {v:Value} {l:Ln} (h:LineAt W b v l) (x:Int):LineAt (W.setCell ⟨b,0,none⟩ (I x)) b v ⟨x,l.cur,l.ps⟩:=by
 refine⟨World.cell?_setCell_same _ _ _ h.base,?_,?_,fun i=>?_,?_,h.ne⟩
 · rw[za _ (by simp)];exact h.cur
 · rw[za _ (by simp)];exact h.sl
 · rw[World.frozen?_setCell];exact h.live i
 · exact zb h.row (fun k hk=>Below.heap_setCell _ _ _ _ (by rintro rfl;exact h.ne hk))
theorem LineAt.setCur {W:World} {b:Nat} {v:Value} {l:Ln} (h:LineAt W b v l) (x:Int):LineAt (W.setCell ⟨b,1,none⟩ (I x)) b v ⟨l.base,x,l.ps⟩:=by
 refine⟨?_,World.cell?_setCell_same _ _ _ h.cur,?_,fun i=>?_,?_,h.ne⟩
 · rw[za _ (by simp)];exact h.base
 · rw[za _ (by simp)];exact h.sl
 · rw[World.frozen?_setCell];exact h.live i
 · exact zb h.row (fun k hk=>Below.heap_setCell _ _ _ _ (by rintro rfl;exact h.ne hk))
theorem LineAt.alloc {W:World} {b:Nat} {v:Value} {l:Ln} (h:LineAt W b v l) (o:Obj):LineAt (W.alloc o) b v l:=h.below ((Below.refl _ _).alloc (Nat.le_refl _) _)
theorem LineAt.drew {W:World} {b:Nat} {v:Value} {l:Ln} (h:LineAt W b v l):LineAt W.drew b v l:=h.below ((Below.refl _ _).drew)
theorem zG (W:World) (b i:Nat) (x:Value):Touch (fun k=>k=b) W (W.setCell ⟨b,i,none⟩ x):=(Touch.refl (fun k=>k=b) W).setCell (t:=none) (c:=b) (.inl rfl) x
theorem Touch.self {F:Nat->Prop} {a b c:World} (h:Touch F a b) (k:Touch F b c):Touch F a c:=h.trans (uk.refl _ _) k
theorem uU {W w1:World} (hb:Below W.heap.size W w1):(∀b o,b<W.heap.size->w1.cell? ⟨b,o,none⟩=W.cell? ⟨b,o,none⟩)/\(∀b o,b<W.heap.size->w1.frozen? ⟨b,o,none⟩=W.frozen? ⟨b,o,none⟩):=
 ⟨fun b o h=>hb.cell (p:=⟨b,o,none⟩) h,fun b o h=>hb.frozen (p:=⟨b,o,none⟩) h⟩
theorem uX (b:Nat) (v:Value) (l:Ln) (W:World) (h:LineAt W b v l) (ag:l.ps.length<=64) :
 Calls Tryz.prog 277 #[.pointer (some ⟨b,0,none⟩)] W fun e w'=>e=.returned (.tuple #[])/\LineAt w' b v ⟨yY l.base l.ps,l.cur,l.ps⟩/\Touch (fun k=>k=b) W w':=by
 have aD:=q8 b v l W h ag;cases iV:l.ps with
 | nil=>
  rw[iV] at aD;rw[show yv []=⟨0,0,0,0⟩ from rfl,show(!([]:List Pt).isEmpty)=false from rfl] at aD;simp only[Pt.cells] at aD;have HP:=lH iV;clear iV;go_enter Tryz.func277,Tryz.ntmps277;go_wp2_with fail
  refine aD.mono ?_;rintro e w' ⟨rfl,i9⟩;have HB:=lH i9;clear i9;go_wp2
  go_end0
  refine⟨rfl,?_,(Touch.of_below HB.out).alloc _⟩;have h2:=(h.below HB.out).alloc (.cells #[I 0,I 0,I 0,I 0] 338);obtain⟨B0,C0,ps⟩:=l;have hp:=HP.out;simp only at hp;subst hp;exact h2
 | cons p0 l0=>
  rw[<- iV];obtain⟨m,hm⟩:∃m,yv l.ps=m:=⟨_,rfl⟩
  have he:(!l.ps.isEmpty)=true:=by rw[iV];rfl
  have hg:yY l.base l.ps=if l.base<m.v then m.v else l.base:=by rw[<- hm,iV];rfl
  rw[he,hm] at aD;have HP:=lH iV;have HG:=lH hg;clear iV he hm hg;obtain⟨i,ww,mv,day⟩:=m;simp only[Pt.cells] at aD;go_enter Tryz.func277,Tryz.ntmps277;go_wp2_with fail
  refine aD.mono ?_;rintro e w' ⟨rfl,i9⟩;have hL:=h.below i9;have lk:=hL.base;have Nj:=hL.live 0;have ah:=hL.lt b (.inl rfl);have HB:=lH i9;have HL:=lH hL;clear i9 hL;go_wp2
  go_region
  go_wp2_with fail
  go_end0
  have h1:=HG.out;have e:max l.base mv=yY l.base l.ps:=by
   rw[h1];split <;> omega
  refine⟨rfl,?_,?_⟩
  · rw[<- e];exact((HL.out.setBase _).alloc _).drew
  · exact((((Touch.of_below (F:=fun k=>k=b) HB.out).setCell (t:=none) (.inl rfl) _).alloc _)).drew
abbrev qI (W:World) (g o:Nat) (q:Pt):World:=
 (((W.setCell ⟨g,o,none⟩ (I q.id)).setCell ⟨g,o+1,none⟩ (I q.w)).setCell ⟨g,o+2,none⟩ (I q.v)).setCell ⟨g,o+3,none⟩ (I q.day)
theorem de {W:World} {g o:Nat} {q:Pt} {a:Addr} (h:∀i,i<4->a≠⟨g,o+i,none⟩):(qI W g o q).cell? a=W.cell? a:=by
 have h0:a≠⟨g,o,none⟩:=h 0 (by omega);rw[za _ (h 3 (by omega)),za _ (h 2 (by omega)),za _ (h 1 (by omega)),za _ h0]
theorem dS {W:World} {g o:Nat} {q:Pt} {k:Nat} (h:k≠g):(qI W g o q).heap[k]? = W.heap[k]?:=by
 unfold qI;rw[Below.heap_setCell _ _ _ _ h,Below.heap_setCell _ _ _ _ h,Below.heap_setCell _ _ _ _ h,Below.heap_setCell _ _ _ _ h]
theorem yB {w:World} {a i:Nat} {v:Value} {cs:Array Value} {T:TypeId} (h:w.heap[a]? = some (.cells cs T (0,0))) :
 (w.setCell ⟨a,i,none⟩ v).heap[a]? = some (.cells (cs.setIfInBounds i v) T (0,0)):=by
 simp[World.setCell,Array.getElem?_modify,h]
theorem Zj {W:World} {g o:Nat} {q:Pt} {cur:Array Value} (h:W.heap[g]? = some (.cells cur 338 (0,0))) :
 (qI W g o q).heap[g]? = some (.cells ((((cur.setIfInBounds o (I q.id)).setIfInBounds (o+1) (I q.w)).setIfInBounds (o+2) (I q.v)).setIfInBounds (o+3) (I q.day)) 338 (0,0)):=
 yB (yB (yB (yB h)))
theorem wH (ps:List Pt) (k j:Nat) (q:Pt) (hj:j<ps.length):(ps.set k q)[j]! = if k=j then q else ps[j]!:=by
 rw[getElem!_pos _ j (by simpa using hj),List.getElem_set,getElem!_pos ps j hj]
theorem LineAt.setPt {W:World} {b g n cap:Nat} {l:Ln} (h:LineAt W b (.slice (some ⟨g,0,none⟩) n cap) l) (k:Nat) (hk:k<l.ps.length) (q:Pt) :
 LineAt (qI W g (k*4) q) b (.slice (some ⟨g,0,none⟩) n cap) ⟨l.base,l.cur,l.ps.set k q⟩:=by
 have ay:b≠g:=fun e=>h.ne (by rw[e];rfl);have i9:=dS (W:=W) (o:=k*4) (q:=q) ay;have h0:∀i,(qI W g (k*4) q).cell? ⟨b,i,none⟩=W.cell? ⟨b,i,none⟩:=fun i=>World.cell?_of_block i9;have h1:∀i,(qI W g (k*4) q).frozen? ⟨b,i,none⟩=W.frozen? ⟨b,i,none⟩:=fun i=>World.frozen?_of_block i9;refine⟨(h0 0).trans h.base,(h0 1).trans h.cur,(h0 2).trans h.sl,fun i=>(h1 i).trans (h.live i),?_,h.ne⟩;have aa:=h.row;rcases aa.2 with⟨e,_⟩ | ⟨g',cap',cur,e,_,la,hn,hm,mH,_⟩
 · cases e
 · simp only[Value.slice.injEq,Option.some.injEq,Addr.mk.injEq] at e;obtain⟨⟨rfl,_⟩,rfl,rfl⟩:=e;have hl:(l.ps.set k q).length=l.ps.length:=by simp
   have:=wU (ps:=l.ps.set k q) (Zj (o:=k*4) (q:=q) la) (by rw[hl];exact hn) hm (by simp;exact mH) (fun j hj i v hv=>?_)
   · simp only
     rw[hl] at this⊢;exact this
   · have l9:j<l.ps.length:=by simpa using hj
     have hi:i<4:=by
      have:=(List.getElem?_eq_some_iff.1 hv).1;simpa [Pt.cells] using this
     rw[wH _ _ _ _ l9] at hv;by_cases e:k=j
     · subst e;rw[if_pos rfl] at hv;have hs:k*4+4<=cur.size:=by omega
       have ap:(qI W g (k*4) q).cell? ⟨g,k*4+i,none⟩=_:=cell_of_row _ g (k*4+i) _ 338 (0,0) (Zj la);rw[ap];have h4:i=0\/i=1\/i=2\/i=3:=by omega
       rcases h4 with rfl | rfl | rfl | rfl <;> simp[Pt.cells] at hv <;> subst hv <;> simp[Array.getElem?_setIfInBounds] <;> (try omega)
     · rw[if_neg e] at hv;rw[de (fun i' nh ee=>by injection ee;omega)];have:=aa.cells (g:=g) rfl _ _ (um l.ps j i v l9 hv);simpa [Addr.add_lit] using this
theorem kD (W:World) (g o:Nat) (q:Pt):Touch (fun k=>k=g) W (qI W g o q):=by
 have t:∀(W:World) (o:Nat) (x:Value),Touch (fun k=>k=g) W (W.setCell ⟨g,o,none⟩ x):=fun W o x=>zG W g o x;exact(((t _ _ _).self (t _ _ _)).self (t _ _ _)).self (t _ _ _)
theorem LineAt.rowLive {W:World} {b g n cap:Nat} {l:Ln} (h:LineAt W b (.slice (some ⟨g,0,none⟩) n cap) l) (i:Nat):W.frozen? ⟨g,i,none⟩=false:=by
 rcases h.row.2 with⟨e,_⟩ | ⟨g',cap',cur,e,_,la,_⟩
 · cases e
 · simp only[Value.slice.injEq,Option.some.injEq,Addr.mk.injEq] at e;obtain⟨⟨rfl,_⟩,rfl,rfl⟩:=e;simp[World.frozen?,la]
theorem yq {ps:List Pt} {k:Nat} (hk:k<ps.length):ps[k]! = ps[k]:=getElem!_pos ps k hk
theorem LineAt.cells {W:World} {b g n cap:Nat} {l:Ln} (h:LineAt W b (.slice (some ⟨g,0,none⟩) n cap) l) {k:Nat} (hk:k<l.ps.length) {p:Pt} (hp:l.ps[k]! = p):VN W g k p:=by
 have aa:=h.row;exact jO (n:=n) (c:=cap) aa k hk p hp
theorem LineAt.form {W:World} {b:Nat} {v:Value} {l:Ln} (h:LineAt W b v l) (hk:0<l.ps.length):∃g cap,v=.slice (some ⟨g,0,none⟩) l.ps.length cap:=by
 rcases h.row.2 with⟨_,h0⟩ | ⟨g,cap,cur,rfl,_⟩
 · omega
 · exact⟨g,cap,rfl⟩
theorem Z1 (x:Int) (W:World):Calls Tryz.prog 238 #[I x] W fun e w'=>e=.returned (I (zF x))/\W=w':=by
 have aD:=fun W'=>xo x W';have lI:=xZ x;cases hg:zQ x with
 | false=>
  rw[hg] at aD;have e:zF x=0:=by unfold zF;rw[hg];rfl
  rw[e];clear e lI;go_enter Tryz.func238,Tryz.ntmps238;go_wp2_with fail
  refine(aD _).mono ?_;rintro e w' ⟨rfl,rfl⟩;go_wp2
  go_ret
  exact⟨rfl,rfl⟩
 | true=>
  have h1:1<=x/\x<=20:=by unfold zQ at hg;simpa using hg
  rw[hg] at aD;have e:zF x=Int.tdiv 232792560 x:=by unfold zF;rw[hg];rfl
  rw[e] at lI⊢;obtain⟨q,hq⟩:∃q,Int.tdiv 232792560 x=q:=⟨_,rfl⟩
  have HQ:=lH hq;rw[hq] at lI⊢;have hw:IntKind.i64.wrap (Int.tdiv 232792560 x)=q:=by rw[hq,IntKind.wrap_i64];omega
  have HW:=lH hw;have ek:x≠0:=by omega
  have ia:(x==0)=false:=beq_eq_false_iff_ne.2 ek;clear e hq hg hw;go_enter Tryz.func238,Tryz.ntmps238;go_wp2_with fail
  refine(aD _).mono ?_;rintro e w' ⟨rfl,rfl⟩;go_wp2
  go_ret
  exact⟨by rw[<- HQ.out,Int.tdiv_eq_ediv_of_nonneg (by omega)];rfl,rfl⟩
theorem cz (p:Pt) (W:World) (h1:-4611686018427387904<=p.v) (h2:p.v<=4611686018427387904) :
 Calls Tryz.prog 236 #[.agg p.cells.toArray] W fun e w'=>e=.returned (.agg (T8 p).cells.toArray)/\Below W.heap.size W w':=by
 have aD:=fun W'=>Z1 p.w W';have lI:=xZ p.w;unfold T8;generalize zF p.w=s at aD lI⊢;obtain⟨i,ww,v,day⟩:=p;simp only[Pt.cells] at h1 h2 aD⊢;go_enter Tryz.func236,Tryz.ntmps236;have k1:IntKind.i64.wrap (4*s)=4*s:=by rw[IntKind.wrap_i64];omega
 have k2:IntKind.i64.wrap (v+4*s)=v+4*s:=by rw[IntKind.wrap_i64];omega
 go_wp2_with fail
 go_region_with (go_at_call 238;refine(aD _).mono ?_;rintro e w' ⟨rfl,rfl⟩)
 all_goals
  go_wp2_with fail
  refine bodyPost_ret (v:=.agg #[I i,I ww,I v,I (v+4*s)]) (by simp[results,Tryz.results236,go_sem]) rfl ⟨rfl,?_⟩;repeat (first | exact Below.refl _ _ | refine Below.drew ?_ | refine Below.alloc ?_ (by simp) _ | refine Below.setCell ?_ (by simp) _)
theorem U0 (id w lag:Int) (W:World) :
 Calls Tryz.prog 42 #[.agg #[I id,I w,I lag]] W fun e w'=>e=.returned (.bool (da id w lag))/\Below W.heap.size W w':=by
 have aD:=fun W'=>xo w W';unfold da;generalize zQ w=g at aD⊢;by_cases h1:0<=id
 · by_cases h2:id<=1073741824
   · cases g with
     | true=>
      by_cases h3:-1125899906842624<=lag
      · by_cases h4:lag<=1125899906842624
        · rw[decide_eq_true h1,decide_eq_true h2,decide_eq_true h3,decide_eq_true h4];go_enter Tryz.func42,Tryz.ntmps42;go_wp2_with (go_at_call 94;refine(aD _).mono ?_;rintro e w' ⟨rfl,rfl⟩)
          go_ret
          exact⟨by first | rfl | (clear aD;simp[*]),(Below.refl _ _).alloc (Nat.le_refl _) _⟩
        · rw[decide_eq_true h1,decide_eq_true h2,decide_eq_true h3,decide_eq_false h4];go_enter Tryz.func42,Tryz.ntmps42;go_wp2_with (go_at_call 94;refine(aD _).mono ?_;rintro e w' ⟨rfl,rfl⟩)
          go_ret
          exact⟨by first | rfl | (clear aD;simp[*]),(Below.refl _ _).alloc (Nat.le_refl _) _⟩
      · rw[decide_eq_true h1,decide_eq_true h2,decide_eq_false h3];go_enter Tryz.func42,Tryz.ntmps42;go_wp2_with (go_at_call 94;refine(aD _).mono ?_;rintro e w' ⟨rfl,rfl⟩)
        go_ret
        exact⟨by first | rfl | (clear aD;simp[*]),(Below.refl _ _).alloc (Nat.le_refl _) _⟩
     | false=>
      rw[decide_eq_true h1,decide_eq_true h2];go_enter Tryz.func42,Tryz.ntmps42;go_wp2_with (go_at_call 94;refine(aD _).mono ?_;rintro e w' ⟨rfl,rfl⟩)
      go_ret
      exact⟨by first | rfl | (clear aD;simp[*]),(Below.refl _ _).alloc (Nat.le_refl _) _⟩
   · rw[decide_eq_true h1,decide_eq_false h2];go_enter Tryz.func42,Tryz.ntmps42;go_wp2_with fail
     go_ret
     exact⟨by first | rfl | (clear aD;simp[*]),(Below.refl _ _).alloc (Nat.le_refl _) _⟩
 · rw[decide_eq_false h1];go_enter Tryz.func42,Tryz.ntmps42;go_wp2_with fail
   go_ret
   exact⟨by first | rfl | (clear aD;simp[*]),(Below.refl _ _).alloc (Nat.le_refl _) _⟩
end Go.Proofs.YtoiajjobecinpaaGreat
namespace Go.Proofs.YtoiajjobecinpaaGreat
open Go.RowKit
set_option linter.unusedVariables false
set_option linter.unusedSimpArgs false
end Go.Proofs.YtoiajjobecinpaaGreat
namespace Go.Proofs.YtoiajjobecinpaaGreat
open Go.RowKit
set_option linter.unusedVariables false
set_option linter.unusedSimpArgs false
section
variable {P:Program} {ops:Array Oper} {md:Region.Mode} {C:World->Prop}
end
end Go.Proofs.YtoiajjobecinpaaGreat

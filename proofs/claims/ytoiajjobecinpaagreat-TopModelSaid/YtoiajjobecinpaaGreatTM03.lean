/- Sorting a line's row by ID. Which function a queue's method is, by its dynamic type. -/
import Derived.Shelf.Bits.Mul64
import Derived.Shelf.Spec.BitsCarry
import Derived.Shelf.Lay
import Derived.Ground.NamesProg
import Derived.Ground.Names7Prog
import Derived.Maps.Views
import Derived.Maps.OwnSet
import Derived.Test.YtoiajjobecinpaaGreatTM01
set_option maxHeartbeats 4000000
set_option maxRecDepth 100000
namespace Go.Proofs.YtoiajjobecinpaaGreat
open Go.RowKit Go.Shelf Go.Lib Go.Proofs Go.Sort
set_option linter.unusedVariables false
set_option linter.unusedSimpArgs false
def uw (ps:List Pt):Prop:=ps.Pairwise (fun a b=>a.id<b.id)
theorem qh:∀(a b:List Pt),a.Perm b->uw a->uw b->a=b
 | [],b,h,_,_=>(List.nil_perm.1 h).symm
 | x::a,[],h,_,_=>by simp at h
 | x::a,y::b,h,ha,hb=>by
  have LF:=List.pairwise_cons.1 ha;have l7:=List.pairwise_cons.1 hb;have hx:x∈y::b:=h.subset (by simp);have hy:y∈x::a:=h.symm.subset (by simp);have e:x=y:=by
   rcases List.mem_cons.1 hx with e | hx
   · exact e
   · rcases List.mem_cons.1 hy with e | hy
     · exact e.symm
     · have h1:=l7.1 x hx;have h2:=LF.1 y hy;omega
  subst e;rw[qh a b ((List.perm_cons x).1 h) LF.2 l7.2]
theorem v6 (p:Pt):∀ps:List Pt,(vH p ps).Perm (ps++[p])
 | []=>.refl _
 | q::l=>by
  unfold vH;split
  · exact(List.perm_append_singleton p (q::l)).symm
  · exact(List.perm_cons q).2 (v6 p l)
theorem vY (p:Pt):∀ps:List Pt,uw ps->(∀q∈ps,q.id≠p.id)->uw (vH p ps)
 | [],_,_=>by simp[vH,uw]
 | q::l,h,hn=>by
  have h':=List.pairwise_cons.1 h;unfold vH;split
  · rename_i ah;refine List.pairwise_cons.2 ⟨?_,h⟩;intro r hr;rcases List.mem_cons.1 hr with rfl | hr
    · exact ah
    · have:=h'.1 r hr;omega
  · rename_i ah;have hq:=hn q (by simp);refine List.pairwise_cons.2 ⟨?_,vY p l h'.2 (fun r hr=>hn r (by simp[hr]))⟩;intro r hr;have:=(v6 p l).subset hr;rcases List.mem_append.1 this with hr | hr
    · exact h'.1 r hr
    · simp at hr;subst hr;omega
theorem dm (p:Pt) (ps:List Pt) (d':Array Pt) (hs:uw ps) (hn:∀q∈ps,q.id≠p.id) (hp:PermIn 0 (ps++[p]).toArray.size (ps++[p]).toArray d')
 (hd:SortedIn (ltOf fun x y:Pt=>vC x.id y.id) 0 (ps++[p]).toArray.size d'):d'.toList=vH p ps:=by
 obtain⟨h1,_,h3⟩:=hp;have eD:d'.toList.Perm (ps++[p]):=by
  have e1:(d'.extract 0 (ps++[p]).toArray.size).toList=d'.toList:=by rw[<- h1];simp
  have e2:((ps++[p]).toArray.extract 0 (ps++[p]).toArray.size).toList=ps++[p]:=by simp[List.take_of_length_le]
  rw[e1,e2] at h3;exact h3
 have BO:d'.toList.Perm (vH p ps):=eD.trans (v6 p ps).symm;refine qh _ _ BO ?_ (vY p ps hs hn);have ay:d'.toList.Pairwise (fun a b=>a.id≠b.id):=by
  refine(BO.pairwise_iff (fun{a b} h e=>h e.symm)).2 ?_;exact(vY p ps hs hn).imp (fun h=>by omega)
 unfold uw;rw[List.pairwise_iff_getElem] at ay⊢;intro i j hi hj AC;have h4:=hd i j (Nat.zero_le _) AC (by rw[<- h1];simpa using hj);rw[Km] at h4;have h5:=ay i j hi hj AC;have ei:d'[i]! = d'.toList[i]:=by rw[getElem!_pos d' i (by simpa using hi)];simp
 have ej:d'[j]! = d'.toList[j]:=by rw[getElem!_pos d' j (by simpa using hj)];simp
 rw[ei,ej] at h4;simp only[decide_eq_false_iff_not] at h4;omega
theorem gw (W:World) (g n:Nat) (d':Array Pt) (os:Array Obj) (k:Nat) (hk:k<W.heap.size) (ay:k≠g):(sortWorldK Pt.cells 4 W g 0 n d' os).heap[k]? = W.heap[k]?:=by
 unfold sortWorldK;rw[heap_grow_old _ _ (by simpa [putRowK,putRow,mapBlock,ahead] using hk)];simp[putRowK,putRow,mapBlock,ahead,Array.getElem?_modify,ay.symm]
theorem jV (W:World) (g n:Nat) (d':Array Pt) (os:Array Obj):Touch (fun k=>k=g) W (sortWorldK Pt.cells 4 W g 0 n d' os):=
 ⟨rfl,rfl,rfl,size_sortWorldK_c Pt.cells 4 W g 0 n d' os,fun k hk ay=>gw W g n d' os k hk ay⟩
theorem fm {W:World} {g m c n:Nat} {ps:List Pt} (h:W.ownsRow 0 338 4 (.slice (some ⟨g,0,none⟩) m c) ps.length (zr ps)) (d':Array Pt) (hd:d'.size=ps.length) (os:Array Obj) :
 (sortWorldK Pt.cells 4 W g 0 n d' os).ownsRow 0 338 4 (.slice (some ⟨g,0,none⟩) m c) d'.toList.length (zr d'.toList):=by
 have hH:=qQ h;have ah:=(h.lt g rfl).2;have Sr:=holdsK_sortWorldK_c Pt.cells 4 W g 0 ps.toArray d' n os hH ah (by simpa using hd);rcases h.2 with⟨h1,_⟩ | ⟨g',cap,cur,h1,_,la,hn,hm,mH,_⟩
 · cases h1
 · simp only[Value.slice.injEq,Option.some.injEq,Addr.mk.injEq] at h1;obtain⟨⟨rfl,_⟩,rfl,rfl⟩:=h1;have oI:∃cur',(sortWorldK Pt.cells 4 W g 0 n d' os).heap[g]? = some (.cells cur' 338 (0,0))/\cur'.size=cur.size:=by
    unfold sortWorldK;rw[heap_grow_old _ _ (by simpa [putRowK,putRow,mapBlock,ahead] using ah)];refine⟨putCells id 0 (flatK Pt.cells 4 d') cur,?_,by simp[putCells]⟩;simp[putRowK,putRow,mapBlock,ahead,Array.getElem?_modify,la,onCells]
   obtain⟨cur',oI,sG⟩:=oI;have hl:d'.toList.length=ps.length:=by simpa using hd
   rw[show ps.length=d'.toList.length from hl.symm] at hn⊢;refine wU oI hn hm (sG.trans mH) ?_;intro k hk i v hv;have eO:k<d'.size:=by simpa using hk
   have hi:i<4:=by
    have:=(List.getElem?_eq_some_iff.1 hv).1;simpa [Pt.cells] using this
   have:=(Sr.cell eO hi).1;rw[Nat.zero_add] at this;rw[this];have e:d'[k]! = d'.toList[k]!:=by rw[getElem!_pos d' k eO,getElem!_pos d'.toList k hk];simp
   rw[e];have:=jz (d'.toList[k]!) i hi;rw[hv] at this;exact this.symm
theorem Qz (g c:Nat) (p:Pt) (ps:List Pt) (W:World) (h:W.ownsRow 0 338 4 (.slice (some ⟨g,0,none⟩) (ps++[p]).length c) (ps++[p]).length (zr (ps++[p])))
 (hs:uw ps) (hn:∀q∈ps,q.id≠p.id) (hl:ps.length<=64) :
 Calls Tryz.prog 278 #[.slice (some ⟨g,0,none⟩) (ps++[p]).length c,.func (.func 279) #[] #[]] W fun e w'=>e=.returned (.tuple #[]) /\
  w'.ownsRow 0 338 4 (.slice (some ⟨g,0,none⟩) (vH p ps).length c) (vH p ps).length (zr (vH p ps))/\Touch (fun k=>k=g) W w':=by
 have eg:∀args w,(callFunc 279 args).run Tryz.prog w=.ok (.enter 279 args) w:=enters_of Tryz.func279 (by kernel_rfl) rfl;have aD:=AnyQ.slices_SortFunc Tryz.l278 4 Tryz.isAgg338 Tryz.sizeOf338 Pt.cells (fun _=>rfl) (fun x v hv=>by simp[Pt.cells] at hv;rcases hv with rfl | rfl | rfl | rfl <;> rfl) (fun x y=>vC x.id y.id) J6 279 #[] g 0 c (ps++[p]).toArray W eg
  (fun _ _ _ _ x y=>Yc x y _) (qQ h) (h.lt g rfl).2 (by simp;omega)
 change Calls Tryz.prog 278 _ _ _ at aD;rw[show(ps++[p]).toArray.size=(ps++[p]).length from by simp] at aD;refine aD.mono ?_;rintro e w' ⟨rfl,d',n,os,hp,hd,rfl⟩;have mH:d'.size=(ps++[p]).length:=by have:=hp.1;simpa using this
 have Nd:d'.toList=vH p ps:=dm p ps d' hs hn (by simpa using hp) (by simpa using hd);have hr:=fm (n:=n) h d' mH os;rw[Nd] at hr;have pG:(vH p ps).length=(ps++[p]).length:=(v6 p ps).length_eq;rw[pG] at hr⊢;exact⟨rfl,hr,jV W g n d' os⟩
end Go.Proofs.YtoiajjobecinpaaGreat
namespace Go.Proofs.YtoiajjobecinpaaGreat
open Go.RowKit Go.Shelf Go.Lib Go.Proofs
set_option linter.unusedVariables false
set_option linter.unusedSimpArgs false
theorem jb (p : Value) (W : World) : Sem.run Tryz.prog (method 484 235 p "Enter") W = Result.ok (261, p) W := by kernel_rfl
theorem gy (p : Value) (W : World) : Sem.run Tryz.prog (method 484 239 p "Enter") W = Result.ok (302, p) W := by kernel_rfl
theorem fh (p : Value) (W : World) : Sem.run Tryz.prog (method 484 242 p "Enter") W = Result.ok (312, p) W := by kernel_rfl
theorem g7 (p : Value) (W : World) : Sem.run Tryz.prog (method 484 235 p "Put") W = Result.ok (265, p) W := by kernel_rfl
theorem db (p : Value) (W : World) : Sem.run Tryz.prog (method 484 239 p "Put") W = Result.ok (306, p) W := by kernel_rfl
theorem cK (p : Value) (W : World) : Sem.run Tryz.prog (method 484 242 p "Put") W = Result.ok (316, p) W := by kernel_rfl
theorem uu (p : Value) (W : World) : Sem.run Tryz.prog (method 484 235 p "Form") W = Result.ok (262, p) W := by kernel_rfl
theorem qd (p : Value) (W : World) : Sem.run Tryz.prog (method 484 239 p "Form") W = Result.ok (303, p) W := by kernel_rfl
theorem qP (p : Value) (W : World) : Sem.run Tryz.prog (method 484 242 p "Form") W = Result.ok (313, p) W := by kernel_rfl
theorem jc (p : Value) (W : World) : Sem.run Tryz.prog (method 484 235 p "Leave") W = Result.ok (263, p) W := by kernel_rfl
theorem gz (p : Value) (W : World) : Sem.run Tryz.prog (method 484 239 p "Leave") W = Result.ok (304, p) W := by kernel_rfl
theorem fi (p : Value) (W : World) : Sem.run Tryz.prog (method 484 242 p "Leave") W = Result.ok (314, p) W := by kernel_rfl
theorem jd (p : Value) (W : World) : Sem.run Tryz.prog (method 484 235 p "Weigh") W = Result.ok (266, p) W := by kernel_rfl
theorem g8 (p : Value) (W : World) : Sem.run Tryz.prog (method 484 239 p "Weigh") W = Result.ok (307, p) W := by kernel_rfl
theorem fj (p : Value) (W : World) : Sem.run Tryz.prog (method 484 242 p "Weigh") W = Result.ok (317, p) W := by kernel_rfl
end Go.Proofs.YtoiajjobecinpaaGreat

/- The document's own queue in memory; at, Step, day, GoodWeight, Held. The document's own queue: Step, -/
import Derived.Deep.AppendSrc
import Derived.Deep.Upon
import Derived.Maps.AppendAt
import Derived.Lib.AppendZeros
import Derived.Test.YtoiajjobecinpaaGreatTM27
set_option maxHeartbeats 4000000
set_option maxRecDepth 100000
namespace Go.Proofs.YtoiajjobecinpaaGreat
open Go.RowKit Go.Shelf Go.Lib Go.Proofs
set_option linter.unusedVariables false
set_option linter.unusedSimpArgs false
section
attribute [local go_sem] Oper.semAt_some
structure QuAt (W:World) (qb:Nat) (v:Value) (tag:Int) (l:Ln):Prop where
 c0:W.cell? ⟨qb,0,none⟩=some (I tag)
 c1:W.cell? ⟨qb,1,none⟩=some (I l.base)
 c2:W.cell? ⟨qb,2,none⟩=some (I l.cur)
 c3:W.cell? ⟨qb,3,none⟩=some v
 live:∀i,W.frozen? ⟨qb,i,none⟩=false
 row:W.ownsRow 0 110 4 v l.ps.length (zr l.ps)
 ne:v.ownBlock≠some qb
theorem QuAt.same {W W':World} {qb:Nat} {v:Value} {tag:Int} {l:Ln} (h:QuAt W qb v tag l) (hq:W'.heap[qb]? = W.heap[qb]?) (hv:∀k,v.ownBlock=some k->W'.heap[k]? = W.heap[k]?):QuAt W' qb v tag l:=by
 have h0:∀i,W'.cell? ⟨qb,i,none⟩=W.cell? ⟨qb,i,none⟩:=fun i=>World.cell?_of_block hq;have h1:∀i,W'.frozen? ⟨qb,i,none⟩=W.frozen? ⟨qb,i,none⟩:=fun i=>World.frozen?_of_block hq;exact⟨(h0 0).trans h.c0,(h0 1).trans h.c1,(h0 2).trans h.c2,(h0 3).trans h.c3,fun i=>(h1 i).trans (h.live i),zb h.row hv,h.ne⟩
theorem QuAt.lt {W:World} {qb:Nat} {v:Value} {tag:Int} {l:Ln} (h:QuAt W qb v tag l):qb<W.heap.size/\∀k,v.ownBlock=some k->k<W.heap.size:=
 ⟨World.block_lt_of_cell? W _ h.c0,fun k hk=>(h.row.lt k hk).2⟩
theorem QuAt.below {W W':World} {qb:Nat} {v:Value} {tag:Int} {l:Ln} (h:QuAt W qb v tag l) (hb:Below W.heap.size W W'):QuAt W' qb v tag l:=
 h.same (hb.block qb h.lt.1) (fun k hk=>hb.block k (h.lt.2 k hk))
theorem un:∀(l:List Pt) (k f:Nat) (hk:k<l.length),f<4->(zr l)[k*4+f]? = l[k].cells[f]?
 | [],k,f,h,_=>by simp at h
 | a::l,0,f,_,hf=>by
  have e:zr (a::l)=a.cells++zr l:=rfl;rw[e,List.getElem?_append_left (by simp[Pt.cells];omega)];simp
 | a::l,k+1,f,h,hf=>by
  have ih:=un l k f (by simpa using h) hf;have e:zr (a::l)=a.cells++zr l:=rfl;rw[e,List.getElem?_append_right (by simp[Pt.cells];omega)];have hl:a.cells.length=4:=by simp[Pt.cells]
  rw[hl,show(k+1)*4+f-4=k*4+f by omega,ih];rfl
theorem QuAt.form {W:World} {qb:Nat} {v:Value} {tag:Int} {l:Ln} (h:QuAt W qb v tag l):∃a c,v=.slice a l.ps.length c/\∀k,(hk:k<l.ps.length)->∃g,a=some ⟨g,0,none⟩/\g<W.heap.size/\W.cell? ⟨g,k*4,none⟩=some (I l.ps[k].id) /\
 W.cell? ⟨g,k*4+1,none⟩=some (I l.ps[k].w)/\W.cell? ⟨g,k*4+2,none⟩=some (I l.ps[k].v)/\W.cell? ⟨g,k*4+3,none⟩=some (I l.ps[k].day):=by
 obtain⟨a,c,hv,hr⟩:=zH h.row;refine⟨a,c,hv,fun k hk=>?_⟩;obtain⟨g,hg,-,g1,k0⟩:=hr (k*4+0) _ ((un l.ps k 0 hk (by omega)).trans rfl);obtain⟨g',ic,-,-,k1⟩:=hr (k*4+1) _ ((un l.ps k 1 hk (by omega)).trans rfl);obtain⟨g'',Fs,-,-,k2⟩:=hr (k*4+2) _ ((un l.ps k 2 hk (by omega)).trans rfl);obtain⟨g3,Nr,-,-,k3⟩:=hr (k*4+3) _ ((un l.ps k 3 hk (by omega)).trans rfl);rw[hg] at ic Fs Nr;simp only[Option.some.injEq,Addr.mk.injEq,and_true] at ic Fs Nr;subst ic Fs Nr;exact⟨g,hg,g1,k0,k1,k2,k3⟩
theorem yM (w:Int) (W:World):Calls Tryz.prog 64 #[I w] W fun e w'=>e=.returned (.bool (zQ w))/\W=w':=by
 unfold zQ;by_cases h1:1<=w
 · by_cases h2:w<=20
   · go_enter Tryz.func64,Tryz.ntmps64;go_wp2_with fail
     go_ret
     exact⟨by simp[h1,h2],rfl⟩
   · go_enter Tryz.func64,Tryz.ntmps64;go_wp2_with fail
     go_ret
     exact⟨by simp[h1,h2],rfl⟩
 · go_enter Tryz.func64,Tryz.ntmps64;go_wp2_with fail
   go_ret
   exact⟨by simp;omega,rfl⟩
theorem jl (qb:Nat) (v:Value) (tag:Int) (l:Ln) (id:Int) (W:World) (h:QuAt W qb v tag l) (aT:l.ps.length<=1000) :
 Calls Tryz.prog 130 #[.pointer (some ⟨qb,0,none⟩),I id] W fun e w'=>e=.returned (I (yh l.ps id))/\W=w':=by
 obtain⟨a,c,hv,ae⟩:=h.form;have c3:=h.c3;rw[hv] at c3;have HC:=lH ae;have GL:=lH aT;clear h ae aT hv;go_enter Tryz.func130,Tryz.ntmps130;go_wp2_with fail
 go_loop [5] (fun x=>∃k:Nat,k<=l.ps.length/\x=I k/\Hid (∀j (hj:j<l.ps.length),j<k->l.ps[j].id≠id)) (fun x=>l.ps.length-(intOf x).toNat)
 case atStart=>exact⟨0,Nat.zero_le _,rfl,lH (fun j hj hk=>absurd hk (Nat.not_lt_zero j))⟩
 case round=>
  obtain⟨k,hk,rfl,HN⟩:=hrel;have aT:=GL.out;have aX:0<=(k:Int):=by omega
  by_cases aw:k<l.ps.length
  · obtain⟨g,rfl,g1,k0,-⟩:=HC.out k aw;obtain⟨pid,iS⟩:∃x,l.ps[k].id=x:=⟨_,rfl⟩
    rw[iS] at k0;have HP:=lH iS;have iJ:(k:Int)<(l.ps.length:Int):=by omega
    clear iS;by_cases e:pid=id
    · have am:yh l.ps id=(k:Int):=by
       rcases zB l.ps id with⟨-,hn⟩ | ⟨j,hj,hp,h1,h2⟩
       · exact absurd (HP.out.trans e) (hn _ (List.getElem_mem aw))
       · rw[hp];congr 1
         rcases Nat.lt_trichotomy j k with ah | rfl | ah
         · exact absurd h1 (HN.out j hj ah)
         · rfl
         · exact absurd (HP.out.trans e) (h2 k ah)
      have aA:=lH am;clear am;subst e;go_wp2_with fail
      go_ret
      exact⟨by rw[aA.out];rfl,rfl⟩
    · have oC:Hid (∀j (hj:j<l.ps.length),j<k+1->l.ps[j].id≠id):=lH (fun j hj CZ=>by
       by_cases e2:j<k
       · exact HN.out j hj e2
       · obtain rfl:j=k:=by omega
         rw[HP.out];exact e)
      go_wp2_with fail
      go_round
      case rel=>exact⟨k+1,by omega,by go_num,oC⟩
      case measure=>simp[intOf];omega
  · obtain rfl:k=l.ps.length:=by omega
    have am:yh l.ps id=-1:=by
     rcases zB l.ps id with⟨hp,-⟩ | ⟨j,hj,hp,h1,h2⟩
     · exact hp
     · exact absurd h1 (HN.out j hj hj)
    have aA:=lH am;clear am;go_wp2_with fail
    go_ret
    exact⟨by rw[aA.out];rfl,rfl⟩
theorem dW (w:Int) (W:World):Calls Tryz.prog 134 #[I w] W fun e w'=>e=.returned (I (zF w))/\W=w':=by
 have hg:=yM w W;have HS:Hid (zF w=if zQ w=true then Int.tdiv 232792560 w else 0):=lH rfl;by_cases h:zQ w=true
 · have hw:1<=w/\w<=20:=by
    unfold zQ at h;simp only[Bool.and_eq_true,decide_eq_true_eq] at h;exact h
   rw[h] at hg;have HR:Hid (zF w=Int.tdiv 232792560 w):=lH (by rw[HS.out,if_pos h]);obtain⟨h1,h2⟩:=hw;have ay:w≠0:=by omega
   clear h HS;go_enter Tryz.func134,Tryz.ntmps134;go_wp2_with fail
   refine hg.mono ?_;rintro e w1 ⟨rfl,rfl⟩;go_wp2_with fail
   go_ret
   refine⟨?_,rfl⟩;rw[HR.out,Int.tdiv_eq_ediv_of_nonneg (by decide)];rfl
 · have h':zQ w=false:=by simpa using h
   rw[h'] at hg;have HR:Hid (zF w=0):=lH (by rw[HS.out,if_neg h]);clear h h' HS;go_enter Tryz.func134,Tryz.ntmps134;go_wp2_with fail
   refine hg.mono ?_;rintro e w1 ⟨rfl,rfl⟩;go_wp2_with fail
   go_ret
   exact⟨by rw[HR.out];rfl,rfl⟩
theorem f8 (w:Int) (W:World):Calls Tryz.prog 133 #[I w] W fun e w'=>e=.returned (I (4*zF w))/\W=w':=by
 have hg:=dW w W;have hb:=xZ w;generalize zF w=s at hg hb⊢;obtain⟨h1,h2⟩:=hb;go_enter Tryz.func133,Tryz.ntmps133;go_wp2_with fail
 refine hg.mono ?_;rintro e w1 ⟨rfl,rfl⟩;go_wp2_with fail
 go_ret
 exact⟨rfl,rfl⟩
theorem QuAt.setBase {W:World} {qb:Nat} {v:Value} {tag:Int} {l:Ln} (h:QuAt W qb v tag l) (b:Int):QuAt (W.setCell ⟨qb,1,none⟩ (I b)) qb v tag ⟨b,l.cur,l.ps⟩:=
 ⟨by rw[za _ (by simp)];exact h.c0,World.cell?_setCell_same _ _ _ h.c1,by rw[za _ (by simp)];exact h.c2,by rw[za _ (by simp)];exact h.c3,fun i=>by rw[World.frozen?_setCell];exact h.live i,
  zb h.row (fun k hk=>Below.heap_setCell _ _ _ _ (fun e=>h.ne (by subst e;exact hk))),h.ne⟩
def wg (ps:List Pt) (k:Nat) (q:Pt):Prop:=∀j (hj:j<ps.length),j<k->q.v<=ps[j].v
def uM (base:Int) (ps:List Pt) (k:Nat) (b:Int):Prop:=
 (b=base/\∀j (hj:j<ps.length),j<k->wg ps ps.length ps[j]->ps[j].v<=base)\/(ps≠[]/\b=(yv ps).v/\base<b)
theorem Wp {ps:List Pt} {j:Nat} (hj:j<ps.length) (h:wg ps ps.length ps[j]):ps[j].v=(yv ps).v:=by
 have h1:=uD ps _ (List.getElem_mem hj);obtain⟨i,hi,e⟩:=List.mem_iff_getElem.1 (xH ps (fun e=>by subst e;simp at hj));have h2:=h i hi hi;rw[e] at h2;omega
theorem uM.fin {base b:Int} {ps:List Pt} (h:uM base ps ps.length b):b=yY base ps:=by
 cases ps with
 | nil=>
  rcases h with⟨rfl,-⟩ | ⟨h1,h2⟩
  · rfl
  · exact absurd rfl h1
 | cons p l=>
  rw[uA];rcases h with⟨rfl,h⟩ | ⟨-,rfl,h⟩
  · obtain⟨j,hj,e⟩:=List.mem_iff_getElem.1 (xH (p::l) (by simp));have:=h j hj hj (fun i hi _=>by rw[e];exact uD _ _ (List.getElem_mem hi));rw[e] at this;rw[if_neg (by omega)]
  · rw[if_pos h]
theorem uM.zero (base:Int) (ps:List Pt):uM base ps 0 base:=.inl ⟨rfl,fun j hj h=>absurd h (Nat.not_lt_zero j)⟩
theorem uM.stay {base b:Int} {ps:List Pt} {k:Nat} (h:uM base ps k b) (hk:k<ps.length) (hn:¬wg ps ps.length ps[k]\/ps[k].v<=b):uM base ps (k+1) b:=by
 rcases h with⟨rfl,h⟩ | h
 · refine .inl ⟨rfl,fun j hj CZ hl=>?_⟩;by_cases e:j<k
   · exact h j hj e hl
   · obtain rfl:j=k:=by omega
     rcases hn with hn | hn
     · exact absurd hl hn
     · exact hn
 · exact .inr h
theorem uM.move {base b:Int} {ps:List Pt} {k:Nat} (h:uM base ps k b) (hk:k<ps.length) (hl:wg ps ps.length ps[k]) (hb:b<ps[k].v):uM base ps (k+1) ps[k].v:=by
 have he:=Wp hk hl;refine .inr ⟨fun e=>by subst e;simp at hk,he,?_⟩;rcases h with⟨rfl,-⟩ | ⟨-,h1,h2⟩ <;> omega
theorem cG {ps:List Pt} {k:Nat} {q:Pt} (hk:k<ps.length):wg ps (k+1) q↔wg ps k q/\q.v<=ps[k].v:=by
 constructor
 · exact fun h=>⟨fun j hj CZ=>h j hj (by omega),h k hk (by omega)⟩
 · rintro⟨h1,h2⟩ j hj CZ;by_cases e:j<k
   · exact h1 j hj e
   · obtain rfl:j=k:=by omega
     exact h2
theorem QuAt.get {W:World} {qb:Nat} {v:Value} {tag:Int} {l:Ln} (h:QuAt W qb v tag l):∃a c,v=.slice a l.ps.length c/\∀(k:Nat) (p:Pt),l.ps[k]? = some p->∃g,a=some ⟨g,0,none⟩/\g<W.heap.size/\W.cell? ⟨g,k*4,none⟩=some (I p.id) /\
 W.cell? ⟨g,k*4+1,none⟩=some (I p.w)/\W.cell? ⟨g,k*4+2,none⟩=some (I p.v)/\W.cell? ⟨g,k*4+3,none⟩=some (I p.day):=by
 obtain⟨a,c,hv,hr⟩:=h.form;refine⟨a,c,hv,fun k p hp=>?_⟩;obtain⟨hk,rfl⟩:=List.getElem?_eq_some_iff.1 hp;exact hr k hk
def LbI (lb:Bool) (P:Prop):Prop:=lb=true↔P
def bg (W:World) (qb:Nat) (v:Value) (tag:Int) (l:Ln) (k:Nat) (wr:World):Prop:=
 ∃b,QuAt wr qb v tag ⟨b,l.cur,l.ps⟩/\Touch (fun j=>j=qb) W wr/\uM l.base l.ps k b
theorem qC (qb:Nat) (v:Value) (tag:Int) (l:Ln) (W:World) (h:QuAt W qb v tag l) (aT:l.ps.length<=1000) :
 Calls Tryz.prog 131 #[.pointer (some ⟨qb,0,none⟩)] W fun e w'=>e=.returned (.tuple #[])/\QuAt w' qb v tag ⟨yY l.base l.ps,l.cur,l.ps⟩/\Touch (fun j=>j=qb) W w':=by
 obtain⟨n,hn⟩:∃x,l.ps.length=x:=⟨_,rfl⟩
 have HN:=lH hn;have hI:Hid (bg W qb v tag l 0 W):=lH ⟨l.base,h,Touch.refl _ _,uM.zero _ _⟩;rw[hn] at aT;clear h hn;go_enter Tryz.func131,Tryz.ntmps131;go_wp2_with fail
 go_loopw [2] (fun x wr=>∃k:Nat,k<=n/\x=I k/\Hid (bg W qb v tag l k wr)) (fun x _=>n-(intOf x).toNat)
 case atStart=>exact⟨0,Nat.zero_le _,rfl,hI⟩
 case round=>
  obtain⟨k,hk,rfl,HI⟩:=hrel;obtain⟨b,hQ,hT,hG⟩:=HI.out;obtain⟨a,c,hv,ae⟩:=hQ.get;have c3:=hQ.c3;have c1:=hQ.c1;have l1:=hQ.live 1;rw[hv] at c3;simp only at c3 c1 ae;rw[HN.out] at c3;have HQ:=lH hQ;have HT:=lH hT;have HG:=lH hG;have HC:=lH ae;clear hQ hT hG ae HI hv;by_cases aw:k<n
  · have eO:k<l.ps.length:=by rw[HN.out];exact aw
    obtain⟨p,hp⟩:∃p,l.ps[k]? = some p:=⟨_,List.getElem?_eq_getElem eO⟩
    obtain⟨g,rfl,g1,-,-,k2,-⟩:=HC.out k p hp;have HP:=lH hp;have HPe:Hid (l.ps[k]'eO=p):=lH (by have:=HP.out;rw[List.getElem?_eq_getElem eO] at this;exact Option.some.inj this);have iJ:(k:Int)<(n:Int):=by omega
    have aX:0<=(k:Int):=by omega
    clear hp;go_wp2_with fail
    go_loopw [3,4] (fun y z w2=>∃(j:Nat) (lb:Bool),j<=n/\z=I j/\y=.bool lb/\Hid (LbI lb (wg l.ps j p))/\Hid (Below wr.heap.size wr w2)) (fun _ z _=>n-(intOf z).toNat)
    case atStart=>exact⟨0,true,Nat.zero_le _,rfl,rfl,lH ⟨fun _ j hj h=>absurd h (Nat.not_lt_zero j),fun _=>rfl⟩,lH (Below.refl _ _)⟩
    case round=>
     clear k2 c3 c1 l1 HC;obtain⟨j,lb,hj,rfl,rfl,HL,HB⟩:=hrel;have pQ:=HQ.out.below HB.out;have c3:=pQ.c3;have c1:=pQ.c1;have l1:=pQ.live 1;obtain⟨a2,cc,hv,ae⟩:=pQ.get;rw[hv] at c3;simp only at c3 c1 ae;rw[HN.out] at c3;have HC:=lH ae;obtain⟨g',rfl,g1',-,-,k2,-⟩:=HC.out k p HP.out;clear pQ hv ae;have oh:0<=(j:Int):=by omega
     by_cases iK:j<n
     · have l9:j<l.ps.length:=by rw[HN.out];exact iK
       obtain⟨q,hq⟩:∃p,l.ps[j]? = some p:=⟨_,List.getElem?_eq_getElem l9⟩
       obtain⟨g'',ic,-,-,-,j2,-⟩:=HC.out j q hq;obtain rfl:g'=g'':=by simpa using ic
       have NE:(j:Int)<(n:Int):=by omega
       have HS:Hid (wg l.ps (j+1) p↔wg l.ps j p/\p.v<=q.v):=lH (by
        rw[cG l9];rw[List.getElem?_eq_getElem l9] at hq;obtain rfl:=Option.some.inj hq;exact Iff.rfl)
       clear hq ic c1 l1;cases lb with
       | true=>
        by_cases lI:p.v<=q.v
        · have mK:Hid (LbI true (wg l.ps (j+1) p)):=lH (by rw[LbI,HS.out];exact⟨fun _=>⟨HL.out.1 rfl,lI⟩,fun _=>rfl⟩);go_wp2_with fail
          go_quiet (fail)
          go_wp2_with fail
          go_roundw
          case rel=>exact⟨j+1,true,by omega,by go_num,by simp[lI],mK,lH (HB.out.trans (zm _ _ _))⟩
          case measure=>simp[intOf];omega
        · have mK:Hid (LbI false (wg l.ps (j+1) p)):=lH (by rw[LbI,HS.out];exact⟨fun e=>by simp at e,fun e=>absurd e.2 lI⟩);have ah:q.v<p.v:=by omega
          go_wp2_with fail
          go_quiet (fail)
          go_wp2_with fail
          go_roundw
          case rel=>exact⟨j+1,false,by omega,by go_num,by simp;omega,mK,lH (HB.out.trans (zm _ _ _))⟩
          case measure=>simp[intOf];omega
       | false=>
        have mK:Hid (LbI false (wg l.ps (j+1) p)):=lH (by rw[LbI,HS.out];exact⟨fun e=>by simp at e,fun e=>absurd (HL.out.2 e.1) (by simp)⟩);go_wp2_with fail
        go_quiet (fail)
        go_wp2_with fail
        go_roundw
        case rel=>exact⟨j+1,false,by omega,by go_num,rfl,mK,lH (HB.out.trans (zm _ _ _))⟩
        case measure=>simp[intOf];omega
     · obtain rfl:j=n:=by omega
       cases lb with
       | true=>
        by_cases ah:b<p.v
        · go_wp2_with fail
          go_quiet (fail)
          have Dr:=lH <| show bg W qb v tag l (k+1) (World.setCell _ ⟨qb,1,none⟩ (I p.v)) from⟨p.v,(HQ.out.below (HB.out.trans (zm _ _ nq))).setBase p.v,(HT.out.thenBelow (HB.out.trans (zm _ _ nq))).setCell (t:=none) (.inl rfl) _,by
           have:=HG.out.move eO (by rw[HPe.out,HN.out];exact HL.out.1 rfl) (by rw[HPe.out];exact ah);rw[HPe.out] at this;exact this⟩
          go_wp2_with fail
          go_roundw
          case rel=>exact⟨k+1,by omega,by go_num,Dr⟩
          case measure=>simp[intOf];omega
        · have lI:p.v<=b:=by omega
          go_wp2_with fail
          go_quiet (fail)
          have Dr:=lH <| show bg W qb v tag l (k+1) _ from⟨b,HQ.out.below (HB.out.trans (zm _ _ nq)),HT.out.thenBelow (HB.out.trans (zm _ _ nq)),HG.out.stay eO (.inr (by rw[HPe.out];omega))⟩
          go_wp2_with fail
          go_roundw
          case rel=>exact⟨k+1,by omega,by go_num,Dr⟩
          case measure=>simp[intOf];omega
       | false=>
        go_wp2_with fail
        go_quiet (fail)
        have Dr:=lH <| show bg W qb v tag l (k+1) _ from⟨b,HQ.out.below (HB.out.trans (zm _ _ nq)),HT.out.thenBelow (HB.out.trans (zm _ _ nq)),HG.out.stay eO (.inl (fun e=>by rw[HPe.out,HN.out] at e;exact absurd (HL.out.2 e) (by simp)))⟩
        go_wp2_with fail
        go_roundw
        case rel=>exact⟨k+1,by omega,by go_num,Dr⟩
        case measure=>simp[intOf];omega
  · obtain rfl:k=n:=by omega
    have HF:Hid (b=yY l.base l.ps):=lH (by have:=HG.out;rw[<- HN.out] at this;exact this.fin);go_wp2_with fail
    go_end0
    have:=HQ.out;rw[HF.out] at this;exact⟨rfl,this,HT.out⟩
end
structure SrcAt (W:World) (size:Nat) (a:Option Addr) (m:Nat) (news:List Value):Prop where
 len:news.length=m*size
 one:∀u∈news,u.oneCell'=true
 at_:0<m->∃ad:Addr,a=some ad/\ad.block<W.heap.size/\∀j u,news[j]? = some u->W.cell? (ad.add j)=some u
theorem SrcAt.same {W W':World} {size m:Nat} {a:Option Addr} {news:List Value} (h:SrcAt W size a m news) (hs:W.heap.size<=W'.heap.size) (hb:∀ad,a=some ad->ad.block<W.heap.size->W'.heap[ad.block]? = W.heap[ad.block]?):SrcAt W' size a m news:=
 ⟨h.len,h.one,fun hm=>by
  obtain⟨ad,e,hl,hc⟩:=h.at_ hm;refine⟨ad,e,Nat.lt_of_lt_of_le hl hs,fun j u hu=>?_⟩;rw[<- hc j u hu];have e2:(ad.add j).block=ad.block:=by unfold Addr.add;split <;> rfl
  exact World.cell?_of_block (a:=ad.add j) (by rw[e2];exact hb ad e hl)⟩
theorem SrcAt.below {W W':World} {size m:Nat} {a:Option Addr} {news:List Value} (h:SrcAt W size a m news) (hb:Below W.heap.size W W'):SrcAt W' size a m news:=
 h.same hb.size (fun ad _ hl=>hb.block _ hl)
theorem qF {W:World} {T:TypeId} {size n c:Nat} {a:Option Addr} {xs:List Value} (h:W.ownsRow 0 T size (.slice a n c) n xs) (h1:∀u∈xs,u.oneCell'=true) (k:Nat) (hk:k<=n):SrcAt W size a k (xs.take (k*size)):=by
 obtain⟨a',c',hv,hr⟩:=zH h;simp only[Value.slice.injEq,true_and] at hv;obtain⟨rfl,rfl⟩:=hv;have ag:xs.length=n*size:=h.1;refine⟨?_,fun u hu=>h1 u (List.mem_of_mem_take hu),fun hm=>?_⟩
 · rw[List.length_take,ag];exact Nat.min_eq_left (Nat.mul_le_mul_right _ hk)
 · rcases h.2 with⟨e,-⟩ | ⟨g,cap,cur,e,-,hg,-⟩
   · simp only[Value.slice.injEq] at e;omega
   · simp only[Value.slice.injEq] at e;obtain⟨rfl,-⟩:=e;refine⟨_,rfl,(Array.getElem?_eq_some_iff.1 hg).1,fun j u hu=>?_⟩;have hj:=(List.getElem?_eq_some_iff.1 hu).1;rw[List.getElem?_take] at hu;split at hu
     · obtain⟨g',e',-,-,hc⟩:=hr j u hu;obtain rfl:g=g':=by simpa using e'
       simpa [Addr.add_lit] using hc
     · cases hu
theorem vj {W:World} {T:TypeId} {size n c:Nat} {a:Option Addr} {xs:List Value} (h:W.ownsRow 0 T size (.slice a n c) n xs) (h1:∀u∈xs,u.oneCell'=true) (k:Nat) (hk:k<=n):SrcAt W size (if c=k then a else a.map (·.add (k*size))) (n-k) (xs.drop (k*size)):=by
 obtain⟨a',c',hv,hr⟩:=zH h;simp only[Value.slice.injEq,true_and] at hv;obtain⟨rfl,rfl⟩:=hv;have ag:xs.length=n*size:=h.1;refine⟨?_,fun u hu=>h1 u (List.mem_of_mem_drop hu),fun hm=>?_⟩
 · rw[List.length_drop,ag,Nat.sub_mul]
 · rcases h.2 with⟨e,-⟩ | ⟨g,cap,cur,e,-,hg,hn,-⟩
   · simp only[Value.slice.injEq] at e;omega
   · simp only[Value.slice.injEq] at e;obtain⟨rfl,-,rfl⟩:=e;rw[if_neg (by omega)];refine⟨_,rfl,?_,fun j u hu=>?_⟩
     · show((⟨g,0,none⟩:Addr).add (k*size)).block<_;rw[Addr.add_lit];exact(Array.getElem?_eq_some_iff.1 hg).1
     · rw[List.getElem?_drop] at hu;obtain⟨g',e',-,-,hc⟩:=hr _ u hu;obtain rfl:g=g':=by simpa using e'
       simpa [Addr.add_lit,Nat.add_comm,Nat.add_left_comm,Nat.add_assoc] using hc
theorem qp (T e:TypeId) (size:Nat) (ht:Tryz.prog.underlying T=some (.slice e)) (hs:∀w,(sizeOf e).run Tryz.prog w=.ok size w) (a:Option Addr) (n c k:Nat) (hk:k<=n) (w:World) :
 (Instr.slice T (.slice a n c) (some (I k)) none none).run Tryz.prog w=.ok (.slice (if c=k then a else a.map (·.add (k*size))) (n-k) (c-k)) w:=by
 have aS:(0:Int)<=(k:Int):=by omega
 have IB:(k:Int)<=(n:Int):=by omega
 have JQ:Tryz.prog.underlying T=some (.slice (Tryz.prog.elem T)):=by simp[Program.elem,ht]
 have he:Tryz.prog.elem T=e:=by simp[Program.elem,ht]
 rw[run_slice_l w T _ _ _ JQ .i64 _ aS IB,he,hs];simp[Result.andThen,sliced]
theorem qo {w:World} (t ty:TypeId)
 (base:Nat) (e:TypeId) (i:TypeInfo) (z:Value) (size bytes:Nat) (h1:Tryz.prog.underlying t=some (.slice e)) (h2:Tryz.prog.info? e=some i) (h3:i.zero=some z) (h4:i.size=size) (h5:i.bytes=bytes) (h6:z.cells.size=size) (h7:0<size)
 (v:Value) (n:Nat) (xs:List Value) (al:w.ownsRow base e size v n xs) (av:Option Addr) (m c:Nat) (news:List Value) (nH:SrcAt w size av m news)
 (b1:n+m<=maxLen) (b2:(n+m)*bytes<=140737488355328) (eC:base<=w.heap.size) :
 ∃a' c' w',(Builtin.append_ #[t,t] ty #[v,.slice av m c]).run Tryz.prog w=.ok (.slice a' (n+m) c') w'/\w'.ownsRow base e size (.slice a' (n+m) c') (n+m) (xs++news)/\w.grownBy w' v.ownBlock/\(Value.ownBlock (.slice a' (n+m) c')=v.ownBlock\/Value.ownBlock (.slice a' (n+m) c')=some w.heap.size):=by
 have key:∃v' w',(Builtin.append_ #[t,t] ty #[v,.slice av m c]).run Tryz.prog w=.ok v' w'/\w'.ownsRow base e size v' (n+m) (xs++news)/\w.grownBy w' v.ownBlock/\(v'.ownBlock=v.ownBlock\/v'.ownBlock=some w.heap.size):=by
  rcases Nat.eq_zero_or_pos m with rfl | hm
  · obtain rfl:news=[]:=List.eq_nil_of_length_eq_zero (by simpa using nH.len);have hv:∃ao co,v=.slice ao n co/\n<=co:=by
     rcases al.2 with⟨rfl,h0⟩ | ⟨g,cap,cur,rfl,-,-,hn,-⟩
     · have:=al.1;rw[h0] at this;have:n=0:=by
        rcases Nat.eq_zero_or_pos n with e | e
        · exact e
        · have:=Nat.mul_pos e h7;simp_all
       subst this;exact⟨none,0,rfl,Nat.le_refl _⟩
     · exact⟨_,cap,rfl,hn⟩
    obtain⟨ao,co,rfl,LI⟩:=hv;have hS:Src Tryz.prog i.size t (.slice av 0 c) 0 [] w:=by
     cases av with
     | none=>exact Src.ofNil w h1 c
     | some ad=>exact Src.ofSlice w h1 ad 0 c [] (by simp) (fun j u hu=>by simp at hu) (fun u hu=>by cases hu)
    refine⟨_,_,run_append_nothing w t t ty e i h1 h2 ao n co LI _ hS,by simpa using al,World.grownBy.refl _ _,.inl rfl⟩
  · obtain⟨ad,rfl,-,hc⟩:=nH.at_ hm;obtain⟨v',w',hr,r1,r2,-,r3⟩:=run_append_own_at (P:=Tryz.prog) w base t ty e i z size bytes h1 h2 h3 h4 h5 h6 h7 v n xs al ad m c news nH.len hc nH.one b1 b2 eC;exact⟨v',w',hr,r1,r2,r3⟩
 obtain⟨v',w',lJ,r1,r2,r3⟩:=key;obtain⟨a',c',rfl,-⟩:=zH r1;exact⟨a',c',w',lJ,r1,r2,r3⟩
theorem zz {ops:Array Oper} {o:Oper} {a:Act} {w:World} {K:Act->World->Prop} {Q:Exit->Act->World->Prop} {E:Prop}
 (hg:o.guard=none) (s x:Operand) (t:TypeId) (nN:o.op=Op.call {callee:=Callee.builtin Builtin.append,args:=#[s,x],argTypes:=#[t,t]})
 (base:Nat) (e:TypeId) (i:TypeInfo) (z:Value) (size bytes:Nat) (h1:Tryz.prog.underlying t=some (.slice e)) (h2:Tryz.prog.info? e=some i) (h3:i.zero=some z) (h4:i.size=size) (h5:i.bytes=bytes) (h6:z.cells.size=size) (h7:0<size)
 (v:Value) (n:Nat) (xs:List Value) (hs:a.eval s=v) (al:w.ownsRow base e size v n xs) (av:Option Addr) (m c:Nat) (news:List Value) (hx:a.eval x=.slice av m c) (nH:SrcAt w size av m news)
 (b1:n+m<=maxLen) (b2:(n+m)*bytes<=140737488355328) (eC:base<=w.heap.size) (N:Nat) (hN:n+m=N) (zs:List Value) (Cb:xs++news=zs)
 (hK:∀a' c' w',w'.ownsRow base e size (.slice a' N c') N zs->w.grownBy w' v.ownBlock->(Value.ownBlock (.slice a' N c')=v.ownBlock\/Value.ownBlock (.slice a' N c')=some w.heap.size)->K (a.put o.dst (.slice a' N c')) w') :
 if Region.wanted o (yielded ops a.tmps)=true then Oper.wp Tryz.prog o a w K Q else E:=by
 subst hN Cb;have hw:Region.wanted o (yielded ops a.tmps)=true:=by simp[Region.wanted,hg]
 rw[if_pos hw];obtain⟨a',c',w',lJ,r1,r2,r3⟩:=qo (w:=w) t o.type base e i z size bytes h1 h2 h3 h4 h5 h6 h7 v n xs al av m c news nH b1 b2 eC;unfold Oper.wp;simp[execOp,nN,resolve,invoke,builtin,hs,hx,lJ,Result.andThen]
 exact hK a' c' w' r1 r2 r3
theorem yK {w:World} {ops:Array Oper} {rest:List Oper} {o:Oper} {a:Act} {Q:Exit->Act->World->Prop}
 (hg:o.guard=none) (s x:Operand) (t:TypeId) (nN:o.op=Op.call {callee:=Callee.builtin Builtin.append,args:=#[s,x],argTypes:=#[t,t]})
 (base:Nat) (e:TypeId) (i:TypeInfo) (z:Value) (size bytes:Nat) (h1:Tryz.prog.underlying t=some (.slice e)) (h2:Tryz.prog.info? e=some i) (h3:i.zero=some z) (h4:i.size=size) (h5:i.bytes=bytes) (h6:z.cells.size=size) (h7:0<size)
 (v:Value) (n:Nat) (xs:List Value) (hs:a.eval s=v) (al:w.ownsRow base e size v n xs) (av:Option Addr) (m c:Nat) (news:List Value) (hx:a.eval x=.slice av m c) (nH:SrcAt w size av m news)
 (b1:n+m<=maxLen) (b2:(n+m)*bytes<=140737488355328) (eC:base<=w.heap.size) (N:Nat) (hN:n+m=N) (zs:List Value) (Cb:xs++news=zs)
 (hK:∀a' c' w',w'.ownsRow base e size (.slice a' N c') N zs->w.grownBy w' v.ownBlock->(Value.ownBlock (.slice a' N c')=v.ownBlock\/Value.ownBlock (.slice a' N c')=some w.heap.size)->wpList Tryz.prog ops Q rest (a.put o.dst (.slice a' N c')) w') :
 wpList Tryz.prog ops Q (o::rest) a w:=by
 subst hN Cb;obtain⟨a',c',w',lJ,r1,r2,r3⟩:=qo (w:=w) t o.type base e i z size bytes h1 h2 h3 h4 h5 h6 h7 v n xs al av m c news nH b1 b2 eC;exact wpList_append_run w hg s x t t nN v (.slice av m c) hs hx _ w' lJ (hK a' c' w' r1 r2 r3)
theorem jA (ps:List Pt):(zr ps).length=ps.length*4:=by
 induction ps with
 | nil=>rfl
 | cons p l ih=>
  have e:zr (p::l)=p.cells++zr l:=rfl;rw[e,List.length_append,ih];simp[Pt.cells]
  omega
theorem gU (ps:List Pt) (k:Nat) (hk:k<=ps.length):(zr ps).take (k*4)=zr (ps.take k):=by
 have e:zr ps=zr (ps.take k)++zr (ps.drop k):=by rw[<- yO,List.take_append_drop]
 rw[e,List.take_left'];rw[jA,List.length_take,Nat.min_eq_left hk]
theorem gT (ps:List Pt) (k:Nat) (hk:k<=ps.length):(zr ps).drop (k*4)=zr (ps.drop k):=by
 have e:zr ps=zr (ps.take k)++zr (ps.drop k):=by rw[<- yO,List.take_append_drop]
 rw[e,List.drop_left'];rw[jA,List.length_take,Nat.min_eq_left hk]
section
attribute [local go_sem] Oper.semAt_some
theorem WG (tag lag:Int) (W:World) (ht:tag=0\/tag=1\/tag=2) (hl:-9223372036854775808<=lag):Calls Tryz.prog 137 #[I tag,I lag] W fun e w'=>e=.returned (I (yy tag lag))/\W=w':=by
 rcases ht with rfl | rfl | rfl
 · by_cases h:0<lag
   · have HR:Hid (yy 0 lag=0):=lH (by simp[yy,wM];omega);go_enter Tryz.func137,Tryz.ntmps137;go_wp2_with fail
     go_ret
     exact⟨by rw[HR.out];rfl,rfl⟩
   · have HR:Hid (yy 0 lag=lag):=lH (by simp[yy,wM];omega);go_enter Tryz.func137,Tryz.ntmps137;go_wp2_with fail
     go_ret
     exact⟨by rw[HR.out];rfl,rfl⟩
 · by_cases h:698377680<lag
   · have HR:Hid (yy 1 lag=698377680):=lH (by simp[yy,wL];omega);go_enter Tryz.func137,Tryz.ntmps137;go_wp2_with fail
     go_ret
     exact⟨by rw[HR.out];rfl,rfl⟩
   · have HR:Hid (yy 1 lag=lag):=lH (by simp[yy,wL];omega);go_enter Tryz.func137,Tryz.ntmps137;go_wp2_with fail
     go_ret
     exact⟨by rw[HR.out];rfl,rfl⟩
 · by_cases h:698377680<lag
   · have HR:Hid (yy 2 lag=698377680):=lH (by simp[yy,wI];omega);go_enter Tryz.func137,Tryz.ntmps137;go_wp2_with fail
     go_ret
     exact⟨by rw[HR.out];rfl,rfl⟩
   · by_cases h2:lag < -698377680
     · have HR:Hid (yy 2 lag=-698377680):=lH (by simp[yy,wI];omega);go_enter Tryz.func137,Tryz.ntmps137;go_wp2_with fail
       go_ret
       exact⟨by rw[HR.out];rfl,rfl⟩
     · have HR:Hid (yy 2 lag=lag):=lH (by simp[yy,wI];omega);go_enter Tryz.func137,Tryz.ntmps137;go_wp2_with fail
       go_ret
       exact⟨by rw[HR.out];rfl,rfl⟩
theorem Xy (p:Pt):∀(ps:List Pt) (k:Nat),k<=ps.length->(∀j q,ps[j]? = some q->j<k->¬p.id<q.id)->(∀q,ps[k]? = some q->p.id<q.id)->vH p ps=ps.take k++p::ps.drop k
 | [],k,hk,_,_=>by
  obtain rfl:k=0:=by simpa using hk
  rfl
 | q::l,0,hk,_,h2=>by
  have:=h2 q rfl;simp[vH,this]
 | q::l,k+1,hk,h1,h2=>by
  have h0:=h1 0 q rfl (by omega);have ih:=Xy p l k (by simpa using hk) (fun j r hr hj=>h1 (j+1) r hr (by omega)) (fun r hr=>h2 r hr);simp[vH,h0,ih]
theorem QuAt.setRow {W w4:World} {qb:Nat} {v v':Value} {tag:Int} {l:Ln} {ps:List Pt} (h:QuAt W qb v tag l) (hb:Below W.heap.size W w4) (hr:w4.ownsRow W.heap.size 110 4 v' ps.length (zr ps)) :
 QuAt (w4.setCell ⟨qb,3,none⟩ v') qb v' tag ⟨l.base,l.cur,ps⟩/\Touch (fun j=>j=qb) W (w4.setCell ⟨qb,3,none⟩ v')/\∀j,v'.ownBlock=some j->W.heap.size<=j:=by
 have h4:=h.below hb;have ah:=h.lt.1;have hv:∀j,v'.ownBlock=some j->W.heap.size<=j:=fun j hj=>(hr.lt j hj).1;refine⟨⟨by rw[za _ (by simp)];exact h4.c0,by rw[za _ (by simp)];exact h4.c1,by rw[za _ (by simp)];exact h4.c2,World.cell?_setCell_same _ _ _ h4.c3,fun i=>by rw[World.frozen?_setCell];exact h4.live i,
  zb (zM hr (Nat.zero_le _)) (fun k hk=>Below.heap_setCell _ _ _ _ (fun e=>by have e2:k=qb:=e;have:=hv k hk;omega)),fun e=>by have:=hv qb e;omega⟩,(Touch.of_below (F:=fun j=>j=qb) hb).setCell (t:=none) (.inl rfl) _,hv⟩
theorem Xv:(Tryz.prog.info? 110).map (fun i=>(i.zero,i.size,i.bytes))=some (some (.agg #[I 0,I 0,I 0,I 0]),4,32):=by kernel_rfl
def qK (W:World) (qb:Nat) (v:Value) (w:World):Prop:=w.cell? ⟨qb,3,none⟩=some v/\Hid (Below W.heap.size W w)
theorem vL {w:World} {cs:Array Value} {t:TypeId} (h:∀u∈cs.toList,u.oneCell'=true):SrcAt (w.alloc (.cells cs t)) cs.size (some ⟨w.heap.size,0,none⟩) 1 cs.toList:=
 ⟨by simp,h,fun _=>⟨_,rfl,by simp,World.news_of_block (cs:=cs) (t:=t) (fr:=(0,0)) (heap_alloc_new _ _)⟩⟩
theorem qK.alloc {W w:World} {qb:Nat} {v:Value} (h:qK W qb v w) (o:Obj):qK W qb v (w.alloc o):=
 ⟨Lib.cell?_alloc_some _ h.1,lH (h.2.out.alloc h.2.out.size _)⟩
theorem qK.grown {W w w':World} {qb:Nat} {v:Value} {row:Option Nat} (h:qK W qb v w) (hq:qb<W.heap.size) (hg:w.grownBy w' row) (hr:∀k,row=some k->W.heap.size<=k):qK W qb v w':=
 ⟨hg.cell h.1 (fun e=>by have:=hr qb e.symm;omega),lH (h.2.out.grown hg h.2.out.size hr)⟩
theorem jL (qb:Nat) (v:Value) (tag:Int) (l:Ln) (id w lag:Int) (ex:Bool) (W:World) (hq:QuAt W qb v tag l) (ht:tag=0\/tag=1\/tag=2) (aT:l.ps.length<=64) (eC:-2305843009213693952<=l.base/\l.base<=2305843009213693952) (h:zP l id w lag=0) :
 Calls Tryz.prog 84 #[.pointer (some ⟨qb,0,none⟩),I id,I w,I lag,.bool ex] W fun e w'=>e=.returned (I 0)/\∃v',QuAt w' qb v' tag (xR l id w (if ex=true then lag else yy tag lag))/\Touch (fun j=>j=qb) W w'/\∀j,v'.ownBlock=some j->W.heap.size<=j:=by
 have hg:=yM w W;have aE:=jl qb v tag l id W hq (by omega);have iZ:=kY h;have aU:=WG tag lag W ht (by omega);obtain⟨Lg,CJ⟩:∃x,(if ex=true then lag else yy tag lag)=x:=⟨_,rfl⟩
 have MX:-1125899906842624<=Lg/\Lg<=1125899906842624:=by
  rw[<- CJ];split
  · exact iZ
  · rcases ht with rfl | rfl | rfl <;> simp[yy,wM,wL,wI] <;> (try split) <;> omega
 rw[CJ];have ll:=fun W'=>f8 w W';have oX:=fun(W':World) (v':Value) (ps:List Pt) (hQ:QuAt W' qb v' tag ⟨l.base,l.cur,ps⟩) (hn:ps.length<=1000)=>qC qb v' tag ⟨l.base,l.cur,ps⟩ W' hQ hn;have ie:xR l id w Lg=⟨yY l.base (vH (T8 ⟨id,w,l.base-Lg,0⟩) l.ps),l.cur,vH (T8 ⟨id,w,l.base-Lg,0⟩) l.ps⟩:=rfl;have Pr:T8 ⟨id,w,l.base-Lg,0⟩=⟨id,w,l.base-Lg,l.base-Lg+4*zF w⟩:=rfl;rw[Pr] at ie;obtain⟨st0,st1⟩:=xZ w;generalize zF w=st at ll ie st0 st1;unfold zP at h;split at h
 case isFalse=>exact absurd h (by decide)
 rename_i hm;simp only[da,Bool.and_eq_true,decide_eq_true_eq] at hm;obtain⟨m1,m2,m3,m4,m5⟩:=hm;rw[m3] at hg;split at h
 case isTrue=>exact absurd h (by decide)
 rename_i hp;split at h
 case isTrue=>exact absurd h (by decide)
 rename_i hf;have IR:∀(j:Nat) (q:Pt),l.ps[j]? = some q->q.id≠id:=fun j q pZ=>by
  rcases zB l.ps id with⟨-,hn⟩ | ⟨k,hk,e,-⟩
  · exact hn q (List.mem_of_getElem? pZ)
  · exact absurd (by rw[e];omega) hp
 obtain⟨n,hn⟩:∃x,l.ps.length=x:=⟨_,rfl⟩
 obtain⟨a,c,hv,ae⟩:=hq.get;have aa:=hq.row;have c1:=hq.c1;have c3:=hq.c3;have c0:=hq.c0;have f3:=hq.live 3;have FR:=hq.lt.1;rw[hv,hn] at c3 aa;have AH:n<=c:=by
  rcases aa.2 with⟨e,-⟩ | ⟨g,cap,cur,e,-,-,AH,-⟩
  · simp only[Value.slice.injEq] at e;omega
  · simp only[Value.slice.injEq] at e;omega
 have HN:=lH hn;have HC:=lH ae;have eJ:=lH aa;have HQ:=lH hq;have HV:=lH hv;have HF:=lH hf;have Ms:=lH IR;have Ao:=lH ie;have io:=lH FR;have n1:¬id<0:=by omega
 have n2:¬1073741824<id:=by omega
 have n3:¬lag < -1125899906842624:=by omega
 have n4:¬1125899906842624<lag:=by omega
 have n5:¬(64:Int)<=(n:Int):=by omega
 have FG:n<=64:=by omega
 obtain⟨b1,b2⟩:=MX;obtain⟨b3,b4⟩:=eC;have kw:IntKind.i64.wrap (l.base-Lg)=l.base-Lg:=by rw[IntKind.wrap_i64];omega
 have kd:IntKind.i64.wrap (l.base-Lg+4*st)=l.base-Lg+4*st:=by rw[IntKind.wrap_i64];omega
 generalize yh l.ps id=pp at aE hp;have ED:=lH oX;obtain⟨i0,hi,eG,aI,et⟩:=info_parts Xv;have sL:=lH aE;clear hq hv ae aa hf IR ie Pr m3 hn aT oX aE;cases ex;case' false=>
  have e1:yy tag lag=Lg:=by simpa using CJ
  rw[e1] at aU;clear e1 CJ;go_enter Tryz.func84,Tryz.ntmps84;go_wp2_with fail
  refine hg.mono ?_;rintro e w1 ⟨rfl,rfl⟩;go_wp2_with fail
  refine sL.out.mono ?_;rintro e w1 ⟨rfl,rfl⟩;go_wp2_with fail
  refine aU.mono ?_;rintro e w1 ⟨rfl,rfl⟩;go_wp2_with fail
 case' true=>
  have e1:Lg=lag:=by have:=CJ.symm;simpa using this
  clear CJ aU;subst e1;go_enter Tryz.func84,Tryz.ntmps84;go_wp2_with fail
  refine hg.mono ?_;rintro e w1 ⟨rfl,rfl⟩;go_wp2_with fail
  refine sL.out.mono ?_;rintro e w1 ⟨rfl,rfl⟩;go_wp2_with fail
 all_goals
  go_loop [11] (fun x=>∃k:Nat,k<=n/\x=I k/\Hid (∀j q,l.ps[j]? = some q->j<k->q.id<id)) (fun x=>n-(intOf x).toNat)
  case atStart=>exact⟨0,Nat.zero_le _,rfl,lH (fun j q hq hj=>absurd hj (Nat.not_lt_zero j))⟩
  case round=>
   obtain⟨k,hk,rfl,HK⟩:=hrel;have aX:0<=(k:Int):=by omega
   have fin:Hid ((∀q,l.ps[k]? = some q->id<q.id)->vH ⟨id,w,l.base-Lg,l.base-Lg+4*st⟩ l.ps=l.ps.take k++⟨id,w,l.base-Lg,l.base-Lg+4*st⟩::l.ps.drop k):=lH (fun h2=>
    Xy ⟨id,w,l.base-Lg,l.base-Lg+4*st⟩ l.ps k (by rw[HN.out];exact hk) (fun j q hq hj=>by have:=HK.out j q hq hj;show¬id<q.id;omega) h2)
   have sV:(k:Int)<=(c:Int):=by omega
   have aS:(k:Int)<=(n:Int):=by omega
   by_cases aw:k<n
   case' pos=>
    have eO:k<l.ps.length:=by rw[HN.out];exact aw
    obtain⟨p,BN⟩:∃p,l.ps[k]? = some p:=⟨_,List.getElem?_eq_getElem eO⟩
    obtain⟨g,ha,g1,k0,-⟩:=HC.out k p BN;have iJ:(k:Int)<(n:Int):=by omega
    have I2:=Ms.out k p BN;have HP:=lH BN;clear BN;by_cases ah:p.id<id
    case' pos=>
     have Cx:Hid (∀j q,l.ps[j]? = some q->j<k+1->q.id<id):=lH (fun j q hq hj=>by
      by_cases e:j<k
      · exact HK.out j q hq e
      · obtain rfl:j=k:=by omega
        have:=HP.out;rw[hq] at this;obtain rfl:=Option.some.inj this;exact ah)
     clear I2;go_wp2_with fail
     go_round
     case rel=>exact⟨k+1,by omega,by go_num,Cx⟩
     case measure=>simp[intOf];omega
    case' neg=>
     have GU:=lH (fin.out (fun q hq=>by
      have:=HP.out;rw[hq] at this;obtain rfl:=Option.some.inj this;omega))
     have nG:¬p.id<id:=ah;clear I2 fin;go_wp2_with fail
     clear ha g1 k0 HP
   case' neg=>
    have GU:=lH (fin.out (fun q hq=>by
     have:=(List.getElem?_eq_some_iff.1 hq).1;rw[HN.out] at this;omega))
    have iJ:¬(k:Int)<(n:Int):=by omega
    clear fin;go_wp2_with fail
   all_goals
    have AD:k<=l.ps.length:=by rw[HN.out];exact hk
    have iu:=(qF eJ.out (vy l.ps) k hk)
    have eM:=(vj eJ.out (vy l.ps) k hk)
    rw[gU l.ps k AD] at iu;rw[gT l.ps k AD] at eM;have le:=qp 106 110 4 Tryz.underlying106 (fun w=>Tryz.sizeOf110 w) a n c k hk;generalize(if c=k then a else a.map (·.add (k*4)))=a' at eM le;have lD:qK W qb (.slice a n c) W.drew:=⟨c3,lH (Below.refl _ _).drew⟩
    have ig:(W.drew.alloc (.cells #[] 110)).ownsRow W.heap.size 110 4 (.slice (some ⟨W.heap.size,0,none⟩) 0 0) 0 []:=
     ⟨rfl,.inr ⟨W.heap.size,0,#[],rfl,Nat.le_refl _,by show(W.heap.push _)[W.heap.size]? = _;simp,Nat.le_refl _,by unfold maxLen;omega,rfl,rfl⟩⟩
    have iL:=lH iu;have iy:=lH eM;clear iu eM;refine zK (S:=qK W qb (.slice a n c)) (T:=[26,27,28]) (by kernel_rfl) ?_;refine wT 0 ?_;refine wT 2 ?_;refine wT 3 ?_;refine wT 4 ?_;refine wT 5 ?_;refine wT 6 ?_;refine wT 7 ?_;refine wT 9 ?_;refine wT 10 ?_;refine wT 11 ?_;refine wT 12 ?_;refine wT 13 ?_;refine wT 19 ?_;refine wT 20 ?_;refine wT 21 ?_;refine wT 22 ?_;refine wT 23 ?_;refine wT 24 ?_;simp only[Act.put,aP,List.set];refine ze (i:=1) (by kernel_rfl) rfl (by kernel_rfl) ?_;intro K hK;go_simp
    have aF:=lD.alloc (.cells #[] 110);refine hK _ _ aF ?_;clear hK;refine ze (i:=8) (by kernel_rfl) rfl (by kernel_rfl) ?_;intro K hK;refine zz rfl _ _ _ rfl W.heap.size 110 i0 _ 4 32 Tryz.underlying106 hi eG aI et rfl (by omega) (.slice (some ⟨W.heap.size,0,none⟩) 0 0) 0 [] rfl ig a k c _ rfl (iL.out.below aF.2.out) (by unfold maxLen;omega) (by omega) (by simp) k (by omega) (zr (l.ps.take k)) (List.nil_append _) ?_;intro a1 q1 w1 ec el nk;have aC:=aF.grown io.out el (fun k hk=>Nat.le_of_eq (Option.some.inj hk));refine hK _ _ aC ?_;clear hK lD aF ig el nk;refine ze (i:=14) (by kernel_rfl) rfl (by kernel_rfl) ?_;intro K hK;go_simp
    go_at_call 133
    refine(ll _).mono ?_;rintro e w9 ⟨rfl,rfl⟩;refine hK _ _ aC ?_;clear hK;refine wT 15 ?_;refine wT 16 ?_;simp only[Act.put,aP,List.set];refine ze (i:=17) (by kernel_rfl) rfl (by kernel_rfl) ?_;intro K hK;go_simp
    have lR:=aC.alloc (.cells #[I id,I w,I (l.base-Lg),I (l.base-Lg+4*st)] 110);refine hK _ _ lR ?_;clear hK;refine ze (i:=18) (by kernel_rfl) rfl (by kernel_rfl) ?_;intro K hK;refine zz rfl _ _ _ rfl W.heap.size 110 i0 _ 4 32 Tryz.underlying106 hi eG aI et rfl (by omega) (.slice a1 k q1) k (zr (l.ps.take k)) rfl (ec.alloc _) (some ⟨w1.heap.size,0,none⟩) 1 1 [I id,I w,I (l.base-Lg),I (l.base-Lg+4*st)] rfl (vL (cs:=#[I id,I w,I (l.base-Lg),I (l.base-Lg+4*st)]) (by simp[Value.oneCell'])) (by unfold maxLen;omega) (by omega) lR.2.out.size (k+1) rfl (zr (l.ps.take k++[⟨id,w,l.base-Lg,l.base-Lg+4*st⟩])) (by rw[yO];rfl) ?_;intro a2 q2 w2 eh aR nm;have Ac:=lR.grown io.out aR (fun k hk=>(ec.lt k hk).1);refine hK _ _ Ac ?_;clear hK lR aC aR nm ec;refine ze (i:=25) (by kernel_rfl) rfl (by kernel_rfl) ?_;intro K hK;refine zz rfl _ _ _ rfl W.heap.size 110 i0 _ 4 32 Tryz.underlying106 hi eG aI et rfl (by omega) (.slice a2 (k+1) q2) (k+1) (zr (l.ps.take k++[⟨id,w,l.base-Lg,l.base-Lg+4*st⟩])) rfl eh a' (n-k) (c-k) _ rfl (iy.out.below Ac.2.out) (by unfold maxLen;omega) (by omega) Ac.2.out.size (n+1) (by omega) (zr (l.ps.take k++⟨id,w,l.base-Lg,l.base-Lg+4*st⟩::l.ps.drop k)) (by rw[<- yO];simp) ?_;intro a3 q3 w3 eK eI nU;have ip:=Ac.grown io.out eI (fun k hk=>(eh.lt k hk).1);refine hK _ _ ip ?_;have f3':=(HQ.out.below ip.2.out).live 3;have e3':=ip.1;clear hK Ac eI nU eh;refine zk (i:=26) (by kernel_rfl) rfl (by kernel_rfl) ?_;intro K hK;go_simp
    refine hK _ _ ?_;clear hK;refine zk (i:=27) (by kernel_rfl) rfl (by kernel_rfl) ?_;intro K hK;go_simp
    refine hK _ _ ?_;clear hK;refine zk (i:=28) (by kernel_rfl) rfl (by kernel_rfl) ?_;intro K hK;go_simp
    refine hK _ _ ?_;clear hK;refine zy (by kernel_rfl) ?_ _;have ag:(l.ps.take k++⟨id,w,l.base-Lg,l.base-Lg+4*st⟩::l.ps.drop k).length=n+1:=by simp[HN.out];omega
    rw[<- ag] at eK;obtain⟨oF,pC,FI⟩:=HQ.out.setRow ip.2.out eK;rw[ag] at oF pC;rw[ag] at FI;have GT:=lH (ED.out _ _ _ oF (by rw[ag];omega));have ER:=lH pC;have Ll:=lH FI;clear oF pC FI eK ag ip f3' e3' le;go_wp2_with fail
    refine GT.out.mono ?_;rintro e w7 ⟨rfl,rg,ss⟩;rw[<- GU.out] at rg;have A7:=lH rg;have ES:=lH ss;clear rg ss;go_wp2_with fail
    go_ret
    exact⟨rfl,_,by rw[Ao.out];exact A7.out,ER.out.trans (uk.refl _ _) ES.out,Ll.out⟩
theorem gM.at2 {s s':Sy} {a b c n m x y:Int} (h:gM s 2 a b c n m x y s'):x=(xh s a (IntKind.u16.wrap b) c).1/\y=(xh s a (IntKind.u16.wrap b) c).2.1/\s'=(xh s a (IntKind.u16.wrap b) c).2.2:=by
 rcases h with h | h | h | h | h | h | h | h | h | h | h | h | h
 · exact absurd h.1 (by decide)
 · exact h.2
 all_goals first | exact absurd h.1 (by decide) | skip
theorem gM.at3 {s s':Sy} {a b c n m x y:Int} (h:gM s 3 a b c n m x y s'):x=0/\y=(wk s a).1/\s'=(wk s a).2:=by
 rcases h with h | h | h | h | h | h | h | h | h | h | h | h | h
 · exact absurd h.1 (by decide)
 · exact absurd h.1 (by decide)
 · exact h.2
 all_goals first | exact absurd h.1 (by decide) | skip
theorem gM.at10 {s s':Sy} {a b c n m x y:Int} (h:gM s 10 a b c n m x y s'):XD s a x y s':=by
 rcases h with h | h | h | h | h | h | h | h | h | h | h | h | h
 · exact absurd h.1 (by decide)
 · exact absurd h.1 (by decide)
 · exact absurd h.1 (by decide)
 · exact absurd h.1 (by decide)
 · exact absurd h.1 (by decide)
 · exact absurd h.1 (by decide)
 · exact absurd h.1 (by decide)
 · exact absurd h.1 (by decide)
 · exact absurd h.1 (by decide)
 · exact h.2
 all_goals first | exact absurd h.1 (by decide) | skip
def XJ:List (Int×Bool):=(yH 64).set 0 (1,true)
def ZP:Sy:=⟨[qe 0],vU,we,XJ,fun x=>if x=0 then some (ya 0 1 1 0) else none,1⟩
def awC:Co:=⟨0,xR ⟨0,-1,[]⟩ 0 1 (yy 0 0),wrap64 (0+1),0⟩
theorem VU:(xh (xX [0]) 1 (IntKind.u16.wrap 1) 0).2.2=ZP:=by
 have h1:IntKind.u16.wrap 1=1:=by decide
 have h2:ym (xX [0]).ps=(0,0,XJ):=by rfl
 unfold xh;rw[h1,if_neg (by decide),if_neg (by decide),if_neg (by decide),h2,if_pos rfl];rfl
theorem QS (s:Sy) (t:Tk) (hg:s.gs=vU) (ha:s.acc=we) (ht:t.group=0):vX s t=false:=by
 rw[vi (xs:=[g0]) (by rw[hg,ht];exact ch)];simp only[List.any_cons,List.any_nil,Bool.or_false];unfold zO;rw[ha];decide
theorem VV:(wk ZP 0).2.cores=[awC]/\(wk ZP 0).2.ps=XJ:=by
 have h1:ZP.tasks 0=some (ya 0 1 1 0):=rfl;have h2:uf ZP 1=0:=by decide
 have h3:vX ZP (ya 0 1 1 0)=false:=QS _ _ rfl rfl rfl;have h4:(nxt (ya 0 1 1 0).state 1).2=0:=by decide
 have h5:(ya 0 1 1 0).mask=1:=rfl;unfold wk;rw[h1];simp only
 rw[if_pos h4,h5,h2,h3];unfold zX;rw[if_neg (by decide)];have h6:zg (setTk ZP 0 (coT (ya 0 1 1 0) 0)).cores[(0:Int).toNat]! (coT (ya 0 1 1 0) 0).id (coT (ya 0 1 1 0) 0).w (coT (ya 0 1 1 0) 0).lag false=(0,awC):=by rfl
 rw[h6,if_pos rfl];exact⟨rfl,rfl⟩
theorem gX:∀(ids:List Int) (s:Sy),(ids.foldl yI s).ps=s.ps
 | [],s=>rfl
 | id::ids,s=>(gX ids _).trans (kq s id).1
theorem KT {s s':Sy} {x y:Int} (hc:s.cores=[awC]) (hp:s.ps=XJ) (h:XD s 0 x y s'):x=0/\y=0/\s'.ps=XJ:=by
 have hr:(yE awC).1=0:=by decide
 rcases h with⟨h1,_⟩ | ⟨i,hi,eB,rfl,c',h⟩
 · rw[hc] at h1;simp at h1
 · obtain rfl:i=0:=by omega
   have e:s.cores[0]! = awC:=by rw[hc];rfl
   rw[e] at h;rcases h with⟨rfl,h2,_⟩ | ⟨t,xs,ids,h2,_,_,_,_,rfl⟩
   · rw[h2] at hr;cases hr
   · rw[h2] at hr;exact⟨hr,rfl,by rw[gX];exact hp⟩
theorem KS:(zf XJ).length=1:=by decide
theorem Ja (a0 a1 a2 a3 a4:Option Addr) (n0 n1 n2 n3 n4 c0 c1 c2 c3 c4:Nat) (W:World) :
 Sem.run Tryz.prog (Instr.field 44 (Value.agg #[.slice a0 n0 c0,.slice a1 n1 c1,.slice a2 n2 c2,.slice a3 n3 c3,.slice a4 n4 c4]) 2) W=Result.ok (.slice a2 n2 c2) W:=by kernel_rfl
end
theorem Yl {k n:Nat} {b:Int} {s:Sy} (h:InvY k b n s) {W:World} {P:Nat->Prop} {fl:List (Int×Value)} (hf:yk W P fl s.cores) (c:Nat) (hc:c<n) :
 ∃p q,(wK fl)[c*2]? = some (I s.cores[c]!.l.cur)/\(wK fl)[c*2+1]? = some (.slice p s.cores[c]!.l.ps.length q)/\FSl W (.slice p s.cores[c]!.l.ps.length q) (zw s.cores[c]!.l):=by
 have Fh:c<s.cores.length:=by rw[h.len];exact hc
 obtain⟨hl,e1,e2⟩:=bA fl s.cores c hf Fh;obtain⟨f1,f2⟩:=d7 fl c hl;rw[getElem!_pos s.cores c Fh];obtain⟨p,q,e3⟩:∃p q,fl[c].2=.slice p (zw (s.cores[c]'Fh).l).length q:=by
  rcases e2 with⟨e,e'⟩ | ⟨g,cap,e,_⟩
  · rw[e,e'];exact⟨none,0,rfl⟩
  · exact⟨_,cap,e⟩
 have ag:(zw (s.cores[c]'Fh).l).length=(s.cores[c]'Fh).l.ps.length:=by simp[zw]
 rw[ag] at e3;exact⟨p,q,by rw[f1,e1],by rw[f2,e3],by rw[<- e3];exact e2⟩
end Go.Proofs.YtoiajjobecinpaaGreat

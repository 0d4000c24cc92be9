/- Where a task is in a line. Where a task is in a line: the contract of find. May. NewLine; of and New -/
import Derived.Shelf.Bits.Mul64
import Derived.Shelf.Spec.BitsCarry
import Derived.Shelf.Lay
import Derived.Ground.NamesProg
import Derived.Ground.Names7Prog
import Derived.Lib.SliceRun
import Derived.Laws.BytesArg
import Derived.Shelf.Bytes.SlEqualAll
import Derived.Test.YtoiajjobecinpaaGreatTM01
set_option maxHeartbeats 4000000
set_option maxRecDepth 100000
namespace Go.Proofs.YtoiajjobecinpaaGreat
open Go.RowKit Go.Shelf Go.Lib Go.Proofs
set_option linter.unusedVariables false
set_option linter.unusedSimpArgs false
def Tryz.l284_ren:Go.Shelf.Ren:=⟨fun | 6=>284 | n=>n,fun | 22=>265 | 23=>338 | 25=>368 | 3=>3 | 0=>0 | 4=>4 | n=>n,fun | n=>n⟩
theorem Tryz.l284:Go.Proofs.SlLaysH0.n6 Tryz.prog Tryz.l284_ren:={
 mixed:=by kernel_rfl
 f6:=⟨Tryz.f284.name,by decide,Tryz.func284.trans (congrArg some (by kernel_rfl))⟩
 t0:=Tryz.underlying0
 a0:=Tryz.isAgg0
 z0:=Tryz.sizeOf0
 v0:=Tryz.zeroValue0
 t3:=Tryz.underlying3
 a3:=Tryz.isAgg3
 z3:=Tryz.sizeOf3
 v3:=Tryz.zeroValue3
 t4:=Tryz.underlying4
 a4:=Tryz.isAgg4
 z4:=Tryz.sizeOf4
 v4:=Tryz.zeroValue4
 t22:=Tryz.underlying265
 a22:=Tryz.isAgg265
 z22:=Tryz.sizeOf265
 v22:=Tryz.zeroValue265
 t25:=Tryz.underlying368
 a25:=Tryz.isAgg368
 z25:=Tryz.sizeOf368
 v25:=Tryz.zeroValue368}
theorem Ku (id:Int) (B:Nat) (w:World) (hB:B<w.heap.size) (ap:w.cell? ⟨B,0,none⟩=some (I id)) :
 PredBelow Tryz.prog 285 #[.pointer (some ⟨B,0,none⟩)] (fun x:Pt=>.agg x.cells.toArray) (fun x=>decide (x.id=id)) w:=fun W x hb=>by
 have hc:W.cell? ⟨B,0,none⟩=some (I id):=(hb.cell (p:=⟨B,0,none⟩) hB).trans ap;have nS:B<W.heap.size:=Nat.lt_of_lt_of_le hB hb.size;have ay:B≠W.heap.size:=by omega
 obtain⟨i,ww,v,day⟩:=x;show Calls Tryz.prog 285 #[.agg #[I i,I ww,I v,I day],.pointer (some ⟨B,0,none⟩)] W _;go_enter Tryz.func285,Tryz.ntmps285;go_wp2
 all_goals (go_ret;exact⟨by simp_all;exact Bool.eq_iff_iff.2 (by simp),hb.alloc hb.size _⟩)
theorem vD (b:Nat) (v:Value) (l:Ln) (id:Int) (W:World) (h:LineAt W b v l) :
 Calls Tryz.prog 276 #[.pointer (some ⟨b,0,none⟩),I id] W fun e w'=>e=.returned (I (yh l.ps id))/\Below W.heap.size W w':=by
 have le:=h.sl;have hb:=h.lt b (.inl rfl);have aa:=h.row;obtain⟨ps,HP⟩:∃ps,Hid (l.ps=ps):=⟨_,lH rfl⟩
 rw[HP.out] at aa⊢;rcases aa.2 with⟨rfl,h0⟩ | ⟨g,cap,cur,rfl,l7,la,hn,hm,mH,ht⟩
 · have:ps=[]:=List.length_eq_zero_iff.1 h0;have HR:=lH this;clear this h0 aa;go_enter Tryz.func276,Tryz.ntmps276;go_wp2_with fail
   refine(fZ _ _ _).mono ?_;rintro e w' ⟨rfl,rfl⟩;go_wp2
   go_ret
   exact⟨by rw[HR.out];rfl,(Below.refl _ _).alloc (Nat.le_refl _) _⟩
 · have eg:∀args w,(callFunc 285 args).run Tryz.prog w=.ok (.enter 285 args) w:=enters_of Tryz.func285 (by kernel_rfl) rfl;have eL:g<W.heap.size:=(Array.getElem?_eq_some_iff.1 la).1;have aD:=AnyQ.slices_IndexFunc Tryz.l284 4 Tryz.isAgg338 Tryz.sizeOf338 Pt.cells (fun _=>rfl) (fun x=>decide (x.id=id)) 285 #[.pointer (some ⟨W.heap.size,0,none⟩)] eg g 0 ps.length cap ps (W.alloc (.cells #[I id] 3))
    (Ku id W.heap.size _ (by simp) (by simp)) (Nat.le_refl _) (by unfold maxLen at hm;omega) (by simp;omega) (fun j hj i v hi=>Lib.cell?_alloc_some _ (ji aa j hj i v hi))
   change Calls Tryz.prog 284 _ _ _ at aD;rw[List.take_of_length_le (Nat.le_refl _)] at aD;change Calls Tryz.prog 284 _ _ (fun e w'=>e=.returned (I (yh ps id))/\_) at aD;generalize yh ps id=r at aD⊢;obtain⟨m,HM⟩:∃m,Hid (ps.length=m):=⟨_,lH rfl⟩
   rw[HM.out] at aD le;clear aa la mH ht hn eg;go_enter Tryz.func276,Tryz.ntmps276;go_wp2_with (go_at_call 284;refine aD.mono ?_;rintro e w' ⟨rfl,l7⟩)
   go_ret
   exact⟨rfl,((Below.refl _ W).alloc (Nat.le_refl _) _).trans (l7.mono (by simp))⟩
theorem kZ (b:Nat) (v:Value) (l:Ln) (id w lag:Int) (W:World) (h:LineAt W b v l) :
 Calls Tryz.prog 268 #[.pointer (some ⟨b,0,none⟩),I id,I w,I lag] W fun e w'=>e=.returned (I (zP l id w lag))/\Below W.heap.size W w':=by
 have aD:=fun W'=>U0 id w lag W';have ai:=fun W' (h':LineAt W' b v l)=>vD b v l id W' h';unfold zP;cases hm:da id w lag with
 | false=>
  rw[hm] at aD;clear hm ai;go_enter Tryz.func268,Tryz.ntmps268;go_wp2_with fail
  refine(aD _).mono ?_;rintro e w' ⟨rfl,hb⟩;go_wp2
  go_ret
  exact⟨rfl,hb⟩
 | true=>
  rw[hm] at aD;clear hm;obtain⟨r,hr⟩:∃r,yh l.ps id=r:=⟨_,rfl⟩
  rw[hr] at ai⊢;have HR:=lH hr;clear hr;have HL:=lH h;obtain⟨n,hn⟩:∃n,l.ps.length=n:=⟨_,rfl⟩
  rw[hn];have hv:∃a c,v=.slice a n c:=by
   rcases h.row.2 with⟨rfl,h0⟩ | ⟨g,cap,cur,rfl,_⟩
   · exact⟨none,0,by rw[<- hn,h0]⟩
   · exact⟨_,cap,by rw[<- hn]⟩
  obtain⟨a,c,HV⟩:=hv;have HV:=lH HV;have HN:=lH hn;clear hn h;by_cases h0:0<=r
  · go_enter Tryz.func268,Tryz.ntmps268;go_wp2_with fail
    refine(aD _).mono ?_;rintro e w' ⟨rfl,hb⟩;go_wp2_with fail
    refine(ai _ (HL.out.below hb)).mono ?_;rintro e w2 ⟨rfl,ar⟩;have HB:=lH (hb.trans (ar.mono hb.size));clear hb ar;go_wp2
    go_ret
    exact⟨by simp[h0],HB.out⟩
  · by_cases aT:n=64
    · have e64:((n:Int)==64)=true:=by simp[aT]
      have H6:=lH aT;clear aT;go_enter Tryz.func268,Tryz.ntmps268;go_wp2_with fail
      refine(aD _).mono ?_;rintro e w' ⟨rfl,hb⟩;go_wp2_with fail
      refine(ai _ (HL.out.below hb)).mono ?_;rintro e w2 ⟨rfl,ar⟩;have h2:=hb.trans (ar.mono hb.size)
      have le:=(HL.out.below h2).sl;rw[HV.out] at le;have HB:=lH h2;clear hb ar h2;go_wp2
      go_ret
      exact⟨by simp[h0,H6.out],HB.out⟩
    · have e64:((n:Int)==64)=false:=by simp;omega
      go_enter Tryz.func268,Tryz.ntmps268;go_wp2_with fail
      refine(aD _).mono ?_;rintro e w' ⟨rfl,hb⟩;go_wp2_with fail
      refine(ai _ (HL.out.below hb)).mono ?_;rintro e w2 ⟨rfl,ar⟩;have h2:=hb.trans (ar.mono hb.size)
      have le:=(HL.out.below h2).sl;rw[HV.out] at le;have HB:=lH h2;clear hb ar h2;go_wp2
      go_ret
      exact⟨by simp[h0,aT],HB.out⟩
theorem ky (base:Int) (W:World) (h:-1152921504606846976<=base/\base<=1152921504606846976) :
 Calls Tryz.prog 174 #[I base] W fun e w'=>e=.returned (.tuple #[.agg #[I base,I (-1),.slice none 0 0],I 0])/\Below W.heap.size W w':=by
 obtain⟨h1,h2⟩:=h;have g1:¬1152921504606846976<base:=by omega
 have g2:¬base < -1152921504606846976:=by omega
 go_enter Tryz.func174,Tryz.ntmps174;go_wp2
 exact bodyPost_ret (v:=.tuple #[.agg #[I base,I (-1),.slice none 0 0],I 0]) (by simp[results,Tryz.results174,go_sem]) rfl ⟨rfl,(Below.refl _ _).alloc (Nat.le_refl _) _⟩
theorem fb {W:World} {v:Value} {ps:List Pt} (aa:W.ownsRow 0 338 4 v ps.length (zr ps)) (base cur:Int) (T:TypeId) (B:Nat) (hB:W.heap.size=B) :
 LineAt (W.alloc (.cells #[I base,I cur,v] T)) B v ⟨base,cur,ps⟩:=by
 subst hB;have hh:=heap_alloc_new W (.cells #[I base,I cur,v] T);refine⟨?_,?_,?_,fun i=>?_,?_,?_⟩
 · simp only[World.cell?,hh];rfl
 · simp only[World.cell?,hh];rfl
 · simp only[World.cell?,hh];rfl
 · simp only[World.frozen?,hh];simp
 · exact aa.alloc _
 · intro e;have:=(aa.lt _ e).2;omega
def dp (W:World) (base cur:Int) (v:Value) (ps:List Pt) (e:Ending) (w':World):Prop:=
 ∃b,e=.returned (.tuple #[.pointer (some ⟨b,0,none⟩),I 0])/\LineAt w' b v ⟨base,cur,ps⟩/\Below W.heap.size W w'/\W.heap.size<=b
theorem cN (base cur:Int) (v:Value) (ps:List Pt) (W:World) (aa:W.ownsRow 0 338 4 v ps.length (zr ps)) :
 Calls Tryz.prog 173 #[.agg #[I base,I cur,v],I 0] W (dp W base cur v ps):=by
 have HR:=lH aa;clear aa;go_enter Tryz.func173,Tryz.ntmps173;go_wp2
 go_ret2
 exact⟨W.heap.size+1,by simp,fb (HR.out.alloc _) base cur _ _ (by simp),((Below.refl _ _).alloc (Nat.le_refl _) _).alloc (by simp) _,by omega⟩
theorem dc (base:Int) (W:World) (h:-1152921504606846976<=base/\base<=1152921504606846976) :
 Calls Tryz.prog 143 #[I base] W (dp W base (-1) (.slice none 0 0) []):=by
 have h1:=ky base W h;have h2:=fun W'=>cN base (-1) (.slice none 0 0) [] W' (World.ownsRow_nil _ _ _ _);clear h;go_enter Tryz.func143,Tryz.ntmps143;go_wp2_with fail
 refine h1.mono ?_;rintro e w1 ⟨rfl,ab⟩;go_wp2_with fail
 refine(h2 _).mono ?_;rintro e w2 ⟨b,rfl,hL,ar,ah⟩;have HL:=lH hL;clear hL;go_wp2_with fail
 go_ret2
 exact⟨b,rfl,HL.out,ab.trans (ar.mono ab.size),by have:=ab.size;omega⟩
theorem Yw (base cur:Int) (v:Value) (ps:List Pt) (W:World) (aa:W.ownsRow 0 338 4 v ps.length (zr ps)) :
 Calls Tryz.prog 175 #[.agg #[I base,I cur,v],I 0] W (dp W base cur v ps):=by
 have HR:=lH aa;clear aa;go_enter Tryz.func175,Tryz.ntmps175;go_wp2
 go_ret2
 exact⟨W.heap.size+1,by simp,fb (HR.out.alloc _) base cur _ _ (by simp),((Below.refl _ _).alloc (Nat.le_refl _) _).alloc (by simp) _,by omega⟩
theorem bX (base:Int) (W:World) (h:-1152921504606846976<=base/\base<=1152921504606846976) :
 Calls Tryz.prog 145 #[I base] W (dp W base (-1) (.slice none 0 0) []):=by
 have h1:=ky base W h;have h2:=fun W'=>Yw base (-1) (.slice none 0 0) [] W' (World.ownsRow_nil _ _ _ _);clear h;go_enter Tryz.func145,Tryz.ntmps145;go_wp2_with fail
 refine h1.mono ?_;rintro e w1 ⟨rfl,ab⟩;go_wp2_with fail
 refine(h2 _).mono ?_;rintro e w2 ⟨b,rfl,hL,ar,ah⟩;have HL:=lH hL;clear hL;go_wp2_with fail
 go_ret2
 exact⟨b,rfl,HL.out,ab.trans (ar.mono ab.size),by have:=ab.size;omega⟩
theorem Wz (base cur:Int) (v:Value) (ps:List Pt) (W:World) (aa:W.ownsRow 0 338 4 v ps.length (zr ps)) :
 Calls Tryz.prog 176 #[.agg #[I base,I cur,v],I 0] W (dp W base cur v ps):=by
 have HR:=lH aa;clear aa;go_enter Tryz.func176,Tryz.ntmps176;go_wp2
 go_ret2
 exact⟨W.heap.size+1,by simp,fb (HR.out.alloc _) base cur _ _ (by simp),((Below.refl _ _).alloc (Nat.le_refl _) _).alloc (by simp) _,by omega⟩
theorem Yv (base:Int) (W:World) (h:-1152921504606846976<=base/\base<=1152921504606846976) :
 Calls Tryz.prog 146 #[I base] W (dp W base (-1) (.slice none 0 0) []):=by
 have h1:=ky base W h;have h2:=fun W'=>Wz base (-1) (.slice none 0 0) [] W' (World.ownsRow_nil _ _ _ _);clear h;go_enter Tryz.func146,Tryz.ntmps146;go_wp2_with fail
 refine h1.mono ?_;rintro e w1 ⟨rfl,ab⟩;go_wp2_with fail
 refine(h2 _).mono ?_;rintro e w2 ⟨b,rfl,hL,ar,ah⟩;have HL:=lH hL;clear hL;go_wp2_with fail
 go_ret2
 exact⟨b,rfl,HL.out,ab.trans (ar.mono ab.size),by have:=ab.size;omega⟩
theorem Kv (b:Nat) (v:Value) (l:Ln) (id w lag:Int) (W:World) (h:LineAt W b v l) (hm:zP l id w lag≠0) :
 Calls Tryz.prog 269 #[.pointer (some ⟨b,0,none⟩),I id,I w,I lag] W fun e w'=>e=.returned (I (zP l id w lag))/\Below W.heap.size W w':=by
 have eA:=kZ b v l id w lag W h;generalize zP l id w lag=r at hm eA⊢;have hr:(r != 0)=true:=by simp[hm]
 have rR:(r==0)=false:=by simp[hm]
 go_enter Tryz.func269,Tryz.ntmps269;go_wp2_with fail
 refine eA.mono ?_;rintro e w' ⟨rfl,hb⟩;go_wp2
 go_ret
 exact⟨rfl,hb⟩
theorem ce (b:Nat) (v:Value) (l:Ln) (p:Pt) (W:World) (h:LineAt W b v l) :
 Calls Tryz.prog 273 #[.pointer (some ⟨b,0,none⟩),.agg p.cells.toArray,.bool true] W fun e w'=>e=.returned (.tuple #[I p.id,.bool true])/\LineAt w' b v ⟨l.base,p.id,l.ps⟩/\Touch (fun k=>k=b) W w':=by
 have ah:=h.lt b (.inl rfl);have c1:=h.cur;have f1:=h.live 1;have HL:=lH h;clear h;obtain⟨i,ww,pv,day⟩:=p;simp only[Pt.cells];go_enter Tryz.func273,Tryz.ntmps273;go_wp2
 go_ret2
 exact⟨rfl,((HL.out.setCur (-1)).setCur i).alloc _,((zG _ _ _ _).self (zG _ _ _ _)).alloc _⟩
theorem cd (b:Nat) (v:Value) (l:Ln) (p:Pt) (W:World) (h:LineAt W b v l) :
 Calls Tryz.prog 273 #[.pointer (some ⟨b,0,none⟩),.agg p.cells.toArray,.bool false] W fun e w'=>e=.returned (.tuple #[I 0,.bool false])/\LineAt w' b v ⟨l.base,-1,l.ps⟩/\Touch (fun k=>k=b) W w':=by
 have ah:=h.lt b (.inl rfl);have c1:=h.cur;have f1:=h.live 1;have HL:=lH h;clear h;obtain⟨i,ww,pv,day⟩:=p;simp only[Pt.cells];go_enter Tryz.func273,Tryz.ntmps273;go_wp2
 go_ret2
 exact⟨rfl,(HL.out.setCur (-1)).alloc _,(zG _ _ _ _).alloc _⟩
def qty (tag:Int):TypeId:=if tag=0 then 235 else if tag=1 then 239 else 242
def QIn (W:World) (qb:Nat) (F:Nat->Prop) (tag:Int) (l:Ln):Prop:=
 ∃lb v,W.cell? ⟨qb,0,none⟩=some (.iface (qty tag) (.pointer (some ⟨lb,0,none⟩)))/\W.cell? ⟨qb,1,none⟩=some (I tag)/\(∀i,W.frozen? ⟨qb,i,none⟩=false) /\
  LineAt W lb v l/\F qb/\(∀k,lfp lb v k->F k/\k≠qb)/\(tag=0\/tag=1\/tag=2)/\∀k,F k->k<W.heap.size
theorem QIn.same {W W':World} {qb:Nat} {F:Nat->Prop} {tag:Int} {l:Ln} (h:QIn W qb F tag l) (hs:W.heap.size<=W'.heap.size) (hb:∀k,F k->W'.heap[k]? = W.heap[k]?):QIn W' qb F tag l:=by
 obtain⟨lb,v,h1,h2,h3,h4,h5,h6,h7,h8⟩:=h;have h0:∀i,W'.cell? ⟨qb,i,none⟩=W.cell? ⟨qb,i,none⟩:=fun i=>World.cell?_of_block (hb qb h5);have oR:∀i,W'.frozen? ⟨qb,i,none⟩=W.frozen? ⟨qb,i,none⟩:=fun i=>World.frozen?_of_block (hb qb h5);exact⟨lb,v,(h0 0).trans h1,(h0 1).trans h2,fun i=>(oR i).trans (h3 i),h4.same (fun k hk=>hb k (h6 k hk).1),h5,h6,h7,fun k hk=>Nat.lt_of_lt_of_le (h8 k hk) hs⟩
theorem QIn.below {W W':World} {qb:Nat} {F:Nat->Prop} {tag:Int} {l:Ln} (h:QIn W qb F tag l) (hb:Below W.heap.size W W'):QIn W' qb F tag l:=by
 obtain⟨lb,v,h1,h2,h3,h4,h5,h6,h7,h8⟩:=id h;exact h.same hb.size (fun k hk=>hb.block k (h8 k hk))
theorem QIn.lt {W:World} {qb:Nat} {F:Nat->Prop} {tag:Int} {l:Ln} (h:QIn W qb F tag l):∀k,F k->k<W.heap.size:=by
 obtain⟨lb,v,h1,h2,h3,h4,h5,h6,h7,h8⟩:=h;exact h8
def Xn (W:World) (tag:Int) (l:Ln) (e:Ending) (w':World):Prop:=
 ∃qb F,e=.returned (.tuple #[.pointer (some ⟨qb,0,none⟩),I 0])/\QIn w' qb F tag l/\Below W.heap.size W w'/\∀k,F k->W.heap.size<=k
theorem Y3 (tag:Int) (ht:tag=0\/tag=1\/tag=2) (lb:Nat) (v:Value) (l:Ln) (B:Nat) (W:World) (hL:LineAt W lb v l) (hB:∀k,lfp lb v k->B<=k) (lI:B<=W.heap.size) :
 Calls Tryz.prog 144 #[I tag,.iface (qty tag) (.pointer (some ⟨lb,0,none⟩)),I 0] W fun e w'=>
  ∃qb F,e=.returned (.tuple #[.pointer (some ⟨qb,0,none⟩),I 0])/\QIn w' qb F tag l/\Below W.heap.size W w'/\∀k,F k->B<=k:=by
 have HL:=lH hL;have HT:=lH ht;have HB:=lH hB;obtain⟨t,HQ⟩:∃t,Hid (qty tag=t):=⟨_,lH rfl⟩
 rw[HQ.out];clear hL ht hB;go_enter Tryz.func144,Tryz.ntmps144;go_wp2
 go_ret2
 have hh:=heap_alloc_new W (.cells #[.iface t (.pointer (some ⟨lb,0,none⟩)),I tag] 231);refine⟨W.heap.size,fun k=>k=W.heap.size\/lfp lb v k,rfl,⟨lb,v,?_,?_,fun i=>?_,HL.out.alloc _,.inl rfl,fun k hk=>⟨.inr hk,?_⟩,HT.out,?_⟩,(Below.refl _ _).alloc (Nat.le_refl _) _,?_⟩
 · rw[HQ.out];simp only[World.cell?,hh];rfl
 · simp only[World.cell?,hh];rfl
 · simp only[World.frozen?,hh];simp
 · have:=HL.out.lt k hk;omega
 · intro k hk;rcases hk with rfl | hk
   · simp
   · have:=HL.out.lt k hk;simp;omega
 · intro k hk;rcases hk with rfl | hk
   · exact lI
   · exact HB.out k hk
theorem Zg (base:Int) (W:World) (h:-1152921504606846976<=base/\base<=1152921504606846976) :
 Calls Tryz.prog 96 #[I 0,I base] W (Xn W 0 ⟨base,-1,[]⟩):=by
 have h1:=dc base W h;clear h;go_enter Tryz.func96,Tryz.ntmps96;go_wp2_with fail
 refine h1.mono ?_;rintro e w1 ⟨b,rfl,hL,ab,ah⟩;have rQ:=Y3 0 (by omega) b _ _ W.heap.size w1 hL (fun k hk=>by rcases hk with rfl | hk;exact ah;simp[Value.ownBlock] at hk) ab.size;have HB:=lH ab;clear hL ab;go_wp2_with fail
 refine rQ.mono ?_;rintro e w2 ⟨qb,F,rfl,hQ,ar,hF⟩;have HQ:=lH hQ;have HF:=lH hF;clear hQ hF;go_wp2_with fail
 go_ret2
 exact⟨qb,F,rfl,HQ.out,HB.out.trans (ar.mono HB.out.size),HF.out⟩
theorem WE (base:Int) (W:World) (h:-1152921504606846976<=base/\base<=1152921504606846976) :
 Calls Tryz.prog 96 #[I 1,I base] W (Xn W 1 ⟨base,-1,[]⟩):=by
 have h1:=bX base W h;clear h;go_enter Tryz.func96,Tryz.ntmps96;go_wp2_with fail
 refine h1.mono ?_;rintro e w1 ⟨b,rfl,hL,ab,ah⟩;have rQ:=Y3 1 (by omega) b _ _ W.heap.size w1 hL (fun k hk=>by rcases hk with rfl | hk;exact ah;simp[Value.ownBlock] at hk) ab.size;have HB:=lH ab;clear hL ab;go_wp2_with fail
 refine rQ.mono ?_;rintro e w2 ⟨qb,F,rfl,hQ,ar,hF⟩;have HQ:=lH hQ;have HF:=lH hF;clear hQ hF;go_wp2_with fail
 go_ret2
 exact⟨qb,F,rfl,HQ.out,HB.out.trans (ar.mono HB.out.size),HF.out⟩
theorem UO (base:Int) (W:World) (h:-1152921504606846976<=base/\base<=1152921504606846976) :
 Calls Tryz.prog 96 #[I 2,I base] W (Xn W 2 ⟨base,-1,[]⟩):=by
 have h1:=Yv base W h;clear h;go_enter Tryz.func96,Tryz.ntmps96;go_wp2_with fail
 refine h1.mono ?_;rintro e w1 ⟨b,rfl,hL,ab,ah⟩;have rQ:=Y3 2 (by omega) b _ _ W.heap.size w1 hL (fun k hk=>by rcases hk with rfl | hk;exact ah;simp[Value.ownBlock] at hk) ab.size;have HB:=lH ab;clear hL ab;go_wp2_with fail
 refine rQ.mono ?_;rintro e w2 ⟨qb,F,rfl,hQ,ar,hF⟩;have HQ:=lH hQ;have HF:=lH hF;clear hQ hF;go_wp2_with fail
 go_ret2
 exact⟨qb,F,rfl,HQ.out,HB.out.trans (ar.mono HB.out.size),HF.out⟩
theorem UM (tag base:Int) (W:World) (ht:tag=0\/tag=1\/tag=2) (h:-1152921504606846976<=base/\base<=1152921504606846976) :
 Calls Tryz.prog 96 #[I tag,I base] W (Xn W tag ⟨base,-1,[]⟩):=by
 rcases ht with rfl | rfl | rfl
 · exact Zg base W h
 · exact WE base W h
 · exact UO base W h
theorem UN (tag base:Int) (W:World) (h0:tag≠0) (h1:tag≠1) (h2:tag≠2) :
 Calls Tryz.prog 96 #[I tag,I base] W fun e w'=>e=.returned (.tuple #[.pointer none,I 1])/\W=w':=by
 have g0:(tag==0)=false:=by simp[h0]
 have g1:(tag==1)=false:=by simp[h1]
 have g2:(tag==2)=false:=by simp[h2]
 go_enter Tryz.func96,Tryz.ntmps96;go_wp2
 go_ret2
 exact⟨rfl,rfl⟩
theorem UG (b:Nat) (v:Value) (l:Ln) (W:World) (h:LineAt W b v l) (hp:yh l.ps l.cur<0) :
 Calls Tryz.prog 309 #[.pointer (some ⟨b,0,none⟩)] W fun e w'=>e=.returned (.tuple #[.agg #[I 0,I 0,I 0,I 0],.bool false])/\Below W.heap.size W w':=by
 have hc:=h.cur;have ah:=h.lt b (.inl rfl);have ai:=vD b v l l.cur _ (h.alloc (.cells #[I 0,I 0,I 0,I 0] 338));obtain⟨r,hr⟩:∃r,yh l.ps l.cur=r:=⟨_,rfl⟩
 rw[hr] at ai hp;clear hr;go_enter Tryz.func309,Tryz.ntmps309;go_wp2_with fail
 refine ai.mono ?_;rintro e w' ⟨rfl,hb⟩;have aJ:yj w' W.heap.size ⟨0,0,0,0⟩:=(hb.block W.heap.size (by simp)).trans (heap_alloc_new W _)
 have HB:=lH hb;obtain⟨d0,d1,d2,d3⟩:=aJ.cells;have f0:=aJ.frozen 0;have f1:=aJ.frozen 1;have f2:=aJ.frozen 2;have f3:=aJ.frozen 3;obtain⟨g0,g1,g2,g3⟩:=(aJ.store4 ⟨0,0,0,0⟩).cells;have iG:=lH g0;have eV:=lH g1;have oO:=lH g2;have EC:=lH g3;clear hb aJ g0 g1 g2 g3;go_wp2
 exact bodyPost_ret (v:=.tuple #[.agg #[I 0,I 0,I 0,I 0],.bool false]) (by simp[results,Tryz.results309,go_sem,iG.out,eV.out,oO.out,EC.out]) rfl ⟨rfl,((((((Below.refl _ _).alloc (Nat.le_refl _) _).trans (HB.out.mono (by simp))).setCell (by simp) _).setCell (by simp) _).setCell (by simp) _).setCell (by simp) _⟩
theorem Kr (b:Nat) (v:Value) (l:Ln) (W:World) (h:LineAt W b v l) (k:Nat) (hk:k<l.ps.length) (hp:yh l.ps l.cur=k) (p:Pt) (ij:l.ps[k]! = p) (ag:l.ps.length<=64) :
 Calls Tryz.prog 309 #[.pointer (some ⟨b,0,none⟩)] W fun e w'=>e=.returned (.tuple #[.agg p.cells.toArray,.bool true])/\Below W.heap.size W w':=by
 have hc:=h.cur;have ah:=h.lt b (.inl rfl);have ai:=vD b v l l.cur _ (h.alloc (.cells #[I 0,I 0,I 0,I 0] 338));rw[hp] at ai;obtain⟨g,cap,sX⟩:=h.form (by omega);subst sX;have HL:=lH h;obtain⟨n,hn⟩:∃n,l.ps.length=n:=⟨_,rfl⟩
 rw[hn] at hk ag;have HN:=lH hn;have A6:=lH ij;clear h hn hp ij;have iY:(k:Int)<(n:Int):=by omega
 have aX:0<=(k:Int):=by omega
 have ly:¬(k:Int)<0:=by omega
 obtain⟨i,ww,pv,day⟩:=p;simp only[Pt.cells];go_enter Tryz.func309,Tryz.ntmps309;go_wp2_with fail
 refine ai.mono ?_;rintro e w' ⟨rfl,hb⟩;have aJ:yj w' W.heap.size ⟨0,0,0,0⟩:=(hb.block W.heap.size (by simp)).trans (heap_alloc_new W _)
 have hL:=(HL.out.alloc (.cells #[I 0,I 0,I 0,I 0] 338)).below hb;have le:=hL.sl;rw[HN.out] at le;obtain⟨c0,c1,c2,c3⟩:=hL.cells (by rw[HN.out];exact hk) A6.out;simp only at c0 c1 c2 c3;have HB:=lH hb;obtain⟨d0,d1,d2,d3⟩:=aJ.cells;have f0:=aJ.frozen 0;have f1:=aJ.frozen 1;have f2:=aJ.frozen 2;have f3:=aJ.frozen 3;obtain⟨g0,g1,g2,g3⟩:=(aJ.store4 ⟨i,ww,pv,day⟩).cells;have iG:=lH g0;have eV:=lH g1;have oO:=lH g2;have EC:=lH g3;clear hb aJ g0 g1 g2 g3 hL;go_wp2
 exact bodyPost_ret (v:=.tuple #[.agg #[I i,I ww,I pv,I day],.bool true]) (by simp[results,Tryz.results309,go_sem,iG.out,eV.out,oO.out,EC.out]) rfl ⟨rfl,((((((Below.refl _ _).alloc (Nat.le_refl _) _).trans (HB.out.mono (by simp))).setCell (by simp) _).setCell (by simp) _).setCell (by simp) _).setCell (by simp) _⟩
def xi (l:Ln):Ln:=⟨l.base,if l.ps=[] then -1 else(yv l.ps).id,l.ps⟩
theorem ZB (b:Nat) (v:Value) (l:Ln) (W:World) (h:LineAt W b v l) :
 Calls Tryz.prog 273 #[.pointer (some ⟨b,0,none⟩),.agg (yv l.ps).cells.toArray,.bool (!l.ps.isEmpty)] W fun e w'=>(∃i:Int,e=.returned (.tuple #[I i,.bool (!l.ps.isEmpty)]))/\LineAt w' b v (xi l)/\Touch (fun k=>k=b) W w':=by
 cases iV:l.ps with
 | nil=>
  refine(cd b v l (yv []) W h).mono ?_;rintro e w' ⟨rfl,h1,h2⟩;refine⟨⟨0,rfl⟩,?_,h2⟩;unfold xi;rw[if_pos iV];exact h1
 | cons p t=>
  refine(ce b v l (yv (p::t)) W h).mono ?_;rintro e w' ⟨rfl,h1,h2⟩;refine⟨⟨_,rfl⟩,?_,h2⟩;unfold xi;rw[if_neg (by rw[iV];simp),iV];rw[iV] at h1;exact h1
def VL (b:Nat) (v:Value) (l:Ln) (W:World) (e:Ending) (w':World):Prop:=(∃(i:Int) (c:Bool),e=.returned (.tuple #[I i,.bool c]))/\LineAt w' b v l/\Touch (fun k=>k=b) W w'
theorem Zc (b:Nat) (v:Value) (l:Ln) (W:World) (h:LineAt W b v l) (ag:l.ps.length<=64) :
 Calls Tryz.prog 264 #[.pointer (some ⟨b,0,none⟩)] W (VL b v (xi l) W):=by
 have ax:=q8 b v l W.drew h.drew ag;have ed:=fun W' h'=>ZB b v l W' h';generalize yv l.ps=m at ax ed;generalize(!l.ps.isEmpty)=c at ax ed;have hL:=h.drew;have hT:Touch (fun k=>k=b) W W.drew:=(Touch.refl _ W).drew;clear h;go_enter Tryz.func264,Tryz.ntmps264;go_wp2_with fail
 go_region_with (first | (go_at_call 274;refine ax.mono ?_;rintro e w' ⟨rfl,hb⟩;have hL:=hL.below hb;have hT:=hT.self (Touch.of_below hb)) | (go_at_call 273;refine(ed _ hL).mono ?_;rintro e w' ⟨⟨i,rfl⟩,lU,aC⟩;have hT:=hT.self aC))
 all_goals
  go_wp2_with fail
  go_ret2
  exact⟨⟨_,_,rfl⟩,lU,hT⟩
def Tryz.lays264_ren:Go.Shelf.Ren:=⟨fun | 264=>319 | n=>n,fun | 53=>298 | 46=>154 | n=>n,fun | n=>n⟩
theorem Tryz.lays264:Go.Proofs.Lays.n264 Tryz.prog Tryz.lays264_ren:={
 mixed:=by kernel_rfl
 f264:=Tryz.func319.trans (congrArg some (by kernel_rfl))
 t46:=Tryz.underlying154
 a46:=Tryz.isAgg154
 z46:=Tryz.sizeOf154
 v46:=Tryz.zeroValue154
 t53:=Tryz.underlying298
 a53:=Tryz.isAgg298
 z53:=Tryz.sizeOf298
 v53:=Tryz.zeroValue298}
def Tryz.lays725_ren:Go.Shelf.Ren:=⟨fun | 25=>320 | n=>n,fun | 22=>298 | n=>n,fun | n=>n⟩
theorem Tryz.lays725:Go.Proofs.Lays7.n25 Tryz.prog Tryz.lays725_ren:={
 mixed:=by kernel_rfl
 f25:=Tryz.func320.trans (congrArg some (by kernel_rfl))
 t22:=Tryz.underlying298
 a22:=Tryz.isAgg298
 z22:=Tryz.sizeOf298
 v22:=Tryz.zeroValue298
 i22:=by kernel_rfl}
theorem KQ (x y:Nat) (hx:x<18446744073709551616) (hy:y<18446744073709551616) (w:World) :
 Calls Tryz.prog 319 #[.int .u64 x,.int .u64 y] w fun e w'=>e=.returned (.tuple #[.int .u64 ((x*y/18446744073709551616:Nat):Int),.int .u64 ((x*y%18446744073709551616:Nat):Int)])/\w=w':=
 (Any.bits_Mul64 Tryz.lays264 x y hx hy w).mono fun _ _ ⟨h1,h2⟩=>⟨h1,h2.symm⟩
theorem Jy (x y:Nat) (w:World) :
 (callFunc 320 #[.int .u64 x,.int .u64 y,.int .u64 0]).run Tryz.prog w =
  .ok (.value (.tuple #[.int .u64 (((x+y)%18446744073709551616:Nat):Int),.int .u64 (((x+y)/18446744073709551616:Nat):Int)])) w:=
 Any7.bits_Add64 Tryz.lays725 x y 0 (by omega) w
def dN (m:Int) (p:Pt):Nat:=(p.v-m).toNat
def vT (m:Int) (ps:List Pt):Nat:=ps.foldl (fun s p=>s+dN m p*p.w.toNat) 0
def uQ (ps:List Pt):Nat:=ps.foldl (fun s p=>s+p.w.toNat) 0
def xw (m:Int) (S T:Nat) (b:Option Pt) (p:Pt):Option Pt:=
 if S<dN m p*T then b else match b with
  | none=>some p
  | some q=>if p.day<q.day then some p else some q
def xv (m:Int) (S T:Nat) (ps:List Pt):Option Pt:=ps.foldl (xw m S T) none
def QX:Option Pt->Int
 | none=>-1
 | some p=>p.id
def vq (l:Ln):Ln:=
 ⟨l.base,QX (xv (yv l.ps).v (vT (yv l.ps).v l.ps) (uQ l.ps) l.ps),l.ps⟩
theorem km {β:Type} (f:β->Pt->β) (z:β) (ps:List Pt) (k:Nat) (hk:k<ps.length) (p:Pt) (hp:ps[k]! = p) :
 (ps.take (k+1)).foldl f z=f ((ps.take k).foldl f z) p:=by
 rw[List.take_succ_eq_append_getElem hk,List.foldl_append,<- hp,yq hk];rfl
theorem uD (ps:List Pt):∀p∈ps,(yv ps).v<=p.v:=by
 cases ps with
 | nil=>intro p hp;simp at hp
 | cons a l=>
  have gen:∀(l:List Pt) (m:Pt),(l.foldl vI m).v<=m.v/\∀p∈l,(l.foldl vI m).v<=p.v:=by
   intro l;induction l with
   | nil=>intro m;exact⟨by simp,by simp⟩
   | cons q l ih=>
    intro m;obtain⟨h1,h2⟩:=ih (vI m q);have h3:(vI m q).v<=m.v/\(vI m q).v<=q.v:=by
     unfold vI;split <;> omega
    refine⟨by simp only[List.foldl_cons];omega,?_⟩;intro p hp;simp only[List.foldl_cons];rcases List.mem_cons.1 hp with rfl | hp
    · omega
    · exact h2 p hp
  intro p hp;obtain⟨h1,h2⟩:=gen l a;rcases List.mem_cons.1 hp with rfl | hp
  · exact h1
  · exact h2 p hp
theorem XB (ps:List Pt) (k:Nat) (hw:∀p∈ps,0<=p.w/\p.w<=20):uQ (ps.take k)<=k*20:=by
 have gen:∀(l:List Pt) (z:Nat),(∀p∈l,0<=p.w/\p.w<=20)->l.foldl (fun s p=>s+p.w.toNat) z<=z+l.length*20:=by
  intro l;induction l with
  | nil=>intro z _;simp
  | cons q l ih=>
   intro z h;have h1:=h q (by simp);have h2:=ih (z+q.w.toNat) (fun p hp=>h p (by simp[hp]));simp only[List.foldl_cons,List.length_cons];omega
 have h1:=gen (ps.take k) 0 (fun p hp=>hw p (List.mem_of_mem_take hp));have h2:(ps.take k).length<=k:=List.length_take_le _ _;unfold uQ;omega
theorem K1 (m:Int) (ps:List Pt) (k:Nat) (hw:∀p∈ps,0<=p.w/\p.w<=20) (hd:∀p∈ps,p.v-m<=9223372036854775807):vT m (ps.take k)<=k*184467440737095516140:=by
 have gen:∀(l:List Pt) (z:Nat),(∀p∈l,(0<=p.w/\p.w<=20)/\p.v-m<=9223372036854775807)->l.foldl (fun s p=>s+dN m p*p.w.toNat) z<=z+l.length*184467440737095516140:=by
  intro l;induction l with
  | nil=>intro z _;simp
  | cons q l ih=>
   intro z h;have h1:=h q (by simp);have h2:=ih (z+dN m q*q.w.toNat) (fun p hp=>h p (by simp[hp]));have h3:dN m q*q.w.toNat<=9223372036854775807*20:=Nat.mul_le_mul (by unfold dN;omega) (by omega);simp only[List.foldl_cons,List.length_cons];omega
 have h1:=gen (ps.take k) 0 (fun p hp=>⟨hw p (List.mem_of_mem_take hp),hd p (List.mem_of_mem_take hp)⟩);have h2:(ps.take k).length<=k:=List.length_take_le _ _;unfold vT;omega
theorem Ub (S p M:Nat) (hM:0<M):(S%M+p%M)%M=(S+p)%M/\S/M+(p/M+(S%M+p%M)/M)=(S+p)/M:=by
 refine⟨(Nat.add_mod S p M).symm,?_⟩;have h1:=Nat.div_add_mod S M;have h2:=Nat.div_add_mod p M;have h3:S+p=M*(S/M+p/M)+(S%M+p%M):=by rw[Nat.mul_add];omega
 rw[h3,Nat.mul_add_div hM];omega
theorem xH (ps:List Pt) (h:ps≠[]):yv ps∈ps:=by
 cases ps with
 | nil=>exact absurd rfl h
 | cons a l=>
  have gen:∀(l:List Pt) (m:Pt),l.foldl vI m=m\/l.foldl vI m∈l:=by
   intro l;induction l with
   | nil=>intro m;exact .inl rfl
   | cons q l ih=>
    intro m;simp only[List.foldl_cons];rcases ih (vI m q) with h1 | h1
    · rw[h1];unfold vI;split
      · exact .inr (by simp)
      · exact .inl rfl
    · exact .inr (by simp[h1])
  rcases gen l a with h1 | h1
  · show l.foldl vI a∈a::l;rw[h1];simp
  · exact List.mem_cons_of_mem _ h1
def ZH (W W1 wr:World) (b:Nat) (v:Value) (l:Ln) (m:Pt):Prop:=LineAt wr b v l/\Touch (fun k=>k=b) W wr/\yj wr W1.heap.size m/\Below W1.heap.size W1 wr
theorem ZH.put {W w1 wr:World} {b B2:Nat} {v:Value} {l:Ln} {m:Pt} (h:ZH W w1 wr b v l m) (hL:LineAt W b v l) (h1:W.heap.size<=B2) (h2:w1.heap.size<B2) (q:Pt) (o:Obj) :
 ZH W w1 (((((wr.setCell ⟨B2,0,none⟩ (I q.id)).setCell ⟨B2,1,none⟩ (I q.w)).setCell ⟨B2,2,none⟩ (I q.v)).setCell ⟨B2,3,none⟩ (I q.day)).alloc o) b v l m:=by
 obtain⟨a1,a2,a3,a4⟩:=h;have t:=kD wr B2 0 q;have t':Touch (fun k=>k=B2) wr ((((wr.setCell ⟨B2,0,none⟩ (I q.id)).setCell ⟨B2,1,none⟩ (I q.w)).setCell ⟨B2,2,none⟩ (I q.v)).setCell ⟨B2,3,none⟩ (I q.day)):=t;refine⟨(a1.touch t' (fun k hk e=>?_)).alloc _,(a2.trans (fun k hk=>.inr (by omega)) t').alloc _,?_,?_⟩
 · have:=hL.lt k hk;omega
 · have h4:=a3.other4 (C:=B2) (by omega) q;exact h4.below ((Below.refl _ _).alloc (Nat.le_refl _) _) h4.lt
 · have h5:Below w1.heap.size w1 ((((wr.setCell ⟨B2,0,none⟩ (I q.id)).setCell ⟨B2,1,none⟩ (I q.w)).setCell ⟨B2,2,none⟩ (I q.v)).setCell ⟨B2,3,none⟩ (I q.day)):=
    (((a4.setCell (by simp;omega) _).setCell (by simp;omega) _).setCell (by simp;omega) _).setCell (by simp;omega) _
   exact h5.alloc h5.size _
theorem UJ (b:Nat) (v:Value) (l:Ln) (W:World) (h:LineAt W b v l) (ag:l.ps.length<=64)
 (hv:∀p∈l.ps,(-2305843009213693952<=p.v/\p.v<=4611686018427387904)/\(0<=p.w/\p.w<=20)) :
 Calls Tryz.prog 315 #[.pointer (some ⟨b,0,none⟩)] W (VL b v (vq l) W):=by
 have ax:=q8 b v l W h ag;obtain⟨m,hm⟩:∃m,yv l.ps=m:=⟨_,rfl⟩
 obtain⟨c,hc⟩:∃c,(!l.ps.isEmpty)=c:=⟨_,rfl⟩
 have FE:=uD l.ps;rw[hm] at FE;rw[hm,hc] at ax;have HM:=lH hm;have HL:=lH h;have HV:=lH hv;have GY:=lH FE;have Oj:∃a c,v=.slice a l.ps.length c:=by
  rcases h.row.2 with⟨rfl,h0⟩ | ⟨g,cap,cur,rfl,_⟩
  · exact⟨none,0,by rw[h0]⟩
  · exact⟨_,cap,rfl⟩
 obtain⟨va,vc,sX⟩:=Oj;obtain⟨n,hn⟩:∃n,l.ps.length=n:=⟨_,rfl⟩
 rw[hn] at sX ag;have HN:=lH hn;have Gi:=lH sX;clear h hm hc hv sX hn FE;obtain⟨mi,mw,mv,md⟩:=m;simp only[Pt.cells] at ax;go_enter Tryz.func315,Tryz.ntmps315;go_wp2_with fail
 refine ax.mono ?_;rintro e w1 ⟨rfl,ab⟩;have iM:=HL.out.below ab;have le:=iM.sl;rw[Gi.out] at le;have ah:=iM.lt b (.inl rfl);have GV:=lH iM;have ef:=lH ab;clear iM ab;go_wp2
 go_loopw [6,7,8,34] (fun x6 x7 x8 x wr=>∃k:Nat,k<=n/\x=I k/\x6=.int .u64 ((uQ (l.ps.take k):Nat):Int)/\x7=.int .u64 ((vT mv (l.ps.take k)/18446744073709551616:Nat):Int)/\x8=.int .u64 ((vT mv (l.ps.take k)%18446744073709551616:Nat):Int)/\Hid (ZH W w1 wr b v l ⟨mi,mw,mv,md⟩)) (fun _ _ _ x _=>n-(intOf x).toNat)
 case atStart=>
  refine⟨0,Nat.zero_le _,rfl,rfl,by simp[vT],by simp[vT],lH ⟨GV.out.alloc _,(Touch.of_below ef.out).alloc _,heap_alloc_new _ _,(Below.refl _ _).alloc (Nat.le_refl _) _⟩⟩
 case round=>
  obtain⟨k,hk,rfl,rfl,rfl,rfl,HR⟩:=hrel;obtain⟨hL,hT,hX,hB⟩:=HR.out;have LZ:=hX.lt;have i9:=hL.lt b (.inl rfl);obtain⟨d0,d1,d2,d3⟩:=hX.cells;simp only at d0 d1 d2 d3;by_cases aS:k<n
  · obtain⟨g,cap,hg⟩:=hL.form (by rw[HN.out];omega);rw[HN.out] at hg;have A1:=Gi.out.symm.trans hg;simp only[Value.slice.injEq,true_and] at A1;obtain⟨rfl,rfl⟩:=A1;have lz:k<l.ps.length:=by rw[HN.out];exact aS
    obtain⟨p,hp⟩:∃p,l.ps[k]! = p:=⟨_,rfl⟩
    have ev:p∈l.ps:=by rw[<- hp,yq lz];exact List.getElem_mem lz
    have tL:=HV.out p ev;have FN:=GY.out p ev;have IM:=HV.out;have th:=hL;rw[hg] at th;obtain⟨c0,c1,c2,c3⟩:=th.cells lz hp;have eL:=th.lt g (.inr rfl);have hS:=km (fun s p=>s+dN mv p*p.w.toNat) 0 l.ps k lz p hp;have rj:=km (fun s p=>s+p.w.toNat) 0 l.ps k lz p hp;change vT mv (l.ps.take (k+1))=vT mv (l.ps.take k)+dN mv p*p.w.toNat at hS;change uQ (l.ps.take (k+1))=uQ (l.ps.take k)+p.w.toNat at rj;obtain⟨i,ww,pv,day⟩:=p;simp only at c0 c1 c2 c3 tL FN hS rj;obtain⟨⟨q1,q2⟩,q3,q4⟩:=tL;obtain⟨d,rfl⟩:∃d:Nat,pv=mv+d:=⟨(pv-mv).toNat,by omega⟩
    obtain⟨u,rfl⟩:∃u:Nat,ww=u:=⟨ww.toNat,by omega⟩
    have Ik:dN mv ⟨i,u,mv+d,day⟩=d:=by unfold dN;simp only;omega
    rw[Ik] at hS;simp only[Int.toNat_natCast] at hS rj;have mo:-2305843009213693952<=mv:=by
     have:=HV.out _ (xH l.ps (by intro e;rw[e] at lz;simp at lz));rw[HM.out] at this;exact this.1.1
    have Nf:d<=9223372036854775807:=by omega
    have Te:d*u<=9223372036854775807*20:=Nat.mul_le_mul Nf (by omega);have LV:=K1 mv l.ps k (fun p hp=>(HV.out p hp).2) (fun p hp=>by have:=(HV.out p hp).1;omega);have sI:=XB l.ps k (fun p hp=>(HV.out p hp).2);obtain⟨c1',c2'⟩:=Ub (vT mv (l.ps.take k)) (d*u) 18446744073709551616 (by omega);rw[<- hS] at c1' c2';obtain⟨S',eu⟩:∃x,vT mv (l.ps.take (k+1))=x:=⟨_,rfl⟩
    obtain⟨T',aF⟩:∃x,uQ (l.ps.take (k+1))=x:=⟨_,rfl⟩
    rw[eu] at hS c1' c2';rw[aF] at rj;have iL:=lH eu;have lh:=lH aF;clear eu aF;generalize vT mv (l.ps.take k)=S at hS c1' c2' LV;generalize uQ (l.ps.take k)=T at rj sI;have rO:=fun W'=>KQ d u (by omega) (by omega) W';have b1:S/18446744073709551616<=12800:=by omega
    have b2:d*u/18446744073709551616<=20:=by omega
    generalize d*u/18446744073709551616=ph at rO c2' b2;have b3:d*u%18446744073709551616<18446744073709551616:=Nat.mod_lt _ (by omega);generalize d*u%18446744073709551616=pl at rO c1' c2' b3;have b4:S%18446744073709551616<18446744073709551616:=Nat.mod_lt _ (by omega);generalize S%18446744073709551616=lo at c1' c2' b4;generalize S/18446744073709551616=hi at c2' b1;have nC:=fun W'=>Jy lo pl W';have b5:(lo+pl)/18446744073709551616<=1:=by omega
    generalize(lo+pl)/18446744073709551616=cy at nC c2' b5;generalize(lo+pl)%18446744073709551616=sm at nC c1';have C1:=lH c1';have C2:=lH c2';have HT':=lH rj;have HS':=lH hS;have HP:=lH hp;have me:=lH hL;have od:=lH hT;have As:=lH hX;have nR:=lH hB;have iY:(k:Int)<(n:Int):=by omega
    have aX:0<=(k:Int):=by omega
    clear hg hL hT hX hB th hp c1' c2' rj hS IM ev Ik Te LV HR;have rT:mv+(d:Int)-mv=(d:Int):=by omega
    have EO:=lH rT;clear rT;go_wp2_with fail
    rw[EO.out];refine(rO _).mono ?_;rintro e w2 ⟨rfl,rfl⟩;go_wp2_with (simp only[nC])
    go_roundw
    case rel=>
     refine⟨k+1,aS,by go_num,?_,?_,?_,lH ⟨me.out.alloc _,od.out.alloc _,As.out.below ((Below.refl _ _).alloc (Nat.le_refl _) _) As.out.lt,nR.out.alloc nR.out.size _⟩⟩
     · rw[lh.out,HT'.out];simp
     · rw[iL.out,<- C2.out];simp
     · rw[iL.out,<- C1.out]
    case measure=>simp[intOf];omega
  · obtain rfl:k=n:=by omega
    have eZ:l.ps.take k=l.ps:=List.take_of_length_le (by rw[HN.out];exact Nat.le_refl _);rw[eZ];have sI:=XB l.ps k (fun p hp=>(HV.out p hp).2);rw[eZ] at sI;obtain⟨S,hS⟩:∃x,vT mv l.ps=x:=⟨_,rfl⟩
    obtain⟨T,aC⟩:∃x,uQ l.ps=x:=⟨_,rfl⟩
    rw[aC] at sI;rw[hS,aC];have mS:vq l=⟨l.base,QX (xv mv S T l.ps),l.ps⟩:=by unfold vq;rw[HM.out];simp only;rw[hS,aC]
    have A6:=lH mS;have pD:=Nat.div_add_mod S 18446744073709551616;have BH:=Nat.mod_lt S (show 0<18446744073709551616 by omega);generalize S/18446744073709551616=hi at pD;generalize S%18446744073709551616=lo at pD BH;have Rm:=lH pD;have JM:=hL.sl;rw[Gi.out] at JM;have mK:=lH hL;have eR:=lH hT;have DA:=lH hX;have ew:=lH hB;clear hL hT hX hB eZ hS aC mS pD HR;obtain⟨B2,F8⟩:∃x,Hid (wr.heap.size=x):=⟨_,lH rfl⟩
    have C4:W.heap.size<=B2/\w1.heap.size<B2/\b<B2:=by rw[<- F8.out];exact⟨by have:=eR.out.size;exact this,LZ,i9⟩
    go_wp2
    rw[F8.out];go_loopw [15,74] (fun x15 x wq=>∃q:Nat,q<=k/\x=I q/\x15=.bool (xv mv S T (l.ps.take q)).isSome/\Hid (ZH W w1 wq b v l ⟨mi,mw,mv,md⟩/\yj wq B2 ((xv mv S T (l.ps.take q)).getD ⟨0,0,0,0⟩))) (fun _ x _=>k-(intOf x).toNat)
    case atStart=>
     refine⟨0,Nat.zero_le _,rfl,rfl,lH ⟨⟨mK.out.alloc _,eR.out.alloc _,DA.out.below ((Below.refl _ _).alloc (Nat.le_refl _) _) DA.out.lt,ew.out.alloc ew.out.size _⟩,by rw[<- F8.out];exact heap_alloc_new _ _⟩⟩
    case round=>
     obtain⟨q,hq,rfl,rfl,HR⟩:=hrel;obtain⟨⟨hL,hT,hX,hB⟩,hY⟩:=HR.out;have T5:=hY.lt;have Ty:=hX.lt;have SC:=hL.lt b (.inl rfl);obtain⟨d0,d1,d2,d3⟩:=hX.cells;simp only at d0 d1 d2 d3;by_cases Cq:q<k
     · obtain⟨g,cap,hg⟩:=hL.form (by rw[HN.out];omega);rw[HN.out] at hg;have A1:=Gi.out.symm.trans hg;simp only[Value.slice.injEq,true_and] at A1;obtain⟨rfl,rfl⟩:=A1;have lz:q<l.ps.length:=by rw[HN.out];exact Cq
       obtain⟨p,hp⟩:∃p,l.ps[q]! = p:=⟨_,rfl⟩
       have ev:p∈l.ps:=by rw[<- hp,yq lz];exact List.getElem_mem lz
       have tL:=HV.out p ev;have FN:=GY.out p ev;have th:=hL;rw[hg] at th;obtain⟨c0,c1,c2,c3⟩:=th.cells lz hp;have eL:=th.lt g (.inr rfl);have ak:=km (xw mv S T) none l.ps q lz p hp;change xv mv S T (l.ps.take (q+1))=xw mv S T (xv mv S T (l.ps.take q)) p at ak;have mo:-2305843009213693952<=mv:=by
        have:=HV.out _ (xH l.ps (by intro e;rw[e] at lz;simp at lz));rw[HM.out] at this;exact this.1.1
       obtain⟨i,ww,pv,day⟩:=p;simp only at c0 c1 c2 c3 tL FN;obtain⟨⟨q1,q2⟩,q3,q4⟩:=tL;obtain⟨d,rfl⟩:∃d:Nat,pv=mv+d:=⟨(pv-mv).toNat,by omega⟩
       have Ik:dN mv ⟨i,ww,mv+d,day⟩=d:=by unfold dN;simp only;omega
       have rO:=fun W'=>KQ d T (by omega) (by omega) W';have L0:=Nat.div_add_mod (d*T) 18446744073709551616;have JY:=Nat.mod_lt (d*T) (show 0<18446744073709551616 by omega);obtain⟨X,CP⟩:∃X,d*T=X:=⟨_,rfl⟩
       rw[CP] at rO L0 JY;have mU:∀bo,xw mv S T bo ⟨i,ww,mv+d,day⟩=if S<X then bo else match bo with | none=>some ⟨i,ww,mv+d,day⟩ | some r=>if day<r.day then some ⟨i,ww,mv+d,day⟩ else some r:=by
        intro bo;unfold xw;rw[Ik,CP] <;> rfl
       obtain⟨best,oS⟩:∃x,xv mv S T (l.ps.take q)=x:=⟨_,rfl⟩
       obtain⟨next,aO⟩:∃x,xv mv S T (l.ps.take (q+1))=x:=⟨_,rfl⟩
       rw[aO,oS,mU] at ak;rw[oS] at hY⊢;generalize X/18446744073709551616=ph at rO L0;generalize X%18446744073709551616=pl at rO L0 JY;have pD:=Rm.out;have Dz:=lH ak;have oc:=lH aO;have me:=lH hL;have od:=lH hT;have As:=lH hX;have nR:=lH hB;have Gk:=lH hY;have rT:mv+(d:Int)-mv=(d:Int):=by omega
       have EO:=lH rT;have iY:(q:Int)<(k:Int):=by omega
       have aX:0<=(q:Int):=by omega
       obtain⟨y0,y1,y2,y3⟩:=hY.cells;have f0:=hY.frozen 0;have f1:=hY.frozen 1;have f2:=hY.frozen 2;have f3:=hY.frozen 3;have La:Hid (S<X↔(hi<ph\/(hi=ph/\lo<pl))):=lH (by omega);clear hg hL hT hX hB th hp ak aO hY HR ev Ik CP mU oS rT pD L0;go_wp2_with fail
       rw[EO.out];refine(rO _).mono ?_;rintro e w2 ⟨rfl,rfl⟩;clear rO;go_upto_region 19 with fail
       go_cut [20] (fun x W2=>x=.bool (decide (S<X))/\W2=wr.alloc (.cells #[I i,I ww,I (mv+d),I day] 338))
       case first=>
        by_cases g1:hi<ph
        · have e:decide (S<X)=true:=decide_eq_true (La.out.2 (.inl g1));have E:=lH e;clear e;go_wp2_with fail
          go_meet
          exact⟨by rw[E.out],rfl⟩
        · by_cases g2:ph=hi
          · subst g2;by_cases g3:lo<pl
            · have e:decide (S<X)=true:=decide_eq_true (La.out.2 (.inr ⟨rfl,g3⟩));have E:=lH e;clear e;go_wp2_with fail
              go_meet
              exact⟨by rw[E.out],rfl⟩
            · have e:decide (S<X)=false:=decide_eq_false (fun h=>by have:=La.out.1 h;omega);have E:=lH e;clear e;go_wp2_with fail
              go_meet
              exact⟨by rw[E.out],rfl⟩
          · have e:decide (S<X)=false:=decide_eq_false (fun h=>by have:=La.out.1 h;omega);have g4:((ph:Int)==(hi:Int))=false:=by simp;omega
            have E:=lH e;clear e;go_wp2_with fail
            go_meet
            exact⟨by rw[E.out],rfl⟩
       case rest=>
        obtain⟨rfl,rfl⟩:=hcut;have hB:=nR.out.size;by_cases Ph:S<X
        · have hn:next=best:=by rw[Dz.out,if_pos Ph]
          have iD:=lH hn;clear hn;go_wp2_with fail
          go_roundw
          case rel=>
           refine⟨q+1,Cq,by go_num,by rw[oc.out,iD.out],lH ⟨⟨me.out.alloc _,od.out.alloc _,As.out.below ((Below.refl _ _).alloc (Nat.le_refl _) _) As.out.lt,nR.out.alloc nR.out.size _⟩,?_⟩⟩;rw[oc.out,iD.out];exact Gk.out.below ((Below.refl _ _).alloc (Nat.le_refl _) _) Gk.out.lt
          case measure=>simp[intOf];omega
        · have si:=Dz.out;rw[if_neg Ph] at si;cases best with
          | none=>
           have iD:=lH si;clear si;simp only[Option.getD_none,Option.isSome_none] at y0 y1 y2 y3⊢;go_wp2_with fail
           go_roundw
           case rel=>
            refine⟨q+1,Cq,by go_num,by rw[oc.out,iD.out];rfl,lH ⟨ZH.put ⟨me.out,od.out,As.out,nR.out⟩ HL.out C4.1 C4.2.1 ⟨i,ww,mv+d,day⟩ _,?_⟩⟩;rw[oc.out,iD.out];have h4:=Gk.out.store4 ⟨i,ww,mv+d,day⟩;exact h4.below ((Below.refl _ _).alloc (Nat.le_refl _) _) h4.lt
           case measure=>simp[intOf];omega
          | some r=>
           simp only at si;by_cases ll:day<r.day
           · rw[if_pos ll] at si;have iD:=lH si;clear si;simp only[Option.getD_some,Option.isSome_some] at y0 y1 y2 y3⊢;go_wp2_with fail
             go_roundw
             case rel=>
              refine⟨q+1,Cq,by go_num,by rw[oc.out,iD.out];rfl,lH ⟨ZH.put ⟨me.out,od.out,As.out,nR.out⟩ HL.out C4.1 C4.2.1 ⟨i,ww,mv+d,day⟩ _,?_⟩⟩;rw[oc.out,iD.out];have h4:=Gk.out.store4 ⟨i,ww,mv+d,day⟩;exact h4.below ((Below.refl _ _).alloc (Nat.le_refl _) _) h4.lt
             case measure=>simp[intOf];omega
           · rw[if_neg ll] at si;have iD:=lH si;clear si;simp only[Option.getD_some,Option.isSome_some] at y0 y1 y2 y3⊢;go_wp2_with fail
             go_roundw
             case rel=>
              refine⟨q+1,Cq,by go_num,by rw[oc.out,iD.out];rfl,lH ⟨⟨me.out.alloc _,od.out.alloc _,As.out.below ((Below.refl _ _).alloc (Nat.le_refl _) _) As.out.lt,nR.out.alloc nR.out.size _⟩,?_⟩⟩;rw[oc.out,iD.out];exact Gk.out.below ((Below.refl _ _).alloc (Nat.le_refl _) _) Gk.out.lt
             case measure=>simp[intOf];omega
     · obtain rfl:q=k:=by omega
       have JT:l.ps.take q=l.ps:=List.take_of_length_le (by rw[HN.out];exact Nat.le_refl _);rw[JT] at hY⊢;obtain⟨best,oS⟩:∃x,xv mv S T l.ps=x:=⟨_,rfl⟩
       rw[oS] at hY⊢;have ij:vq l=⟨l.base,QX best,l.ps⟩:=by rw[A6.out,oS]
       have G4:=lH ij;have me:=lH hL.drew;have od:=lH hT.drew;obtain⟨y0,y1,y2,y3⟩:=hY.cells;clear hL hT hX hB hY HR JT oS ij;cases best with
       | none=>
        have ed:=cd b v l ⟨0,0,0,0⟩ wr.drew me.out;simp only[Option.getD_none,Option.isSome_none] at y0 y1 y2 y3⊢;simp only[Pt.cells] at ed;go_wp2_with fail
        go_region_with (go_at_call 273;refine ed.mono ?_;rintro e w' ⟨rfl,lU,aC⟩)
        all_goals
         go_wp2_with fail
         go_ret2
         exact⟨⟨_,_,rfl⟩,by rw[G4.out];exact lU,od.out.self aC⟩
       | some r=>
        obtain⟨ri,rw',rv,rd⟩:=r;have ed:=ce b v l ⟨ri,rw',rv,rd⟩ wr.drew me.out;simp only[Option.getD_some,Option.isSome_some] at y0 y1 y2 y3⊢;simp only[Pt.cells] at ed;go_wp2_with fail
        go_region_with (go_at_call 273;refine ed.mono ?_;rintro e w' ⟨rfl,lU,aC⟩)
        all_goals
         go_wp2_with fail
         go_ret2
         exact⟨⟨_,_,rfl⟩,by rw[G4.out];exact lU,od.out.self aC⟩
section
attribute [local go_sem] Oper.semAt_some
def BSl (W:World) (a:Option Addr) (n:Nat):Prop:=∃xs:List Int,xs.length=n/\(∀x∈xs,0<=x/\x<=255)/\(0<n->∃g i,a=some ⟨g,i,none⟩/\∀j,j<n->W.cell? ⟨g,i+j,none⟩=some (.int .u8 (xs.getD j 0)))
theorem BSl.same {W W':World} {a:Option Addr} {n:Nat} (h:BSl W a n) (hb:∀k,k<W.heap.size->(∃i,a=some ⟨k,i,none⟩)->W'.heap[k]? = W.heap[k]?):BSl W' a n:=by
 obtain⟨xs,h1,h2,h3⟩:=h;refine⟨xs,h1,h2,fun hn=>?_⟩;obtain⟨g,i,rfl,hc⟩:=h3 hn;have hg:g<W.heap.size:=World.block_lt_of_cell? W _ (hc 0 hn);exact⟨g,i,rfl,fun j hj=>(World.cell?_of_block (a:=⟨g,i+j,none⟩) (hb g hg ⟨i,rfl⟩)).trans (hc j hj)⟩
theorem BSl.none (W:World) (a:Option Addr):BSl W a 0:=⟨[],rfl,by simp,fun h=>absurd h (Nat.lt_irrefl 0)⟩
end
end Go.Proofs.YtoiajjobecinpaaGreat

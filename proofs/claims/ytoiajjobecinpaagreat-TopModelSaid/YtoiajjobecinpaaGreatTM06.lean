/- The three policies' own methods: Held, Enter, Put, Charge, Form. A queue runs: policy.Run, Tag. A co -/
import Derived.Test.YtoiajjobecinpaaGreatTM04
set_option maxHeartbeats 4000000
set_option maxRecDepth 100000
namespace Go.Proofs.YtoiajjobecinpaaGreat
open Go.RowKit Go.Shelf Go.Lib Go.Proofs
set_option linter.unusedVariables false
set_option linter.unusedSimpArgs false
def wM (lag:Int):Int:=min lag 0
def wL (lag:Int):Int:=min lag 698377680
def wI (lag:Int):Int:=if lag < -698377680 then -698377680 else if 698377680<lag then 698377680 else lag
theorem bG (lag:Int) (W:World):Calls Tryz.prog 270 #[I lag] W fun e w'=>e=.returned (I (wM lag))/\W=w':=by
 unfold wM;go_enter Tryz.func270,Tryz.ntmps270;go_wp2
 go_ret
 exact⟨rfl,rfl⟩
theorem Wk (lag:Int) (W:World):Calls Tryz.prog 308 #[I lag] W fun e w'=>e=.returned (I (wL lag))/\W=w':=by
 unfold wL;go_enter Tryz.func308,Tryz.ntmps308;go_wp2
 go_ret
 exact⟨rfl,rfl⟩
theorem Uy (lag:Int) (W:World):Calls Tryz.prog 318 #[I lag] W fun e w'=>e=.returned (I (wI lag))/\W=w':=by
 unfold wI;by_cases h1:lag < -698377680
 · rw[if_pos h1];go_enter Tryz.func318,Tryz.ntmps318;go_wp2
   go_ret
   exact⟨rfl,rfl⟩
 · rw[if_neg h1];by_cases h2:698377680<lag
   · rw[if_pos h2];go_enter Tryz.func318,Tryz.ntmps318;go_wp2
     go_ret
     exact⟨rfl,rfl⟩
   · rw[if_neg h2];go_enter Tryz.func318,Tryz.ntmps318;go_wp2
     go_ret
     exact⟨rfl,rfl⟩
def kJ (b:Nat) (v:Value) (l:Ln) (id w lag r:Int) (W:World) (e:Ending) (w':World):Prop:=
 (r≠0->e=.returned (I r)/\Below W.heap.size W w') /\
 (r=0->e=.returned (I 0)/\∃v',LineAt w' b v' (xR l id w lag)/\Touch (lfp b v) W w'/\(∀k,v'.ownBlock=some k->v.ownBlock=some k\/W.heap.size<=k))
def yn (l:Ln):Prop:=l.ps.length<=64/\uw l.ps/\(-2305843009213693952<=l.base/\l.base<=2305843009213693952)/\∀p∈l.ps,(-2305843009213693952<=p.v/\p.v<=4611686018427387904)/\(0<=p.w/\p.w<=20)
theorem qB (b:Nat) (v:Value) (l:Ln) (id w lag:Int) (W:World) (h:LineAt W b v l) (hf:yn l) :
 Calls Tryz.prog 269 #[.pointer (some ⟨b,0,none⟩),I id,I w,I lag] W (kJ b v l id w lag (zP l id w lag) W):=by
 by_cases hm:zP l id w lag=0
 · exact(Jj b v l id w lag W h hf.1 hm hf.2.1 hf.2.2.1).mono (fun _ _ hp=>⟨fun hn=>absurd hm hn,fun _=>hp⟩)
 · exact(Kv b v l id w lag W h hm).mono (fun _ _ hp=>⟨fun _=>hp,fun hz=>absurd hz hm⟩)
theorem jE {l:Ln} {id w lag lag':Int} (h:zP l id w lag=0) (h1:-1125899906842624<=lag') (h2:lag'<=1125899906842624):zP l id w lag'=0:=by
 unfold zP da at h⊢;split at h
 · rename_i hc;simp only[Bool.and_eq_true,decide_eq_true_eq] at hc;rw[if_pos (by simp only[Bool.and_eq_true,decide_eq_true_eq];exact⟨hc.1,hc.2.1,hc.2.2.1,h1,h2⟩)];exact h
 · omega
theorem kY {l:Ln} {id w lag:Int} (h:zP l id w lag=0):-1125899906842624<=lag/\lag<=1125899906842624:=by
 unfold zP da at h;split at h
 · rename_i hc;simp only[Bool.and_eq_true,decide_eq_true_eq] at hc;exact hc.2.2.2
 · omega
theorem Zp (b:Nat) (v:Value) (l:Ln) (id w lag:Int) (W:World) (h:LineAt W b v l) (hf:yn l) :
 Calls Tryz.prog 265 #[.pointer (some ⟨b,0,none⟩),I id,I w,I lag] W (kJ b v l id w lag (zP l id w lag) W):=by
 have hp:=qB b v l id w lag W h hf;generalize zP l id w lag=r at hp⊢;clear h hf;go_enter Tryz.func265,Tryz.ntmps265;go_wp2_with fail
 refine hp.mono ?_;rintro e w' ⟨h1,h2⟩;by_cases hr:r=0
 · obtain⟨rfl,h3⟩:=h2 hr;have H3:=lH h3;clear h1 h2 h3;go_wp2_with fail
   go_ret
   exact⟨fun hn=>absurd hr hn,fun _=>⟨rfl,H3.out⟩⟩
 · obtain⟨rfl,h3⟩:=h1 hr;have H3:=lH h3;clear h1 h2 h3;go_wp2_with fail
   go_ret
   exact⟨fun _=>⟨rfl,H3.out⟩,fun hz=>absurd hz hr⟩
theorem dh (b:Nat) (v:Value) (l:Ln) (id w lag:Int) (W:World) (h:LineAt W b v l) (hf:yn l) :
 Calls Tryz.prog 261 #[.pointer (some ⟨b,0,none⟩),I id,I w,I lag] W (kJ b v l id w (wM lag) (zP l id w lag) W):=by
 have eA:=kZ b v l id w lag W h;have aU:=fun W'=>bG lag W';by_cases hm:zP l id w lag=0
 · have Cp:=kY hm;have rM:zP l id w (wM lag)=0:=jE hm (by unfold wM;(repeat' split) <;> omega) (by unfold wM;(repeat' split) <;> omega);have ie:=fun W' h'=>qB b v l id w (wM lag) W' h' hf;rw[rM] at ie;rw[hm] at eA;generalize wM lag=lag' at aU ie;have HL:=lH h;have HM:=lH hm;clear h hf hm rM;go_enter Tryz.func261,Tryz.ntmps261;go_wp2_with fail
   refine eA.mono ?_;rintro e w0 ⟨rfl,lk⟩;have hL:=(HL.out.below lk).drew;have hT:Touch (lfp b v) W w0.drew:=(Touch.of_below lk).drew;have hp:=ie _ hL;clear ie;go_wp2_with fail
   go_region_with (first | (go_at_call 270;refine(aU _).mono ?_;rintro e w' ⟨rfl,rfl⟩) | (go_at_call 269;refine hp.mono ?_;rintro e w' ⟨-,h2⟩;obtain⟨rfl,h3⟩:=h2 rfl;have H3:=lH h3;clear h2 h3))
   all_goals
    go_wp2_with fail
    go_ret
    obtain⟨v',k1,k2,k3⟩:=H3.out;refine⟨fun hn=>absurd HM.out hn,fun _=>⟨rfl,v',k1,hT.self k2,fun k hk=>(k3 k hk).imp (fun hh=>hh) (fun hh=>?_)⟩⟩;have:=hT.size;omega
 · have hr:(zP l id w lag != 0)=true:=by simp[hm]
   have rR:(zP l id w lag==0)=false:=by simp[hm]
   generalize zP l id w lag=r at hm eA hr rR⊢;clear h hf;go_enter Tryz.func261,Tryz.ntmps261;go_wp2_with fail
   refine eA.mono ?_;rintro e w0 ⟨rfl,lk⟩;have HB:=lH lk;clear lk;go_wp2_with fail
   go_ret
   exact⟨fun _=>⟨rfl,HB.out⟩,fun hz=>absurd hz hm⟩
theorem qJ (b:Nat) (v:Value) (l:Ln) (W:World) (h:LineAt W b v l) (hp:yh l.ps l.cur<0) :
 Calls Tryz.prog 260 #[.pointer (some ⟨b,0,none⟩)] W fun e w'=>e=.returned (.tuple #[I 0,I 14])/\Below W.heap.size W w':=by
 have hc:=uV b v l W h hp;clear h hp;go_enter Tryz.func260,Tryz.ntmps260;go_wp2_with fail
 refine hc.mono ?_;rintro e w' ⟨rfl,hb⟩;go_wp2_with fail
 go_ret2
 exact⟨rfl,hb⟩
theorem kz (b:Nat) (v:Value) (l:Ln) (W:World) (h:LineAt W b v l) (hf:yn l) (k:Nat) (hk:k<l.ps.length) (hp:yh l.ps l.cur=k) (p:Pt) (ij:l.ps[k]! = p) :
 Calls Tryz.prog 260 #[.pointer (some ⟨b,0,none⟩)] W (kH b v l k p (zF p.w) W):=by
 have ev:p∈l.ps:=by rw[<- ij,yq hk];exact List.getElem_mem hk
 have hc:=ke b v l W h hf.1 k hk hp p ij (hf.2.2.2 p ev).1;generalize zF p.w=s at hc⊢;clear h hp hf ev;go_enter Tryz.func260,Tryz.ntmps260;go_wp2_with fail
 refine hc.mono ?_;rintro e w' ⟨h1,h2⟩;by_cases lY:2305843009213693952<p.v+s
 · obtain⟨rfl,h3⟩:=h1 lY;have H3:=lH h3;clear h1 h2 h3;go_wp2_with fail
   go_ret2
   exact⟨fun _=>⟨rfl,H3.out⟩,fun hz=>absurd lY hz⟩
 · obtain⟨rfl,h3⟩:=h2 lY;have H3:=lH h3;clear h1 h2 h3;go_wp2_with fail
   go_ret2
   exact⟨fun hz=>absurd hz (by omega),fun _=>⟨rfl,H3.out⟩⟩
theorem jn (b:Nat) (v:Value) (l:Ln) (W:World) (h:LineAt W b v l) (hf:yn l) :
 Calls Tryz.prog 262 #[.pointer (some ⟨b,0,none⟩)] W (uS W l.cur (zw l)):=by
 have aH:=gV b v l (W.alloc (.cells #[I 0,.slice none 0 0] 70)) (h.alloc _) hf.1 (by have:=hf.2.2.1;omega) (fun p hp=>(hf.2.2.2 p hp).1);have ah:=h.lt b (.inl rfl);generalize zw l=its at aH⊢;generalize l.cur=cur at aH⊢;clear h hf;go_enter Tryz.func262,Tryz.ntmps262;go_wp2_with fail
 refine aH.mono ?_;rintro e w' ⟨v',rfl,aa,hb⟩;obtain⟨sa,sn,sc,rfl⟩:∃a n c,v'=.slice a n c:=by
  rcases aa.2 with⟨rfl,_⟩ | ⟨g,cap,cur,rfl,_⟩
  · exact⟨_,_,_,rfl⟩
  · exact⟨_,_,_,rfl⟩
 have am:w'.heap[W.heap.size]? = some (.cells #[I 0,.slice none 0 0] 70 (0,0)):=(hb.block _ (by simp)).trans (heap_alloc_new W _)
 have g0:w'.cell? ⟨W.heap.size,0,none⟩=some (I 0):=by simp only[World.cell?,am];rfl
 have g1:w'.cell? ⟨W.heap.size,1,none⟩=some (.slice none 0 0):=by simp only[World.cell?,am];rfl
 have f0:w'.frozen? ⟨W.heap.size,0,none⟩=false:=by simp only[World.frozen?,am];simp
 have f1:w'.frozen? ⟨W.heap.size,1,none⟩=false:=by simp only[World.frozen?,am];simp
 have iG:Hid (((w'.setCell ⟨W.heap.size,0,none⟩ (I cur)).setCell ⟨W.heap.size,1,none⟩ (.slice sa sn sc)).cell? ⟨W.heap.size,0,none⟩=some (I cur)):=
  lH (by rw[za _ (by simp)];exact World.cell?_setCell_same _ _ _ g0)
 have eV:Hid (((w'.setCell ⟨W.heap.size,0,none⟩ (I cur)).setCell ⟨W.heap.size,1,none⟩ (.slice sa sn sc)).cell? ⟨W.heap.size,1,none⟩=some (.slice sa sn sc)):=
  lH (World.cell?_setCell_same _ _ _ (by rw[za _ (by simp)];exact g1))
 have eJ:Hid (((w'.setCell ⟨W.heap.size,0,none⟩ (I cur)).setCell ⟨W.heap.size,1,none⟩ (.slice sa sn sc)).ownsRow W.heap.size 77 3 (.slice sa sn sc) its.length (yG its)):=by
  refine lH (zM (zb aa (fun j hj=>?_)) (by simp));have:=(aa.lt j hj).1;simp at this;rw[Below.heap_setCell _ _ _ _ (by simp;omega),Below.heap_setCell _ _ _ _ (by simp;omega)]
 have HB:=lH hb;clear aa hb am;go_wp2
 exact bodyPost_ret (v:=.agg #[I cur,.slice sa sn sc]) (by simp[results,Tryz.results262,go_sem,iG.out,eV.out]) rfl ⟨_,rfl,eJ.out,((((Below.refl _ _).alloc (Nat.le_refl _) _).trans (HB.out.mono (by simp))).setCell (by simp) _).setCell (by simp) _⟩
theorem WH (b:Nat) (v:Value) (l:Ln) (id w lag:Int) (W:World) (h:LineAt W b v l) (hf:yn l) :
 Calls Tryz.prog 306 #[.pointer (some ⟨b,0,none⟩),I id,I w,I lag] W (kJ b v l id w lag (zP l id w lag) W):=by
 have hp:=qB b v l id w lag W h hf;generalize zP l id w lag=r at hp⊢;clear h hf;go_enter Tryz.func306,Tryz.ntmps306;go_wp2_with fail
 refine hp.mono ?_;rintro e w' ⟨h1,h2⟩;by_cases hr:r=0
 · obtain⟨rfl,h3⟩:=h2 hr;have H3:=lH h3;clear h1 h2 h3;go_wp2_with fail
   go_ret
   exact⟨fun hn=>absurd hr hn,fun _=>⟨rfl,H3.out⟩⟩
 · obtain⟨rfl,h3⟩:=h1 hr;have H3:=lH h3;clear h1 h2 h3;go_wp2_with fail
   go_ret
   exact⟨fun _=>⟨rfl,H3.out⟩,fun hz=>absurd hz hr⟩
theorem Zm (b:Nat) (v:Value) (l:Ln) (id w lag:Int) (W:World) (h:LineAt W b v l) (hf:yn l) :
 Calls Tryz.prog 302 #[.pointer (some ⟨b,0,none⟩),I id,I w,I lag] W (kJ b v l id w (wL lag) (zP l id w lag) W):=by
 have eA:=kZ b v l id w lag W h;have aU:=fun W'=>Wk lag W';by_cases hm:zP l id w lag=0
 · have Cp:=kY hm;have rM:zP l id w (wL lag)=0:=jE hm (by unfold wL;(repeat' split) <;> omega) (by unfold wL;(repeat' split) <;> omega);have ie:=fun W' h'=>qB b v l id w (wL lag) W' h' hf;rw[rM] at ie;rw[hm] at eA;generalize wL lag=lag' at aU ie;have HL:=lH h;have HM:=lH hm;clear h hf hm rM;go_enter Tryz.func302,Tryz.ntmps302;go_wp2_with fail
   refine eA.mono ?_;rintro e w0 ⟨rfl,lk⟩;have hL:=(HL.out.below lk).drew;have hT:Touch (lfp b v) W w0.drew:=(Touch.of_below lk).drew;have hp:=ie _ hL;clear ie;go_wp2_with fail
   go_region_with (first | (go_at_call 308;refine(aU _).mono ?_;rintro e w' ⟨rfl,rfl⟩) | (go_at_call 269;refine hp.mono ?_;rintro e w' ⟨-,h2⟩;obtain⟨rfl,h3⟩:=h2 rfl;have H3:=lH h3;clear h2 h3))
   all_goals
    go_wp2_with fail
    go_ret
    obtain⟨v',k1,k2,k3⟩:=H3.out;refine⟨fun hn=>absurd HM.out hn,fun _=>⟨rfl,v',k1,hT.self k2,fun k hk=>(k3 k hk).imp (fun hh=>hh) (fun hh=>?_)⟩⟩;have:=hT.size;omega
 · have hr:(zP l id w lag != 0)=true:=by simp[hm]
   have rR:(zP l id w lag==0)=false:=by simp[hm]
   generalize zP l id w lag=r at hm eA hr rR⊢;clear h hf;go_enter Tryz.func302,Tryz.ntmps302;go_wp2_with fail
   refine eA.mono ?_;rintro e w0 ⟨rfl,lk⟩;have HB:=lH lk;clear lk;go_wp2_with fail
   go_ret
   exact⟨fun _=>⟨rfl,HB.out⟩,fun hz=>absurd hz hm⟩
theorem jm (b:Nat) (v:Value) (l:Ln) (W:World) (h:LineAt W b v l) (hp:yh l.ps l.cur<0) :
 Calls Tryz.prog 301 #[.pointer (some ⟨b,0,none⟩)] W fun e w'=>e=.returned (.tuple #[I 0,I 14])/\Below W.heap.size W w':=by
 have hc:=uV b v l W h hp;clear h hp;go_enter Tryz.func301,Tryz.ntmps301;go_wp2_with fail
 refine hc.mono ?_;rintro e w' ⟨rfl,hb⟩;go_wp2_with fail
 go_ret2
 exact⟨rfl,hb⟩
theorem jJ (b:Nat) (v:Value) (l:Ln) (W:World) (h:LineAt W b v l) (hf:yn l) (k:Nat) (hk:k<l.ps.length) (hp:yh l.ps l.cur=k) (p:Pt) (ij:l.ps[k]! = p) :
 Calls Tryz.prog 301 #[.pointer (some ⟨b,0,none⟩)] W (kH b v l k p (zF p.w) W):=by
 have ev:p∈l.ps:=by rw[<- ij,yq hk];exact List.getElem_mem hk
 have hc:=ke b v l W h hf.1 k hk hp p ij (hf.2.2.2 p ev).1;generalize zF p.w=s at hc⊢;clear h hp hf ev;go_enter Tryz.func301,Tryz.ntmps301;go_wp2_with fail
 refine hc.mono ?_;rintro e w' ⟨h1,h2⟩;by_cases lY:2305843009213693952<p.v+s
 · obtain⟨rfl,h3⟩:=h1 lY;have H3:=lH h3;clear h1 h2 h3;go_wp2_with fail
   go_ret2
   exact⟨fun _=>⟨rfl,H3.out⟩,fun hz=>absurd lY hz⟩
 · obtain⟨rfl,h3⟩:=h2 lY;have H3:=lH h3;clear h1 h2 h3;go_wp2_with fail
   go_ret2
   exact⟨fun hz=>absurd hz (by omega),fun _=>⟨rfl,H3.out⟩⟩
theorem fx (b:Nat) (v:Value) (l:Ln) (W:World) (h:LineAt W b v l) (hf:yn l) :
 Calls Tryz.prog 303 #[.pointer (some ⟨b,0,none⟩)] W (uS W l.cur (zw l)):=by
 have aH:=gV b v l (W.alloc (.cells #[I 0,.slice none 0 0] 70)) (h.alloc _) hf.1 (by have:=hf.2.2.1;omega) (fun p hp=>(hf.2.2.2 p hp).1);have ah:=h.lt b (.inl rfl);generalize zw l=its at aH⊢;generalize l.cur=cur at aH⊢;clear h hf;go_enter Tryz.func303,Tryz.ntmps303;go_wp2_with fail
 refine aH.mono ?_;rintro e w' ⟨v',rfl,aa,hb⟩;obtain⟨sa,sn,sc,rfl⟩:∃a n c,v'=.slice a n c:=by
  rcases aa.2 with⟨rfl,_⟩ | ⟨g,cap,cur,rfl,_⟩
  · exact⟨_,_,_,rfl⟩
  · exact⟨_,_,_,rfl⟩
 have am:w'.heap[W.heap.size]? = some (.cells #[I 0,.slice none 0 0] 70 (0,0)):=(hb.block _ (by simp)).trans (heap_alloc_new W _)
 have g0:w'.cell? ⟨W.heap.size,0,none⟩=some (I 0):=by simp only[World.cell?,am];rfl
 have g1:w'.cell? ⟨W.heap.size,1,none⟩=some (.slice none 0 0):=by simp only[World.cell?,am];rfl
 have f0:w'.frozen? ⟨W.heap.size,0,none⟩=false:=by simp only[World.frozen?,am];simp
 have f1:w'.frozen? ⟨W.heap.size,1,none⟩=false:=by simp only[World.frozen?,am];simp
 have iG:Hid (((w'.setCell ⟨W.heap.size,0,none⟩ (I cur)).setCell ⟨W.heap.size,1,none⟩ (.slice sa sn sc)).cell? ⟨W.heap.size,0,none⟩=some (I cur)):=
  lH (by rw[za _ (by simp)];exact World.cell?_setCell_same _ _ _ g0)
 have eV:Hid (((w'.setCell ⟨W.heap.size,0,none⟩ (I cur)).setCell ⟨W.heap.size,1,none⟩ (.slice sa sn sc)).cell? ⟨W.heap.size,1,none⟩=some (.slice sa sn sc)):=
  lH (World.cell?_setCell_same _ _ _ (by rw[za _ (by simp)];exact g1))
 have eJ:Hid (((w'.setCell ⟨W.heap.size,0,none⟩ (I cur)).setCell ⟨W.heap.size,1,none⟩ (.slice sa sn sc)).ownsRow W.heap.size 77 3 (.slice sa sn sc) its.length (yG its)):=by
  refine lH (zM (zb aa (fun j hj=>?_)) (by simp));have:=(aa.lt j hj).1;simp at this;rw[Below.heap_setCell _ _ _ _ (by simp;omega),Below.heap_setCell _ _ _ _ (by simp;omega)]
 have HB:=lH hb;clear aa hb am;go_wp2
 exact bodyPost_ret (v:=.agg #[I cur,.slice sa sn sc]) (by simp[results,Tryz.results303,go_sem,iG.out,eV.out]) rfl ⟨_,rfl,eJ.out,((((Below.refl _ _).alloc (Nat.le_refl _) _).trans (HB.out.mono (by simp))).setCell (by simp) _).setCell (by simp) _⟩
theorem UT (b:Nat) (v:Value) (l:Ln) (id w lag:Int) (W:World) (h:LineAt W b v l) (hf:yn l) :
 Calls Tryz.prog 316 #[.pointer (some ⟨b,0,none⟩),I id,I w,I lag] W (kJ b v l id w lag (zP l id w lag) W):=by
 have hp:=qB b v l id w lag W h hf;generalize zP l id w lag=r at hp⊢;clear h hf;go_enter Tryz.func316,Tryz.ntmps316;go_wp2_with fail
 refine hp.mono ?_;rintro e w' ⟨h1,h2⟩;by_cases hr:r=0
 · obtain⟨rfl,h3⟩:=h2 hr;have H3:=lH h3;clear h1 h2 h3;go_wp2_with fail
   go_ret
   exact⟨fun hn=>absurd hr hn,fun _=>⟨rfl,H3.out⟩⟩
 · obtain⟨rfl,h3⟩:=h1 hr;have H3:=lH h3;clear h1 h2 h3;go_wp2_with fail
   go_ret
   exact⟨fun _=>⟨rfl,H3.out⟩,fun hz=>absurd hz hr⟩
theorem Y4 (b:Nat) (v:Value) (l:Ln) (id w lag:Int) (W:World) (h:LineAt W b v l) (hf:yn l) :
 Calls Tryz.prog 312 #[.pointer (some ⟨b,0,none⟩),I id,I w,I lag] W (kJ b v l id w (wI lag) (zP l id w lag) W):=by
 have eA:=kZ b v l id w lag W h;have aU:=fun W'=>Uy lag W';by_cases hm:zP l id w lag=0
 · have Cp:=kY hm;have rM:zP l id w (wI lag)=0:=jE hm (by unfold wI;(repeat' split) <;> omega) (by unfold wI;(repeat' split) <;> omega);have ie:=fun W' h'=>qB b v l id w (wI lag) W' h' hf;rw[rM] at ie;rw[hm] at eA;generalize wI lag=lag' at aU ie;have HL:=lH h;have HM:=lH hm;clear h hf hm rM;go_enter Tryz.func312,Tryz.ntmps312;go_wp2_with fail
   refine eA.mono ?_;rintro e w0 ⟨rfl,lk⟩;have hL:=(HL.out.below lk).drew;have hT:Touch (lfp b v) W w0.drew:=(Touch.of_below lk).drew;have hp:=ie _ hL;clear ie;go_wp2_with fail
   go_region_with (first | (go_at_call 318;refine(aU _).mono ?_;rintro e w' ⟨rfl,rfl⟩) | (go_at_call 269;refine hp.mono ?_;rintro e w' ⟨-,h2⟩;obtain⟨rfl,h3⟩:=h2 rfl;have H3:=lH h3;clear h2 h3))
   all_goals
    go_wp2_with fail
    go_ret
    obtain⟨v',k1,k2,k3⟩:=H3.out;refine⟨fun hn=>absurd HM.out hn,fun _=>⟨rfl,v',k1,hT.self k2,fun k hk=>(k3 k hk).imp (fun hh=>hh) (fun hh=>?_)⟩⟩;have:=hT.size;omega
 · have hr:(zP l id w lag != 0)=true:=by simp[hm]
   have rR:(zP l id w lag==0)=false:=by simp[hm]
   generalize zP l id w lag=r at hm eA hr rR⊢;clear h hf;go_enter Tryz.func312,Tryz.ntmps312;go_wp2_with fail
   refine eA.mono ?_;rintro e w0 ⟨rfl,lk⟩;have HB:=lH lk;clear lk;go_wp2_with fail
   go_ret
   exact⟨fun _=>⟨rfl,HB.out⟩,fun hz=>absurd hz hm⟩
theorem jK (b:Nat) (v:Value) (l:Ln) (W:World) (h:LineAt W b v l) (hp:yh l.ps l.cur<0) :
 Calls Tryz.prog 311 #[.pointer (some ⟨b,0,none⟩)] W fun e w'=>e=.returned (.tuple #[I 0,I 14])/\Below W.heap.size W w':=by
 have hc:=uV b v l W h hp;clear h hp;go_enter Tryz.func311,Tryz.ntmps311;go_wp2_with fail
 refine hc.mono ?_;rintro e w' ⟨rfl,hb⟩;go_wp2_with fail
 go_ret2
 exact⟨rfl,hb⟩
theorem gA (b:Nat) (v:Value) (l:Ln) (W:World) (h:LineAt W b v l) (hf:yn l) (k:Nat) (hk:k<l.ps.length) (hp:yh l.ps l.cur=k) (p:Pt) (ij:l.ps[k]! = p) :
 Calls Tryz.prog 311 #[.pointer (some ⟨b,0,none⟩)] W (kH b v l k p (zF p.w) W):=by
 have ev:p∈l.ps:=by rw[<- ij,yq hk];exact List.getElem_mem hk
 have hc:=ke b v l W h hf.1 k hk hp p ij (hf.2.2.2 p ev).1;generalize zF p.w=s at hc⊢;clear h hp hf ev;go_enter Tryz.func311,Tryz.ntmps311;go_wp2_with fail
 refine hc.mono ?_;rintro e w' ⟨h1,h2⟩;by_cases lY:2305843009213693952<p.v+s
 · obtain⟨rfl,h3⟩:=h1 lY;have H3:=lH h3;clear h1 h2 h3;go_wp2_with fail
   go_ret2
   exact⟨fun _=>⟨rfl,H3.out⟩,fun hz=>absurd lY hz⟩
 · obtain⟨rfl,h3⟩:=h2 lY;have H3:=lH h3;clear h1 h2 h3;go_wp2_with fail
   go_ret2
   exact⟨fun hz=>absurd hz (by omega),fun _=>⟨rfl,H3.out⟩⟩
theorem dU (b:Nat) (v:Value) (l:Ln) (W:World) (h:LineAt W b v l) (hf:yn l) :
 Calls Tryz.prog 313 #[.pointer (some ⟨b,0,none⟩)] W (uS W l.cur (zw l)):=by
 have aH:=gV b v l (W.alloc (.cells #[I 0,.slice none 0 0] 70)) (h.alloc _) hf.1 (by have:=hf.2.2.1;omega) (fun p hp=>(hf.2.2.2 p hp).1);have ah:=h.lt b (.inl rfl);generalize zw l=its at aH⊢;generalize l.cur=cur at aH⊢;clear h hf;go_enter Tryz.func313,Tryz.ntmps313;go_wp2_with fail
 refine aH.mono ?_;rintro e w' ⟨v',rfl,aa,hb⟩;obtain⟨sa,sn,sc,rfl⟩:∃a n c,v'=.slice a n c:=by
  rcases aa.2 with⟨rfl,_⟩ | ⟨g,cap,cur,rfl,_⟩
  · exact⟨_,_,_,rfl⟩
  · exact⟨_,_,_,rfl⟩
 have am:w'.heap[W.heap.size]? = some (.cells #[I 0,.slice none 0 0] 70 (0,0)):=(hb.block _ (by simp)).trans (heap_alloc_new W _)
 have g0:w'.cell? ⟨W.heap.size,0,none⟩=some (I 0):=by simp only[World.cell?,am];rfl
 have g1:w'.cell? ⟨W.heap.size,1,none⟩=some (.slice none 0 0):=by simp only[World.cell?,am];rfl
 have f0:w'.frozen? ⟨W.heap.size,0,none⟩=false:=by simp only[World.frozen?,am];simp
 have f1:w'.frozen? ⟨W.heap.size,1,none⟩=false:=by simp only[World.frozen?,am];simp
 have iG:Hid (((w'.setCell ⟨W.heap.size,0,none⟩ (I cur)).setCell ⟨W.heap.size,1,none⟩ (.slice sa sn sc)).cell? ⟨W.heap.size,0,none⟩=some (I cur)):=
  lH (by rw[za _ (by simp)];exact World.cell?_setCell_same _ _ _ g0)
 have eV:Hid (((w'.setCell ⟨W.heap.size,0,none⟩ (I cur)).setCell ⟨W.heap.size,1,none⟩ (.slice sa sn sc)).cell? ⟨W.heap.size,1,none⟩=some (.slice sa sn sc)):=
  lH (World.cell?_setCell_same _ _ _ (by rw[za _ (by simp)];exact g1))
 have eJ:Hid (((w'.setCell ⟨W.heap.size,0,none⟩ (I cur)).setCell ⟨W.heap.size,1,none⟩ (.slice sa sn sc)).ownsRow W.heap.size 77 3 (.slice sa sn sc) its.length (yG its)):=by
  refine lH (zM (zb aa (fun j hj=>?_)) (by simp));have:=(aa.lt j hj).1;simp at this;rw[Below.heap_setCell _ _ _ _ (by simp;omega),Below.heap_setCell _ _ _ _ (by simp;omega)]
 have HB:=lH hb;clear aa hb am;go_wp2
 exact bodyPost_ret (v:=.agg #[I cur,.slice sa sn sc]) (by simp[results,Tryz.results313,go_sem,iG.out,eV.out]) rfl ⟨_,rfl,eJ.out,((((Below.refl _ _).alloc (Nat.le_refl _) _).trans (HB.out.mono (by simp))).setCell (by simp) _).setCell (by simp) _⟩
def yg (tag:Int) (l:Ln):Ln:=if tag=0 then xi l else if tag=1 then xI l else vq l
def yy (tag lag:Int):Int:=if tag=0 then wM lag else if tag=1 then wL lag else wI lag
def uh (tag:Int) (l:Ln):Int×Int×Ln:=z8 (yg tag l)
theorem fK (l:Ln):(xi l).ps=l.ps/\(xi l).base=l.base:=⟨rfl,rfl⟩
theorem fv (l:Ln):(xI l).ps=l.ps/\(xI l).base=l.base:=by
 unfold xI;split
 · exact⟨rfl,rfl⟩
 · split <;> exact⟨rfl,rfl⟩
theorem fu (l:Ln):(vq l).ps=l.ps/\(vq l).base=l.base:=⟨rfl,rfl⟩
theorem yn.of {l l':Ln} (h:yn l) (h1:l'.ps=l.ps) (h2:l'.base=l.base):yn l':=by
 unfold yn at *;rw[h1,h2];exact h
def ux (b:Nat) (v:Value) (r:Int×Int×Ln) (W:World) (e:Ending) (w':World):Prop:=
 e=.returned (.tuple #[I r.1,I r.2.1])/\LineAt w' b v r.2.2/\Touch (lfp b v) W w'
theorem ka {b:Nat} {v:Value} {l:Ln} {k:Nat} {p:Pt} {W w':World} {e:Ending} (hL:LineAt W b v l) (hp:yh l.ps l.cur=k) (ij:l.ps[k]! = p) (h:kH b v l k p (zF p.w) W e w') :
 ux b v (z8 l) W e w':=by
 unfold z8;rw[hp];rw[if_neg (by omega)];simp only[Int.toNat_natCast,ij];split
 · rename_i NT;obtain⟨he,hb⟩:=h.1 NT;exact⟨he,hL.below hb,Touch.of_below hb⟩
 · rename_i NT;obtain⟨he,hl,ht⟩:=h.2 NT;exact⟨he,hl,ht⟩
theorem fw (b:Nat) (v:Value) (l:Ln) (W:World) (h:LineAt W b v l) (hf:yn l) :
 Calls Tryz.prog 260 #[.pointer (some ⟨b,0,none⟩)] W (ux b v (z8 l) W):=by
 rcases zB l.ps l.cur with⟨hp,_⟩ | ⟨k,hk,hp,_⟩
 · refine(qJ b v l W h (by omega)).mono ?_;rintro e w' ⟨rfl,hb⟩;unfold z8;rw[if_pos (by omega)];exact⟨rfl,h.below hb,Touch.of_below hb⟩
 · exact(kz b v l W h hf k hk hp _ rfl).mono (fun e w' hc=>ka h hp rfl hc)
theorem cO (b:Nat) (v:Value) (l:Ln) (W:World) (h:LineAt W b v l) (hf:yn l) :
 Calls Tryz.prog 301 #[.pointer (some ⟨b,0,none⟩)] W (ux b v (z8 l) W):=by
 rcases zB l.ps l.cur with⟨hp,_⟩ | ⟨k,hk,hp,_⟩
 · refine(jm b v l W h (by omega)).mono ?_;rintro e w' ⟨rfl,hb⟩;unfold z8;rw[if_pos (by omega)];exact⟨rfl,h.below hb,Touch.of_below hb⟩
 · exact(jJ b v l W h hf k hk hp _ rfl).mono (fun e w' hc=>ka h hp rfl hc)
theorem Zk (b:Nat) (v:Value) (l:Ln) (W:World) (h:LineAt W b v l) (hf:yn l) :
 Calls Tryz.prog 311 #[.pointer (some ⟨b,0,none⟩)] W (ux b v (z8 l) W):=by
 rcases zB l.ps l.cur with⟨hp,_⟩ | ⟨k,hk,hp,_⟩
 · refine(jK b v l W h (by omega)).mono ?_;rintro e w' ⟨rfl,hb⟩;unfold z8;rw[if_pos (by omega)];exact⟨rfl,h.below hb,Touch.of_below hb⟩
 · exact(gA b v l W h hf k hk hp _ rfl).mono (fun e w' hc=>ka h hp rfl hc)
def QO (qb:Nat) (F:Nat->Prop) (tag:Int) (r:Int×Int×Ln) (W:World) (e:Ending) (w':World):Prop:=
 e=.returned (.tuple #[I r.1,I r.2.1])/\QIn w' qb F tag r.2.2/\Touch F W w'
theorem Zh (qb:Nat) (F:Nat->Prop) (l:Ln) (W:World) (h:QIn W qb F 0 l) (hf:yn l) :
 Calls Tryz.prog 154 #[.pointer (some ⟨qb,0,none⟩)] W (QO qb F 0 (uh 0 l) W):=by
 obtain⟨lb,v,h1,h2,h3,h4,h5,h6,h7,h8⟩:=h;have lK:Hid (qty 0=235):=lH (by unfold qty;simp);rw[lK.out] at h1;have mS:=Zc lb v l W h4 hf.1;have oJ:=h6 lb (.inl rfl);have sd:∀W',LineAt W' lb v (xi l)->Calls Tryz.prog 260 #[.pointer (some ⟨lb,0,none⟩)] W' (ux lb v (z8 (xi l)) W'):=fun W' h'=>fw lb v (xi l) W' h' (hf.of (fK l).1 (fK l).2);have e:uh 0 l=z8 (xi l):=rfl;rw[e];generalize z8 (xi l)=r at sd⊢;generalize xi l=l1 at mS sd;have H2:=lH h2;have H3:=lH h3;have H6:=lH h6;have H8:=lH h8;clear h2 h3 h4 h6 h8 e;go_enter Tryz.func154,Tryz.ntmps154;go_wp2_with fail
 refine mS.mono ?_;rintro e w1 ⟨⟨i,c,rfl⟩,iM,aF⟩;have oL:w1.heap[qb]? = W.heap[qb]?:=aF.block qb (H8.out qb h5) (fun e=>oJ.2 e.symm);have g1:w1.cell? ⟨qb,0,none⟩=some (.iface 235 (.pointer (some ⟨lb,0,none⟩))):=(World.cell?_of_block (a:=⟨qb,0,none⟩) oL).trans h1;have sy:=sd w1 iM;have lh:=lH aF;have mD:=lH oL;clear iM aF oL sd;go_wp2_with fail
 refine sy.mono ?_;rintro e w2 ⟨rfl,lU,aC⟩;have mK:=lH lU;have eR:=lH aC;clear lU aC;go_wp2_with fail
 go_ret2
 have hT:Touch F W w2:=(lh.out.wider (fun k hk=>by rw[hk];exact oJ.1)).self (eR.out.wider (fun k hk=>(H6.out k hk).1));have pZ:w2.heap[qb]? = W.heap[qb]?:=(eR.out.block qb (Nat.lt_of_lt_of_le (H8.out qb h5) lh.out.size) (fun hk=>(H6.out qb hk).2 rfl)).trans mD.out;refine⟨?_,?_,hT⟩
 · rfl
 refine⟨lb,v,?_,(World.cell?_of_block (a:=⟨qb,1,none⟩) pZ).trans H2.out,fun i=>(World.frozen?_of_block (a:=⟨qb,i,none⟩) pZ).trans (H3.out i),mK.out,h5,H6.out,(by omega),fun k hk=>Nat.lt_of_lt_of_le (H8.out k hk) hT.size⟩;rw[lK.out];exact(World.cell?_of_block (a:=⟨qb,0,none⟩) pZ).trans h1
theorem WF (qb:Nat) (F:Nat->Prop) (l:Ln) (W:World) (h:QIn W qb F 1 l) (hf:yn l) :
 Calls Tryz.prog 154 #[.pointer (some ⟨qb,0,none⟩)] W (QO qb F 1 (uh 1 l) W):=by
 obtain⟨lb,v,h1,h2,h3,h4,h5,h6,h7,h8⟩:=h;have lK:Hid (qty 1=239):=lH (by unfold qty;simp);rw[lK.out] at h1;have mS:=WA lb v l W h4 hf.1 (fun p hp=>(hf.2.2.2 p hp).1);have oJ:=h6 lb (.inl rfl);have sd:∀W',LineAt W' lb v (xI l)->Calls Tryz.prog 301 #[.pointer (some ⟨lb,0,none⟩)] W' (ux lb v (z8 (xI l)) W'):=fun W' h'=>cO lb v (xI l) W' h' (hf.of (fv l).1 (fv l).2);have e:uh 1 l=z8 (xI l):=rfl;rw[e];generalize z8 (xI l)=r at sd⊢;generalize xI l=l1 at mS sd;have H2:=lH h2;have H3:=lH h3;have H6:=lH h6;have H8:=lH h8;clear h2 h3 h4 h6 h8 e;go_enter Tryz.func154,Tryz.ntmps154;go_wp2_with fail
 refine mS.mono ?_;rintro e w1 ⟨⟨i,c,rfl⟩,iM,aF⟩;have oL:w1.heap[qb]? = W.heap[qb]?:=aF.block qb (H8.out qb h5) (fun e=>oJ.2 e.symm);have g1:w1.cell? ⟨qb,0,none⟩=some (.iface 239 (.pointer (some ⟨lb,0,none⟩))):=(World.cell?_of_block (a:=⟨qb,0,none⟩) oL).trans h1;have sy:=sd w1 iM;have lh:=lH aF;have mD:=lH oL;clear iM aF oL sd;go_wp2_with fail
 refine sy.mono ?_;rintro e w2 ⟨rfl,lU,aC⟩;have mK:=lH lU;have eR:=lH aC;clear lU aC;go_wp2_with fail
 go_ret2
 have hT:Touch F W w2:=(lh.out.wider (fun k hk=>by rw[hk];exact oJ.1)).self (eR.out.wider (fun k hk=>(H6.out k hk).1));have pZ:w2.heap[qb]? = W.heap[qb]?:=(eR.out.block qb (Nat.lt_of_lt_of_le (H8.out qb h5) lh.out.size) (fun hk=>(H6.out qb hk).2 rfl)).trans mD.out;refine⟨?_,?_,hT⟩
 · rfl
 refine⟨lb,v,?_,(World.cell?_of_block (a:=⟨qb,1,none⟩) pZ).trans H2.out,fun i=>(World.frozen?_of_block (a:=⟨qb,i,none⟩) pZ).trans (H3.out i),mK.out,h5,H6.out,(by omega),fun k hk=>Nat.lt_of_lt_of_le (H8.out k hk) hT.size⟩;rw[lK.out];exact(World.cell?_of_block (a:=⟨qb,0,none⟩) pZ).trans h1
theorem UQ (qb:Nat) (F:Nat->Prop) (l:Ln) (W:World) (h:QIn W qb F 2 l) (hf:yn l) :
 Calls Tryz.prog 154 #[.pointer (some ⟨qb,0,none⟩)] W (QO qb F 2 (uh 2 l) W):=by
 obtain⟨lb,v,h1,h2,h3,h4,h5,h6,h7,h8⟩:=h;have lK:Hid (qty 2=242):=lH (by unfold qty;simp);rw[lK.out] at h1;have mS:=UJ lb v l W h4 hf.1 hf.2.2.2;have oJ:=h6 lb (.inl rfl);have sd:∀W',LineAt W' lb v (vq l)->Calls Tryz.prog 311 #[.pointer (some ⟨lb,0,none⟩)] W' (ux lb v (z8 (vq l)) W'):=fun W' h'=>Zk lb v (vq l) W' h' (hf.of (fu l).1 (fu l).2);have e:uh 2 l=z8 (vq l):=rfl;rw[e];generalize z8 (vq l)=r at sd⊢;generalize vq l=l1 at mS sd;have H2:=lH h2;have H3:=lH h3;have H6:=lH h6;have H8:=lH h8;clear h2 h3 h4 h6 h8 e;go_enter Tryz.func154,Tryz.ntmps154;go_wp2_with fail
 refine mS.mono ?_;rintro e w1 ⟨⟨i,c,rfl⟩,iM,aF⟩;have oL:w1.heap[qb]? = W.heap[qb]?:=aF.block qb (H8.out qb h5) (fun e=>oJ.2 e.symm);have g1:w1.cell? ⟨qb,0,none⟩=some (.iface 242 (.pointer (some ⟨lb,0,none⟩))):=(World.cell?_of_block (a:=⟨qb,0,none⟩) oL).trans h1;have sy:=sd w1 iM;have lh:=lH aF;have mD:=lH oL;clear iM aF oL sd;go_wp2_with fail
 refine sy.mono ?_;rintro e w2 ⟨rfl,lU,aC⟩;have mK:=lH lU;have eR:=lH aC;clear lU aC;go_wp2_with fail
 go_ret2
 have hT:Touch F W w2:=(lh.out.wider (fun k hk=>by rw[hk];exact oJ.1)).self (eR.out.wider (fun k hk=>(H6.out k hk).1));have pZ:w2.heap[qb]? = W.heap[qb]?:=(eR.out.block qb (Nat.lt_of_lt_of_le (H8.out qb h5) lh.out.size) (fun hk=>(H6.out qb hk).2 rfl)).trans mD.out;refine⟨?_,?_,hT⟩
 · rfl
 refine⟨lb,v,?_,(World.cell?_of_block (a:=⟨qb,1,none⟩) pZ).trans H2.out,fun i=>(World.frozen?_of_block (a:=⟨qb,i,none⟩) pZ).trans (H3.out i),mK.out,h5,H6.out,(by omega),fun k hk=>Nat.lt_of_lt_of_le (H8.out k hk) hT.size⟩;rw[lK.out];exact(World.cell?_of_block (a:=⟨qb,0,none⟩) pZ).trans h1
theorem UP (qb:Nat) (F:Nat->Prop) (tag:Int) (l:Ln) (W:World) (h:QIn W qb F tag l) (hf:yn l) :
 Calls Tryz.prog 154 #[.pointer (some ⟨qb,0,none⟩)] W (QO qb F tag (uh tag l) W):=by
 have h':=h;obtain⟨lb,v,h1,h2,h3,h4,h5,h6,h7,h8⟩:=h';rcases h7 with rfl | rfl | rfl
 · exact Zh qb F l W h hf
 · exact WF qb F l W h hf
 · exact UQ qb F l W h hf
theorem UR (qb:Nat) (F:Nat->Prop) (tag:Int) (l:Ln) (W:World) (h:QIn W qb F tag l) :
 Calls Tryz.prog 140 #[.pointer (some ⟨qb,0,none⟩)] W fun e w'=>e=.returned (I tag)/\W=w':=by
 obtain⟨lb,v,h1,h2,h3,h4,h5,h6,h7,h8⟩:=h;clear h1 h3 h4 h6 h7 h8;go_enter Tryz.func140,Tryz.ntmps140;go_wp2
 go_ret
 exact⟨rfl,rfl⟩
structure Co where
 tag:Int
 l:Ln
 age:Int
 srv:Nat
def zo (W:World) (cb:Nat) (F:Nat->Prop) (c:Co):Prop:=
 ∃(qb mb n:Nat) (idle:Int) (G:Nat->Prop) (D:DataW Unit),W.cell? ⟨cb,0,none⟩=some (.pointer (some ⟨qb,0,none⟩))/\W.cell? ⟨cb,1,none⟩=some (.map (some mb))/\W.cell? ⟨cb,2,none⟩=some (I idle) /\
  W.cell? ⟨cb,3,none⟩=some (I c.age)/\(∀i,W.frozen? ⟨cb,i,none⟩=false)/\QIn W qb G c.tag c.l/\W.ownsMap Tryz.prog 3 (plainElem (H:=Unit) Tryz.prog 2) mb n D/\n<=c.srv /\
  F cb/\F mb/\cb≠mb/\(∀k,G k->F k/\k≠cb/\k≠mb)/\∀k,F k->k<W.heap.size
theorem yc {H:Type} {P:Program} {k:TypeId} {R:Value->Option (DataW H×List MemPlace)} {w w':World} {b n:Nat} {D:DataW H} (h:w.ownsMap P k R b n D) (hb:w'.heap[b]? = w.heap[b]?):w'.ownsMap P k R b n D:=by
 obtain⟨es,clock,h1,F,hs,hD⟩:=h;exact⟨es,clock,hb.trans h1,F,hs,hD⟩
theorem zo.lt {W:World} {cb:Nat} {F:Nat->Prop} {c:Co} (h:zo W cb F c):∀k,F k->k<W.heap.size:=by
 obtain⟨qb,mb,n,idle,G,D,h1,h2,h3,h4,h5,h6,h7,h8,h9,rE,rY,oD,pO⟩:=h;exact pO
theorem zo.same {W W':World} {cb:Nat} {F:Nat->Prop} {c:Co} (h:zo W cb F c) (hs:W.heap.size<=W'.heap.size) (hb:∀k,F k->W'.heap[k]? = W.heap[k]?):zo W' cb F c:=by
 obtain⟨qb,mb,n,idle,G,D,h1,h2,h3,h4,h5,h6,h7,h8,h9,rE,rY,oD,pO⟩:=h;have h0:∀i,W'.cell? ⟨cb,i,none⟩=W.cell? ⟨cb,i,none⟩:=fun i=>World.cell?_of_block (hb cb h9);have oR:∀i,W'.frozen? ⟨cb,i,none⟩=W.frozen? ⟨cb,i,none⟩:=fun i=>World.frozen?_of_block (hb cb h9);exact⟨qb,mb,n,idle,G,D,(h0 0).trans h1,(h0 1).trans h2,(h0 2).trans h3,(h0 3).trans h4,fun i=>(oR i).trans (h5 i),h6.same hs (fun k hk=>hb k (oD k hk).1),yc h7 (hb mb rE),h8,h9,rE,rY,oD,fun k hk=>Nat.lt_of_lt_of_le (pO k hk) hs⟩
theorem zo.below {W W':World} {cb:Nat} {F:Nat->Prop} {c:Co} (h:zo W cb F c) (hb:Below W.heap.size W W'):zo W' cb F c:=
 h.same hb.size (fun k hk=>hb.block k (h.lt k hk))
def Jr (W:World) (c:Co) (e:Ending) (w':World):Prop:=
 ∃cb F,e=.returned (.tuple #[.pointer (some ⟨cb,0,none⟩),I 0])/\zo w' cb F c/\Below W.heap.size W w'/\∀k,F k->W.heap.size<=k
theorem KW (qb:Nat) (G:Nat->Prop) (tag:Int) (l:Ln) (B:Nat) (W:World) (h:QIn W qb G tag l) (hG:∀k,G k->B<=k) (hB:B<=W.heap.size) :
 Calls Tryz.prog 95 #[.pointer (some ⟨qb,0,none⟩),I 0] W fun e w'=>∃cb F,e=.returned (.tuple #[.pointer (some ⟨cb,0,none⟩),I 0])/\zo w' cb F ⟨tag,l,0,0⟩/\Below W.heap.size W w'/\∀k,F k->B<=k:=by
 have lA:=run_makeMap (P:=Tryz.prog) 225 W;have FF:(W.alloc (.map #[] 0)).ownsMap Tryz.prog 3 (plainElem (H:=Unit) Tryz.prog 2) W.heap.size 0 (.map []):=World.ownsMap_made W _ _ _;have ah:=h.lt;have HQ:=lH h;have HG:=lH hG;have RE:=lH FF;have io:=lH ah;clear h hG FF ah;go_enter Tryz.func95,Tryz.ntmps95;go_wp2
 go_ret2
 have hh:=heap_alloc_new (W.alloc (.map #[] 0)) (.cells #[.pointer (some ⟨qb,0,none⟩),.map (some W.heap.size),I 0,I 0] 227);rw[zR] at hh;have hb:Below W.heap.size W ((W.alloc (.map #[] 0)).alloc (.cells #[.pointer (some ⟨qb,0,none⟩),.map (some W.heap.size),I 0,I 0] 227)):=((Below.refl _ _).alloc (Nat.le_refl _) _).alloc (by simp) _;refine⟨W.heap.size+1,fun k=>k=W.heap.size+1\/k=W.heap.size\/G k,rfl,⟨qb,W.heap.size,0,0,G,.map [],?_,?_,?_,?_,fun i=>?_,HQ.out.below hb,RE.out.alloc _,Nat.le_refl _,.inl rfl,.inr (.inl rfl),by omega,fun k hk=>⟨.inr (.inr hk),?_,?_⟩,?_⟩,hb,?_⟩
 · simp only[World.cell?,hh];rfl
 · simp only[World.cell?,hh];rfl
 · simp only[World.cell?,hh];rfl
 · simp only[World.cell?,hh];rfl
 · simp only[World.frozen?,hh];simp
 · have:=io.out k hk;omega
 · have:=io.out k hk;omega
 · intro k hk;rcases hk with rfl | rfl | hk
   · simp
   · simp;omega
   · have:=io.out k hk;simp;omega
 · intro k hk;rcases hk with rfl | rfl | hk
   · omega
   · exact hB
   · exact HG.out k hk
theorem QW (r:Int) (hr:r≠0) (W:World) :
 Calls Tryz.prog 95 #[.pointer none,I r] W fun e w'=>e=.returned (.tuple #[.pointer none,I r])/\W=w':=by
 have h1:(r != 0)=true:=by simp[hr]
 have h2:(r==0)=false:=by simp[hr]
 go_enter Tryz.func95,Tryz.ntmps95;go_wp2
 go_ret2
 exact⟨rfl,rfl⟩
theorem bw (tag base:Int) (W:World) (ht:tag=0\/tag=1\/tag=2) (h:-1152921504606846976<=base/\base<=1152921504606846976) :
 Calls Tryz.prog 45 #[I tag,I base] W (Jr W ⟨tag,⟨base,-1,[]⟩,0,0⟩):=by
 have h1:=UM tag base W ht h;clear h ht;go_enter Tryz.func45,Tryz.ntmps45;go_wp2_with fail
 refine h1.mono ?_;rintro e w1 ⟨qb,F,rfl,hQ,ab,hF⟩;have rQ:=KW qb F tag _ W.heap.size w1 hQ hF ab.size;have ef:=lH ab;clear hQ ab hF;go_wp2_with fail
 refine rQ.mono ?_;rintro e w2 ⟨cb,F2,rfl,hC,ar,OZ⟩;have HC:=lH hC;have Dq:=lH OZ;clear hC OZ;go_wp2_with fail
 go_ret2
 exact⟨cb,F2,rfl,HC.out,ef.out.trans (ar.mono ef.out.size),Dq.out⟩
theorem Ud (tag base:Int) (W:World) (h0:tag≠0) (h1:tag≠1) (h2:tag≠2) :
 Calls Tryz.prog 45 #[I tag,I base] W fun e w'=>e=.returned (.tuple #[.pointer none,I 1])/\W=w':=by
 have hn:=UN tag base W h0 h1 h2;have rQ:=QW 1 (by omega) W;clear h0 h1 h2;go_enter Tryz.func45,Tryz.ntmps45;go_wp2_with fail
 refine hn.mono ?_;rintro e w1 ⟨rfl,rfl⟩;go_wp2_with fail
 refine rQ.mono ?_;rintro e w1 ⟨rfl,rfl⟩;go_wp2_with fail
 go_ret2
 exact⟨rfl,rfl⟩
theorem Uf (cb:Nat) (F:Nat->Prop) (c:Co) (W:World) (h:zo W cb F c) :
 Calls Tryz.prog 88 #[.pointer (some ⟨cb,0,none⟩)] W fun e w'=>e=.returned (I c.tag)/\W=w':=by
 obtain⟨qb,mb,n,idle,G,D,h1,h2,h3,h4,h5,h6,h7,h8,h9,rE,rY,oD,pO⟩:=h;have ht:=UR qb G c.tag c.l W h6;clear h2 h3 h4 h5 h6 h7 h8 h9 rE rY oD pO;go_enter Tryz.func88,Tryz.ntmps88;go_wp2_with fail
 refine ht.mono ?_;rintro e w1 ⟨rfl,rfl⟩;go_wp2_with fail
 go_ret
 exact⟨rfl,rfl⟩
def xQ (r age:Int):Int:=if r=0 then wrap64 (age+1) else age
theorem zo.setAge {W:World} {cb:Nat} {F:Nat->Prop} {c:Co} (h:zo W cb F c) (a:Int):zo (W.setCell ⟨cb,3,none⟩ (I a)) cb F ⟨c.tag,c.l,a,c.srv⟩:=by
 obtain⟨qb,mb,n,idle,G,D,h1,h2,h3,h4,h5,h6,h7,h8,h9,rE,rY,oD,pO⟩:=h;refine⟨qb,mb,n,idle,G,D,?_,?_,?_,World.cell?_setCell_same _ _ _ h4,fun i=>?_,h6.same (by simp) (fun k hk=>Below.heap_setCell _ _ _ _ (oD k hk).2.1),yc h7 (Below.heap_setCell _ _ _ _ (fun e=>rY e.symm)),h8,h9,rE,rY,oD,fun k hk=>by simpa using pO k hk⟩
 · rw[za _ (by simp)];exact h1
 · rw[za _ (by simp)];exact h2
 · rw[za _ (by simp)];exact h3
 · rw[World.frozen?_setCell];exact h5 i
theorem zo.setIdle {W:World} {cb:Nat} {F:Nat->Prop} {c:Co} (h:zo W cb F c) (a:Int):zo (W.setCell ⟨cb,2,none⟩ (I a)) cb F c:=by
 obtain⟨qb,mb,n,idle,G,D,h1,h2,h3,h4,h5,h6,h7,h8,h9,rE,rY,oD,pO⟩:=h;refine⟨qb,mb,n,a,G,D,?_,?_,World.cell?_setCell_same _ _ _ h3,?_,fun i=>?_,h6.same (by simp) (fun k hk=>Below.heap_setCell _ _ _ _ (oD k hk).2.1),yc h7 (Below.heap_setCell _ _ _ _ (fun e=>rY e.symm)),h8,h9,rE,rY,oD,fun k hk=>by simpa using pO k hk⟩
 · rw[za _ (by simp)];exact h1
 · rw[za _ (by simp)];exact h2
 · rw[za _ (by simp)];exact h4
 · rw[World.frozen?_setCell];exact h5 i
theorem zo.here {W:World} {cb:Nat} {F:Nat->Prop} {c:Co} (h:zo W cb F c):F cb:=by
 obtain⟨qb,mb,n,idle,G,D,h1,h2,h3,h4,h5,h6,h7,h8,h9,rE,rY,oD,pO⟩:=h;exact h9
def Jo (cb:Nat) (F:Nat->Prop) (c:Co) (r:Int) (W:World) (e:Ending) (w':World):Prop:=
 e=.returned (I r)/\zo w' cb F ⟨c.tag,c.l,xQ r c.age,c.srv⟩/\Touch F W w'
theorem yV (cb:Nat) (F:Nat->Prop) (c:Co) (r:Int) (W:World) (h:zo W cb F c) :
 Calls Tryz.prog 153 #[.pointer (some ⟨cb,0,none⟩),I r] W (Jo cb F c r W):=by
 have hF:=h.here;have HC:=lH h;obtain⟨qb,mb,n,idle,G,D,h1,h2,h3,h4,h5,h6,h7,h8,h9,rE,rY,oD,pO⟩:=h;have f3:=h5 3;clear h1 h2 h3 h5 h6 h7 h8 h9 rE rY oD pO;by_cases hr:r=0
 · have e:xQ r c.age=wrap64 (c.age+1):=by unfold xQ;rw[if_pos hr]
   have hb:(r==0)=true:=by simp[hr]
   have HE:=lH e;have HR:=lH hr;clear e hr;go_enter Tryz.func153,Tryz.ntmps153;go_wp2
   go_ret
   exact⟨rfl,by rw[HE.out];exact HC.out.setAge _,(Touch.refl _ _).setCell (t:=none) (.inl hF) _⟩
 · have e:xQ r c.age=c.age:=by unfold xQ;rw[if_neg hr]
   have hb:(r==0)=false:=by simp[hr]
   have HE:=lH e;have HR:=lH hr;clear e hr;go_enter Tryz.func153,Tryz.ntmps153;go_wp2
   go_ret
   exact⟨rfl,by rw[HE.out];exact HC.out,Touch.refl _ _⟩
theorem zo.q {W:World} {cb:Nat} {F:Nat->Prop} {c:Co} (h:zo W cb F c):∃qb G,W.cell? ⟨cb,0,none⟩=some (.pointer (some ⟨qb,0,none⟩))/\QIn W qb G c.tag c.l/\(∀k,G k->F k) /\
 ∀(W':World) (G':Nat->Prop) (tag':Int) (l':Ln),QIn W' qb G' tag' l'->Touch G W W'->(∀k,G' k->G k\/W.heap.size<=k)->zo W' cb (fun k=>F k\/G' k) ⟨tag',l',c.age,c.srv⟩:=by
 obtain⟨qb,mb,n,idle,G,D,h1,h2,h3,h4,h5,h6,h7,h8,h9,rE,rY,oD,pO⟩:=h;refine⟨qb,G,h1,h6,fun k hk=>(oD k hk).1,fun W' G' tag' l' hq ht hg=>?_⟩;have mu:W'.heap[cb]? = W.heap[cb]?:=ht.block cb (pO cb h9) (fun hk=>(oD cb hk).2.1 rfl);have PI:W'.heap[mb]? = W.heap[mb]?:=ht.block mb (pO mb rE) (fun hk=>(oD mb hk).2.2 rfl);have h0:∀i,W'.cell? ⟨cb,i,none⟩=W.cell? ⟨cb,i,none⟩:=fun i=>World.cell?_of_block mu;have oR:∀i,W'.frozen? ⟨cb,i,none⟩=W.frozen? ⟨cb,i,none⟩:=fun i=>World.frozen?_of_block mu;refine⟨qb,mb,n,idle,G',D,(h0 0).trans h1,(h0 1).trans h2,(h0 2).trans h3,(h0 3).trans h4,fun i=>(oR i).trans (h5 i),hq,yc h7 PI,h8,.inl h9,.inl rE,rY,fun k hk=>⟨.inr hk,?_,?_⟩,?_⟩
 · rcases hg k hk with h | h
   · exact(oD k h).2.1
   · have:=pO cb h9;omega
 · rcases hg k hk with h | h
   · exact(oD k h).2.2
   · have:=pO mb rE;omega
 · intro k hk;rcases hk with hk | hk
   · exact Nat.lt_of_lt_of_le (pO k hk) ht.size
   · exact hq.lt k hk
theorem zo.wider {W:World} {cb:Nat} {F F':Nat->Prop} {c:Co} (h:zo W cb F c) (h1:∀k,F k->F' k) (h2:∀k,F' k->k<W.heap.size):zo W cb F' c:=by
 obtain⟨qb,mb,n,idle,G,D,a1,a2,a3,a4,a5,a6,a7,a8,a9,a10,a11,a12,a13⟩:=h;exact⟨qb,mb,n,idle,G,D,a1,a2,a3,a4,a5,a6,a7,a8,h1 _ a9,h1 _ a10,a11,fun k hk=>⟨h1 k (a12 k hk).1,(a12 k hk).2⟩,h2⟩
end Go.Proofs.YtoiajjobecinpaaGreat

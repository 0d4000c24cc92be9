/- A core runs one for a tick. A task comes to a core; what each is owed there; its load. What each of  -/
import Derived.Test.YtoiajjobecinpaaGreatTM06
import Derived.Test.YtoiajjobecinpaaGreatTM07
set_option maxHeartbeats 4000000
set_option maxRecDepth 100000
namespace Go.Proofs.YtoiajjobecinpaaGreat
open Go.RowKit Go.Shelf Go.Lib Go.Proofs
set_option linter.unusedVariables false
set_option linter.unusedSimpArgs false
theorem zo.upd {W:World} {cb:Nat} {F:Nat->Prop} {c:Co} (h:zo W cb F c):∃(mb n:Nat) (D:DataW Unit),W.cell? ⟨cb,1,none⟩=some (.map (some mb))/\W.ownsMap Tryz.prog 3 (plainElem (H:=Unit) Tryz.prog 2) mb n D/\n<=c.srv /\
 ∀(w2:World) (D':DataW Unit),w2.ownsMap Tryz.prog 3 (plainElem (H:=Unit) Tryz.prog 2) mb (n+1) D'->W.grownBy w2 (some mb)->zo w2 cb F ⟨c.tag,c.l,c.age,c.srv+1⟩/\Touch F W w2:=by
 obtain⟨qb,mb,n,idle,G,D,h1,h2,h3,h4,h5,h6,h7,h8,h9,rE,rY,oD,pO⟩:=h;refine⟨mb,n,D,h2,h7,h8,fun w2 D' hm hg=>?_⟩;have hk:∀k,F k->k≠mb->w2.heap[k]? = W.heap[k]?:=fun k hk ay=>hg.block k (pO k hk) (by simpa using ay);have mu:=hk cb h9 rY;have h0:∀i,w2.cell? ⟨cb,i,none⟩=W.cell? ⟨cb,i,none⟩:=fun i=>World.cell?_of_block mu;have oR:∀i,w2.frozen? ⟨cb,i,none⟩=W.frozen? ⟨cb,i,none⟩:=fun i=>World.frozen?_of_block mu;refine⟨⟨qb,mb,n+1,idle,G,D',(h0 0).trans h1,(h0 1).trans h2,(h0 2).trans h3,(h0 3).trans h4,fun i=>(oR i).trans (h5 i),h6.same hg.size (fun k eO=>hk k (oD k eO).1 (oD k eO).2.2),hm,by simp only;omega,h9,rE,rY,oD,fun k hk=>Nat.lt_of_lt_of_le (pO k hk) hg.size⟩,?_⟩;exact⟨hg.os,hg.tape,hg.output,hg.size,fun k hk hn=>hg.block k hk (fun e=>hn (by simp at e;rw[e];exact rE))⟩
theorem gY:Maps.Keyed Tryz.prog 3:=Maps.int_keyed Tryz.underlying3
theorem U3 {x:Int} (h0:-9223372036854775808<=x) (h1:x<=9223372036854775807):keyOf Tryz.prog 3 (I x)=some (.int .i64 x):=by
 have hw:(Lit.int .i64 x).wf=true:=by simp[Lit.wf,IntKind.min,IntKind.max,IntKind.signed,IntKind.bits];omega
 unfold keyOf;rw[Tryz.underlying3];simp[mapKey,Tryz.underlying3,hw]
theorem J9 (w:World):(zeroValue 2).run Tryz.prog w=.ok (I 0) w:=by kernel_rfl
theorem KJ (x:Int):(Lit.int .i64 (wrap64 x)).wf=true:=by
 simp[Lit.wf,IntKind.min,IntKind.max,IntKind.signed,IntKind.bits,wrap64];omega
def Ids (l:Ln):Prop:=∀p∈l.ps,0<=p.id/\p.id<=1073741824
def yE (c:Co):Int×Int×Co:=
 let r:=uh c.tag c.l
 if r.2.1=0 then(r.1,0,⟨c.tag,r.2.2,wrap64 (c.age+1),c.srv+1⟩)
 else if r.2.1=14 then(-1,0,⟨c.tag,r.2.2,wrap64 (c.age+1),c.srv⟩)
 else(r.1,r.2.1,⟨c.tag,r.2.2,c.age,c.srv⟩)
theorem ZX (l:Ln) (h:Ids l):0<=(z8 l).1/\(z8 l).1<=1073741824:=by
 unfold z8;rcases zB l.ps l.cur with⟨hp,_⟩ | ⟨k,hk,hp,_⟩
 · rw[if_pos (by omega)];simp
 · rw[if_neg (by omega),hp];simp only[Int.toNat_natCast];split
   · simp
   · have:=h (l.ps[k]!) (by rw[yq hk];exact List.getElem_mem hk);exact this
theorem jk (tag:Int) (l:Ln):(yg tag l).ps=l.ps/\(yg tag l).base=l.base:=by
 unfold yg;split
 · exact fK l
 · split
   · exact fv l
   · exact fu l
def Jm (cb:Nat) (F:Nat->Prop) (r:Int×Int×Co) (W:World) (e:Ending) (w':World):Prop:=
 e=.returned (.tuple #[I r.1,I r.2.1])/\(∃F',zo w' cb F' r.2.2/\Touch F W w'/\∀k,F' k->F k\/W.heap.size<=k)
theorem bz (cb:Nat) (F:Nat->Prop) (c:Co) (W:World) (h:zo W cb F c) (hf:yn c.l) (hi:Ids c.l) (hs:c.srv<1000000000) :
 Calls Tryz.prog 111 #[.pointer (some ⟨cb,0,none⟩)] W (Jm cb F (yE c) W):=by
 obtain⟨qb,G,c0,hQ,iz,az⟩:=h.q;have lJ:=UP qb G c.tag c.l W hQ hf;have hid:=ZX (yg c.tag c.l) (by unfold Ids;rw[(jk c.tag c.l).1];exact hi);change 0<=(uh c.tag c.l).1/\(uh c.tag c.l).1<=1073741824 at hid;unfold yE;obtain⟨⟨r1,r2,l2⟩,hr⟩:∃r,uh c.tag c.l=r:=⟨_,rfl⟩
 rw[hr] at lJ hid⊢;simp only at hid⊢;obtain⟨i1,i2⟩:=hid;have ah:=h.lt;have io:=lH ah;have HB:=lH az;have oB:=lH iz;have HS:=lH hs;clear h hf hi hs hQ hr az ah iz;by_cases hz:r2=0
 · rw[if_pos hz];subst hz;go_enter Tryz.func111,Tryz.ntmps111;go_wp2_with fail
   refine lJ.mono ?_;rintro e w1 ⟨rfl,m7,aF⟩;have lM:=HB.out w1 G c.tag l2 m7 aF (fun k hk=>.inl hk);have sr:Touch F W w1:=aF.wider oB.out;have pP:zo w1 cb F ⟨c.tag,l2,c.age,c.srv⟩:=lM.wider (fun k hk=>hk.elim (fun h=>h) (oB.out k)) (fun k hk=>Nat.lt_of_lt_of_le (io.out k hk) aF.size);obtain⟨mb,n,D,m1,m2,m3,m4⟩:=pP.upd;simp only at m3;obtain⟨x,my,-,Tv⟩:=m2.lookup_int (t:=225) (e:=2) gY Tryz.underlying225 Tryz.underlying2 (J9 w1) (U3 (x:=r1) (by omega) (by omega));obtain⟨w2,Od,m5,m6⟩:=m2.update (t:=225) (e:=2) gY Tryz.underlying225 (by have:=HS.out;unfold maxLen;omega) (U3 (x:=r1) (by omega) (by omega)) (plainElem_int Tryz.underlying2 (KJ (x+1)));obtain⟨lT,aC⟩:=m4 w2 _ m5 m6;have aY:=yV cb F _ 0 w2 lT;have HT:Hid (Touch F W w2):=lH (sr.self aC);clear aF m7 lM sr pP m2 m3 m4 m5 m6 lT aC Tv;go_wp2_with fail
   refine aY.mono ?_;rintro e w3 ⟨rfl,tZ,lR⟩;have pI:=lH tZ;have pA:=lH lR;clear tZ lR;go_wp2_with fail
   go_ret2
   exact⟨rfl,F,pI.out,HT.out.self pA.out,fun k hk=>.inl hk⟩
 · rw[if_neg hz];have aI:(r2==0)=false:=by simp[hz]
   by_cases hn:r2=14
   · rw[if_pos hn];subst hn;go_enter Tryz.func111,Tryz.ntmps111;go_wp2_with fail
     refine lJ.mono ?_;rintro e w1 ⟨rfl,m7,aF⟩;have lM:=HB.out w1 G c.tag l2 m7 aF (fun k hk=>.inl hk);have sr:Touch F W w1:=aF.wider oB.out;have pP:zo w1 cb F ⟨c.tag,l2,c.age,c.srv⟩:=lM.wider (fun k hk=>hk.elim (fun h=>h) (oB.out k)) (fun k hk=>Nat.lt_of_lt_of_le (io.out k hk) aF.size);have hF:=pP.here;obtain⟨idle,pU,fi2⟩:∃idle:Int,w1.cell? ⟨cb,2,none⟩=some (I idle)/\w1.frozen? ⟨cb,2,none⟩=false:=by
      obtain⟨qb,mb,n,idle,G,D,a1,a2,a3,a4,a5,a6,a7,a8,a9,a10,a11,a12,a13⟩:=pP;exact⟨idle,a3,a5 2⟩
     have lT:=pP.setIdle (wrap64 (idle+1));have aY:=yV cb F _ 0 _ lT;have HT:Hid (Touch F W (w1.setCell ⟨cb,2,none⟩ (I (wrap64 (idle+1))))):=lH (sr.setCell (t:=none) (.inl hF) _);clear aF m7 lM sr pP lT;go_wp2_with fail
     refine aY.mono ?_;rintro e w3 ⟨rfl,tZ,lR⟩;have pI:=lH tZ;have pA:=lH lR;clear tZ lR;go_wp2_with fail
     go_ret2
     exact⟨rfl,F,pI.out,HT.out.self pA.out,fun k hk=>.inl hk⟩
   · rw[if_neg hn];have et:(r2==14)=false:=by simp[hn]
     go_enter Tryz.func111,Tryz.ntmps111;go_wp2_with fail
     refine lJ.mono ?_;rintro e w1 ⟨rfl,m7,aF⟩;have lM:=HB.out w1 G c.tag l2 m7 aF (fun k hk=>.inl hk);have sr:Touch F W w1:=aF.wider oB.out;have pP:zo w1 cb F ⟨c.tag,l2,c.age,c.srv⟩:=lM.wider (fun k hk=>hk.elim (fun h=>h) (oB.out k)) (fun k hk=>Nat.lt_of_lt_of_le (io.out k hk) aF.size);have aY:=yV cb F _ r2 _ pP;have HT:Hid (Touch F W w1):=lH sr;have e:xQ r2 c.age=c.age:=by unfold xQ;rw[if_neg hz]
     have HE:=lH e;clear aF m7 lM sr pP e;go_wp2_with fail
     refine aY.mono ?_;rintro e w3 ⟨rfl,tZ,lR⟩;have pI:=lH tZ;have pA:=lH lR;clear tZ lR;go_wp2_with fail
     go_ret2
     refine⟨rfl,F,?_,HT.out.self pA.out,fun k hk=>.inl hk⟩;have:=pI.out;simp only[HE.out] at this;exact this
theorem QIn.line {W:World} {qb:Nat} {G:Nat->Prop} {tag:Int} {l:Ln} (h:QIn W qb G tag l):∃lb v,W.cell? ⟨qb,0,none⟩=some (.iface (qty tag) (.pointer (some ⟨lb,0,none⟩)))/\LineAt W lb v l/\(tag=0\/tag=1\/tag=2) /\
 ∀(w1:World) (v':Value) (l':Ln),LineAt w1 lb v' l'->Touch (lfp lb v) W w1->(∀k,v'.ownBlock=some k->v.ownBlock=some k\/W.heap.size<=k) ->
  ∃G',QIn w1 qb G' tag l'/\Touch G W w1/\∀k,G' k->G k\/W.heap.size<=k:=by
 obtain⟨lb,v,h1,h2,h3,h4,h5,h6,h7,h8⟩:=h;refine⟨lb,v,h1,h4,h7,fun w1 v' l' hl ht hv=>?_⟩;have na:w1.heap[qb]? = W.heap[qb]?:=ht.block qb (h8 qb h5) (fun hk=>(h6 qb hk).2 rfl);have h0:∀i,w1.cell? ⟨qb,i,none⟩=W.cell? ⟨qb,i,none⟩:=fun i=>World.cell?_of_block na;have oR:∀i,w1.frozen? ⟨qb,i,none⟩=W.frozen? ⟨qb,i,none⟩:=fun i=>World.frozen?_of_block na;refine⟨fun k=>G k\/v'.ownBlock=some k,⟨lb,v',(h0 0).trans h1,(h0 1).trans h2,fun i=>(oR i).trans (h3 i),hl,.inl h5,fun k hk=>?_,h7,fun k hk=>?_⟩,ht.wider (fun k hk=>(h6 k hk).1),fun k hk=>?_⟩
 · rcases hk with rfl | hk
   · exact⟨.inl (h6 k (.inl rfl)).1,(h6 k (.inl rfl)).2⟩
   · refine⟨.inr hk,?_⟩;rcases hv k hk with h | h
     · exact(h6 k (.inr h)).2
     · have:=h8 qb h5;omega
 · rcases hk with hk | hk
   · exact Nat.lt_of_lt_of_le (h8 k hk) ht.size
   · exact hl.lt k (.inr hk)
 · rcases hk with hk | hk
   · exact .inl hk
   · rcases hv k hk with h | h
     · exact .inl (h6 k (.inr h)).1
     · exact .inr h
def zg (c:Co) (id w lag:Int) (exact:Bool):Int×Co:=
 (zP c.l id w lag,if zP c.l id w lag=0 then⟨c.tag,xR c.l id w (if exact=true then lag else yy c.tag lag),wrap64 (c.age+1),c.srv⟩ else c)
def xC (cb:Nat) (F:Nat->Prop) (r:Int×Co) (W:World) (e:Ending) (w':World):Prop:=
 e=.returned (I r.1)/\(∃F',zo w' cb F' r.2/\Touch F W w'/\∀k,F' k->F k\/W.heap.size<=k)
def bc (cb:Nat) (F:Nat->Prop) (c:Co) (id w lag' r:Int) (W:World) (e:Ending) (w1:World):Prop:=
 e=.returned (I r)/\∃F',zo w1 cb F' (if r=0 then⟨c.tag,xR c.l id w lag',c.age,c.srv⟩ else c)/\Touch F W w1/\∀k,F' k->F k\/W.heap.size<=k
theorem wO {W w1:World} {cb:Nat} {F:Nat->Prop} {c:Co} {id w lag' r:Int} {e:Ending} {lb:Nat} {v:Value} {qb:Nat} {G:Nat->Prop}
 (hL:LineAt W lb v c.l) (hC:zo W cb F c) (iz:∀k,G k->F k)
 (hq:∀(w1:World) (v':Value) (l':Ln),LineAt w1 lb v' l'->Touch (lfp lb v) W w1->(∀k,v'.ownBlock=some k->v.ownBlock=some k\/W.heap.size<=k)->∃G',QIn w1 qb G' c.tag l'/\Touch G W w1/\∀k,G' k->G k\/W.heap.size<=k)
 (az:∀(W':World) (G':Nat->Prop) (tag':Int) (l':Ln),QIn W' qb G' tag' l'->Touch G W W'->(∀k,G' k->G k\/W.heap.size<=k)->zo W' cb (fun k=>F k\/G' k) ⟨tag',l',c.age,c.srv⟩)
 (h:kJ lb v c.l id w lag' r W e w1) :
 bc cb F c id w lag' r W e w1:=by
 unfold bc;by_cases hr:r=0
 · obtain⟨he,v',k1,k2,k3⟩:=h.2 hr;obtain⟨G',q1,q2,q3⟩:=hq w1 v' _ k1 k2 k3;rw[if_pos hr];refine⟨by rw[he,hr],_,az w1 G' c.tag _ q1 q2 q3,q2.wider iz,fun k hk=>?_⟩;rcases hk with hk | hk
   · exact .inl hk
   · exact(q3 k hk).imp (iz k) (fun h=>h)
 · obtain⟨he,hb⟩:=h.1 hr;rw[if_neg hr];exact⟨he,F,hC.below hb,Touch.of_below hb,fun k hk=>.inl hk⟩
theorem qZ (cb:Nat) (F:Nat->Prop) (c:Co) (id w lag:Int) (W:World) (h:zo W cb F c) (hf:yn c.l) (ht:c.tag=0) :
 Calls Tryz.prog 110 #[.pointer (some ⟨cb,0,none⟩),I id,I w,I lag,.bool false] W (xC cb F (zg c id w lag false) W):=by
 obtain⟨qb,G,c0,hQ,iz,az⟩:=h.q;obtain⟨lb,v,q0,hL,-,hq⟩:=hQ.line;have lK:Hid (qty c.tag=235):=lH (by rw[ht];unfold qty;simp);rw[lK.out] at q0;have iQ:=fun W'=>jb (.pointer (some ⟨lb,0,none⟩)) W';have aj:=dh lb v c.l id w lag W hL hf;have aU:yy c.tag lag=wM lag:=by rw[ht];unfold yy;simp
 rw[show zg c id w lag false=(zP c.l id w lag,if zP c.l id w lag=0 then⟨c.tag,xR c.l id w (wM lag),wrap64 (c.age+1),c.srv⟩ else c) from by unfold zg;simp only[Bool.false_eq_true,if_false,aU]];have mI:∀(e:Ending) (w1:World),kJ lb v c.l id w (wM lag) (zP c.l id w lag) W e w1->bc cb F c id w (wM lag) (zP c.l id w lag) W e w1:=fun e w1 hp=>wO (c:=c) (lb:=lb) (v:=v) (qb:=qb) (G:=G) hL h iz hq az hp;generalize zP c.l id w lag=r at aj mI⊢;have oM:=lH mI;obtain⟨res,aA⟩:∃res,Hid ((r,if r=0 then(⟨c.tag,xR c.l id w (wM lag),wrap64 (c.age+1),c.srv⟩:Co) else c)=res):=⟨_,lH rfl⟩
 rw[aA.out];clear h hf ht hQ iz az hq hL aU mI;go_enter Tryz.func110,Tryz.ntmps110;go_wp2_with fail
 refine aj.mono ?_;rintro e w1 hp;obtain⟨rfl,F1,lM,aF,sq⟩:=oM.out e w1 hp;have aY:=yV cb F1 _ r w1 lM;have lh:=lH aF;have mJ:=lH sq;clear hp lM aF sq;go_wp2_with fail
 refine aY.mono ?_;rintro e w2 ⟨rfl,lT,aC⟩;have nv:=lH lT;have eR:=lH aC;clear lT aC;go_wp2_with fail
 go_ret
 rw[<- aA.out];refine⟨rfl,F1,?_,lh.out.trans (fun k hk=>mJ.out k hk) eR.out,mJ.out⟩;have hC:=nv.out;by_cases hr:r=0
 · simp only[if_pos hr] at hC⊢;rw[show xQ r c.age=wrap64 (c.age+1) from by unfold xQ;rw[if_pos hr]] at hC;exact hC
 · simp only[if_neg hr] at hC⊢;rw[show xQ r c.age=c.age from by unfold xQ;rw[if_neg hr]] at hC;exact hC
theorem kO (cb:Nat) (F:Nat->Prop) (c:Co) (id w lag:Int) (W:World) (h:zo W cb F c) (hf:yn c.l) (ht:c.tag=0) :
 Calls Tryz.prog 110 #[.pointer (some ⟨cb,0,none⟩),I id,I w,I lag,.bool true] W (xC cb F (zg c id w lag true) W):=by
 obtain⟨qb,G,c0,hQ,iz,az⟩:=h.q;obtain⟨lb,v,q0,hL,-,hq⟩:=hQ.line;have lK:Hid (qty c.tag=235):=lH (by rw[ht];unfold qty;simp);rw[lK.out] at q0;have iQ:=fun W'=>g7 (.pointer (some ⟨lb,0,none⟩)) W';have aj:=Zp lb v c.l id w lag W hL hf;rw[show zg c id w lag true=(zP c.l id w lag,if zP c.l id w lag=0 then⟨c.tag,xR c.l id w lag,wrap64 (c.age+1),c.srv⟩ else c) from by unfold zg;simp only[eq_self,if_true]];have mI:∀(e:Ending) (w1:World),kJ lb v c.l id w lag (zP c.l id w lag) W e w1->bc cb F c id w lag (zP c.l id w lag) W e w1:=fun e w1 hp=>wO (c:=c) (lb:=lb) (v:=v) (qb:=qb) (G:=G) hL h iz hq az hp;generalize zP c.l id w lag=r at aj mI⊢;have oM:=lH mI;obtain⟨res,aA⟩:∃res,Hid ((r,if r=0 then(⟨c.tag,xR c.l id w lag,wrap64 (c.age+1),c.srv⟩:Co) else c)=res):=⟨_,lH rfl⟩
 rw[aA.out];clear h hf ht hQ iz az hq hL mI;go_enter Tryz.func110,Tryz.ntmps110;go_wp2_with fail
 refine aj.mono ?_;rintro e w1 hp;obtain⟨rfl,F1,lM,aF,sq⟩:=oM.out e w1 hp;have aY:=yV cb F1 _ r w1 lM;have lh:=lH aF;have mJ:=lH sq;clear hp lM aF sq;go_wp2_with fail
 refine aY.mono ?_;rintro e w2 ⟨rfl,lT,aC⟩;have nv:=lH lT;have eR:=lH aC;clear lT aC;go_wp2_with fail
 go_ret
 rw[<- aA.out];refine⟨rfl,F1,?_,lh.out.trans (fun k hk=>mJ.out k hk) eR.out,mJ.out⟩;have hC:=nv.out;by_cases hr:r=0
 · simp only[if_pos hr] at hC⊢;rw[show xQ r c.age=wrap64 (c.age+1) from by unfold xQ;rw[if_pos hr]] at hC;exact hC
 · simp only[if_neg hr] at hC⊢;rw[show xQ r c.age=c.age from by unfold xQ;rw[if_neg hr]] at hC;exact hC
theorem j7 (cb:Nat) (F:Nat->Prop) (c:Co) (id w lag:Int) (W:World) (h:zo W cb F c) (hf:yn c.l) (ht:c.tag=1) :
 Calls Tryz.prog 110 #[.pointer (some ⟨cb,0,none⟩),I id,I w,I lag,.bool false] W (xC cb F (zg c id w lag false) W):=by
 obtain⟨qb,G,c0,hQ,iz,az⟩:=h.q;obtain⟨lb,v,q0,hL,-,hq⟩:=hQ.line;have lK:Hid (qty c.tag=239):=lH (by rw[ht];unfold qty;simp);rw[lK.out] at q0;have iQ:=fun W'=>gy (.pointer (some ⟨lb,0,none⟩)) W';have aj:=Zm lb v c.l id w lag W hL hf;have aU:yy c.tag lag=wL lag:=by rw[ht];unfold yy;simp
 rw[show zg c id w lag false=(zP c.l id w lag,if zP c.l id w lag=0 then⟨c.tag,xR c.l id w (wL lag),wrap64 (c.age+1),c.srv⟩ else c) from by unfold zg;simp only[Bool.false_eq_true,if_false,aU]];have mI:∀(e:Ending) (w1:World),kJ lb v c.l id w (wL lag) (zP c.l id w lag) W e w1->bc cb F c id w (wL lag) (zP c.l id w lag) W e w1:=fun e w1 hp=>wO (c:=c) (lb:=lb) (v:=v) (qb:=qb) (G:=G) hL h iz hq az hp;generalize zP c.l id w lag=r at aj mI⊢;have oM:=lH mI;obtain⟨res,aA⟩:∃res,Hid ((r,if r=0 then(⟨c.tag,xR c.l id w (wL lag),wrap64 (c.age+1),c.srv⟩:Co) else c)=res):=⟨_,lH rfl⟩
 rw[aA.out];clear h hf ht hQ iz az hq hL aU mI;go_enter Tryz.func110,Tryz.ntmps110;go_wp2_with fail
 refine aj.mono ?_;rintro e w1 hp;obtain⟨rfl,F1,lM,aF,sq⟩:=oM.out e w1 hp;have aY:=yV cb F1 _ r w1 lM;have lh:=lH aF;have mJ:=lH sq;clear hp lM aF sq;go_wp2_with fail
 refine aY.mono ?_;rintro e w2 ⟨rfl,lT,aC⟩;have nv:=lH lT;have eR:=lH aC;clear lT aC;go_wp2_with fail
 go_ret
 rw[<- aA.out];refine⟨rfl,F1,?_,lh.out.trans (fun k hk=>mJ.out k hk) eR.out,mJ.out⟩;have hC:=nv.out;by_cases hr:r=0
 · simp only[if_pos hr] at hC⊢;rw[show xQ r c.age=wrap64 (c.age+1) from by unfold xQ;rw[if_pos hr]] at hC;exact hC
 · simp only[if_neg hr] at hC⊢;rw[show xQ r c.age=c.age from by unfold xQ;rw[if_neg hr]] at hC;exact hC
theorem gu (cb:Nat) (F:Nat->Prop) (c:Co) (id w lag:Int) (W:World) (h:zo W cb F c) (hf:yn c.l) (ht:c.tag=1) :
 Calls Tryz.prog 110 #[.pointer (some ⟨cb,0,none⟩),I id,I w,I lag,.bool true] W (xC cb F (zg c id w lag true) W):=by
 obtain⟨qb,G,c0,hQ,iz,az⟩:=h.q;obtain⟨lb,v,q0,hL,-,hq⟩:=hQ.line;have lK:Hid (qty c.tag=239):=lH (by rw[ht];unfold qty;simp);rw[lK.out] at q0;have iQ:=fun W'=>db (.pointer (some ⟨lb,0,none⟩)) W';have aj:=WH lb v c.l id w lag W hL hf;rw[show zg c id w lag true=(zP c.l id w lag,if zP c.l id w lag=0 then⟨c.tag,xR c.l id w lag,wrap64 (c.age+1),c.srv⟩ else c) from by unfold zg;simp only[eq_self,if_true]];have mI:∀(e:Ending) (w1:World),kJ lb v c.l id w lag (zP c.l id w lag) W e w1->bc cb F c id w lag (zP c.l id w lag) W e w1:=fun e w1 hp=>wO (c:=c) (lb:=lb) (v:=v) (qb:=qb) (G:=G) hL h iz hq az hp;generalize zP c.l id w lag=r at aj mI⊢;have oM:=lH mI;obtain⟨res,aA⟩:∃res,Hid ((r,if r=0 then(⟨c.tag,xR c.l id w lag,wrap64 (c.age+1),c.srv⟩:Co) else c)=res):=⟨_,lH rfl⟩
 rw[aA.out];clear h hf ht hQ iz az hq hL mI;go_enter Tryz.func110,Tryz.ntmps110;go_wp2_with fail
 refine aj.mono ?_;rintro e w1 hp;obtain⟨rfl,F1,lM,aF,sq⟩:=oM.out e w1 hp;have aY:=yV cb F1 _ r w1 lM;have lh:=lH aF;have mJ:=lH sq;clear hp lM aF sq;go_wp2_with fail
 refine aY.mono ?_;rintro e w2 ⟨rfl,lT,aC⟩;have nv:=lH lT;have eR:=lH aC;clear lT aC;go_wp2_with fail
 go_ret
 rw[<- aA.out];refine⟨rfl,F1,?_,lh.out.trans (fun k hk=>mJ.out k hk) eR.out,mJ.out⟩;have hC:=nv.out;by_cases hr:r=0
 · simp only[if_pos hr] at hC⊢;rw[show xQ r c.age=wrap64 (c.age+1) from by unfold xQ;rw[if_pos hr]] at hC;exact hC
 · simp only[if_neg hr] at hC⊢;rw[show xQ r c.age=c.age from by unfold xQ;rw[if_neg hr]] at hC;exact hC
theorem gr (cb:Nat) (F:Nat->Prop) (c:Co) (id w lag:Int) (W:World) (h:zo W cb F c) (hf:yn c.l) (ht:c.tag=2) :
 Calls Tryz.prog 110 #[.pointer (some ⟨cb,0,none⟩),I id,I w,I lag,.bool false] W (xC cb F (zg c id w lag false) W):=by
 obtain⟨qb,G,c0,hQ,iz,az⟩:=h.q;obtain⟨lb,v,q0,hL,-,hq⟩:=hQ.line;have lK:Hid (qty c.tag=242):=lH (by rw[ht];unfold qty;simp);rw[lK.out] at q0;have iQ:=fun W'=>fh (.pointer (some ⟨lb,0,none⟩)) W';have aj:=Y4 lb v c.l id w lag W hL hf;have aU:yy c.tag lag=wI lag:=by rw[ht];unfold yy;simp
 rw[show zg c id w lag false=(zP c.l id w lag,if zP c.l id w lag=0 then⟨c.tag,xR c.l id w (wI lag),wrap64 (c.age+1),c.srv⟩ else c) from by unfold zg;simp only[Bool.false_eq_true,if_false,aU]];have mI:∀(e:Ending) (w1:World),kJ lb v c.l id w (wI lag) (zP c.l id w lag) W e w1->bc cb F c id w (wI lag) (zP c.l id w lag) W e w1:=fun e w1 hp=>wO (c:=c) (lb:=lb) (v:=v) (qb:=qb) (G:=G) hL h iz hq az hp;generalize zP c.l id w lag=r at aj mI⊢;have oM:=lH mI;obtain⟨res,aA⟩:∃res,Hid ((r,if r=0 then(⟨c.tag,xR c.l id w (wI lag),wrap64 (c.age+1),c.srv⟩:Co) else c)=res):=⟨_,lH rfl⟩
 rw[aA.out];clear h hf ht hQ iz az hq hL aU mI;go_enter Tryz.func110,Tryz.ntmps110;go_wp2_with fail
 refine aj.mono ?_;rintro e w1 hp;obtain⟨rfl,F1,lM,aF,sq⟩:=oM.out e w1 hp;have aY:=yV cb F1 _ r w1 lM;have lh:=lH aF;have mJ:=lH sq;clear hp lM aF sq;go_wp2_with fail
 refine aY.mono ?_;rintro e w2 ⟨rfl,lT,aC⟩;have nv:=lH lT;have eR:=lH aC;clear lT aC;go_wp2_with fail
 go_ret
 rw[<- aA.out];refine⟨rfl,F1,?_,lh.out.trans (fun k hk=>mJ.out k hk) eR.out,mJ.out⟩;have hC:=nv.out;by_cases hr:r=0
 · simp only[if_pos hr] at hC⊢;rw[show xQ r c.age=wrap64 (c.age+1) from by unfold xQ;rw[if_pos hr]] at hC;exact hC
 · simp only[if_neg hr] at hC⊢;rw[show xQ r c.age=c.age from by unfold xQ;rw[if_neg hr]] at hC;exact hC
theorem gR (cb:Nat) (F:Nat->Prop) (c:Co) (id w lag:Int) (W:World) (h:zo W cb F c) (hf:yn c.l) (ht:c.tag=2) :
 Calls Tryz.prog 110 #[.pointer (some ⟨cb,0,none⟩),I id,I w,I lag,.bool true] W (xC cb F (zg c id w lag true) W):=by
 obtain⟨qb,G,c0,hQ,iz,az⟩:=h.q;obtain⟨lb,v,q0,hL,-,hq⟩:=hQ.line;have lK:Hid (qty c.tag=242):=lH (by rw[ht];unfold qty;simp);rw[lK.out] at q0;have iQ:=fun W'=>cK (.pointer (some ⟨lb,0,none⟩)) W';have aj:=UT lb v c.l id w lag W hL hf;rw[show zg c id w lag true=(zP c.l id w lag,if zP c.l id w lag=0 then⟨c.tag,xR c.l id w lag,wrap64 (c.age+1),c.srv⟩ else c) from by unfold zg;simp only[eq_self,if_true]];have mI:∀(e:Ending) (w1:World),kJ lb v c.l id w lag (zP c.l id w lag) W e w1->bc cb F c id w lag (zP c.l id w lag) W e w1:=fun e w1 hp=>wO (c:=c) (lb:=lb) (v:=v) (qb:=qb) (G:=G) hL h iz hq az hp;generalize zP c.l id w lag=r at aj mI⊢;have oM:=lH mI;obtain⟨res,aA⟩:∃res,Hid ((r,if r=0 then(⟨c.tag,xR c.l id w lag,wrap64 (c.age+1),c.srv⟩:Co) else c)=res):=⟨_,lH rfl⟩
 rw[aA.out];clear h hf ht hQ iz az hq hL mI;go_enter Tryz.func110,Tryz.ntmps110;go_wp2_with fail
 refine aj.mono ?_;rintro e w1 hp;obtain⟨rfl,F1,lM,aF,sq⟩:=oM.out e w1 hp;have aY:=yV cb F1 _ r w1 lM;have lh:=lH aF;have mJ:=lH sq;clear hp lM aF sq;go_wp2_with fail
 refine aY.mono ?_;rintro e w2 ⟨rfl,lT,aC⟩;have nv:=lH lT;have eR:=lH aC;clear lT aC;go_wp2_with fail
 go_ret
 rw[<- aA.out];refine⟨rfl,F1,?_,lh.out.trans (fun k hk=>mJ.out k hk) eR.out,mJ.out⟩;have hC:=nv.out;by_cases hr:r=0
 · simp only[if_pos hr] at hC⊢;rw[show xQ r c.age=wrap64 (c.age+1) from by unfold xQ;rw[if_pos hr]] at hC;exact hC
 · simp only[if_neg hr] at hC⊢;rw[show xQ r c.age=c.age from by unfold xQ;rw[if_neg hr]] at hC;exact hC
theorem gQ (cb:Nat) (F:Nat->Prop) (c:Co) (id w lag:Int) (x:Bool) (W:World) (h:zo W cb F c) (hf:yn c.l) :
 Calls Tryz.prog 110 #[.pointer (some ⟨cb,0,none⟩),I id,I w,I lag,.bool x] W (xC cb F (zg c id w lag x) W):=by
 obtain⟨qb,G,c0,hQ,iz,az⟩:=h.q;obtain⟨lb,v,q0,hL,ht,hq⟩:=hQ.line;rcases ht with ht | ht | ht <;> cases x
 · exact qZ cb F c id w lag W h hf ht
 · exact kO cb F c id w lag W h hf ht
 · exact j7 cb F c id w lag W h hf ht
 · exact gu cb F c id w lag W h hf ht
 · exact gr cb F c id w lag W h hf ht
 · exact gR cb F c id w lag W h hf ht
def vn (its:List It):Int:=its.foldl (fun s x=>s+x.w) 0
theorem jR (its:List It) (k:Nat) (hk:k<its.length) (x:It) (hx:its[k]! = x):vn (its.take (k+1))=vn (its.take k)+x.w:=by
 unfold vn;rw[List.take_succ_eq_append_getElem hk,List.foldl_append,<- hx,getElem!_pos its k hk];rfl
theorem gI (its:List It) (k:Nat) (h:∀x∈its,0<=x.w/\x.w<=20):0<=vn (its.take k)/\vn (its.take k)<=k*20:=by
 have gen:∀(l:List It) (z:Int),(∀x∈l,0<=x.w/\x.w<=20)->z<=l.foldl (fun s x=>s+x.w) z/\l.foldl (fun s x=>s+x.w) z<=z+l.length*20:=by
  intro l;induction l with
  | nil=>intro z _;simp
  | cons q l ih=>
   intro z hz;have h1:=hz q (by simp);have h2:=ih (z+q.w) (fun p hp=>hz p (by simp[hp]));simp only[List.foldl_cons,List.length_cons];omega
 have h1:=gen (its.take k) 0 (fun x hx=>h x (List.mem_of_mem_take hx));have h2:(its.take k).length<=k:=List.length_take_le _ _;unfold vn;omega
theorem XW (its:List It):∀k i v,k<its.length->(its[k]!).cells[i]? = some v->(yG its)[k*3+i]? = some v:=by
 induction its with
 | nil=>intro k i v h;simp at h
 | cons p l ih=>
  intro k i v h hv;cases k with
  | zero=>
   have hi:i<p.cells.length:=(List.getElem?_eq_some_iff.1 hv).1;rw[show 0*3+i=i from by omega];rw[yG,List.getElem?_append_left hi];simpa using hv
  | succ k=>
   rw[yG,List.getElem?_append_right (by simp[It.cells];omega)];have:=ih k i v (by simpa using h) (by simpa using hv);rw[show(k+1)*3+i-p.cells.length=k*3+i from by simp[It.cells];omega];exact this
theorem ks {W:World} {B g n c:Nat} {its:List It} (h:W.ownsRow B 77 3 (.slice (some ⟨g,0,none⟩) n c) its.length (yG its)) (j:Nat) (hj:j<its.length) (x:It) (hx:its[j]! = x) :
 W.cell? ⟨g,j*3,none⟩=some (I x.id)/\W.cell? ⟨g,j*3+1,none⟩=some (I x.w)/\W.cell? ⟨g,j*3+2,none⟩=some (I x.lag):=by
 subst hx;have key:∀i v,(its[j]!).cells[i]? = some v->W.cell? ⟨g,j*3+i,none⟩=some v:=fun i v hi=>by
  have:=h.cells (g:=g) rfl _ _ (XW its j i v hj hi);simpa [Addr.add_lit] using this
 exact⟨key 0 _ rfl,key 1 _ rfl,key 2 _ rfl⟩
theorem KZ (a:Int) (x:Option Addr) (n c:Nat) (W:World):Sem.run Tryz.prog (Instr.field 70 (Value.agg #[I a,.slice x n c]) 1) W=Result.ok (.slice x n c) W:=by kernel_rfl
theorem gF (l:Ln) (hf:yn l):∀x∈zw l,0<=x.w/\x.w<=20:=by
 intro x hx;unfold zw at hx;obtain⟨p,hp,rfl⟩:=List.mem_map.1 hx;exact(hf.2.2.2 p hp).2
theorem cw (cb:Nat) (F:Nat->Prop) (c:Co) (W:World) (h:zo W cb F c) (hf:yn c.l) (ht:c.tag=0) :
 Calls Tryz.prog 89 #[.pointer (some ⟨cb,0,none⟩)] W (uS W c.l.cur (zw c.l)):=by
 have h':=h.below (((Below.refl _ W).alloc (Nat.le_refl _) (.cells #[I 0,.slice none 0 0] 70)));obtain⟨qb,G,c0,hQ,iz,az⟩:=h'.q;obtain⟨lb,v,q0,hL,-,hq⟩:=hQ.line;have lK:Hid (qty c.tag=235):=lH (by rw[ht];unfold qty;simp);rw[lK.out] at q0;have iQ:=fun W'=>uu (.pointer (some ⟨lb,0,none⟩)) W';have aH:=jn lb v c.l _ hL hf;have iI:=h.lt cb h.here;obtain⟨qb2,mb2,n2,idle2,G2,D2,a1,a2,a3,a4,a5,a6,a7,a8,a9,a10,a11,a12,a13⟩:=h;have e0:(W.alloc (.cells #[I 0,.slice none 0 0] 70)).cell? ⟨cb,0,none⟩=some (.pointer (some ⟨qb2,0,none⟩)):=c2a _ a1;have eq:qb2=qb:=by
  rw[e0] at c0;simpa using c0
 subst eq;have nO:=a6.lt qb2 (by obtain⟨lb',v',b1,b2,b3,b4,b5,b6⟩:=a6;exact b5);have q1:W.cell? ⟨qb2,0,none⟩=some (.iface 235 (.pointer (some ⟨lb,0,none⟩))):=(World.cell?_of_block (a:=⟨qb2,0,none⟩) (Below.heap_alloc W _ _ nO)).symm.trans q0;generalize zw c.l=its at aH⊢;generalize c.l.cur=cur at aH⊢;clear h' hf ht hQ iz az hq hL a2 a3 a4 a5 a6 a7 a8 a9 a10 a11 a12 a13 e0 c0 q0;go_enter Tryz.func89,Tryz.ntmps89;go_wp2_with fail
 refine aH.mono ?_;rintro e w' ⟨v',rfl,aa,hb⟩;obtain⟨sa,sn,sc,rfl⟩:∃a n c,v'=.slice a n c:=by
  rcases aa.2 with⟨rfl,_⟩ | ⟨g,cap,cur,rfl,_⟩
  · exact⟨_,_,_,rfl⟩
  · exact⟨_,_,_,rfl⟩
 have am:w'.heap[W.heap.size]? = some (.cells #[I 0,.slice none 0 0] 70 (0,0)):=(hb.block _ (by simp)).trans (heap_alloc_new W _)
 have g0:w'.cell? ⟨W.heap.size,0,none⟩=some (I 0):=by simp only[World.cell?,am];rfl
 have g1:w'.cell? ⟨W.heap.size,1,none⟩=some (.slice none 0 0):=by simp only[World.cell?,am];rfl
 have f0:w'.frozen? ⟨W.heap.size,0,none⟩=false:=by simp only[World.frozen?,am];simp
 have f1:w'.frozen? ⟨W.heap.size,1,none⟩=false:=by simp only[World.frozen?,am];simp
 have iG:Hid (((w'.setCell ⟨W.heap.size,0,none⟩ (I cur)).setCell ⟨W.heap.size,1,none⟩ (.slice sa sn sc)).cell? ⟨W.heap.size,0,none⟩=some (I cur)):=
  lH (by rw[za _ (by simp)];exact World.cell?_setCell_same _ _ _ g0)
 have eV:Hid (((w'.setCell ⟨W.heap.size,0,none⟩ (I cur)).setCell ⟨W.heap.size,1,none⟩ (.slice sa sn sc)).cell? ⟨W.heap.size,1,none⟩=some (.slice sa sn sc)):=
  lH (World.cell?_setCell_same _ _ _ (by rw[za _ (by simp)];exact g1))
 have eJ:Hid (((w'.setCell ⟨W.heap.size,0,none⟩ (I cur)).setCell ⟨W.heap.size,1,none⟩ (.slice sa sn sc)).ownsRow W.heap.size 77 3 (.slice sa sn sc) its.length (yG its)):=by
  refine lH (zM (zb aa (fun j hj=>?_)) (by simp));have:=(aa.lt j hj).1;simp at this;rw[Below.heap_setCell _ _ _ _ (by simp;omega),Below.heap_setCell _ _ _ _ (by simp;omega)]
 have HB:=lH hb;clear aa hb am;go_wp2
 exact bodyPost_ret (v:=.agg #[I cur,.slice sa sn sc]) (by simp[results,Tryz.results89,go_sem,iG.out,eV.out]) rfl ⟨_,rfl,eJ.out,((((Below.refl _ _).alloc (Nat.le_refl _) _).trans (HB.out.mono (by simp))).setCell (by simp) _).setCell (by simp) _⟩
theorem cx (cb:Nat) (F:Nat->Prop) (c:Co) (W:World) (h:zo W cb F c) (hf:yn c.l) (ht:c.tag=0) :
 Calls Tryz.prog 163 #[.pointer (some ⟨cb,0,none⟩)] W fun e w'=>e=.returned (I (vn (zw c.l)))/\Below W.heap.size W w':=by
 obtain⟨qb,G,c0,hQ,iz,az⟩:=h.q;obtain⟨lb,v,q0,hL,-,hq⟩:=hQ.line;have lK:Hid (qty c.tag=235):=lH (by rw[ht];unfold qty;simp);rw[lK.out] at q0;have iQ:=fun W'=>uu (.pointer (some ⟨lb,0,none⟩)) W';have aH:=jn lb v c.l _ hL hf;have hw:=gF c.l hf;have ag:(zw c.l).length<=64:=by unfold zw;rw[List.length_map];exact hf.1
 generalize zw c.l=its at aH hw ag⊢;generalize c.l.cur=cur at aH;have HW:=lH hw;clear h hf ht hQ iz az hq hL hw;go_enter Tryz.func163,Tryz.ntmps163;go_wp2_with fail
 refine aH.mono ?_;rintro e w1 ⟨v',rfl,aa,hb⟩;obtain⟨n,hn⟩:∃n,its.length=n:=⟨_,rfl⟩
 obtain⟨sa,sc,rfl⟩:∃a c,v'=.slice a n c:=by
  rcases aa.2 with⟨rfl,h0⟩ | ⟨g,cap,cur,rfl,_⟩
  · exact⟨none,0,by rw[<- hn,h0]⟩
  · exact⟨_,_,by rw[<- hn]⟩
 have eJ:=lH aa;have HN:=lH hn;have HB:=lH hb;rw[hn] at ag;have Fq:=KZ cur sa n sc w1;clear aa hn hb;go_wp2_with fail
 go_loopw [3,16] (fun s x wr=>∃k:Nat,k<=n/\x=I k/\s=I (vn (its.take k))/\Hid (Below w1.heap.size w1 wr)) (fun _ x _=>n-(intOf x).toNat)
 case atStart=>exact⟨0,Nat.zero_le _,rfl,rfl,lH (Below.refl _ _)⟩
 case round=>
  obtain⟨k,hk,rfl,rfl,rA⟩:=hrel;have hs:=gI its k HW.out;by_cases aS:k<n
  · have aa:=eJ.out;have aw:k<its.length:=by rw[HN.out];exact aS
    obtain⟨g,cap,hg⟩:∃g cap,(Value.slice sa n sc)=.slice (some ⟨g,0,none⟩) n cap:=by
     rcases aa.2 with⟨e,h0⟩ | ⟨g,cap,cur,e,_⟩
     · omega
     · rw[HN.out] at e;exact⟨_,_,e⟩
    simp only[Value.slice.injEq,true_and] at hg;obtain⟨rfl,rfl⟩:=hg;obtain⟨x,hx⟩:∃x,its[k]! = x:=⟨_,rfl⟩
    have eL:=(aa.lt g rfl).2;obtain⟨c1,c2,c3⟩:=ks (W:=wr) (zb aa (fun j hj=>rA.out.block j (aa.lt j hj).2)) k aw x hx;have iU:=HW.out x (by rw[<- hx,getElem!_pos its k aw];exact List.getElem_mem aw);have aG:=jR its k aw x hx;have BB:g<wr.heap.size:=Nat.lt_of_lt_of_le eL rA.out.size;have oH:=rA.out.size;obtain⟨i,ww,lag⟩:=x;simp only at c1 c2 c3 iU aG;obtain⟨x1,x2⟩:=iU;obtain⟨sm,nZ⟩:∃y,vn (its.take k)=y:=⟨_,rfl⟩
    rw[nZ] at hs aG⊢;obtain⟨s1,s2⟩:=hs;have lL:=lH aG;have iY:(k:Int)<(n:Int):=by omega
    have aX:0<=(k:Int):=by omega
    clear aa hx aG nZ;go_wp2_with fail
    go_roundw
    case rel=>exact⟨k+1,aS,by go_num,by rw[lL.out],lH (rA.out.alloc oH _)⟩
    case measure=>simp[intOf];omega
  · obtain rfl:k=n:=by omega
    have eZ:its.take k=its:=List.take_of_length_le (by rw[HN.out];exact Nat.le_refl _);rw[eZ];obtain⟨sm,nZ⟩:∃y,vn its=y:=⟨_,rfl⟩
    rw[nZ];have EM:=lH nZ;clear eZ hs nZ;go_wp2_with fail
    go_ret
    exact⟨by rw[EM.out];rfl,HB.out.trans (rA.out.mono HB.out.size)⟩
theorem ZW (cb:Nat) (F:Nat->Prop) (c:Co) (W:World) (h:zo W cb F c) (hf:yn c.l) (ht:c.tag=1) :
 Calls Tryz.prog 89 #[.pointer (some ⟨cb,0,none⟩)] W (uS W c.l.cur (zw c.l)):=by
 have h':=h.below (((Below.refl _ W).alloc (Nat.le_refl _) (.cells #[I 0,.slice none 0 0] 70)));obtain⟨qb,G,c0,hQ,iz,az⟩:=h'.q;obtain⟨lb,v,q0,hL,-,hq⟩:=hQ.line;have lK:Hid (qty c.tag=239):=lH (by rw[ht];unfold qty;simp);rw[lK.out] at q0;have iQ:=fun W'=>qd (.pointer (some ⟨lb,0,none⟩)) W';have aH:=fx lb v c.l _ hL hf;have iI:=h.lt cb h.here;obtain⟨qb2,mb2,n2,idle2,G2,D2,a1,a2,a3,a4,a5,a6,a7,a8,a9,a10,a11,a12,a13⟩:=h;have e0:(W.alloc (.cells #[I 0,.slice none 0 0] 70)).cell? ⟨cb,0,none⟩=some (.pointer (some ⟨qb2,0,none⟩)):=c2a _ a1;have eq:qb2=qb:=by
  rw[e0] at c0;simpa using c0
 subst eq;have nO:=a6.lt qb2 (by obtain⟨lb',v',b1,b2,b3,b4,b5,b6⟩:=a6;exact b5);have q1:W.cell? ⟨qb2,0,none⟩=some (.iface 239 (.pointer (some ⟨lb,0,none⟩))):=(World.cell?_of_block (a:=⟨qb2,0,none⟩) (Below.heap_alloc W _ _ nO)).symm.trans q0;generalize zw c.l=its at aH⊢;generalize c.l.cur=cur at aH⊢;clear h' hf ht hQ iz az hq hL a2 a3 a4 a5 a6 a7 a8 a9 a10 a11 a12 a13 e0 c0 q0;go_enter Tryz.func89,Tryz.ntmps89;go_wp2_with fail
 refine aH.mono ?_;rintro e w' ⟨v',rfl,aa,hb⟩;obtain⟨sa,sn,sc,rfl⟩:∃a n c,v'=.slice a n c:=by
  rcases aa.2 with⟨rfl,_⟩ | ⟨g,cap,cur,rfl,_⟩
  · exact⟨_,_,_,rfl⟩
  · exact⟨_,_,_,rfl⟩
 have am:w'.heap[W.heap.size]? = some (.cells #[I 0,.slice none 0 0] 70 (0,0)):=(hb.block _ (by simp)).trans (heap_alloc_new W _)
 have g0:w'.cell? ⟨W.heap.size,0,none⟩=some (I 0):=by simp only[World.cell?,am];rfl
 have g1:w'.cell? ⟨W.heap.size,1,none⟩=some (.slice none 0 0):=by simp only[World.cell?,am];rfl
 have f0:w'.frozen? ⟨W.heap.size,0,none⟩=false:=by simp only[World.frozen?,am];simp
 have f1:w'.frozen? ⟨W.heap.size,1,none⟩=false:=by simp only[World.frozen?,am];simp
 have iG:Hid (((w'.setCell ⟨W.heap.size,0,none⟩ (I cur)).setCell ⟨W.heap.size,1,none⟩ (.slice sa sn sc)).cell? ⟨W.heap.size,0,none⟩=some (I cur)):=
  lH (by rw[za _ (by simp)];exact World.cell?_setCell_same _ _ _ g0)
 have eV:Hid (((w'.setCell ⟨W.heap.size,0,none⟩ (I cur)).setCell ⟨W.heap.size,1,none⟩ (.slice sa sn sc)).cell? ⟨W.heap.size,1,none⟩=some (.slice sa sn sc)):=
  lH (World.cell?_setCell_same _ _ _ (by rw[za _ (by simp)];exact g1))
 have eJ:Hid (((w'.setCell ⟨W.heap.size,0,none⟩ (I cur)).setCell ⟨W.heap.size,1,none⟩ (.slice sa sn sc)).ownsRow W.heap.size 77 3 (.slice sa sn sc) its.length (yG its)):=by
  refine lH (zM (zb aa (fun j hj=>?_)) (by simp));have:=(aa.lt j hj).1;simp at this;rw[Below.heap_setCell _ _ _ _ (by simp;omega),Below.heap_setCell _ _ _ _ (by simp;omega)]
 have HB:=lH hb;clear aa hb am;go_wp2
 exact bodyPost_ret (v:=.agg #[I cur,.slice sa sn sc]) (by simp[results,Tryz.results89,go_sem,iG.out,eV.out]) rfl ⟨_,rfl,eJ.out,((((Below.refl _ _).alloc (Nat.le_refl _) _).trans (HB.out.mono (by simp))).setCell (by simp) _).setCell (by simp) _⟩
theorem Ya (cb:Nat) (F:Nat->Prop) (c:Co) (W:World) (h:zo W cb F c) (hf:yn c.l) (ht:c.tag=1) :
 Calls Tryz.prog 163 #[.pointer (some ⟨cb,0,none⟩)] W fun e w'=>e=.returned (I (vn (zw c.l)))/\Below W.heap.size W w':=by
 obtain⟨qb,G,c0,hQ,iz,az⟩:=h.q;obtain⟨lb,v,q0,hL,-,hq⟩:=hQ.line;have lK:Hid (qty c.tag=239):=lH (by rw[ht];unfold qty;simp);rw[lK.out] at q0;have iQ:=fun W'=>qd (.pointer (some ⟨lb,0,none⟩)) W';have aH:=fx lb v c.l _ hL hf;have hw:=gF c.l hf;have ag:(zw c.l).length<=64:=by unfold zw;rw[List.length_map];exact hf.1
 generalize zw c.l=its at aH hw ag⊢;generalize c.l.cur=cur at aH;have HW:=lH hw;clear h hf ht hQ iz az hq hL hw;go_enter Tryz.func163,Tryz.ntmps163;go_wp2_with fail
 refine aH.mono ?_;rintro e w1 ⟨v',rfl,aa,hb⟩;obtain⟨n,hn⟩:∃n,its.length=n:=⟨_,rfl⟩
 obtain⟨sa,sc,rfl⟩:∃a c,v'=.slice a n c:=by
  rcases aa.2 with⟨rfl,h0⟩ | ⟨g,cap,cur,rfl,_⟩
  · exact⟨none,0,by rw[<- hn,h0]⟩
  · exact⟨_,_,by rw[<- hn]⟩
 have eJ:=lH aa;have HN:=lH hn;have HB:=lH hb;rw[hn] at ag;have Fq:=KZ cur sa n sc w1;clear aa hn hb;go_wp2_with fail
 go_loopw [3,16] (fun s x wr=>∃k:Nat,k<=n/\x=I k/\s=I (vn (its.take k))/\Hid (Below w1.heap.size w1 wr)) (fun _ x _=>n-(intOf x).toNat)
 case atStart=>exact⟨0,Nat.zero_le _,rfl,rfl,lH (Below.refl _ _)⟩
 case round=>
  obtain⟨k,hk,rfl,rfl,rA⟩:=hrel;have hs:=gI its k HW.out;by_cases aS:k<n
  · have aa:=eJ.out;have aw:k<its.length:=by rw[HN.out];exact aS
    obtain⟨g,cap,hg⟩:∃g cap,(Value.slice sa n sc)=.slice (some ⟨g,0,none⟩) n cap:=by
     rcases aa.2 with⟨e,h0⟩ | ⟨g,cap,cur,e,_⟩
     · omega
     · rw[HN.out] at e;exact⟨_,_,e⟩
    simp only[Value.slice.injEq,true_and] at hg;obtain⟨rfl,rfl⟩:=hg;obtain⟨x,hx⟩:∃x,its[k]! = x:=⟨_,rfl⟩
    have eL:=(aa.lt g rfl).2;obtain⟨c1,c2,c3⟩:=ks (W:=wr) (zb aa (fun j hj=>rA.out.block j (aa.lt j hj).2)) k aw x hx;have iU:=HW.out x (by rw[<- hx,getElem!_pos its k aw];exact List.getElem_mem aw);have aG:=jR its k aw x hx;have BB:g<wr.heap.size:=Nat.lt_of_lt_of_le eL rA.out.size;have oH:=rA.out.size;obtain⟨i,ww,lag⟩:=x;simp only at c1 c2 c3 iU aG;obtain⟨x1,x2⟩:=iU;obtain⟨sm,nZ⟩:∃y,vn (its.take k)=y:=⟨_,rfl⟩
    rw[nZ] at hs aG⊢;obtain⟨s1,s2⟩:=hs;have lL:=lH aG;have iY:(k:Int)<(n:Int):=by omega
    have aX:0<=(k:Int):=by omega
    clear aa hx aG nZ;go_wp2_with fail
    go_roundw
    case rel=>exact⟨k+1,aS,by go_num,by rw[lL.out],lH (rA.out.alloc oH _)⟩
    case measure=>simp[intOf];omega
  · obtain rfl:k=n:=by omega
    have eZ:its.take k=its:=List.take_of_length_le (by rw[HN.out];exact Nat.le_refl _);rw[eZ];obtain⟨sm,nZ⟩:∃y,vn its=y:=⟨_,rfl⟩
    rw[nZ];have EM:=lH nZ;clear eZ hs nZ;go_wp2_with fail
    go_ret
    exact⟨by rw[EM.out];rfl,HB.out.trans (rA.out.mono HB.out.size)⟩
theorem XN (cb:Nat) (F:Nat->Prop) (c:Co) (W:World) (h:zo W cb F c) (hf:yn c.l) (ht:c.tag=2) :
 Calls Tryz.prog 89 #[.pointer (some ⟨cb,0,none⟩)] W (uS W c.l.cur (zw c.l)):=by
 have h':=h.below (((Below.refl _ W).alloc (Nat.le_refl _) (.cells #[I 0,.slice none 0 0] 70)));obtain⟨qb,G,c0,hQ,iz,az⟩:=h'.q;obtain⟨lb,v,q0,hL,-,hq⟩:=hQ.line;have lK:Hid (qty c.tag=242):=lH (by rw[ht];unfold qty;simp);rw[lK.out] at q0;have iQ:=fun W'=>qP (.pointer (some ⟨lb,0,none⟩)) W';have aH:=dU lb v c.l _ hL hf;have iI:=h.lt cb h.here;obtain⟨qb2,mb2,n2,idle2,G2,D2,a1,a2,a3,a4,a5,a6,a7,a8,a9,a10,a11,a12,a13⟩:=h;have e0:(W.alloc (.cells #[I 0,.slice none 0 0] 70)).cell? ⟨cb,0,none⟩=some (.pointer (some ⟨qb2,0,none⟩)):=c2a _ a1;have eq:qb2=qb:=by
  rw[e0] at c0;simpa using c0
 subst eq;have nO:=a6.lt qb2 (by obtain⟨lb',v',b1,b2,b3,b4,b5,b6⟩:=a6;exact b5);have q1:W.cell? ⟨qb2,0,none⟩=some (.iface 242 (.pointer (some ⟨lb,0,none⟩))):=(World.cell?_of_block (a:=⟨qb2,0,none⟩) (Below.heap_alloc W _ _ nO)).symm.trans q0;generalize zw c.l=its at aH⊢;generalize c.l.cur=cur at aH⊢;clear h' hf ht hQ iz az hq hL a2 a3 a4 a5 a6 a7 a8 a9 a10 a11 a12 a13 e0 c0 q0;go_enter Tryz.func89,Tryz.ntmps89;go_wp2_with fail
 refine aH.mono ?_;rintro e w' ⟨v',rfl,aa,hb⟩;obtain⟨sa,sn,sc,rfl⟩:∃a n c,v'=.slice a n c:=by
  rcases aa.2 with⟨rfl,_⟩ | ⟨g,cap,cur,rfl,_⟩
  · exact⟨_,_,_,rfl⟩
  · exact⟨_,_,_,rfl⟩
 have am:w'.heap[W.heap.size]? = some (.cells #[I 0,.slice none 0 0] 70 (0,0)):=(hb.block _ (by simp)).trans (heap_alloc_new W _)
 have g0:w'.cell? ⟨W.heap.size,0,none⟩=some (I 0):=by simp only[World.cell?,am];rfl
 have g1:w'.cell? ⟨W.heap.size,1,none⟩=some (.slice none 0 0):=by simp only[World.cell?,am];rfl
 have f0:w'.frozen? ⟨W.heap.size,0,none⟩=false:=by simp only[World.frozen?,am];simp
 have f1:w'.frozen? ⟨W.heap.size,1,none⟩=false:=by simp only[World.frozen?,am];simp
 have iG:Hid (((w'.setCell ⟨W.heap.size,0,none⟩ (I cur)).setCell ⟨W.heap.size,1,none⟩ (.slice sa sn sc)).cell? ⟨W.heap.size,0,none⟩=some (I cur)):=
  lH (by rw[za _ (by simp)];exact World.cell?_setCell_same _ _ _ g0)
 have eV:Hid (((w'.setCell ⟨W.heap.size,0,none⟩ (I cur)).setCell ⟨W.heap.size,1,none⟩ (.slice sa sn sc)).cell? ⟨W.heap.size,1,none⟩=some (.slice sa sn sc)):=
  lH (World.cell?_setCell_same _ _ _ (by rw[za _ (by simp)];exact g1))
 have eJ:Hid (((w'.setCell ⟨W.heap.size,0,none⟩ (I cur)).setCell ⟨W.heap.size,1,none⟩ (.slice sa sn sc)).ownsRow W.heap.size 77 3 (.slice sa sn sc) its.length (yG its)):=by
  refine lH (zM (zb aa (fun j hj=>?_)) (by simp));have:=(aa.lt j hj).1;simp at this;rw[Below.heap_setCell _ _ _ _ (by simp;omega),Below.heap_setCell _ _ _ _ (by simp;omega)]
 have HB:=lH hb;clear aa hb am;go_wp2
 exact bodyPost_ret (v:=.agg #[I cur,.slice sa sn sc]) (by simp[results,Tryz.results89,go_sem,iG.out,eV.out]) rfl ⟨_,rfl,eJ.out,((((Below.refl _ _).alloc (Nat.le_refl _) _).trans (HB.out.mono (by simp))).setCell (by simp) _).setCell (by simp) _⟩
theorem XQ (cb:Nat) (F:Nat->Prop) (c:Co) (W:World) (h:zo W cb F c) (hf:yn c.l) (ht:c.tag=2) :
 Calls Tryz.prog 163 #[.pointer (some ⟨cb,0,none⟩)] W fun e w'=>e=.returned (I (vn (zw c.l)))/\Below W.heap.size W w':=by
 obtain⟨qb,G,c0,hQ,iz,az⟩:=h.q;obtain⟨lb,v,q0,hL,-,hq⟩:=hQ.line;have lK:Hid (qty c.tag=242):=lH (by rw[ht];unfold qty;simp);rw[lK.out] at q0;have iQ:=fun W'=>qP (.pointer (some ⟨lb,0,none⟩)) W';have aH:=dU lb v c.l _ hL hf;have hw:=gF c.l hf;have ag:(zw c.l).length<=64:=by unfold zw;rw[List.length_map];exact hf.1
 generalize zw c.l=its at aH hw ag⊢;generalize c.l.cur=cur at aH;have HW:=lH hw;clear h hf ht hQ iz az hq hL hw;go_enter Tryz.func163,Tryz.ntmps163;go_wp2_with fail
 refine aH.mono ?_;rintro e w1 ⟨v',rfl,aa,hb⟩;obtain⟨n,hn⟩:∃n,its.length=n:=⟨_,rfl⟩
 obtain⟨sa,sc,rfl⟩:∃a c,v'=.slice a n c:=by
  rcases aa.2 with⟨rfl,h0⟩ | ⟨g,cap,cur,rfl,_⟩
  · exact⟨none,0,by rw[<- hn,h0]⟩
  · exact⟨_,_,by rw[<- hn]⟩
 have eJ:=lH aa;have HN:=lH hn;have HB:=lH hb;rw[hn] at ag;have Fq:=KZ cur sa n sc w1;clear aa hn hb;go_wp2_with fail
 go_loopw [3,16] (fun s x wr=>∃k:Nat,k<=n/\x=I k/\s=I (vn (its.take k))/\Hid (Below w1.heap.size w1 wr)) (fun _ x _=>n-(intOf x).toNat)
 case atStart=>exact⟨0,Nat.zero_le _,rfl,rfl,lH (Below.refl _ _)⟩
 case round=>
  obtain⟨k,hk,rfl,rfl,rA⟩:=hrel;have hs:=gI its k HW.out;by_cases aS:k<n
  · have aa:=eJ.out;have aw:k<its.length:=by rw[HN.out];exact aS
    obtain⟨g,cap,hg⟩:∃g cap,(Value.slice sa n sc)=.slice (some ⟨g,0,none⟩) n cap:=by
     rcases aa.2 with⟨e,h0⟩ | ⟨g,cap,cur,e,_⟩
     · omega
     · rw[HN.out] at e;exact⟨_,_,e⟩
    simp only[Value.slice.injEq,true_and] at hg;obtain⟨rfl,rfl⟩:=hg;obtain⟨x,hx⟩:∃x,its[k]! = x:=⟨_,rfl⟩
    have eL:=(aa.lt g rfl).2;obtain⟨c1,c2,c3⟩:=ks (W:=wr) (zb aa (fun j hj=>rA.out.block j (aa.lt j hj).2)) k aw x hx;have iU:=HW.out x (by rw[<- hx,getElem!_pos its k aw];exact List.getElem_mem aw);have aG:=jR its k aw x hx;have BB:g<wr.heap.size:=Nat.lt_of_lt_of_le eL rA.out.size;have oH:=rA.out.size;obtain⟨i,ww,lag⟩:=x;simp only at c1 c2 c3 iU aG;obtain⟨x1,x2⟩:=iU;obtain⟨sm,nZ⟩:∃y,vn (its.take k)=y:=⟨_,rfl⟩
    rw[nZ] at hs aG⊢;obtain⟨s1,s2⟩:=hs;have lL:=lH aG;have iY:(k:Int)<(n:Int):=by omega
    have aX:0<=(k:Int):=by omega
    clear aa hx aG nZ;go_wp2_with fail
    go_roundw
    case rel=>exact⟨k+1,aS,by go_num,by rw[lL.out],lH (rA.out.alloc oH _)⟩
    case measure=>simp[intOf];omega
  · obtain rfl:k=n:=by omega
    have eZ:its.take k=its:=List.take_of_length_le (by rw[HN.out];exact Nat.le_refl _);rw[eZ];obtain⟨sm,nZ⟩:∃y,vn its=y:=⟨_,rfl⟩
    rw[nZ];have EM:=lH nZ;clear eZ hs nZ;go_wp2_with fail
    go_ret
    exact⟨by rw[EM.out];rfl,HB.out.trans (rA.out.mono HB.out.size)⟩
theorem dz (cb:Nat) (F:Nat->Prop) (c:Co) (W:World) (h:zo W cb F c) (hf:yn c.l) :
 Calls Tryz.prog 89 #[.pointer (some ⟨cb,0,none⟩)] W (uS W c.l.cur (zw c.l)):=by
 obtain⟨qb,G,c0,hQ,iz,az⟩:=h.q;obtain⟨lb,v,q0,hL,ht,hq⟩:=hQ.line;rcases ht with ht | ht | ht
 · exact cw cb F c W h hf ht
 · exact ZW cb F c W h hf ht
 · exact XN cb F c W h hf ht
theorem XP (cb:Nat) (F:Nat->Prop) (c:Co) (W:World) (h:zo W cb F c) (hf:yn c.l) :
 Calls Tryz.prog 163 #[.pointer (some ⟨cb,0,none⟩)] W fun e w'=>e=.returned (I (vn (zw c.l)))/\Below W.heap.size W w':=by
 obtain⟨qb,G,c0,hQ,iz,az⟩:=h.q;obtain⟨lb,v,q0,hL,ht,hq⟩:=hQ.line;rcases ht with ht | ht | ht
 · exact cx cb F c W h hf ht
 · exact Ya cb F c W h hf ht
 · exact XQ cb F c W h hf ht
end Go.Proofs.YtoiajjobecinpaaGreat

/- The document's own masks, lives, least and greatest loads. The document's own queue: Pick. The law's -/
import Derived.Test.YtoiajjobecinpaaGreatTM30
import Derived.Test.YtoiajjobecinpaaGreatTM31
set_option maxHeartbeats 4000000
set_option maxRecDepth 100000
namespace Go.Proofs.YtoiajjobecinpaaGreat
open Go.RowKit Go.Shelf Go.Lib Go.Proofs
set_option linter.unusedVariables false
set_option linter.unusedSimpArgs false
section
attribute [local go_sem] Oper.semAt_some
theorem wy (s a:Int) (hs:s=1\/s=2\/s=4\/s=5) (ha:a=1\/a=4\/a=5\/a=8) (W:World) :
 Calls Tryz.prog 69 #[I s,I a] W fun e w'=>e=.returned (.tuple #[I (nxt s a).1,I (nxt s a).2])/\W=w':=by
 rcases hs with rfl | rfl | rfl | rfl <;> rcases ha with rfl | rfl | rfl | rfl;all_goals
  go_enter Tryz.func69,Tryz.ntmps69;go_wp2_with fail
  go_ret2
  exact⟨by simp[nxt],rfl⟩
theorem gW (m:Int) (k:Nat) (hk:k<16):zW m (k:Int)=(bits BinOp.and IntKind.u16 (m/2 ^ k) 1==1):=by
 unfold zW;rw[Int.toNat_natCast,decide_eq_true (by omega),decide_eq_true (by omega)];rfl
theorem wC (k:Nat) (h:k<16):min (IntKind.u64.wrap (k:Int)).toNat 16=k:=by
 have:IntKind.u64.wrap (k:Int)=k:=by
  rw[IntKind.wrap_u64];omega
 rw[this,Int.toNat_natCast];omega
def wj (m:Int) (k:Nat):List G16:=(vo.take k).filter fun x=>zW m x.1
theorem gd (m:Int) (k:Nat) (hk:k<16):wj m (k+1)=wj m k++(if zW m k=true then[⟨(k:Int),by omega,by omega⟩] else[]):=qX m k hk
theorem kx (m:Int):wj m 16=zV m:=dF m 16 (by omega)
theorem fc (m:Int) (k:Nat):(wj m k).length<=k:=by
 unfold wj;exact Nat.le_trans (List.length_filter_le _ _) (by rw[List.length_take];omega)
def gJ (W:World) (m:Int) (k:Nat) (v:Value) (wr:World):Prop:=
 wr.ownsRow W.heap.size 3 1 v (wj m k).length ((wj m k).map fun x=>I x.1)/\Below W.heap.size W wr
theorem YE (m:Int) (hm:0<=m/\m<65536) (W:World) :
 Calls Tryz.prog 129 #[.int .u16 m] W fun e w'=>∃v,e=.returned v/\w'.ownsRow W.heap.size 3 1 v (zV m).length ((zV m).map fun x=>I x.1)/\Below W.heap.size W w':=by
 obtain⟨i0,hi,eG,aI,et⟩:=info_parts dD;obtain⟨m1,m2⟩:=hm;have HI:Hid (gJ W m 0 (.slice none 0 0) W):=lH ⟨World.ownsRow_nil _ _ _ _,Below.refl _ _⟩;go_enter Tryz.func129,Tryz.ntmps129;go_wp2_with fail
 go_loopw [3,4] (fun y x wr=>∃(k:Nat) (v:Value),k<=16/\x=I k/\y=v/\Hid (gJ W m k v wr)) (fun _ x _=>16-(intOf x).toNat)
 case atStart=>exact⟨0,_,Nat.zero_le _,rfl,rfl,HI⟩
 case round=>
  obtain⟨k,v,hk,rfl,rfl,HP⟩:=hrel;obtain⟨hR,hB⟩:=HP.out;obtain⟨a,c,rfl,-⟩:=zH hR;have aX:0<=(k:Int):=by omega
  by_cases ox:k<16
  · have mr:=gd m k ox;have eX:=gW m k ox;have sW:=fc m k;have aw:(k:Int)<16:=by omega
    cases hh:zW m (k:Int) with
    | true=>
     rw[hh] at eX;rw[if_pos hh] at mr;have ab:bits BinOp.and IntKind.u16 (m/2 ^ k) 1=1:=by simpa using eX.symm
     have eZ:(wj m (k+1)).map (fun x:G16=>I x.1)=(wj m k).map (fun x:G16=>I x.1)++[I k]:=by rw[mr,List.map_append];rfl
     have ag:(wj m (k+1)).length=(wj m k).length+1:=by rw[mr,List.length_append];rfl
     obtain⟨n,hn⟩:∃x,(wj m k).length=x:=⟨_,rfl⟩
     rw[hn] at hR sW ag;have s8:=lH eZ;have mL:=lH ag;have HR:=lH hR;have HB:=lH hB;have rX:Hid (∀j,Value.ownBlock (.slice a n c)=some j->W.heap.size<=j):=lH (fun j hj=>(hR.lt j hj).1);have me:Hid (n<=100):=lH (by omega);have sO:Hid (W.heap.size<=wr.heap.size):=lH hB.size;rw[hn];clear mr eX hh eZ ag hR hB HP hn sW;go_wp2_with (at_builtin;refine yK rfl _ _ _ rfl W.heap.size 3 i0 _ 1 8 Tryz.underlying22 hi eG aI et rfl (by decide) (.slice a n c) n _ rfl (HR.out.alloc _) (some ⟨wr.heap.size,0,none⟩) 1 1 [I k] rfl (vL (cs:=#[I k]) (by simp[Value.oneCell'])) (by have:=me.out;unfold maxLen;omega) (by have:=me.out;omega) (by have:=sO.out;simp;omega) (n+1) rfl _ rfl ?_;intro a2 q2 w2 eh aR nm)
     rw[<- s8.out,<- mL.out] at eh;have sK:=rX.out;have ib:Below W.heap.size W w2:=(HB.out.alloc HB.out.size _).grown aR (by have:=HB.out.size;simp;omega) sK;rw[mL.out] at eh;have au:Hid (gJ W m (k+1) (.slice a2 (n+1) q2) w2):=lH ⟨by rw[mL.out];exact eh,ib⟩;clear eh aR nm ib sK;go_roundw
     case rel=>exact⟨k+1,_,by omega,by go_num,rfl,au⟩
     case measure=>simp[intOf];omega
    | false=>
     rw[hh] at eX;rw[if_neg (by rw[hh];simp),List.append_nil] at mr;have ab:¬bits BinOp.and IntKind.u16 (m/2 ^ k) 1=1:=by simpa using eX.symm
     have Ce:Hid (gJ W m (k+1) (.slice a (wj m k).length c) wr):=lH (by unfold gJ;rw[mr];exact HP.out);obtain⟨n,hn⟩:∃x,(wj m k).length=x:=⟨_,rfl⟩
     rw[hn] at Ce⊢;clear mr eX hh hR hB HP hn sW;go_wp2_with fail
     go_roundw
     case rel=>exact⟨k+1,_,by omega,by go_num,rfl,Ce⟩
     case measure=>simp[intOf];omega
  · obtain rfl:k=16:=by omega
    rw[kx] at hR⊢;have HR:=lH hR;have HB:=lH hB;obtain⟨n,hn⟩:∃x,(zV m).length=x:=⟨_,rfl⟩
    have HN:=lH hn;rw[hn] at HR⊢;clear hR hB HP hn;go_wp2_with fail
    go_ret
    exact⟨_,rfl,by rw[HN.out];exact HR.out,HB.out⟩
theorem cI (m:Int):(zV m).Pairwise fun x y=>x.1<y.1:=by
 unfold zV;refine List.Pairwise.filter _ ?_;unfold vo;rw[List.pairwise_map];exact List.Pairwise.imp (fun{a b} (h:a<b)=>by show(a.val:Int)<b.val;exact_mod_cast h) (List.pairwise_lt_finRange 16)
theorem Ym (m:Int) (hm:0<=m/\m<65536) (n:Nat) (h1:1<=n) (h2:n<=16):ye m n=true↔∃h:0<(zV m).length,((zV m)[(zV m).length-1]'(by omega)).1<n:=by
 obtain⟨a,rfl⟩:=Int.eq_ofNat_of_zero_le hm.1;have ha:a<65536:=by omega
 have e:ye (a:Int) n=true↔a≠0/\a<2 ^ n:=by
  unfold ye;rw[decide_eq_true (by omega:(1:Int)<=n),decide_eq_true (by omega:(n:Int)<=16)];simp only[Bool.true_and,Bool.and_eq_true,bne_iff_ne,ne_eq,beq_iff_eq,Int.toNat_natCast];have h5:(a:Int)/2 ^ n=((a/2 ^ n:Nat):Int):=by
   rw[Int.natCast_ediv];congr 1
  rw[h5];have h6:a/2 ^ n=0↔a<2 ^ n:=by
   rw[Nat.div_eq_zero_iff];have:=Nat.two_pow_pos n;constructor
   · rintro(h | h)
     · omega
     · exact h
   · exact .inr
  constructor
  · rintro⟨x,y⟩;exact⟨by omega,h6.1 (by omega)⟩
  · rintro⟨x,y⟩;exact⟨by omega,by rw[h6.2 y];rfl⟩
 rw[e];constructor
 · rintro⟨x,y⟩;obtain⟨j,hj⟩:=Nat.exists_testBit_of_ne_zero x;have mZ:j<n:=by
    by_cases hh:j<n
    · exact hh
    · rw[Nat.testBit_lt_two_pow (Nat.lt_of_lt_of_le y (Nat.pow_le_pow_right (by decide) (by omega)))] at hj;cases hj
   have aN:(⟨(j:Int),by omega,by omega⟩:G16)∈zV (a:Int):=wR.2 (by rw[vF a ha j (by omega)];exact hj);refine⟨List.length_pos_of_mem aN,?_⟩;have hl:=wR.1 (List.getElem_mem (show(zV (a:Int)).length-1<(zV (a:Int)).length by have:=List.length_pos_of_mem aN;omega));obtain⟨i,hi,SY⟩:=gG (n:=n) ⟨by omega,by omega⟩ (e.2 ⟨x,y⟩) hl;omega
 · rintro⟨hp,hl⟩;have hx:=wR.1 (List.getElem_mem (show(zV (a:Int)).length-1<(zV (a:Int)).length by omega));have lI:∀x∈zV (a:Int),x.1<=((zV (a:Int))[(zV (a:Int)).length-1]'(by omega)).1:=fun x hx=>by
    obtain⟨i,hi,rfl⟩:=List.mem_iff_getElem.1 hx;by_cases e2:i=(zV (a:Int)).length-1
    · subst e2;exact Int.le_refl _
    · exact Int.le_of_lt (List.pairwise_iff_getElem.1 (cI a) i _ hi (by omega) (by omega))
   refine⟨fun e0=>?_,?_⟩
   · subst e0;obtain⟨j,hj⟩:=Int.eq_ofNat_of_zero_le ((zV ((0:Nat):Int))[(zV ((0:Nat):Int)).length-1]'(by omega)).2.1;have ml:=((zV ((0:Nat):Int))[(zV ((0:Nat):Int)).length-1]'(by omega)).2.2;rw[hj] at hx ml;rw[vF 0 (by omega) j (by omega)] at hx;simp at hx
   · refine Nat.lt_pow_two_of_testBit a (fun j hj=>?_);by_cases ml:j<16
     · by_cases hb:a.testBit j=true
       · have:=lI ⟨(j:Int),by omega,by omega⟩ (wR.2 (by rw[vF a ha j ml];exact hb));simp only at this;omega
       · simpa using hb
     · exact Nat.testBit_lt_two_pow (Nat.lt_of_lt_of_le ha (Nat.pow_le_pow_right (n:=2) (by decide) (show 16<=j by omega)))
theorem wV (m:Int) (hm:0<=m/\m<65536) (n:Nat) (h1:1<=n) (h2:n<=16) (W:World) :
 Calls Tryz.prog 65 #[.int .u16 m,I n] W fun e w'=>e=.returned (.bool (ye m n))/\Below W.heap.size W w':=by
 have hc:=YE m hm W;have hg:=Ym m hm n h1 h2;have mF:(1:Int)<=n:=by omega
 have m9:(n:Int)<=16:=by omega
 obtain⟨L,hL⟩:∃x,(zV m).length=x:=⟨_,rfl⟩
 obtain⟨z,hz⟩:∃z,∀h:L-1<(zV m).length,((zV m)[L-1]'h).1=z:=by
  by_cases h:L-1<(zV m).length
  · exact⟨((zV m)[L-1]'h).1,fun _=>rfl⟩
  · exact⟨0,fun h'=>absurd h' h⟩
 have ap:∀(v:Value) (w':World),w'.ownsRow W.heap.size 3 1 v (zV m).length ((zV m).map fun x=>I x.1)->∃a c,v=.slice a L c/\(0<L->∃g,a=some ⟨g,0,none⟩/\w'.cell? ⟨g,L-1,none⟩=some (I z)):=fun v w' h=>by
  obtain⟨a,c,hv,hr⟩:=zH h;rw[hL] at hv;refine⟨a,c,hv,fun hp=>?_⟩;obtain⟨g,ha,-,-,ap⟩:=hr (L-1) (I z) (by rw[List.getElem?_map,List.getElem?_eq_getElem (show L-1<(zV m).length by omega),<- hz (by omega)];rfl);exact⟨g,ha,ap⟩
 have HC:=lH ap;by_cases h0:0<L
 · have se:ye m n=decide (z<n):=by
    rw[Bool.eq_iff_iff,hg,decide_eq_true_eq];constructor
    · rintro⟨_,h⟩;simp only[hL,hz (by omega)] at h;exact h
    · intro h;exact⟨by omega,by simp only[hL,hz (by omega)];exact h⟩
   rw[se];have iM:(0:Int)<(L:Int):=by omega
   have kw:wrap64 ((L:Int)-1)=(L:Int)-1:=by
    have:=fc m 16;rw[kx,hL] at this;unfold wrap64;omega
   clear hg se ap hz hL;go_enter Tryz.func65,Tryz.ntmps65;go_wp2_with fail
   refine hc.mono ?_;rintro e w1 ⟨v,rfl,aa,hB⟩;obtain⟨a,c,rfl,hh⟩:=HC.out _ _ aa;obtain⟨g,rfl,iI⟩:=hh h0;have HB:=lH hB;have hx:((L:Int)-1).toNat=L-1:=by omega
   have ek:(0:Int)<=(L:Int)-1:=by omega
   have ia:(L:Int)-1<(L:Int):=by omega
   clear aa hh hB hc;go_wp2_with fail
   go_ret
   exact⟨by simp,HB.out⟩
 · obtain rfl:L=0:=by omega
   have se:ye m n=false:=by
    rw[Bool.eq_false_iff];intro h;obtain⟨h,-⟩:=hg.1 h;omega
   rw[se];clear hg se ap hL hz;go_enter Tryz.func65,Tryz.ntmps65;go_wp2_with fail
   refine hc.mono ?_;rintro e w1 ⟨v,rfl,aa,hB⟩;obtain⟨a,c,rfl,-⟩:=HC.out _ _ aa;have HB:=lH hB;clear aa hB hc;go_wp2_with fail
   go_ret
   exact⟨by simp,HB.out⟩
def yQ (loads:List Int) (m:Int) (k:Nat):Int×Bool:=(wj m k).foldl (zZ loads) (0,false)
theorem kT (loads:List Int) (m:Int) (k:Nat) (hk:k<16):yQ loads m (k+1)=if zW m k=true then zZ loads (yQ loads m k) ⟨(k:Int),by omega,by omega⟩ else yQ loads m k:=by
 unfold yQ;rw[gd m k hk,List.foldl_append];split <;> rfl
theorem bL (loads:List Int) (m:Int) (h:loads.length<=16):yQ loads m loads.length=zD loads m:=by
 have gen:∀d,loads.length+d<=16->yQ loads m (loads.length+d)=yQ loads m loads.length:=by
  intro d;induction d with
  | zero=>intro _;rfl
  | succ d ih=>
   intro hd;rw[show loads.length+(d+1)=(loads.length+d)+1 by omega,kT _ _ _ (by omega),ih (by omega)];split
   · unfold zZ;rw[if_neg];simp only
     omega
   · rfl
 have:=gen (16-loads.length) (by omega);rw[show loads.length+(16-loads.length)=16 by omega] at this;rw[<- this];unfold yQ zD;rw[kx]
theorem gZ (loads:List Int) (m:Int) (k:Nat) (h:(yQ loads m k).2=true):0<=(yQ loads m k).1/\(yQ loads m k).1<loads.length:=
 uZ _ _ (fun h=>by cases h) h
def bb (a:Int×Bool) (b:Int):Prop:=(a.2=false/\b=-1)\/(a.2=true/\b=a.1)
theorem cH (loads:List Int) (m:Int) (k:Nat) (h:(yQ loads m k).2=false):(yQ loads m k).1=0:=by
 have gen:∀(xs:List G16) (a:Int×Bool),(a.2=false->a.1=0)->(xs.foldl (zZ loads) a).2=false->(xs.foldl (zZ loads) a).1=0:=by
  intro xs;induction xs with
  | nil=>intro a h1 h2;exact h1 h2
  | cons x xs ih=>
   intro a h1 h2;refine ih (zZ loads a x) (fun h3=>?_) h2;unfold zZ at h3⊢;split at h3
   · cases h3
   · rename_i hc;rw[if_neg hc];exact h1 h3
 exact gen _ _ (fun _=>rfl) h
theorem uI (g c N:Nat) (loads:List Int) (m:Int) (hm:0<=m/\m<65536) (W:World) (hN:loads.length=N) (nd:N<=16) (eL:g<W.heap.size) (hx:∀i,i<N->W.cell? ⟨g,i,none⟩=some (I (loads.getD i 0))) :
 Calls Tryz.prog 70 #[.slice (some ⟨g,0,none⟩) N c,.int .u16 m] W fun e w'=>e=.returned (.tuple #[I (zD loads m).1,.bool (zD loads m).2])/\Below W.heap.size W w':=by
 obtain⟨m1,m2⟩:=hm;have aM:=bL loads m (by omega);rw[hN] at aM;have sY:=lH aM;have HN:=lH hN;have HX:=lH hx;have Sf:(N:Int)<=16:=by omega
 clear aM hN hx;go_enter Tryz.func70,Tryz.ntmps70;go_wp2_with fail
 go_loopw [6,7] (fun y x wr=>∃(k:Nat) (b:Int),k<=N/\x=I k/\y=I b/\Hid (bb (yQ loads m k) b)/\Hid (Below W.heap.size W wr)) (fun _ x _=>N-(intOf x).toNat)
 case atStart=>exact⟨0,-1,Nat.zero_le _,rfl,rfl,lH (.inl ⟨rfl,rfl⟩),lH (Below.refl _ _)⟩
 case round=>
  obtain⟨k,b,hk,rfl,rfl,HB,HQ⟩:=hrel;have aX:0<=(k:Int):=by omega
  by_cases sU:k<N
  · have aw:(k:Int)<(N:Int):=by omega
    have ox:(k:Int)<16:=by omega
    have mr:=kT loads m k (by omega);have rN:=wC k (by omega);have eX:=gW m k (by omega);have Ii:=(HQ.out.cell (p:=⟨g,k,none⟩) eL).trans (HX.out k sU)
    have L3:=lH (gZ loads m k);obtain⟨u,hu⟩:∃x,loads.getD k 0=x:=⟨_,rfl⟩
    rw[hu] at Ii;cases hh:zW m (k:Int) with
    | false=>
     rw[hh] at eX;rw[if_neg (by rw[hh];simp)] at mr;have ab:(bits BinOp.and IntKind.u16 (m/2 ^ k) 1==1)=false:=eX.symm;have ew:Hid (bb (yQ loads m (k+1)) b):=lH (by rw[mr];exact HB.out);clear mr eX hh hu;go_wp2_with fail
     go_quiet (fail)
     go_wp2_with fail
     go_roundw
     case rel=>exact⟨k+1,b,by omega,by go_num,rfl,ew,lH (HQ.out.trans ((zm _ _ _).mono HQ.out.size))⟩
     case measure=>simp[intOf];omega
    | true=>
     rw[hh] at eX;rw[if_pos hh] at mr;have ab:(bits BinOp.and IntKind.u16 (m/2 ^ k) 1==1)=true:=eX.symm;rcases HB.out with⟨h2,rfl⟩ | ⟨h2,rfl⟩
     · have ew:Hid (bb (yQ loads m (k+1)) k):=lH (by
        rw[mr];unfold zZ;rw[if_pos ⟨by show(k:Int)<_;rw[HN.out];exact aw,.inl h2⟩];exact .inr ⟨rfl,rfl⟩)
       clear mr eX hh hu h2;go_wp2_with fail
       go_quiet (fail)
       go_wp2_with fail
       go_roundw
       case rel=>exact⟨k+1,k,by omega,by go_num,rfl,ew,lH (HQ.out.trans ((zm _ _ _).mono HQ.out.size))⟩
       case measure=>simp[intOf];omega
     · obtain⟨b1,b2⟩:=L3.out h2;obtain⟨j,hj⟩:=Int.eq_ofNat_of_zero_le b1;rw[HN.out] at b2;have sA:=(HQ.out.cell (p:=⟨g,j,none⟩) eL).trans (HX.out j (by omega))
       obtain⟨z,hz⟩:∃x,loads.getD j 0=x:=⟨_,rfl⟩
       rw[hz] at sA;by_cases ah:u<z
       · have ew:Hid (bb (yQ loads m (k+1)) k):=lH (by
          rw[mr];unfold zZ;rw[if_pos ⟨by show(k:Int)<_;rw[HN.out];exact aw,.inr (by rw[hj];simp only[Int.toNat_natCast];rw[hu,hz];exact ah)⟩];exact .inr ⟨rfl,rfl⟩)
         rw[hj] at b2⊢;have oh:0<=(j:Int):=by omega
         clear mr eX hh hu hz h2 b1 hj;go_wp2_with fail
         go_quiet (fail)
         go_wp2_with fail
         go_roundw
         case rel=>exact⟨k+1,k,by omega,by go_num,rfl,ew,lH (HQ.out.trans ((zm _ _ _).mono HQ.out.size))⟩
         case measure=>simp[intOf];omega
       · have ew:Hid (bb (yQ loads m (k+1)) (yQ loads m k).1):=lH (by
          rw[mr];unfold zZ;rw[if_neg (by
           rintro⟨-,h3 | h3⟩
           · rw[h2] at h3;cases h3
           · rw[hj] at h3;simp only[Int.toNat_natCast] at h3;rw[hu,hz] at h3;exact ah h3)]
          exact .inr ⟨h2,rfl⟩)
         rw[hj] at b2 ew⊢;have oh:0<=(j:Int):=by omega
         clear mr eX hh hu hz h2 b1 hj;go_wp2_with fail
         go_quiet (fail)
         go_wp2_with fail
         go_roundw
         case rel=>exact⟨k+1,j,by omega,by go_num,rfl,ew,lH (HQ.out.trans ((zm _ _ _).mono HQ.out.size))⟩
         case measure=>simp[intOf];omega
  · obtain rfl:k=N:=by omega
    rcases HB.out with⟨h2,rfl⟩ | ⟨h2,hb⟩
    · have h3:=cH loads m k h2;rw[sY.out] at h2 h3;have HR:=lH (And.intro h3 h2);clear HB h2 h3;go_wp2_with fail
      go_ret2
      exact⟨by rw[HR.out.1,HR.out.2];rfl,HQ.out⟩
    · obtain⟨b1,b2⟩:=gZ loads m k h2;rw[<- hb] at b1;rw[sY.out] at h2 hb;have HR:=lH (And.intro hb.symm h2);clear HB h2 b2 hb;go_wp2_with fail
      go_ret2
      exact⟨by rw[HR.out.1,HR.out.2];rfl,HQ.out⟩
theorem Y6 (qb:Nat) (v:Value) (tag:Int) (l:Ln) (W:World) (hq:QuAt W qb v tag l) (he:l.ps=[]) :
 Calls Tryz.prog 77 #[.pointer (some ⟨qb,0,none⟩)] W fun e w'=>e=.returned (.tuple #[I 0,.bool false])/\QuAt w' qb v tag ⟨l.base,-1,l.ps⟩/\Touch (fun j=>j=qb) W w':=by
 obtain⟨a,c,hv,-⟩:=hq.form;have c3:=hq.c3;have c2:=hq.c2;have f2:=hq.live 2;rw[hv,he] at c3;simp only[List.length_nil] at c3;have HQ:=lH (hq.setCur (-1));have HT:Hid (Touch (fun j=>j=qb) W (W.setCell ⟨qb,2,none⟩ (I (-1)))):=lH ((Touch.refl (fun j=>j=qb) W).setCell (t:=none) (.inl rfl) _);clear hq hv he;go_enter Tryz.func77,Tryz.ntmps77;go_wp2_with fail
 go_ret2
 exact⟨rfl,HQ.out,HT.out⟩
theorem Y7 (qb:Nat) (v:Value) (tag:Int) (l:Ln) (W:World) (hq:QuAt W qb v tag l) (ht:tag=0\/tag=1\/tag=2) (aT:l.ps.length<=64) (ay:l.ps≠[])
 (hb:∀p∈l.ps,(-1099511627776<=p.v-l.base/\p.v-l.base<=1099511627776)/\0<=p.w/\p.w<=20) (eC:-1152921504606846976<=l.base/\l.base<=1152921504606846976) :
 Calls Tryz.prog 77 #[.pointer (some ⟨qb,0,none⟩)] W fun e w'=>e=.returned (.tuple #[I (yg tag l).cur,.bool true])/\QuAt w' qb v tag (yg tag l)/\Touch (fun j=>j=qb) W w':=by
 have aE:=fun W' (h:QuAt W' qb v tag l)=>jl qb v tag l l.cur W' h (by omega);obtain⟨n,hn⟩:∃x,l.ps.length=x:=⟨_,rfl⟩
 have si:n≠0:=fun e=>ay (List.eq_nil_of_length_eq_zero (by omega));have mF:((n:Int)==0)=false:=by simp;omega
 rw[hn] at aT;obtain⟨a,c,hv,ae⟩:=hq.get;have c3:=hq.c3;have c1:=hq.c1;rw[hv,hn] at c3;have HN:=lH hn;have HC:=lH ae;have HQ:=lH hq;have HB:=lH hb;have tV:=lH ay;have sL:=lH aE;have L5:=lH eC;have rD:=lH (fH l.base l.ps hb);clear hq hv hn hb ay aE ae eC;go_enter Tryz.func77,Tryz.ntmps77;go_wp2_with fail
 go_loopw [4,6,7,8] (fun x4 x6 x7 x wr=>∃(k f:Nat),k<=n/\x=I k/\x4=I f/\x6=I (vw l.base (l.ps.take k))/\x7=I (xK (l.ps.take k))/\Hid (xz l.ps k f)/\Hid (Below W.heap.size W wr)) (fun _ _ _ x _=>n-(intOf x).toNat)
 case atStart=>exact⟨0,0,Nat.zero_le _,rfl,rfl,rfl,rfl,lH (xz.zero tV.out),lH (Below.refl _ _)⟩
 case round=>
  obtain⟨k,f,hk,rfl,rfl,rfl,rfl,HF,HW⟩:=hrel;clear c3 c1;have m7:=HQ.out.below HW.out;have c3:=m7.c3;have c1:=m7.c1;obtain⟨a',c',hv,ae⟩:=m7.get;rw[hv,HN.out] at c3;have mD:=lH m7;have sZ:=lH ae;clear m7 hv ae;have aX:0<=(k:Int):=by omega
  obtain⟨hm,mo⟩:∃p,l.ps[f]? = some p:=⟨_,HF.out⟩
  have Nn:f<n:=by have:=(List.getElem?_eq_some_iff.1 mo).1;rw[HN.out] at this;exact this
  have CU:(f:Int)<(n:Int):=by omega
  have Nj:0<=(f:Int):=by omega
  obtain⟨g,rfl,g1,q0,q1,q2,q3⟩:=sZ.out f hm mo;have HM:=lH mo;clear mo;obtain⟨⟨s1,s2⟩,s3,s4⟩:=rD.out k (by rw[HN.out];exact hk);by_cases aw:k<n
  · have eO:k<l.ps.length:=by rw[HN.out];exact aw
    obtain⟨p,hp⟩:∃p,l.ps[k]? = some p:=⟨_,List.getElem?_eq_getElem eO⟩
    obtain⟨g',ic,-,p0,p1,p2,p3⟩:=sZ.out k p hp;obtain rfl:g=g':=by simpa using ic
    have iJ:(k:Int)<(n:Int):=by omega
    obtain⟨⟨b1,b2⟩,b3,b4⟩:=HB.out p (List.mem_of_getElem? hp);obtain⟨m1,m2⟩:=jF b1 b2 b3 b4 (by omega);have HS:=lH (dX l.base l.ps k p hp);have HT:=lH (jT l.ps k p hp);have HP:=lH hp;have kw1:IntKind.i64.wrap (p.v-l.base)=p.v-l.base:=by rw[IntKind.wrap_i64];omega
    have kw2:IntKind.i64.wrap ((p.v-l.base)*p.w)=(p.v-l.base)*p.w:=by rw[IntKind.wrap_i64];omega
    have kw3:IntKind.i64.wrap (vw l.base (l.ps.take k)+(p.v-l.base)*p.w)=vw l.base (l.ps.take (k+1)):=by rw[HS.out,IntKind.wrap_i64];omega
    have kw4:IntKind.i64.wrap (xK (l.ps.take k)+p.w)=xK (l.ps.take (k+1)):=by rw[HT.out,IntKind.wrap_i64];omega
    obtain⟨sm',nZ⟩:∃x,vw l.base (l.ps.take (k+1))=x:=⟨_,rfl⟩
    obtain⟨al',M6⟩:∃x,xK (l.ps.take (k+1))=x:=⟨_,rfl⟩
    rw[nZ] at kw3;rw[M6] at kw4;have EM:=lH nZ;have Rd:=lH M6;clear nZ M6 hp ic;by_cases ah:p.v<hm.v
    case' pos=>have Dq:Hid (xz l.ps (k+1) k):=lH (HF.out.move HM.out HP.out ah)
    case' neg=>
     have Dq:Hid (xz l.ps (k+1) f):=lH (HF.out.stay HM.out HP.out ah);have nG:hm.v<=p.v:=by omega
    all_goals
     go_wp2_with fail
     go_quiet (fail)
     go_wp2_with fail
     go_quiet (fail)
     go_wp2_with fail
     go_roundw
     case rel=>exact⟨k+1,_,by omega,by go_num,rfl,by rw[EM.out],by rw[Rd.out],Dq,lH (HW.out.trans (zm _ _ _))⟩
     case measure=>simp[intOf];omega
  · obtain rfl:k=n:=by omega
    have AD:¬(k:Int)<(k:Int):=by omega
    have AZ:hm=yv l.ps:=by
     have:=HF.out;rw[<- HN.out] at this;have h2:=this.fin tV.out;rw[HM.out] at h2;exact Option.some.inj h2
    have eZ:l.ps.take k=l.ps:=List.take_of_length_le (by rw[HN.out];exact Nat.le_refl _);rw[eZ] at s1 s2 s3 s4⊢;have A5:=lH AZ;have aC:Hid (Touch (fun j=>j=qb) W wr):=lH (Touch.of_below HW.out);have c0:=mD.out.c0;have c2:=mD.out.c2;have f2:=mD.out.live 2;have BG:=uD l.ps;rw[<- AZ] at BG;have RD:=lH BG;have lR:=fun nq=>lH (aC.out.thenBelow (zm wr.heap.size wr nq));clear AZ eZ BG;rcases ht with rfl | rfl | rfl
    · have HR:Hid (yg 0 l=⟨l.base,hm.id,l.ps⟩):=lH (by simp[yg,xi,tV.out,A5.out]);have sM:=lH (mD.out.setCur hm.id);have eR:=lH (aC.out.setCell (t:=none) (c:=qb) (i:=2) (.inl rfl) (I hm.id));go_wp2_with fail
      go_ret2
      exact⟨by rw[HR.out];rfl,by rw[HR.out];exact sM.out,eR.out⟩
    · have hA:=sL.out wr mD.out;by_cases hp:yh l.ps l.cur<0
      · have HR:Hid (yg 1 l=⟨l.base,hm.id,l.ps⟩):=lH (by simp[yg,xI,hp,xi,tV.out,A5.out]);have sM:=fun nq=>lH ((mD.out.below (zm _ _ nq)).setCur hm.id);have eR:=fun nq=>lH ((lR nq).out.setCell (t:=none) (c:=qb) (i:=2) (.inl rfl) (I hm.id));generalize yh l.ps l.cur=pp at hA hp;have BN:decide (0<=pp)=false:=by simp;omega
        go_wp2_with fail
        refine hA.mono ?_;rintro e w1 ⟨rfl,rfl⟩;go_wp2_with fail
        go_quiet (fail)
        go_wp2_with fail
        go_ret2
        exact⟨by rw[HR.out];rfl,by rw[HR.out];exact(sM _).out,(eR _).out⟩
      · obtain⟨kk,tH,ij,-⟩:∃(kk:Nat) (hk:kk<l.ps.length),yh l.ps l.cur=(kk:Int)/\l.ps[kk].id=l.cur:=by
         rcases zB l.ps l.cur with⟨e,-⟩ | ⟨k,hk,e,e2,-⟩
         · exact absurd (by rw[e];decide) hp
         · exact⟨k,hk,e,e2⟩
        obtain⟨p,pn⟩:∃p,l.ps[kk]? = some p:=⟨_,List.getElem?_eq_getElem tH⟩
        have Af:l.ps[kk]! = p:=by rw[getElem!_pos l.ps kk tH];rw[List.getElem?_eq_getElem tH] at pn;exact Option.some.inj pn
        obtain⟨g',ic,-,p0,p1,p2,p3⟩:=sZ.out kk p pn;obtain rfl:g=g':=by simpa using ic
        obtain⟨⟨b1,b2⟩,-,-⟩:=HB.out p (List.mem_of_getElem? pn);obtain⟨b3,b4⟩:=L5.out;have kw:IntKind.i64.wrap (p.v-465585120)=p.v-465585120:=by rw[IntKind.wrap_i64];omega
        have S5:(kk:Int)<(k:Int):=by rw[HN.out] at tH;omega
        have S4:0<=(kk:Int):=by omega
        rw[ij] at hA;by_cases hc:p.v-465585120<=hm.v
        · have HR:Hid (yg 1 l=l):=lH (by unfold yg xI;rw[if_neg (by decide),if_pos rfl,if_neg hp,ij];simp only[Int.toNat_natCast,Af,<- A5.out];rw[if_pos hc]);have sM:=fun nq=>lH (mD.out.below (zm _ _ nq));clear hp ij Af pn ic tH b1 b2 b3 b4;go_wp2_with fail
          refine hA.mono ?_;rintro e w1 ⟨rfl,rfl⟩;go_wp2_with fail
          go_quiet (fail)
          go_wp2_with fail
          go_ret2
          exact⟨by rw[HR.out];rfl,by rw[HR.out];exact(sM _).out,(lR _).out⟩
        · have HR:Hid (yg 1 l=⟨l.base,hm.id,l.ps⟩):=lH (by unfold yg xI;rw[if_neg (by decide),if_pos rfl,if_neg hp,ij];simp only[Int.toNat_natCast,Af,<- A5.out];rw[if_neg hc];unfold xi;rw[if_neg tV.out,<- A5.out]);have sM:=fun nq=>lH ((mD.out.below (zm _ _ nq)).setCur hm.id);have eR:=fun nq=>lH ((lR nq).out.setCell (t:=none) (c:=qb) (i:=2) (.inl rfl) (I hm.id));have oe:hm.v<p.v-465585120:=by omega
          clear hp ij Af pn ic tH b1 b2 b3 b4;go_wp2_with fail
          refine hA.mono ?_;rintro e w1 ⟨rfl,rfl⟩;go_wp2_with fail
          go_quiet (fail)
          go_wp2_with fail
          go_ret2
          exact⟨by rw[HR.out];rfl,by rw[HR.out];exact(sM _).out,(eR _).out⟩
    · have Ok:∀p∈l.ps,(yv l.ps).v<=p.v/\0<=p.w:=fun p hp=>⟨uD l.ps p hp,(HB.out p hp).2.1⟩
      have Ga:=lH (fun(p:Pt) (hp:p∈l.ps)=>dR (b:=l.base) Ok hp);obtain⟨r,hr⟩:=XK tV.out (fun p hp=>(Ok p hp).2);have Cg:=lH hr;have HR:Hid (yg 2 l=⟨l.base,r.id,l.ps⟩):=lH (by unfold yg vq;rw[if_neg (by decide),if_neg (by decide),hr];rfl);obtain⟨m,IJ⟩:∃x,(yv l.ps).v=x:=⟨_,rfl⟩
      obtain⟨S,eu⟩:∃x,vT (yv l.ps).v l.ps=x:=⟨_,rfl⟩
      obtain⟨T,aF⟩:∃x,uQ l.ps=x:=⟨_,rfl⟩
      rw[eu,aF,IJ] at Ga;rw[eu,aF,IJ] at Cg;obtain⟨sB,N4⟩:∃x,vw l.base l.ps=x:=⟨_,rfl⟩
      obtain⟨tB,N9⟩:∃x,xK l.ps=x:=⟨_,rfl⟩
      rw[N4,N9] at Ga;rw[N4] at s1 s2;rw[N9] at s3 s4;have kn:k<=64:=aT;clear Ok hr IJ eu aF;go_wp2_with fail
      clear N4 N9;go_loopw [5,10] (fun x5 x wq=>∃(k2:Nat) (s:Int),k2<=k/\x=I k2/\x5=I s/\Hid (gL m S T l.ps k2 s)/\Hid (Below wr.heap.size wr wq)) (fun _ x _=>k-(intOf x).toNat)
      case atStart=>exact⟨0,-1,Nat.zero_le _,rfl,rfl,lH (.inl ⟨rfl,rfl⟩),lH (Below.refl _ _)⟩
      case round=>
       obtain⟨k2,sn,ly,rfl,rfl,Dx,Gj⟩:=hrel;clear c3 c1 q0 q1 q2 q3 c0 c2 f2;have Aw:=mD.out.below Gj.out;have c3:=Aw.c3;have c1:=Aw.c1;have c2:=Aw.c2;have f2:=Aw.live 2;obtain⟨a',c'',hv,ae⟩:=Aw.get;rw[hv,HN.out] at c3;have CD:=lH Aw;have pI:=lH ae;clear Aw hv ae;have S3:0<=(k2:Int):=by omega
       by_cases aw:k2<k
       · have eO:k2<l.ps.length:=by rw[HN.out];exact aw
         obtain⟨p,hp⟩:∃p,l.ps[k2]? = some p:=⟨_,List.getElem?_eq_getElem eO⟩
         obtain⟨g',rfl,g1',p0,p1,p2,p3⟩:=pI.out k2 p hp;have iJ:(k2:Int)<(k:Int):=by omega
         have ev:=List.mem_of_getElem? hp;obtain⟨⟨b1,b2⟩,b3,b4⟩:=HB.out p ev;have hE:=Ga.out p ev;have aG:=ZS m S T l.ps k2 p hp;obtain⟨m1,m2⟩:=jF b1 b2 s3 (show tB<=1280 by omega) (by omega);have kw1:IntKind.i64.wrap (p.v-l.base)=p.v-l.base:=by rw[IntKind.wrap_i64];omega
         have kw2:IntKind.i64.wrap ((p.v-l.base)*tB)=(p.v-l.base)*tB:=by rw[IntKind.wrap_i64];omega
         have HP:=lH hp;have HK':=lH eO;clear ev hp eO;by_cases he:(p.v-l.base)*tB<=sB
         · have mU:xv m S T (l.ps.take (k2+1))=match xv m S T (l.ps.take k2) with
            | none=>some p
            | some q=>if p.day<q.day then some p else some q:=by
            rw[aG];unfold xw;rw[if_neg (hE.1 he)];cases xv m S T (l.ps.take k2) <;> rfl
           have SM:decide ((p.v-l.base)*tB<=sB)=true:=by simp[he]
           rcases Dx.out with⟨rfl,hb⟩ | ⟨j,rfl,hj,hb⟩
           · rw[hb] at mU;have iy:Hid (gL m S T l.ps (k2+1) k2):=lH (.inr ⟨k2,rfl,HK'.out,by rw[mU,HP.out]⟩);clear aG mU hE hb;go_wp2_with fail
             go_quiet (fail)
             go_wp2_with fail
             go_roundw
             case rel=>exact⟨k2+1,_,by omega,by go_num,rfl,iy,lH (Gj.out.trans (zm _ _ _))⟩
             case measure=>simp[intOf];omega
           · obtain⟨q,hq⟩:∃q,l.ps[j]? = some q:=⟨_,List.getElem?_eq_getElem hj⟩
             obtain⟨g'',ic,-,r0,r1,r2,r3⟩:=pI.out j q hq;obtain rfl:g'=g'':=by simpa using ic
             have DX:(j:Int)<(k:Int):=by rw[HN.out] at hj;omega
             have oh:0<=(j:Int):=by omega
             have PB:decide ((j:Int)<0)=false:=by simp
             rw[hb,hq] at mU;simp only at mU;by_cases hd:p.day<q.day
             · rw[if_pos hd] at mU;have iy:Hid (gL m S T l.ps (k2+1) k2):=lH (.inr ⟨k2,rfl,HK'.out,by rw[mU,HP.out]⟩);clear aG mU hE hb hq ic hj;go_wp2_with fail
               go_quiet (fail)
               go_wp2_with fail
               go_roundw
               case rel=>exact⟨k2+1,_,by omega,by go_num,rfl,iy,lH (Gj.out.trans (zm _ _ _))⟩
               case measure=>simp[intOf];omega
             · rw[if_neg hd] at mU;have iy:Hid (gL m S T l.ps (k2+1) j):=lH (.inr ⟨j,rfl,hj,by rw[mU,hq]⟩);have SL:q.day<=p.day:=by omega
               clear aG mU hE hb hq ic hj;go_wp2_with fail
               go_quiet (fail)
               go_wp2_with fail
               go_roundw
               case rel=>exact⟨k2+1,_,by omega,by go_num,rfl,iy,lH (Gj.out.trans (zm _ _ _))⟩
               case measure=>simp[intOf];omega
         · have mU:xv m S T (l.ps.take (k2+1))=xv m S T (l.ps.take k2):=by
            rw[aG];unfold xw;rw[if_pos (by apply Classical.byContradiction;intro h;exact he (hE.2 h))]
           have iy:Hid (gL m S T l.ps (k2+1) sn):=lH (by unfold gL;rw[mU];exact Dx.out);have SM:decide ((p.v-l.base)*tB<=sB)=false:=by simp;omega
           have TN:sB<(p.v-l.base)*tB:=by omega
           clear aG mU hE;go_wp2_with fail
           go_quiet (fail)
           go_wp2_with fail
           go_roundw
           case rel=>exact⟨k2+1,_,by omega,by go_num,rfl,iy,lH (Gj.out.trans (zm _ _ _))⟩
           case measure=>simp[intOf];omega
       · obtain rfl:k2=k:=by omega
         have Cr:=Dx.out;unfold gL at Cr;rw[List.take_of_length_le (by rw[HN.out];exact Nat.le_refl _),Cg.out] at Cr;rcases Cr with⟨-,h⟩ | ⟨j,rfl,hj,h⟩
         · cases h
         · obtain⟨g',rfl,g1',p0,p1,p2,p3⟩:=pI.out j r h.symm;have DX:(j:Int)<(k2:Int):=by rw[HN.out] at hj;omega
           have oh:0<=(j:Int):=by omega
           have RN:=lH (CD.out.setCur r.id);have CE:=lH ((aC.out.thenBelow Gj.out).setCell (t:=none) (c:=qb) (i:=2) (.inl rfl) (I r.id));clear h hj;go_wp2_with fail
           go_ret2
           exact⟨by rw[HR.out];rfl,by rw[HR.out];exact RN.out,CE.out⟩
def OwR (b0 g k B:Nat) (sl vf:Value) (i w l:Int) (W:World):Prop:=
 W.cell? ⟨b0,1,none⟩=some sl/\W.cell? ⟨g,k*3,none⟩=some (I i)/\W.cell? ⟨g,k*3+1,none⟩=some (I w)/\W.cell? ⟨g,k*3+2,none⟩=some (I l)/\W.cell? ⟨B,1,none⟩=some vf
theorem OwR.alloc {b0 g k B:Nat} {sl vf:Value} {i w l:Int} {W:World} (h:OwR b0 g k B sl vf i w l W) (o:Obj):OwR b0 g k B sl vf i w l (W.alloc o):=
 ⟨Lib.cell?_alloc_some _ h.1,Lib.cell?_alloc_some _ h.2.1,Lib.cell?_alloc_some _ h.2.2.1,Lib.cell?_alloc_some _ h.2.2.2.1,Lib.cell?_alloc_some _ h.2.2.2.2⟩
theorem OwR.grown {b0 g k B:Nat} {sl vf:Value} {i w l:Int} {W w1:World} {row:Option Nat} (h:OwR b0 g k B sl vf i w l W) (hg:W.grownBy w1 row) (h1:row≠some b0) (h2:row≠some g) (h3:row≠some B):OwR b0 g k B sl vf i w l w1:=
 ⟨hg.cell h.1 (fun e=>h1 e.symm),hg.cell h.2.1 (fun e=>h2 e.symm),hg.cell h.2.2.1 (fun e=>h2 e.symm),hg.cell h.2.2.2.1 (fun e=>h2 e.symm),hg.cell h.2.2.2.2 (fun e=>h3 e.symm)⟩
theorem Qg (cur:Int) (a:Option Addr) (n c:Nat) (its:List It) (W:World) (hf:FSl W (.slice a n c) its) (hn:its.length=n) (aT:n<=64) :
 Calls Tryz.prog 18 #[.agg #[I cur,.slice a n c]] W (VI W cur its):=by
 obtain⟨i0,hi,eG,aI,et⟩:=info_parts Xu;have M7:=heap_alloc_new W (.cells #[I cur,.slice a n c] 70);have F9:Hid (Below W.heap.size W (W.alloc (.cells #[I cur,.slice a n c] 70))):=lH ((Below.refl _ _).alloc (Nat.le_refl _) _);have A9:Hid ((W.alloc (.cells #[I cur,.slice a n c] 70)).heap.size=W.heap.size+1):=lH (by simp);have HN:=lH hn;have HF:=lH hf;have OR:(W.alloc (.cells #[I cur,.slice a n c] 70)).cell? ⟨W.heap.size,0,none⟩=some (I cur):=by simp only[World.cell?,M7];rfl
 have OT:(W.alloc (.cells #[I cur,.slice a n c] 70)).cell? ⟨W.heap.size,1,none⟩=some (.slice a n c):=by simp only[World.cell?,M7];rfl
 have Sg:=c2a (.cells #[I 0,.slice none 0 0] 66) OR;clear hf hn M7;go_enter Tryz.func18,Tryz.ntmps18;go_wp2_with fail
 have Ch:Hid ((W.alloc (.cells #[I cur,.slice a n c] 70)).heap.size=W.heap.size+1):=A9;obtain⟨V,hV⟩:∃V,W.alloc (.cells #[I cur,.slice a n c] 70)=V:=⟨_,rfl⟩
 rw[hV] at F9 A9 OT⊢;rw[<- A9.out];clear hV OR Sg Ch;go_loopw [4] (fun x wr=>∃k:Nat,k<=n/\x=I k/\Hid (ZJ V wr cur (its.take k))) (fun x _=>n-(intOf x).toNat)
 case atStart=>
  have hf:=heap_alloc_new (V.alloc (.cells #[I 0,.slice none 0 0] 66)) (.cells #[I cur,.slice none 0 0] 66);rw[zR] at hf;refine⟨0,Nat.zero_le _,rfl,lH ⟨.slice none 0 0,⟨?_,?_,fun i=>?_,World.ownsRow_nil _ _ _ _,by simp[Value.ownBlock]⟩,((Below.refl _ _).alloc (Nat.le_refl _) _).alloc (by simp) _,?_⟩⟩
  · simp only[World.cell?,hf];rfl
  · simp only[World.cell?,hf];rfl
  · simp only[World.frozen?,hf];simp
  · exact⟨_,_,(Below.heap_alloc _ _ _ (by simp)).trans (heap_alloc_new V _)⟩
 case round=>
  obtain⟨k,hk,rfl,HR⟩:=hrel;obtain⟨vf,hF,hB,r0,r1,am⟩:=HR.out;have Sz:=A9.out;have c1:=(hB.cell (p:=⟨W.heap.size,1,none⟩) (by show W.heap.size<V.heap.size;omega)).trans OT;clear Sz;have e1:=hF.sl;have e0:=hF.cur;have f1:=hF.live 1;have aX:0<=(k:Int):=by omega
  have te:=World.block_lt_of_cell? wr _ hF.cur;simp only at te;by_cases aS:k<n
  · have eO:k<its.length:=by rw[HN.out];exact aS
    obtain⟨g,rfl,g1,p0,p1,p2⟩:=HF.out.cells k eO;have nS:=F9.out.trans (hB.mono F9.out.size)
    have rI:∀i,wr.cell? ⟨g,i,none⟩=W.cell? ⟨g,i,none⟩:=fun i=>nS.cell (p:=⟨g,i,none⟩) g1;rw[<- rI] at p0 p1 p2;have iY:(k:Int)<(n:Int):=by omega
    have sh:(its.take k).length=k:=by simp;omega
    obtain⟨i1,DV⟩:∃x,its[k]!.id=x:=⟨_,rfl⟩
    obtain⟨w1,Ct⟩:∃x,its[k]!.w=x:=⟨_,rfl⟩
    obtain⟨l1,AE⟩:∃x,its[k]!.lag=x:=⟨_,rfl⟩
    rw[DV] at p0;rw[Ct] at p1;rw[AE] at p2;have eZ:its.take (k+1)=its.take k++[⟨i1,w1,l1⟩]:=by
     rw[List.take_succ_eq_append_getElem eO,<- DV,<- Ct,<- AE,getElem!_pos its k eO]
    have al:=hF.row;rw[sh] at al;have sK:∀j,vf.ownBlock=some j->V.heap.size+2<=j:=fun j hj=>(al.lt j hj).1;have Dq:=lH hF;have HB:=lH hB;have aA:=lH am;have Cz:=lH sh;have s8:=lH eZ;have rX:=lH sK;have eV:=lH g1;clear hF hB am nS rI eZ sh HR sK DV Ct AE g1;go_wp2_with fail
    have lD:OwR W.heap.size g k (V.heap.size+1) (.slice (some ⟨g,0,none⟩) n c) vf i1 w1 l1 wr.drew:=⟨c1,p0,p1,p2,e1⟩
    refine zK (S:=OwR W.heap.size g k (V.heap.size+1) (.slice (some ⟨g,0,none⟩) n c) vf i1 w1 l1) (T:=[24]) (by kernel_rfl) ?_;refine wT 0 ?_;refine wT 1 ?_;refine wT 2 ?_;refine wT 3 ?_;refine wT 4 ?_;refine wT 5 ?_;refine wT 6 ?_;refine wT 7 ?_;refine wT 8 ?_;refine wT 9 ?_;refine wT 10 ?_;refine wT 11 ?_;refine wT 12 ?_;refine wT 13 ?_;refine wT 14 ?_;refine wT 15 ?_;refine wT 16 ?_;refine wT 17 ?_;refine wT 18 ?_;refine wT 19 ?_;refine wT 20 ?_;simp only[Act.put,aP,List.set];refine ze (i:=21) (by kernel_rfl) rfl (by kernel_rfl) ?_;intro K hK;go_simp
    have aF:=lD.alloc (.cells #[I i1,I w1,I l1] 105);refine hK _ _ aF ?_;clear hK;refine ze (i:=22) (by kernel_rfl) rfl (by kernel_rfl) ?_;intro K hK;refine zz rfl _ _ _ rfl (V.heap.size+2) 105 i0 _ 3 24 Tryz.underlying64 hi eG aI et rfl (by omega) vf k (yG (its.take k)) rfl (World.ownsRow.alloc (w:=wr.drew) al _) (some ⟨wr.heap.size,0,none⟩) 1 1 [I i1,I w1,I l1] rfl (vL (w:=wr.drew) (cs:=#[I i1,I w1,I l1]) (by simp[Value.oneCell'])) (by unfold maxLen;omega) (by omega) (by simp;omega) (k+1) rfl _ rfl ?_;intro a2 q2 w2 eh aR nm;have aC:=aF.grown aR (fun e=>by have:=rX.out _ e;have:=A9.out;omega) (fun e=>by have:=rX.out _ e;have:=eV.out;have:=A9.out;omega) (fun e=>by have:=rX.out _ e;omega);refine hK _ _ aC ?_;have HFin:=lH (fk (it:=⟨i1,w1,l1⟩) Dq.out HB.out aA.out aR (by rw[Cz.out];exact eh));rw[<- s8.out] at HFin;have e1':=aC.2.2.2.2;have f1':w2.frozen? ⟨V.heap.size+1,1,none⟩=false:=(World.frozen?_of_block (a:=⟨V.heap.size+1,1,none⟩) ((aR.block (V.heap.size+1) (by show V.heap.size+1<(wr.alloc _).heap.size;rw[zR];exact Nat.lt_succ_of_lt te) (fun e=>by have:=rX.out _ e.symm;omega)).trans (Below.heap_alloc wr.drew _ _ te))).trans f1;clear hK eh aR nm lD aF;refine ze (i:=23) (by kernel_rfl) rfl (by kernel_rfl) ?_;intro K hK;go_simp
    refine hK _ _ aC ?_;clear hK;refine zk (i:=24) (by kernel_rfl) rfl (by kernel_rfl) ?_;intro K hK;go_simp
    refine hK _ _ ?_;clear hK;refine zy (by kernel_rfl) ?_ _;clear aC e1' f1' c1 p0 p1 p2 e1 e0 f1 al;go_wp2_with fail
    go_roundw
    case rel=>exact⟨k+1,aS,by go_num,HFin⟩
    case measure=>simp[intOf];omega
  · obtain rfl:k=n:=by omega
    clear e1 e0 f1;have eZ:its.take k=its:=List.take_of_length_le (by rw[HN.out];exact Nat.le_refl _);rw[eZ] at hF;obtain⟨sa,sn,rfl,-⟩:=zH hF.row;have e0:=hF.cur;have e1:=hF.sl;have g0:wr.cell? ⟨V.heap.size,0,none⟩=some r0:=by simp only[World.cell?,am];rfl
    have g1:wr.cell? ⟨V.heap.size,1,none⟩=some r1:=by simp only[World.cell?,am];rfl
    have f0:wr.frozen? ⟨V.heap.size,0,none⟩=false:=by simp only[World.frozen?,am];simp
    have f1:wr.frozen? ⟨V.heap.size,1,none⟩=false:=by simp only[World.frozen?,am];simp
    rw[HN.out] at e1;have iG:Hid (((wr.setCell ⟨V.heap.size,0,none⟩ (I cur)).setCell ⟨V.heap.size,1,none⟩ (.slice sa k sn)).cell? ⟨V.heap.size,0,none⟩=some (I cur)):=
     lH (by rw[za _ (by simp)];exact World.cell?_setCell_same _ _ _ g0)
    have eV:Hid (((wr.setCell ⟨V.heap.size,0,none⟩ (I cur)).setCell ⟨V.heap.size,1,none⟩ (.slice sa k sn)).cell? ⟨V.heap.size,1,none⟩=some (.slice sa k sn)):=
     lH (World.cell?_setCell_same _ _ _ (by rw[za _ (by simp)];exact g1))
    have eJ:Hid (((wr.setCell ⟨V.heap.size,0,none⟩ (I cur)).setCell ⟨V.heap.size,1,none⟩ (.slice sa k sn)).ownsRow W.heap.size 105 3 (.slice sa k sn) its.length (yG its)):=by
     have hr:=hF.row;rw[HN.out] at hr;rw[HN.out];refine lH (zM (zb hr (fun j hj=>?_)) (by have:=A9.out;omega));have:=(hr.lt j hj).1;rw[Below.heap_setCell _ _ _ _ (by simp;omega),Below.heap_setCell _ _ _ _ (by simp;omega)]
    have HB:=lH (F9.out.trans (hB.mono F9.out.size));have OG:=lH F9.out.size;clear hF hB am eZ HR;go_wp2
    exact bodyPost_ret (v:=.agg #[I cur,.slice sa k sn]) (by simp[results,Tryz.results18,go_sem,iG.out,eV.out]) rfl ⟨_,rfl,eJ.out,(HB.out.setCell OG.out _).setCell OG.out _⟩
end
end Go.Proofs.YtoiajjobecinpaaGreat

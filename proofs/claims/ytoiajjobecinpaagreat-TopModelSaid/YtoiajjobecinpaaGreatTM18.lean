/- What a world does with an act: try, Do. load: who may be told, and who moves. What a world does with -/
import Derived.Test.YtoiajjobecinpaaGreatTM12
import Derived.Test.YtoiajjobecinpaaGreatTM15
set_option maxHeartbeats 4000000
set_option maxRecDepth 100000
namespace Go.Proofs.YtoiajjobecinpaaGreat
open Go.RowKit Go.Shelf Go.Lib Go.Proofs
set_option linter.unusedVariables false
set_option linter.unusedSimpArgs false
section
attribute [local go_sem] Oper.semAt_some
def ud (W:World) (op a b c n m:Int) (bl:Value):World:=(W.alloc (.cells #[I op,I a,I b,I c,I n,I m,bl] 35)).alloc (.cells #[I 0,I 0] 37)
def DoP (B:Nat) (R:Int->Int->World->Prop) (e:Ending) (w':World):Prop:=
 ∃(x y:Int) (w1:World),R x y w1/\e=.returned (.agg #[I (if y=0 then x else 0),I y])/\Touch (fun k=>k=B+1) w1 w'
theorem Yh (B:Nat) (w1:World) (x y:Int) (h:w1.heap[B+1]? = some (.cells #[I 0,I 0] 37 (0,0))) :
 w1.cell? ⟨B+1,0,none⟩=some (I 0)/\w1.cell? ⟨B+1,1,none⟩=some (I 0)/\(∀i,w1.frozen? ⟨B+1,i,none⟩=false) /\
 ((w1.setCell ⟨B+1,0,none⟩ (I x)).setCell ⟨B+1,1,none⟩ (I y)).cell? ⟨B+1,0,none⟩=some (I x)/\((w1.setCell ⟨B+1,0,none⟩ (I x)).setCell ⟨B+1,1,none⟩ (I y)).cell? ⟨B+1,1,none⟩=some (I y):=by
 have a0:w1.cell? ⟨B+1,0,none⟩=some (I 0):=by simp only[World.cell?,h];rfl
 have a1:w1.cell? ⟨B+1,1,none⟩=some (I 0):=by simp only[World.cell?,h];rfl
 refine⟨a0,a1,fun i=>by simp only[World.frozen?,h];simp,?_,?_⟩
 · rw[za _ (by simp)];exact World.cell?_setCell_same _ _ _ a0
 · exact World.cell?_setCell_same _ _ _ (by rw[za _ (by simp)];exact a1)
theorem XT (W:World) (ob:Nat) (op a b c n m:Int) (bl:Value) (R:Int->Int->World->Prop) (nN:¬(13<=op/\op<=16))
 (af:Calls Tryz.prog 28 #[.pointer (some ⟨ob,0,none⟩),yo op a b c n m bl] (ud W op a b c n m bl) (Two fun x y w'=>R x y w'/\w'.heap[W.heap.size+1]? = some (.cells #[I 0,I 0] 37 (0,0)))) :
 Calls Tryz.prog 13 #[.pointer (some ⟨ob,0,none⟩),yo op a b c n m bl] W (DoP W.heap.size R):=by
 unfold ud yo at af;unfold yo;go_enter Tryz.func13,Tryz.ntmps13;have FL:op<13\/16<op:=by omega
 rcases FL with FL | FL;all_goals
  clear nN;go_wp2_with fail
  refine af.mono ?_;rintro e w1 ⟨x,y,rfl,hr,hb⟩;obtain⟨c0,c1,cf,-,-⟩:=Yh _ w1 (if y=0 then x else 0) y hb;by_cases hy:y=0
  · subst hy;obtain⟨-,-,-,g0,g1'⟩:=Yh _ w1 x 0 hb;have iG:=lH g0;have eV:=lH g1';have HR:=lH hr;have cf0:=cf 0;have cf1:=cf 1;clear g0 g1' hb hr cf;go_wp2_with fail
    exact bodyPost_ret (v:=.agg #[I x,I 0]) (by simp[results,Tryz.results13,go_sem,iG.out,eV.out]) rfl ⟨x,0,w1,HR.out,rfl,(zG _ _ _ _).self (zG _ _ _ _)⟩
  · obtain⟨-,-,-,g0,g1'⟩:=Yh _ w1 0 y hb;have iG:=lH g0;have eV:=lH g1';have HR:=lH hr;have HY:=lH hy;have cf0:=cf 0;have cf1:=cf 1;clear g0 g1' hb hr cf;go_wp2_with fail
    exact bodyPost_ret (v:=.agg #[I 0,I y]) (by simp[results,Tryz.results13,go_sem,iG.out,eV.out]) rfl ⟨x,y,w1,HR.out,by rw[if_neg HY.out],(zG _ _ _ _).self (zG _ _ _ _)⟩
structure Lt where
 id:Int
 w:Int
 core:Int
 mask:Int
instance:Inhabited Lt:=⟨⟨0,0,0,0⟩⟩
def vV (W:World) (g:Nat) (l:List Lt):Prop:=∀k,k<l.length->W.cell? ⟨g,k*4,none⟩=some (I l[k]!.id)/\W.cell? ⟨g,k*4+1,none⟩=some (I l[k]!.w)/\W.cell? ⟨g,k*4+2,none⟩=some (I l[k]!.core)/\W.cell? ⟨g,k*4+3,none⟩=some (.int .u16 l[k]!.mask)
theorem vV.below {W W':World} {g:Nat} {l:List Lt} (h:vV W g l) (hb:Below W.heap.size W W') (hg:g<W.heap.size):vV W' g l:=fun k hk=>by
 have e:=hb.block g hg;obtain⟨h1,h2,h3,h4⟩:=h k hk;exact⟨(World.cell?_of_block e).trans h1,(World.cell?_of_block e).trans h2,(World.cell?_of_block e).trans h3,(World.cell?_of_block e).trans h4⟩
theorem Jf (g c N gl cl M:Nat) (p:Option Addr) (xs:List Int) (l:List Lt) (W:World) (hN:xs.length=N) (hM:l.length=M) (hx:∀i,i<N->W.cell? ⟨g,i,none⟩=some (I (xs.getD i 0))) (i7:∀i,i<N->0<=xs.getD i 0/\xs.getD i 0<=1099511627776)
 (hl:vV W gl l) (mC:∀k,k<M->1<=l[k]!.w/\l[k]!.w<=20/\0<=l[k]!.core/\l[k]!.core<N) (h1:N<1000000) (h2:M<1000000) (hg:0<M->p=some ⟨gl,0,none⟩/\gl<W.heap.size) :
 Calls Tryz.prog 161 #[.slice (some ⟨g,0,none⟩) N c,.slice p M cl] W fun e w'=>e=.returned (.bool true)/\Below W.heap.size W w':=by
 have HX:=lH hx;have oQ:=lH i7;have HL:=lH hl;have px:=lH mC;have HN:=lH hN;have HM:=lH hM;have HG:=lH hg;clear hx i7 hl mC hN hM hg;go_enter Tryz.func161,Tryz.ntmps161;go_wp2_with fail
 go_loop [11] (fun x=>∃k:Nat,k<=N/\x=I (k:Int)) (fun i=>N-(intOf i).toNat)
 case atStart=>exact⟨0,by omega,rfl⟩
 case round=>
  obtain⟨k,hk,rfl⟩:=hrel;by_cases aS:k<N
  · have c1:=HX.out k (by omega);have c2:=oQ.out k (by omega);generalize xs.getD k 0=y at c1 c2;obtain⟨y1,y2⟩:=c2;have k1:(k:Int)<(N:Int):=by omega
    have k0:0<=(k:Int):=by omega
    go_wp2_with fail
    go_round
    case rel=>exact⟨k+1,by omega,by go_num⟩
    case measure=>simp[intOf];omega
  · obtain rfl:k=N:=by omega
    go_wp2_with fail
    go_loopw [24] (fun x wr=>∃q:Nat,q<=M/\x=I (q:Int)/\Hid (Below W.heap.size W wr)) (fun i _=>M-(intOf i).toNat)
    case atStart=>exact⟨0,by omega,rfl,lH (Below.refl _ _)⟩
    case round=>
     obtain⟨q,hq,rfl,HB⟩:=hrel;by_cases oy:q<M
     · obtain⟨hp,hg⟩:=HG.out (by omega);subst hp;obtain⟨a0,a1,a2,a3⟩:=(HL.out.below HB.out hg) q (by rw[HM.out];exact oy);obtain⟨b1,b2,b3,b4⟩:=px.out q oy;generalize l[q]!.id=z0 at a0;generalize l[q]!.w=z1 at a1 b1 b2;generalize l[q]!.core=z2 at a2 b3 b4;generalize l[q]!.mask=z3 at a3;have k1:(q:Int)<(M:Int):=by omega
       have k0:0<=(q:Int):=by omega
       have n1:¬z1<1:=by omega
       have n2:¬20<z1:=by omega
       have n3:¬z2<0:=by omega
       have n4:¬(k:Int)<=z2:=by omega
       have oH:=HB.out.size;go_wp2_with fail
       go_roundw
       case rel=>exact⟨q+1,by omega,by go_num,lH (HB.out.alloc oH _)⟩
       case measure=>simp[intOf];omega
     · obtain rfl:q=M:=by omega
       go_wp2_with fail
       go_ret
       exact⟨rfl,HB.out⟩
def xF (m:Int) (c:Nat):Int:=bits .andNot .u16 m (2 ^ c)
def ug (xs:List Int) (l:List Lt) (fr:Int) (a:Int×Int×Bool) (k:Nat):Int×Int×Bool:=
 if l[k]!.core=fr/\(zD xs (xF l[k]!.mask l[k]!.core.toNat)).2=true/\xs.getD (zD xs (xF l[k]!.mask l[k]!.core.toNat)).1.toNat 0+l[k]!.w<xs.getD fr.toNat 0/\(a.2.2=false\/l[a.1.toNat]!.w<l[k]!.w)
 then((k:Int),(zD xs (xF l[k]!.mask l[k]!.core.toNat)).1,true) else a
def yT (xs:List Int) (l:List Lt) (fr:Int):Nat->Int×Int×Bool
 | 0=>(0,0,false)
 | k+1=>ug xs l fr (yT xs l fr k) k
theorem jg (xs:List Int) (l:List Lt) (fr:Int):∀k,(yT xs l fr k).2.2=true->0<=(yT xs l fr k).1/\(yT xs l fr k).1<k
 | 0,h=>by cases h
 | k+1,h=>by
  have ih:=jg xs l fr k;unfold yT at h⊢;unfold ug at h⊢;split
  · simp only;omega
  · rename_i hn;rw[if_neg hn] at h;have:=ih h;omega
theorem dw (m:Int) (c:Nat) (hm:0<=m/\m<65536):0<=xF m c/\xF m c<65536:=by
 have hw:∀n,IntKind.u16.wrap n=n%65536:=fun n=>by simp[IntKind.wrap,IntKind.bits,IntKind.signed]
 unfold xF bits;simp only[hw];omega
theorem dI (xs:List Int):∀k,k<xs.length->∃j,j<=k/\xs.getD j 0=wu xs k
 | 0,h=>⟨0,Nat.le_refl _,rfl⟩
 | k+1,h=>by
  obtain⟨j,hj,e⟩:=dI xs k (by omega);by_cases hm:wu xs k<=xs.getD (k+1) 0
  · exact⟨k+1,Nat.le_refl _,by show _=max _ _;rw[Int.max_def,if_pos hm]⟩
  · exact⟨j,by omega,by show _=max _ _;rw[Int.max_def,if_neg hm];exact e⟩
theorem bU (xs:List Int) (h:1<=xs.length):0<=xm xs/\xm xs<xs.length:=by
 obtain⟨j,hj,e⟩:=dI xs (xs.length-1) (by omega);unfold xm cE;cases hf:xs.findIdx? (fun x=>x==wu xs (xs.length-1)) with
 | some i=>
  have:=(List.findIdx?_eq_some_iff_findIdx_eq.1 hf).1;simp only;omega
 | none=>
  have:=List.findIdx?_eq_none_iff.1 hf (xs.getD j 0) (by rw[List.getD_eq_getElem?_getD,List.getElem?_eq_getElem (by omega)];exact List.getElem_mem _);rw[e] at this;simp at this
theorem Ws (g c N gl cl M:Nat) (p:Option Addr) (xs:List Int) (l:List Lt) (W:World) (hN:xs.length=N) (hM:l.length=M) (hx:∀i,i<N->W.cell? ⟨g,i,none⟩=some (I (xs.getD i 0))) (i7:∀i,i<N->0<=xs.getD i 0/\xs.getD i 0<=1099511627776)
 (hl:vV W gl l) (mC:∀k,k<M->1<=l[k]!.w/\l[k]!.w<=20/\0<=l[k]!.core/\l[k]!.core<N) (BJ:∀k,k<M->0<=l[k]!.mask/\l[k]!.mask<65536) (h0:1<=N) (h1:N<=16) (h2:M<1000000) (hg:0<M->p=some ⟨gl,0,none⟩/\gl<W.heap.size) (tE:g<W.heap.size) :
 Calls Tryz.prog 162 #[.slice (some ⟨g,0,none⟩) N c,.slice p M cl] W fun e w'=>e=.returned (.tuple #[I (yT xs l (xm xs) M).1,I (yT xs l (xm xs) M).2.1,.bool (yT xs l (xm xs) M).2.2])/\Below W.heap.size W w':=by
 have pe:=UB g c N xs W hN h0 hx (by omega);have i8:=bU xs (by omega);rw[hN] at i8;obtain⟨fr,mj⟩:=Int.eq_ofNat_of_zero_le i8.1;rw[mj] at pe i8⊢;have HX:=lH hx;have oQ:=lH i7;have HL:=lH hl;have px:=lH mC;have Mp:=lH BJ;have HN:=lH hN;have HM:=lH hM;have L3:=lH i8;have HG:=lH hg;clear hg hx i7 hl mC BJ hN hM mj i8;go_enter Tryz.func162,Tryz.ntmps162;go_wp2_with fail
 refine pe.mono ?_;rintro e w' ⟨rfl,rfl⟩;clear pe;go_wp2_with fail
 go_loopw [4,5,6,22] (fun x4 x5 x6 x wr=>∃(k:Nat) (at1 to1:Int) (ok:Bool),k<=M/\x=I (k:Int)/\x4=I at1/\x5=I to1/\x6=.bool ok/\Hid (yT xs l fr k=(at1,to1,ok))/\Hid (Below W.heap.size W wr)) (fun _ _ _ i _=>M-(intOf i).toNat)
 case atStart=>exact⟨0,0,0,false,by omega,rfl,rfl,rfl,rfl,lH rfl,lH (Below.refl _ _)⟩
 case round=>
  obtain⟨k,at1,to1,ok,hk,rfl,rfl,rfl,rfl,A2,HB⟩:=hrel;by_cases rq:k<M
  · obtain⟨hp,hg⟩:=HG.out (by omega);subst hp;have ae:=(HL.out.below HB.out hg)
    obtain⟨a0,a1,a2,a3⟩:=ae k (by rw[HM.out];exact rq);obtain⟨b1,b2,b3,b4⟩:=px.out k rq;have lA:=Mp.out k rq;have sx:=jg xs l fr k;have iB:yT xs l fr (k+1)=ug xs l fr (yT xs l fr k) k:=rfl;have pR:=A2.out;rw[pR] at iB sx;simp only at sx;unfold ug at iB;simp only at iB;obtain⟨cn,Ae⟩:=Int.eq_ofNat_of_zero_le b3;have Ij:cn<16:=by omega
    have nW:l[k]!.core.toNat=cn:=by omega
    rw[nW] at iB;have pD:=dw l[k]!.mask cn lA;have oJ:=uZ (loads:=xs) (zV (xF l[k]!.mask cn)) (0,false) (by simp);have lI:zD xs (xF l[k]!.mask cn)=(zV (xF l[k]!.mask cn)).foldl (zZ xs) (0,false):=rfl;rw[<- lI] at oJ;have ax:=fun W' h'=>fd g c xs (xF l[k]!.mask cn) W' pD (by rw[HN.out];exact h1) h';rw[HN.out] at ax oJ;obtain⟨⟨r1,r2⟩,hr⟩:∃r,zD xs (xF l[k]!.mask cn)=r:=⟨_,rfl⟩
    rw[hr] at iB oJ ax;simp only at iB oJ ax;have oH:=HB.out.size;have p9:∀i,i<N->wr.cell? ⟨g,i,none⟩=some (I (xs.getD i 0)):=fun i hi=>(HB.out.cell (p:=⟨g,i,none⟩) tE).trans (HX.out i hi)
    have R8:=lH p9;have Lc:=lH ae;have iD:=lH iB;have ou:=lH sx;have Ml:=lH oJ;have TD:=lH Ae;rw[Ae] at a2;obtain⟨z0,eG⟩:∃x,l[k]!.id=x:=⟨_,rfl⟩
    obtain⟨z1,aI⟩:∃x,l[k]!.w=x:=⟨_,rfl⟩
    obtain⟨z3,lE⟩:∃x,l[k]!.mask=x:=⟨_,rfl⟩
    rw[eG] at a0;rw[aI] at a1 b1 b2;rw[lE] at a3 ax;rw[aI,Ae] at iD;clear lA iB sx pR nW pD oJ lI hr ae p9 Ae b3 b4 eG aI lE;have k1:(k:Int)<(M:Int):=by omega
    have k0:0<=(k:Int):=by omega
    have O0:Hid (∀W',(∀i,i<N->W'.cell? ⟨g,i,none⟩=some (I (xs.getD i 0)))->Calls Tryz.prog 150 #[.slice (some ⟨g,0,none⟩) N c,.int .u16 (bits .andNot .u16 z3 (2 ^ cn))] W' fun e w'=>e=.returned (.tuple #[I r1,.bool r2])/\Below W'.heap.size W' w'):=lH ax;clear ax;go_wp2_with fail
    obtain⟨W0,CO⟩:∃x,wr.alloc (.cells #[I z0,I z1,I cn,.int .u16 z3] 207)=x:=⟨_,rfl⟩
    have si:=heap_alloc_new wr (.cells #[I z0,I z1,I cn,.int .u16 z3] 207);have en:Below wr.heap.size wr (wr.alloc (.cells #[I z0,I z1,I cn,.int .u16 z3] 207)):=(Below.refl _ wr).alloc (Nat.le_refl _) _;have LT:(wr.alloc (.cells #[I z0,I z1,I cn,.int .u16 z3] 207)).heap.size=wr.heap.size+1:=by simp
    rw[CO] at si en LT⊢;have d1:W0.cell? ⟨wr.heap.size,1,none⟩=some (I z1):=by simp[World.cell?,si]
    have d2:W0.cell? ⟨wr.heap.size,2,none⟩=some (I cn):=by simp[World.cell?,si]
    have d3:W0.cell? ⟨wr.heap.size,3,none⟩=some (.int .u16 z3):=by simp[World.cell?,si]
    clear CO si a0 a1 a2 a3;obtain⟨e8,-⟩:=zv W0 (I cn) 3;have sQ:Below wr.heap.size wr (W0.alloc (.cells #[I cn] 3)).drew:=(en.alloc (by omega) _).drew;have Eu:(W0.alloc (.cells #[I cn] 3)).drew.heap.size=wr.heap.size+1+1:=by show(W0.alloc _).heap.size=_;simp;omega
    rw[LT] at e8;have ny:(W0.alloc (.cells #[I cn] 3)).drew.cell? ⟨wr.heap.size,3,none⟩=some (.int .u16 z3)/\(W0.alloc (.cells #[I cn] 3)).drew.cell? ⟨wr.heap.size,2,none⟩=some (I cn):=⟨c2a _ d3,c2a _ d2⟩
    have Pq:(W0.alloc (.cells #[I cn] 3)).drew.cell? ⟨wr.heap.size,1,none⟩=some (I z1):=c2a _ d1;have Hf:=Kq (wr.heap.size+1) 1 cn (W0.alloc (.cells #[I cn] 3)).drew Ij e8;have CH:=O0.out (W0.alloc (.cells #[I cn] 3)).drew (fun i hi=>(sQ.cell (p:=⟨g,i,none⟩) (by show g<wr.heap.size;omega)).trans (R8.out i hi));clear O0 e8;go_region_held3 (fun W2=>W2.cell? ⟨wr.heap.size,3,none⟩=some (.int .u16 z3)/\W2.cell? ⟨wr.heap.size,2,none⟩=some (I cn)) (first | exact⟨d3,d2⟩ | exact ny | exact eo) (first | (go_at_call 184;refine Hf.mono ?_;rintro e w8 ⟨rfl,rfl⟩) | (go_at_call 150;refine CH.mono ?_;rintro e w9 ⟨rfl,eQ⟩;have eo:=And.intro ((eQ.cell (p:=⟨wr.heap.size,3,none⟩) (by show wr.heap.size<_;omega)).trans ny.1) ((eQ.cell (p:=⟨wr.heap.size,2,none⟩) (by show wr.heap.size<_;omega)).trans ny.2)) | fail)
    have nw:Below W.heap.size W w9:=HB.out.trans ((sQ.trans (eQ.mono sQ.size)).mono oH)
    have LK:=(eQ.cell (p:=⟨wr.heap.size,1,none⟩) (by show wr.heap.size<_;omega)).trans Pq;have Cu:∀i,i<N->w9.cell? ⟨g,i,none⟩=some (I (xs.getD i 0)):=fun i hi=>(nw.cell (p:=⟨g,i,none⟩) tE).trans (HX.out i hi)
    have AF:=HL.out.below nw hg;have rz:=lH nw;have d9:=eo.2;have Bz:fr<N:=by have:=L3.out.2;omega
    have cfr:=Cu fr Bz;have bfr:=oQ.out fr Bz;obtain⟨yf,F4⟩:∃y,xs.getD fr 0=y:=⟨_,rfl⟩
    rw[F4] at cfr bfr;have B7:xs.getD (fr:Int).toNat 0=yf:=F4;rw[B7] at iD;have CU:(fr:Int)<(N:Int):=by omega
    have Nj:0<=(fr:Int):=by omega
    clear eQ nw ny Pq Hf CH eo d1 d2 d3 F4 B7 sQ Eu en LT;by_cases rk:(cn:Int)=(fr:Int)
    · cases r2 with
      | false=>
       clear Cu AF;have aA:Hid (yT xs l fr (k+1)=(at1,to1,ok)):=lH (iD.out.trans (if_neg (fun h=>by cases h.2.1)));clear iD;go_wp2_with fail
       go_quiet (fail)
       go_wp2_with fail
       go_roundw
       case rel=>exact⟨k+1,at1,to1,ok,by omega,by go_num,rfl,rfl,rfl,aA,lH (rz.out.trans (zm _ w9 _))⟩
       case measure=>simp[intOf];omega
      | true=>
       obtain⟨l1,l2⟩:=Ml.out rfl;obtain⟨rn,N0⟩:=Int.eq_ofNat_of_zero_le l1;subst N0;have I8:rn<N:=by omega
       have cr:=Cu rn I8;have br:=oQ.out rn I8;obtain⟨yr,F5⟩:∃y,xs.getD rn 0=y:=⟨_,rfl⟩
       rw[F5] at cr br;have Ca:xs.getD (rn:Int).toNat 0=yr:=F5;rw[Ca] at iD;have LS:(rn:Int)<(N:Int):=by omega
       clear F5 Ca Cu;by_cases ah:yr+z1<yf
       · cases ok with
         | false=>
          clear AF;have aA:Hid (yT xs l fr (k+1)=((k:Int),(rn:Int),true)):=lH (iD.out.trans (if_pos ⟨rk,rfl,ah,.inl rfl⟩));clear iD;go_wp2_with fail
          go_quiet (fail)
          go_wp2_with fail
          go_roundw
          case rel=>exact⟨k+1,(k:Int),(rn:Int),true,by omega,by go_num,rfl,rfl,rfl,aA,lH (rz.out.trans (zm _ w9 _))⟩
          case measure=>simp[intOf];omega
         | true=>
          obtain⟨t1,t2⟩:=ou.out rfl;obtain⟨an,Fc⟩:=Int.eq_ofNat_of_zero_le t1;subst Fc;obtain⟨-,ca,-,-⟩:=AF an (by rw[HM.out];omega);obtain⟨wa,FZ⟩:∃x,l[an]!.w=x:=⟨_,rfl⟩
          rw[FZ] at ca;have B6:l[(an:Int).toNat]!.w=wa:=FZ;rw[B6] at iD;have SB:(an:Int)<(M:Int):=by omega
          clear AF FZ B6;by_cases Fw:wa<z1
          · have aA:Hid (yT xs l fr (k+1)=((k:Int),(rn:Int),true)):=lH (iD.out.trans (if_pos ⟨rk,rfl,ah,.inr Fw⟩));clear iD;go_wp2_with fail
            go_quiet (fail)
            go_wp2_with fail
            go_roundw
            case rel=>exact⟨k+1,(k:Int),(rn:Int),true,by omega,by go_num,rfl,rfl,rfl,aA,lH (rz.out.trans (zm _ w9 _))⟩
            case measure=>simp[intOf];omega
          · have aA:Hid (yT xs l fr (k+1)=((an:Int),to1,true)):=lH (iD.out.trans (if_neg (fun h=>h.2.2.2.elim (fun h=>by cases h) Fw)));clear iD;go_wp2_with fail
            go_quiet (fail)
            go_wp2_with fail
            go_roundw
            case rel=>exact⟨k+1,(an:Int),to1,true,by omega,by go_num,rfl,rfl,rfl,aA,lH (rz.out.trans (zm _ w9 _))⟩
            case measure=>simp[intOf];omega
       · clear AF;have nG:decide (yr+z1<yf)=false:=decide_eq_false ah;have IG:yf<=yr+z1:=by omega
         have aA:Hid (yT xs l fr (k+1)=(at1,to1,ok)):=lH (iD.out.trans (if_neg (fun h=>ah h.2.2.1)));clear iD;go_wp2_with fail
         go_quiet (fail)
         go_wp2_with fail
         go_roundw
         case rel=>exact⟨k+1,at1,to1,ok,by omega,by go_num,rfl,rfl,rfl,aA,lH (rz.out.trans (zm _ w9 _))⟩
         case measure=>simp[intOf];omega
    · clear Cu AF;have If:((cn:Int)==(fr:Int))=false:=by simpa using rk
      have SD:decide ((cn:Int)=(fr:Int))=false:=decide_eq_false rk;have aA:Hid (yT xs l fr (k+1)=(at1,to1,ok)):=lH (iD.out.trans (if_neg (fun h=>rk h.1)));clear iD;go_wp2_with fail
      go_quiet (fail)
      go_wp2_with fail
      go_roundw
      case rel=>exact⟨k+1,at1,to1,ok,by omega,by go_num,rfl,rfl,rfl,aA,lH (rz.out.trans (zm _ w9 _))⟩
      case measure=>simp[intOf];omega
  · obtain rfl:k=M:=by omega
    go_wp2_with fail
    go_ret3
    rw[A2.out];exact⟨rfl,HB.out⟩
def JC (R:Int->Bool->World->Prop) (e:Ending) (w':World):Prop:=∃(x:Int) (y:Bool),e=.returned (.tuple #[I x,.bool y])/\R x y w'
theorem Z6 (W:World) (ob sb:Nat) (wv:Value) (a b c n m:Int) (bl:Value) (R:Int->Bool->World->Prop) (h0:W.cell? ⟨ob,0,none⟩=some (.pointer (some ⟨sb,0,none⟩))) (h1:W.cell? ⟨ob,1,none⟩=some wv)
 (af:Calls Tryz.prog 57 #[.pointer (some ⟨sb,0,none⟩)] (W.alloc (.cells #[I 12,I a,I b,I c,I n,I m,bl] 35)) (JC R)) :
 Calls Tryz.prog 28 #[.pointer (some ⟨ob,0,none⟩),yo 12 a b c n m bl] W (Two fun x y w'=>y=0/\∃x0 ok,x=(if ok=true then x0 else -1)/\R x0 ok w'):=by
 unfold yo;have hS:=y7 h0 h1 12 a b c n m bl;obtain⟨⟨s0,-⟩,s1,-⟩:=hS;go_enter Tryz.func28,Tryz.ntmps28;go_wp2_with fail
 refine af.mono ?_;rintro e w9 ⟨x9,y9,rfl,nP⟩;have HR:=lH nP;clear nP;cases y9 with
 | true=>
  go_wp2_with fail
  go_ret2
  exact⟨_,_,rfl,rfl,x9,true,rfl,HR.out⟩
 | false=>
  go_wp2_with fail
  go_ret2
  exact⟨_,_,rfl,rfl,x9,false,rfl,HR.out⟩
theorem Z5 (W:World) (ob sb:Nat) (wv:Value) (op a b c n m:Int) (bl:Value) (R:Int->Int->World->Prop) (nN:op<1\/12<op) (h0:W.cell? ⟨ob,0,none⟩=some (.pointer (some ⟨sb,0,none⟩))) (h1:W.cell? ⟨ob,1,none⟩=some wv)
 (hr:R 0 1 (W.alloc (.cells #[I op,I a,I b,I c,I n,I m,bl] 35))) :
 Calls Tryz.prog 28 #[.pointer (some ⟨ob,0,none⟩),yo op a b c n m bl] W (Two R):=by
 unfold yo;have hS:=y7 h0 h1 op a b c n m bl;have HR:=lH hr;obtain⟨⟨s0,-⟩,s1,-⟩:=hS;have e1:op≠1:=by omega
 have e2:op≠2:=by omega
 have e3:op≠3:=by omega
 have e4:op≠4:=by omega
 have e5:op≠5:=by omega
 have e6:op≠6:=by omega
 have e7:op≠7:=by omega
 have e8:op≠8:=by omega
 have e9:op≠9:=by omega
 have e10:op≠10:=by omega
 have e11:op≠11:=by omega
 have e12:op≠12:=by omega
 clear nN hr;go_enter Tryz.func28,Tryz.ntmps28;go_wp2_with fail
 go_ret2
 exact⟨0,1,rfl,HR.out⟩
end
end Go.Proofs.YtoiajjobecinpaaGreat

/- The document's own system: Loads, byID. The document's own system: enter. The document's own system: -/
import Derived.Test.YtoiajjobecinpaaGreatTM31
import Derived.Test.YtoiajjobecinpaaGreatTM32
set_option maxHeartbeats 4000000
set_option maxRecDepth 100000
namespace Go.Proofs.YtoiajjobecinpaaGreat
open Go.RowKit Go.Shelf Go.Lib Go.Proofs
set_option linter.unusedVariables false
set_option linter.unusedSimpArgs false
section
attribute [local go_sem] Oper.semAt_some
def zE (r:RSy):List Int:=r.cores.map fun c=>xK c.2.ps
theorem Z3 (l:Ln):vn (zw l)=xK l.ps:=by
 unfold vn xK zw;have gen:∀(ps:List Pt) (z:Int),(ps.map (itP l.base)).foldl (fun s x=>s+x.w) z=z+(ps.map (·.w)).sum:=by
  intro ps;induction ps with
  | nil=>intro z;simp
  | cons p ps ih=>
   intro z;rw[List.map_cons,List.foldl_cons,ih,List.map_cons,List.sum_cons];show z+p.w+_=_;omega
 rw[gen];omega
theorem Rel.loads {s:Sy} {r:RSy} (h:Rel s r):zE r=zj s:=by
 unfold zE zj;rw[h.cores,List.map_map];congr 1
 funext c
 exact(Z3 c.l).symm
theorem RAt.coreCell {W:World} {rb:Nat} {B:RBk} {own:Nat->Option ROwn} {r:RSy} (h:RAt W rb B own r):∃a c,B.crv=.slice a r.cores.length c/\∀k,k<r.cores.length->∃g,a=some ⟨g,0,none⟩/\g<W.heap.size/\own g=some .crow/\W.cell? ⟨g,k,none⟩=some (.pointer (some ⟨B.qbs[k]!,0,none⟩)):=by
 obtain⟨a,c,hv,hr⟩:=zH h.crow;rw[h.nq] at hv;refine⟨a,c,hv,fun k hk=>?_⟩;obtain⟨g,hg,-,g2,hc⟩:=hr k _ (Zi B.qbs k (by rw[h.nq];exact hk));subst hg;exact⟨g,rfl,g2,h.ocrow g (by rw[hv];rfl),hc⟩
def VH (W:World) (ls:List Int) (k:Nat) (v:Value) (wr:World):Prop:=
 wr.ownsRow W.heap.size 2 1 v k ((ls.take k).map fun x=>I x)/\Below W.heap.size W wr
theorem uJ (rb:Nat) (B:RBk) (own:Nat->Option ROwn) (r:RSy) (W:World) (h:RAt W rb B own r) (aT:r.cores.length<=16) (hw:∀c∈r.cores,c.2.ps.length<=64/\∀p∈c.2.ps,0<=p.w/\p.w<=20) :
 Calls Tryz.prog 71 #[.pointer (some ⟨rb,0,none⟩)] W fun e w'=>∃v,e=.returned v/\w'.ownsRow W.heap.size 2 1 v (zE r).length ((zE r).map fun x=>I x)/\Below W.heap.size W w':=by
 obtain⟨i0,hi,eG,aI,et⟩:=info_parts U1;have HI:Hid (VH W (zE r) 0 (.slice none 0 0) W):=lH ⟨World.ownsRow_nil _ _ _ _,Below.refl _ _⟩;obtain⟨a,c,hv,ae⟩:=h.coreCell;have c0:=h.c0;rw[hv] at c0;have Ez:=lH c0;have Cg:=lH h;have Lb:=lH ae;have HW:=lH hw;obtain⟨N,hN⟩:∃N,r.cores.length=N:=⟨_,rfl⟩
 have HN:=lH hN;have ON:=lH (h.lt rb (by rw[h.osys];simp));rw[hN] at Ez aT;clear h ae hw hv c0 hN;go_enter Tryz.func71,Tryz.ntmps71;go_wp2_with fail
 go_loopw [3,4] (fun y x wr=>∃(k:Nat) (v:Value),k<=N/\x=I k/\y=v/\Hid (VH W (zE r) k v wr)) (fun _ x _=>N-(intOf x).toNat)
 case atStart=>exact⟨0,_,Nat.zero_le _,rfl,rfl,HI⟩
 case round=>
  obtain⟨k,v,hk,rfl,rfl,HP⟩:=hrel;obtain⟨hR,hB⟩:=HP.out;obtain⟨sa,sc,rfl,-⟩:=zH hR;have aX:0<=(k:Int):=by omega
  have c0:wr.cell? ⟨rb,0,none⟩=some (.slice a N c):=(hB.cell (p:=⟨rb,0,none⟩) ON.out).trans Ez.out;by_cases sU:k<N
  · have aw:(k:Int)<(N:Int):=by omega
    have sV:k<r.cores.length:=by rw[HN.out];exact sU
    obtain⟨g,rfl,g1,-,gc⟩:=Lb.out k sV;have rI:=(hB.cell (p:=⟨g,k,none⟩) g1).trans gc;obtain⟨l,hl⟩:∃l,r.cores[k]!.2=l:=⟨_,rfl⟩
    have hQ:=(Cg.out.below hB).q k sV;rw[hl] at hQ;generalize r.cores[k]!.1=tag at hQ;have HG:=lH (And.intro g1 gc);obtain⟨Hg,On⟩:=HW.out r.cores[k]! (by rw[getElem!_pos _ k sV];exact List.getElem_mem sV);rw[hl] at Hg On;have sP:=lH On;have tU:Hid ((zE r).take (k+1)=(zE r).take k++[xK l.ps]):=lH (by
     rw[List.take_succ_eq_append_getElem (show k<(zE r).length by unfold zE;rw[List.length_map];exact sV)];congr 2
     unfold zE;rw[List.getElem_map,<- hl,getElem!_pos _ k sV])
    generalize B.qbs[k]! = qb at rI hQ gc HG;generalize B.qv k=qv at hQ;have HQ:=lH hQ;have Mx:=HP;have HR:=lH hR;have HB:=lH hB;obtain⟨n,hn⟩:∃n,l.ps.length=n:=⟨_,rfl⟩
    have Mt:=lH hn;have MO:n<=64:=by omega
    clear hQ hl hR hB HP g1 gc hn Hg On rI;go_wp2_with fail
    clear c0;obtain⟨wA,Aj⟩:∃x,x=wr:=⟨_,rfl⟩
    rw[<- Aj] at HQ HR HB Mx⊢;clear Aj;go_loopw [5,6] (fun y x wr=>∃(j:Nat) (z:Int),j<=n/\x=I j/\y=I z/\Hid (z=xK (l.ps.take j))/\(0<=z/\z<=j*20)/\Hid (Below wA.heap.size wA wr)) (fun _ x _=>n-(intOf x).toNat)
    case atStart=>exact⟨0,0,Nat.zero_le _,rfl,rfl,lH rfl,by omega,lH (Below.refl _ _)⟩
    case round=>
     obtain⟨j,z,hj,rfl,rfl,HZ,⟨z1,z2⟩,Al⟩:=hrel;have oh:0<=(j:Int):=by omega
     have iW:=HB.out.trans (Al.out.mono HB.out.size)
     have c0:wr.cell? ⟨rb,0,none⟩=some (.slice (some ⟨g,0,none⟩) N c):=(iW.cell (p:=⟨rb,0,none⟩) ON.out).trans Ez.out;have rI:=(iW.cell (p:=⟨g,k,none⟩) HG.out.1).trans HG.out.2;have hQ:=HQ.out.below Al.out;obtain⟨qa,qc,GE,ae⟩:=hQ.get;have q3:=hQ.c3;rw[GE,Mt.out] at q3;by_cases mZ:j<n
     · have iK:(j:Int)<(n:Int):=by omega
       obtain⟨p,hp⟩:∃p,l.ps[j]? = some p:=⟨_,List.getElem?_eq_getElem (by rw[Mt.out];exact mZ)⟩
       obtain⟨qg,rfl,-,-,k1,-⟩:=ae j p hp;have aG:=jT l.ps j p hp;obtain⟨w1,w2⟩:=sP.out p (List.mem_of_getElem? hp);generalize p.w=pw at k1 aG w1 w2;have Ch:Hid (z+pw=xK (l.ps.take (j+1))):=lH (by rw[aG,HZ.out]);clear hQ GE ae iW hp aG;have kw:IntKind.i64.wrap (z+pw)=z+pw:=by rw[IntKind.wrap_i64];omega
       go_wp2_with fail
       go_roundw
       case rel=>exact⟨j+1,z+pw,by omega,by go_num,by go_num,Ch,by omega,Al⟩
       case measure=>simp[intOf];omega
     · obtain rfl:j=n:=by omega
       have HT:Hid (z=xK l.ps):=lH (by rw[HZ.out,List.take_of_length_le (by rw[Mt.out];exact Nat.le_refl _)]);have nL:=lH (zb HR.out (fun j hj=>Al.out.block j (HR.out.lt j hj).2));have rX:Hid (∀j,Value.ownBlock (.slice sa k sc)=some j->W.heap.size<=j):=lH (fun j hj=>(HR.out.lt j hj).1);have sO:Hid (W.heap.size<=wr.heap.size):=lH (Nat.le_trans HB.out.size Al.out.size);have nR:=lH iW;clear hQ GE ae iW;go_wp2_with (at_builtin;refine yK rfl _ _ _ rfl W.heap.size 2 i0 _ 1 8 Tryz.underlying42 hi eG aI et rfl (by decide) (.slice sa k sc) k _ rfl (nL.out.alloc _) (some ⟨wr.heap.size,0,none⟩) 1 1 [I z] rfl (vL (cs:=#[I z]) (by simp[Value.oneCell'])) (by unfold maxLen;omega) (by omega) (by have:=sO.out;simp;omega) (k+1) rfl _ rfl ?_;intro a2 q2 w2 eh aR nm)
       have ib:Below W.heap.size W w2:=(nR.out.alloc nR.out.size _).grown aR (by have:=nR.out.size;simp;omega) rX.out;have au:Hid (VH W (zE r) (k+1) (.slice a2 (k+1) q2) w2):=lH ⟨by rw[tU.out,List.map_append,<- HT.out];exact eh,ib⟩;clear eh aR nm ib;go_roundw
       case rel=>exact⟨k+1,_,sU,by go_num,rfl,au⟩
       case measure=>simp[intOf];omega
  · obtain rfl:k=N:=by omega
    have ag:(zE r).length=k:=by unfold zE;rw[List.length_map,HN.out]
    rw[List.take_of_length_le (by rw[ag];exact Nat.le_refl _)] at hR;have HR:=lH hR;have HB:=lH hB;have HL:=lH ag;clear hR hB HP ag;go_wp2_with fail
    go_ret
    exact⟨_,rfl,by rw[HL.out];exact HR.out,HB.out⟩
theorem X4:∀(ids:List Int) (i:Nat) (hi:i<ids.length),ids.Pairwise (fun a b=>a<b)->(ids.filter fun y=>decide (y<ids[i])).length=i
 | a::l,0,_,h=>by
  obtain⟨h1,-⟩:=List.pairwise_cons.1 h;rw[List.length_eq_zero_iff,List.filter_eq_nil_iff];intro x hx hh;have rp:=of_decide_eq_true hh;rcases List.mem_cons.1 hx with rfl | hx
  · simp at rp
  · have:=h1 x hx;simp at rp;omega
 | a::l,i+1,hi,h=>by
  obtain⟨h1,h2⟩:=List.pairwise_cons.1 h;have ih:=X4 l i (by simpa using hi) h2;have ah:a<l[i]'(by simpa using hi):=h1 _ (List.getElem_mem _);rw[List.getElem_cons_succ,List.filter_cons,if_pos (decide_eq_true ah),List.length_cons,ih]
def uW (ts:List Tk) (x:Int) (j:Nat):Nat:=((ts.take j).filter fun t=>decide (t.id<x)).length
theorem Yd {ts:List Tk} {x:Int} {j:Nat} {t:Tk} (h:ts[j]? = some t):uW ts x (j+1)=uW ts x j+(if t.id<x then 1 else 0):=by
 obtain⟨hj,rfl⟩:=List.getElem?_eq_some_iff.1 h;unfold uW;rw[List.take_succ_eq_append_getElem hj,List.filter_append,List.length_append,List.filter_cons];by_cases e:ts[j].id<x
 · rw[if_pos e,if_pos (decide_eq_true e)];rfl
 · rw[if_neg e,if_neg (by rw[decide_eq_false e];decide)];rfl
theorem XR {ts:List Tk} {ids:List Int} {x:Int} (hp:ids.Perm (ts.map (·.id))):uW ts x ts.length=(ids.filter fun y=>decide (y<x)).length:=by
 unfold uW;rw[List.take_length,(hp.filter _).length_eq,List.filter_map,List.length_map];rfl
theorem Ue (ts:List Tk) (x:Int) (j:Nat):uW ts x j<=j:=by
 unfold uW;exact Nat.le_trans (List.length_filter_le _ _) (by rw[List.length_take];omega)
theorem qE (rb:Nat) (B:RBk) (own:Nat->Option ROwn) (r:RSy) (ids:List Int) (i:Nat) (hi:i<ids.length) (W:World) (h:RAt W rb B own r) (aT:r.ts.length<=64) (hp:ids.Perm (r.ts.map (·.id))) (hs:ids.Pairwise fun a b=>a<b) :
 Calls Tryz.prog 81 #[.pointer (some ⟨rb,0,none⟩),I i] W fun e w'=>e=.returned (I (xr r.ts ids[i]))/\Below W.heap.size W w':=by
 obtain⟨a,c,hv,ae⟩:=h.tasks;have c3:=h.c1;rw[hv] at c3;obtain⟨N,hN⟩:∃N,r.ts.length=N:=⟨_,rfl⟩
 obtain⟨X,hX⟩:∃X,ids[i]=X:=⟨_,rfl⟩
 have De:∀k (hk:k<r.ts.length),uW r.ts r.ts[k].id r.ts.length=i↔r.ts[k].id=X:=fun k hk=>by
  rw[XR hp];have aN:r.ts[k].id∈ids:=hp.mem_iff.2 (List.mem_map_of_mem (List.getElem_mem hk));obtain⟨j,hj,GC⟩:=List.mem_iff_getElem.1 aN;rw[<- GC,X4 ids j hj hs,<- hX];constructor
  · rintro rfl;rfl
  · intro e;rcases Nat.lt_trichotomy j i with ah | h' | ah
    · have:=List.pairwise_iff_getElem.1 hs j i hj hi ah;omega
    · exact h'
    · have:=List.pairwise_iff_getElem.1 hs i j hi hj ah;omega
 have aN:∃k,∃hk:k<r.ts.length,r.ts[k].id=X:=by
  have:X∈r.ts.map (·.id):=hp.mem_iff.1 (by rw[<- hX];exact List.getElem_mem hi);obtain⟨t,ht,e⟩:=List.mem_map.1 this;obtain⟨k,hk,rfl⟩:=List.mem_iff_getElem.1 ht;exact⟨k,hk,e⟩
 have G8:=lH De;have Ru:=lH aN;have HN:=lH hN;have Lb:=lH ae;have pI:=lH c3;have eF:rb<W.heap.size:=h.lt rb (by rw[h.osys];simp);have io:=lH eF;have Cw:Hid (∀g,own g=some .trow->g<W.heap.size):=lH (fun g hg=>h.lt g (by rw[hg];simp));rw[hN] at aT;rw[hN] at pI;rw[hX];have GA:i<65:=by have:=hp.length_eq;rw[List.length_map,hN] at this;omega
 clear h ae hv c3 De aN hN hp hs hX eF hi;go_enter Tryz.func81,Tryz.ntmps81;go_wp2_with fail
 go_loopw [5] (fun x wr=>∃k:Nat,k<=N/\x=I k/\Hid (Below W.heap.size W wr)/\Hid (∀j (hj:j<r.ts.length),j<k->r.ts[j].id≠X)) (fun x _=>N-(intOf x).toNat)
 case atStart=>exact⟨0,Nat.zero_le _,rfl,lH (Below.refl _ _),lH (fun j hj hk=>absurd hk (Nat.not_lt_zero j))⟩
 case round=>
  obtain⟨k,hk,rfl,HB,Mu⟩:=hrel;have aX:0<=(k:Int):=by omega
  have c3:wr.cell? ⟨rb,1,none⟩=_:=(HB.out.cell (p:=⟨rb,1,none⟩) io.out).trans pI.out;by_cases sU:k<N
  · have aw:(k:Int)<(N:Int):=by omega
    have DZ:k<r.ts.length:=by rw[HN.out];exact sU
    obtain⟨g,rfl,go,gk,-⟩:=Lb.out k _ (List.getElem?_eq_getElem DZ);obtain⟨pid,iS⟩:∃x,r.ts[k].id=x:=⟨_,rfl⟩
    rw[iS] at gk;have HP:=lH iS;have Md:=lH (And.intro (Cw.out g go) gk);clear iS go gk;go_wp2_with fail
    clear c3;obtain⟨wA,Aj⟩:∃x,x=wr:=⟨_,rfl⟩
    rw[<- Aj] at HB⊢;clear Aj;go_loopw [6,7] (fun y x wr=>∃j:Nat,j<=N/\x=I j/\y=I (uW r.ts pid j)/\Hid (Below W.heap.size W wr)) (fun _ x _=>N-(intOf x).toNat)
    case atStart=>exact⟨0,Nat.zero_le _,rfl,rfl,HB⟩
    case round=>
     obtain⟨j,hj,rfl,rfl,ew⟩:=hrel;have oh:0<=(j:Int):=by omega
     have c3:wr.cell? ⟨rb,1,none⟩=_:=(ew.out.cell (p:=⟨rb,1,none⟩) io.out).trans pI.out;have gk:=(ew.out.cell (p:=⟨g,k*7,none⟩) Md.out.1).trans Md.out.2;have iI:=Ue r.ts pid j;by_cases S0:j<N
     · have iK:(j:Int)<(N:Int):=by omega
       have GB:j<r.ts.length:=by rw[HN.out];exact S0
       obtain⟨g',ic,go,gj,-⟩:=Lb.out j _ (List.getElem?_eq_getElem GB);simp only[Option.some.injEq,Addr.mk.injEq,and_true] at ic;subst ic;have gj':=(ew.out.cell (p:=⟨g,j*7,none⟩) Md.out.1).trans gj;have mr:=Yd (x:=pid) (List.getElem?_eq_getElem GB);obtain⟨qid,I5⟩:∃x,r.ts[j].id=x:=⟨_,rfl⟩
       rw[I5] at gj' mr;obtain⟨cn,Ae⟩:∃x,uW r.ts pid j=x:=⟨_,rfl⟩
       rw[Ae] at mr iI⊢;clear I5 gj go Ae;by_cases ah:qid<pid
       · rw[if_pos ah] at mr;have tW:=lH mr;clear mr;go_wp2_with fail
         go_quiet (fail)
         go_wp2_with fail
         go_roundw
         case rel=>exact⟨j+1,by omega,by go_num,by rw[tW.out];go_num,lH (ew.out.trans ((zm _ _ _).mono ew.out.size))⟩
         case measure=>simp[intOf];omega
       · rw[if_neg ah] at mr;have tW:=lH mr;have lI:pid<=qid:=by omega
         clear mr;go_wp2_with fail
         go_quiet (fail)
         go_wp2_with fail
         go_roundw
         case rel=>exact⟨j+1,by omega,by go_num,by rw[tW.out];rfl,lH (ew.out.trans ((zm _ _ _).mono ew.out.size))⟩
         case measure=>simp[intOf];omega
     · obtain rfl:j=N:=by omega
       have De:=G8.out k DZ;rw[HP.out,HN.out] at De;obtain⟨cn,Ae⟩:∃x,uW r.ts pid j=x:=⟨_,rfl⟩
       rw[Ae] at De iI⊢;by_cases e:cn=i
       · have BQ:=De.1 e;have aA:Hid (xr r.ts X=(k:Int)):=lH (by
          rcases vN r.ts X with⟨-,hn⟩ | ⟨i',nh,hp,h1,h2⟩
          · exact absurd (HP.out.trans BQ) (hn _ (List.getElem_mem DZ))
          · rw[hp];congr 1
            rcases Nat.lt_trichotomy i' k with ah | rfl | ah
            · exact absurd h1 (Mu.out i' nh ah)
            · rfl
            · exact absurd (HP.out.trans BQ) (h2 k ah))
         subst e;clear De Ae gk BQ;go_wp2_with fail
         go_ret
         exact⟨by rw[aA.out];rfl,ew.out⟩
       · have BQ:pid≠X:=fun hh=>e (De.2 hh);have Mv:Hid (∀j (hj:j<r.ts.length),j<k+1->r.ts[j].id≠X):=lH (fun j hj CZ=>by
          by_cases e2:j<k
          · exact Mu.out j hj e2
          · obtain rfl:j=k:=by omega
            rw[HP.out];exact BQ)
         have ay:¬(cn:Int)=(i:Int):=by omega
         clear De Ae gk BQ e;go_wp2_with fail
         go_roundw
         case rel=>exact⟨k+1,by omega,by go_num,ew,Mv⟩
         case measure=>simp[intOf];omega
  · exfalso
    obtain⟨k',eO,e⟩:=Ru.out;exact Mu.out k' eO (by have:=HN.out;omega) e
abbrev tkV (t:Tk):Value:=.agg #[I t.id,I t.w,I t.group,I t.core,I t.state,.int .u16 t.mask,I t.lag]
def yZ (W:World) (b:Nat) (t:Tk):Prop:=W.heap[b]? = some (.cells #[I t.id,I t.w,I t.group,I t.core,I t.state,.int .u16 t.mask,I t.lag] 62 (0,0))
theorem yZ.cells {W:World} {b:Nat} {t:Tk} (h:yZ W b t):(W.cell? ⟨b,0,none⟩=some (I t.id)/\W.cell? ⟨b,1,none⟩=some (I t.w)/\W.cell? ⟨b,2,none⟩=some (I t.group)/\W.cell? ⟨b,3,none⟩=some (I t.core) /\
 W.cell? ⟨b,4,none⟩=some (I t.state)/\W.cell? ⟨b,5,none⟩=some (.int .u16 t.mask)/\W.cell? ⟨b,6,none⟩=some (I t.lag))/\∀i,W.frozen? ⟨b,i,none⟩=false:=by
 unfold yZ at h;refine⟨⟨?_,?_,?_,?_,?_,?_,?_⟩,fun i=>by simp only[World.frozen?,h];simp⟩ <;> (simp only[World.cell?,h];rfl)
theorem yZ.same {W W':World} {b:Nat} {t:Tk} (h:yZ W b t) (hb:W'.heap[b]? = W.heap[b]?):yZ W' b t:=hb.trans h
theorem yZ.lt {W:World} {b:Nat} {t:Tk} (h:yZ W b t):b<W.heap.size:=(Array.getElem?_eq_some_iff.1 h).1
theorem yZ.put {W:World} {b:Nat} {t:Tk} (h:yZ W b t) (a0 a1 a2 a3 a4 a5 a6:Int) :
 yZ (((((((W.setCell ⟨b,0,none⟩ (I a0)).setCell ⟨b,1,none⟩ (I a1)).setCell ⟨b,2,none⟩ (I a2)).setCell ⟨b,3,none⟩ (I a3)).setCell ⟨b,4,none⟩ (I a4)).setCell ⟨b,5,none⟩ (.int .u16 a5)).setCell ⟨b,6,none⟩ (I a6)) b ⟨a0,a1,a2,a3,a4,a5,a6⟩:=by
 unfold yZ at h⊢;simp[World.setCell,Array.getElem?_modify,h]
theorem yZ.state {W:World} {b:Nat} {t:Tk} (h:yZ W b t) (x:Int):yZ (W.setCell ⟨b,4,none⟩ (I x)) b (stT t x):=by
 unfold yZ at h⊢;simp[World.setCell,Array.getElem?_modify,h,stT]
theorem yZ.other {W:World} {b b' i:Nat} {v:Value} {t:Tk} (h:yZ W b t) (hn:b≠b'):yZ (W.setCell ⟨b',i,none⟩ v) b t:=(Below.heap_setCell _ _ _ _ hn).trans h
def xA (W:World) (b:Nat) (t:Tk):World:=((((((W.setCell ⟨b,0,none⟩ (I t.id)).setCell ⟨b,1,none⟩ (I t.w)).setCell ⟨b,2,none⟩ (I t.group)).setCell ⟨b,3,none⟩ (I t.core)).setCell ⟨b,4,none⟩ (I t.state)).setCell ⟨b,5,none⟩ (.int .u16 t.mask)).setCell ⟨b,6,none⟩ (I t.lag)
theorem qm {W:World} {b:Nat} {t0:Tk} (h:yZ W b t0) (t:Tk):yZ (xA W b t) b t:=h.put t.id t.w t.group t.core t.state t.mask t.lag
theorem vO {W0 W:World} {H b:Nat} {t:Tk} (h:Below H W0 W) (hb:H<=b):Below H W0 (xA W b t):=by
 unfold xA;exact((((((h.setCell (p:=⟨b,0,none⟩) hb _).setCell (p:=⟨b,1,none⟩) hb _).setCell (p:=⟨b,2,none⟩) hb _).setCell (p:=⟨b,3,none⟩) hb _).setCell (p:=⟨b,4,none⟩) hb _).setCell (p:=⟨b,5,none⟩) hb _).setCell (p:=⟨b,6,none⟩) hb _
theorem uF {W:World} {b:Nat} {t:Tk}:∀k,k≠b->(xA W b t).heap[k]? = W.heap[k]?:=fun k hk=>by
 unfold xA;rw[Below.heap_setCell _ _ _ _ hk,Below.heap_setCell _ _ _ _ hk,Below.heap_setCell _ _ _ _ hk,Below.heap_setCell _ _ _ _ hk,Below.heap_setCell _ _ _ _ hk,Below.heap_setCell _ _ _ _ hk,Below.heap_setCell _ _ _ _ hk]
theorem qA {W:World} {b:Nat} {t:Tk}:(xA W b t).heap.size=W.heap.size:=by simp[xA]
theorem uG {F:Nat->Prop} {W0 W:World} {b:Nat} {t:Tk} (h:Touch F W0 W) (hb:F b\/W0.heap.size<=b):Touch F W0 (xA W b t):=by
 unfold xA;exact((((((h.setCell (t:=none) (i:=0) hb _).setCell (t:=none) (i:=1) hb _).setCell (t:=none) (i:=2) hb _).setCell (t:=none) (i:=3) hb _).setCell (t:=none) (i:=4) hb _).setCell (t:=none) (i:=5) hb _).setCell (t:=none) (i:=6) hb _
def enW (W:World) (t:Tk):World:=(W.alloc (.cells #[I t.id,I t.w,I t.group,I t.core,I t.state,.int .u16 t.mask,I t.lag] 62)).alloc (.cells #[I 0,I 0,I 0,I 0,I 0,.int .u16 0,I 0] 62)
theorem Xp (W:World) (t:Tk):yZ (enW W t) W.heap.size t/\yZ (enW W t) (W.heap.size+1) ⟨0,0,0,0,0,0,0⟩/\Below W.heap.size W (enW W t)/\(enW W t).heap.size=W.heap.size+2:=by
 refine⟨?_,?_,((Below.refl _ _).alloc (Nat.le_refl _) _).alloc (by simp) _,by simp[enW]⟩
 · unfold yZ enW;rw[Below.heap_alloc _ _ _ (by simp)];exact heap_alloc_new W _
 · unfold yZ enW;have:=heap_alloc_new (W.alloc (.cells #[I t.id,I t.w,I t.group,I t.core,I t.state,.int .u16 t.mask,I t.lag] 62)) (.cells #[I 0,I 0,I 0,I 0,I 0,.int .u16 0,I 0] 62);rw[show(W.alloc (.cells #[I t.id,I t.w,I t.group,I t.core,I t.state,.int .u16 t.mask,I t.lag] 62)).heap.size=W.heap.size+1 by simp] at this;exact this
theorem Zu (rb:Nat) (B:RBk) (own:Nat->Option ROwn) (r:RSy) (t:Tk) (ex:Bool) (xs:List G16) (W:World) (h:RAt W rb B own r) (hx:zq r.gs t.group xs) (aT:xs.length<=100) (hh:xs.any (yR r)=true) :
 Calls Tryz.prog 72 #[.pointer (some ⟨rb,0,none⟩),tkV t,.bool ex] W fun e w'=>e=.returned (.tuple #[tkV (stT t 5),I 0])/\Below W.heap.size W w':=by
 obtain⟨lk,ab,hB,hz⟩:=Xp W t;have il:=ub rb B own r t.group xs _ (h.below hB) hx aT;rw[hh] at il;obtain⟨⟨k0,k1,k2,k3,k4,k5,k6⟩,kf⟩:=lk.cells;obtain⟨tid,tw,tg,tc,tst,tm,tl⟩:=t;simp only at k0 k1 k2 k3 k4 k5 k6 il lk ab hB hz hx⊢;have lF:=lH lk;have ef:=lH ab;have HB:=lH hB;have HZ:=lH hz;clear h lk ab hB hz hx hh;unfold enW at k0 k1 k2 k3 k4 k5 k6 il;go_enter Tryz.func72,Tryz.ntmps72;go_wp2_with fail
 refine il.mono ?_;rintro e w1 ⟨rfl,hb⟩;replace hb:Below (enW W ⟨tid,tw,tg,tc,tst,tm,tl⟩).heap.size (enW W ⟨tid,tw,tg,tc,tst,tm,tl⟩) w1:=hb;have lW:=lF.out.same (hb.block W.heap.size (by rw[HZ.out];omega));have mQ:=ef.out.same (hb.block (W.heap.size+1) (by rw[HZ.out];omega));obtain⟨⟨j0,j1,j2,j3,j4,j5,j6⟩,jf⟩:=lW.cells;obtain⟨⟨i0,i1,i2,i3,i4,i5,i6⟩,if_⟩:=mQ.cells;simp only at j0 j1 j2 j3 j4 j5 j6 i0 i1 i2 i3 i4 i5 i6;have j4f:=jf 4;have f0:=if_ 0;have f1:=if_ 1;have f2:=if_ 2;have f3:=if_ 3;have f4:=if_ 4;have f5:=if_ 5;have f6:=if_ 6;have nR:=lH (HB.out.trans (hb.mono HB.out.size));have L8:=lH mQ;clear lW mQ hb il k0 k1 k2 k3 k4 k5 k6 kf jf if_;go_wp2_with fail
 have hp:=qm (L8.out.other (b':=W.heap.size) (i:=4) (v:=I 5) (by omega)) ⟨tid,tw,tg,tc,5,tm,tl⟩;have NV:Below W.heap.size W (xA (w1.setCell ⟨W.heap.size,4,none⟩ (I 5)) (W.heap.size+1) ⟨tid,tw,tg,tc,5,tm,tl⟩):=vO (nR.out.setCell (Nat.le_refl _) _) (by omega);obtain⟨⟨r0,r1,r2,r3,r4,r5,r6⟩,-⟩:=hp.cells;change bodyPost _ _ _ _ _ (xA (w1.setCell ⟨W.heap.size,4,none⟩ (I 5)) (W.heap.size+1) ⟨tid,tw,tg,tc,5,tm,tl⟩);generalize xA (w1.setCell ⟨W.heap.size,4,none⟩ (I 5)) (W.heap.size+1) ⟨tid,tw,tg,tc,5,tm,tl⟩=Wf at r0 r1 r2 r3 r4 r5 r6 NV⊢;simp only at r0 r1 r2 r3 r4 r5 r6;exact bodyPost_ret (v:=.tuple #[tkV ⟨tid,tw,tg,tc,5,tm,tl⟩,I 0]) (by simp[results,Tryz.results72,go_sem,r0,r1,r2,r3,r4,r5,r6]) rfl ⟨rfl,NV⟩
theorem Zt (rb:Nat) (B:RBk) (own:Nat->Option ROwn) (r:RSy) (t:Tk) (ex:Bool) (xs:List G16) (i:Nat) (W:World) (h:RAt W rb B own r) (hx:zq r.gs t.group xs) (aT:xs.length<=100) (hh:xs.any (yR r)=false)
 (hi:t.core=(i:Int)) (eB:i<r.cores.length) (tag:Int) (l:Ln) (hc:r.cores[i]! = (tag,l)) (lC:tag=0\/tag=1\/tag=2) (lm:l.ps.length<=64) (eC:-2305843009213693952<=l.base/\l.base<=2305843009213693952) (eA:zP l t.id t.w t.lag=0) :
 Calls Tryz.prog 72 #[.pointer (some ⟨rb,0,none⟩),tkV t,.bool ex] W fun e w'=>e=.returned (.tuple #[tkV (stT t 2),I 0]) /\
  ∃B' own',RAt w' rb B' own' ⟨r.cores.set i (tag,xR l t.id t.w (if ex=true then t.lag else yy tag t.lag)),r.ts,r.gs,r.acc,r.ps⟩/\RStep own own' W w':=by
 obtain⟨lk,ab,hB,hz⟩:=Xp W t;have lV:=h.below hB;have il:=ub rb B own r t.group xs _ lV hx aT;rw[hh] at il;have aj:=fun W' (hq:QuAt W' B.qbs[i]! (B.qv i) tag l)=>jL B.qbs[i]! (B.qv i) tag l t.id t.w t.lag ex W' hq lC lm eC eA;obtain⟨⟨k0,k1,k2,k3,k4,k5,k6⟩,kf⟩:=lk.cells;obtain⟨ca,cc,aQ,mA⟩:=lV.coreCell;obtain⟨g,rfl,eL,DT,rI⟩:=mA i eB;obtain⟨N,hN⟩:∃N,r.cores.length=N:=⟨_,rfl⟩
 have oa:=lH eB;have sf:0<=(i:Int):=by omega
 have SV:(i:Int)<(N:Int):=by omega
 have c0:=lV.c0;rw[aQ,hN] at c0;have Gf:Hid (B.qbs[i]!<W.heap.size):=lH (h.lt _ (by rw[h.oq i eB];simp));have Lc:=lH hc;obtain⟨Lg,CJ⟩:∃x,(if ex=true then t.lag else yy tag t.lag)=x:=⟨_,rfl⟩
 rw[CJ] at aj⊢;clear CJ;obtain⟨tid,tw,tg,tc,tst,tm,tl⟩:=t;simp only at k0 k1 k2 k3 k4 k5 k6 il lk ab hB hz hx hi aj lV c0 rI eL⊢;subst hi;have lF:=lH lk;have ef:=lH ab;have HB:=lH hB;have HZ:=lH hz;have oN:=lH aj;have ra:=lH lV;have Ez:=lH (And.intro (h.lt rb (by rw[h.osys];simp)) c0);have OA:=lH (And.intro (h.lt g (by rw[DT];simp)) rI);have HW:=lH h;clear h lk ab hB hz hx hh lV aQ mA aj lC lm eC eA hN eB c0 rI eL DT hc;unfold enW at k0 k1 k2 k3 k4 k5 k6 il;go_enter Tryz.func72,Tryz.ntmps72;go_wp2_with fail
 refine il.mono ?_;rintro e w1 ⟨rfl,hb⟩;replace hb:Below (enW W ⟨tid,tw,tg,i,tst,tm,tl⟩).heap.size (enW W ⟨tid,tw,tg,i,tst,tm,tl⟩) w1:=hb;have lW:=lF.out.same (hb.block W.heap.size (by rw[HZ.out];omega));have mQ:=ef.out.same (hb.block (W.heap.size+1) (by rw[HZ.out];omega));have c0:=(hb.cell (p:=⟨rb,0,none⟩) (by have:=Ez.out.1;have:=HZ.out;show rb<_;omega)).trans Ez.out.2;have gc:=(hb.cell (p:=⟨g,i,none⟩) (by have:=OA.out.1;have:=HZ.out;show g<_;omega)).trans OA.out.2;have iN:=ra.out.below hb;obtain⟨⟨j0,j1,j2,j3,j4,j5,j6⟩,jf⟩:=lW.cells;simp only at j0 j1 j2 j3 j4 j5 j6;have Ct:W.heap.size+2<=w1.heap.size:=by have:=hb.size;have:=HZ.out;omega
 have nR:=lH (HB.out.trans (hb.mono HB.out.size));have Rk:=lH lW;have L8:=lH mQ;have nL:=lH iN;have Hd:=lH Ct;clear lW mQ hb il k0 k1 k2 k3 k4 k5 k6 kf jf iN Ct;have aj:=oN.out w1.drew (by have:=(nL.out.q i oa.out).below (Below.refl _ w1).drew;rw[Lc.out] at this;exact this);have RO:=lH (nL.out.oqr i oa.out);have oP:=lH (nL.out.oq i oa.out);have CG:=lH HW.out.lt;obtain⟨qb,na⟩:∃x,B.qbs[i]! = x:=⟨_,rfl⟩
 rw[na] at aj gc Gf;have pL:=lH na;clear na;go_wp2_with fail
 go_still_tail 15,(by kernel_rfl)
 change wpList _ _ _ _ _ (World.drew _);go_wp2_with fail
 refine aj.mono ?_;rintro e w9 ⟨rfl,v',rh,iE,nK⟩;have mO:=(nL.out.below (Below.refl _ w1).drew).setQ oa.out (by rw[pL.out];exact rh) (iE.wider (fun k hk=>.inl (by rw[pL.out];exact hk))) (fun j hj=>.inr (nK j hj));have AO:w1.heap.size<=w9.heap.size:=iE.size;have Po:=Rk.out.same (iE.block W.heap.size (by have:=Hd.out;show _<w1.heap.size;omega) (by have:=Gf.out;omega));have LK:=L8.out.same (iE.block (W.heap.size+1) (by have:=Hd.out;show _<w1.heap.size;omega) (by have:=Gf.out;omega));obtain⟨⟨j0,j1,j2,j3,j4,j5,j6⟩,jf⟩:=Po.cells;obtain⟨⟨i0,i1,i2,i3,i4,i5,i6⟩,if_⟩:=LK.cells;simp only at j0 j1 j2 j3 j4 j5 j6 i0 i1 i2 i3 i4 i5 i6;have j4f:=jf 4;have f0:=if_ 0;have f1:=if_ 1;have f2:=if_ 2;have f3:=if_ 3;have f4:=if_ 4;have f5:=if_ 5;have f6:=if_ 6;have mM:=lH mO;have AS:=lH iE;have R7:=lH nK;have Rl:=lH LK;clear mO Po LK rh iE nK jf if_ aj c0 gc;go_wp2_with fail
 have hp:=qm (Rl.out.other (b':=W.heap.size) (i:=4) (v:=I 2) (by omega)) ⟨tid,tw,tg,i,2,tm,tl⟩;have IX:∀k,k≠W.heap.size->k≠W.heap.size+1->(xA (w9.setCell ⟨W.heap.size,4,none⟩ (I 2)) (W.heap.size+1) ⟨tid,tw,tg,i,2,tm,tl⟩).heap[k]? = w9.heap[k]?:=fun k h1 h2=>(uF k h2).trans (Below.heap_setCell _ _ _ _ h1)
 have mH:(xA (w9.setCell ⟨W.heap.size,4,none⟩ (I 2)) (W.heap.size+1) ⟨tid,tw,tg,i,2,tm,tl⟩).heap.size=w9.heap.size:=qA.trans (by simp)
 have A0:Touch (fun k=>own k≠none) W (xA (w9.setCell ⟨W.heap.size,4,none⟩ (I 2)) (W.heap.size+1) ⟨tid,tw,tg,i,2,tm,tl⟩):=
  uG (((Touch.of_below nR.out).drew.trans (uk.refl _ _) (AS.out.wider (fun k e=>by subst e;rw[<- pL.out,oP.out];simp))).setCell (t:=none) (.inr (Nat.le_refl _)) _) (.inr (by omega))
 obtain⟨⟨r0,r1,r2,r3,r4,r5,r6⟩,-⟩:=hp.cells;change bodyPost _ _ _ _ _ (xA (w9.setCell ⟨W.heap.size,4,none⟩ (I 2)) (W.heap.size+1) ⟨tid,tw,tg,i,2,tm,tl⟩);generalize xA (w9.setCell ⟨W.heap.size,4,none⟩ (I 2)) (W.heap.size+1) ⟨tid,tw,tg,i,2,tm,tl⟩=Wf at r0 r1 r2 r3 r4 r5 r6 IX mH A0⊢;simp only at r0 r1 r2 r3 r4 r5 r6;have Ct:=Hd.out;have aZ:∀k,(if v'.ownBlock=some k then some (ROwn.qrow i) else own k)≠none->own k≠none\/w1.heap.size<=k:=fun k hk=>by
  by_cases e:v'.ownBlock=some k
  · exact .inr (R7.out k e)
  · rw[if_neg e] at hk;exact .inl hk
 refine bodyPost_ret (v:=.tuple #[tkV ⟨tid,tw,tg,i,2,tm,tl⟩,I 0]) (by simp[results,Tryz.results72,go_sem,r0,r1,r2,r3,r4,r5,r6]) rfl ⟨rfl,_,_,mM.out.same (by omega) (fun k hk=>IX k ?_ ?_),fun k hk=>?_,?_⟩
 · rcases aZ k hk with h | h
   · have:=CG.out k h;omega
   · omega
 · rcases aZ k hk with h | h
   · have:=CG.out k h;omega
   · omega
 · rcases aZ k hk with h | h
   · exact .inl h
   · exact .inr (by omega)
 · exact A0
theorem jB:∀(ps:List Tk) (k f:Nat) (p p':Tk) (u:Value),ps[k]? = some p->f<7->p'.cells=p.cells.set f u->(zu ps).set (k*7+f) u=zu (ps.set k p')
 | [],k,f,p,p',u,h,_,_=>by cases h
 | q::l,0,f,p,p',u,h,hf,hp=>by
  obtain rfl:q=p:=by simpa using h
  have e:zu (q::l)=q.cells++zu l:=by simp[zu]
  have e2:zu (p'::l)=p'.cells++zu l:=by simp[zu]
  rw[List.set_cons_zero,e,e2,hp,Nat.zero_mul,Nat.zero_add,List.set_append_left _ _ (by simp[Tk.cells];omega)]
 | q::l,k+1,f,p,p',u,h,hf,hp=>by
  have ih:=jB l k f p p' u (by simpa using h) hf hp;have e:zu (q::l)=q.cells++zu l:=by simp[zu]
  have e2:zu (q::l.set k p')=q.cells++zu (l.set k p'):=by simp[zu]
  have hl:q.cells.length=7:=by simp[Tk.cells]
  rw[List.set_cons_succ,e,e2,List.set_append_right _ _ (by rw[hl];omega),hl,show(k+1)*7+f-7=k*7+f by omega,ih]
section
variable {W:World} {rb:Nat} {B:RBk} {own:Nat->Option ROwn} {r:RSy}
theorem RAt.taskCell (h:RAt W rb B own r) {g n c:Nat} (hv:B.trv=.slice (some ⟨g,0,none⟩) n c) {k f:Nat} {t t':Tk} {u:Value} (hk:r.ts[k]? = some t) (hf:f<7) (hp:t'.cells=t.cells.set f u) :
 RAt (W.setCell ⟨g,k*7+f,none⟩ u) rb B own ⟨r.cores,r.ts.set k t',r.gs,r.acc,r.ps⟩:=by
 have aw:=(List.getElem?_eq_some_iff.1 hk).1;have hr:=h.trow;rw[hv] at hr;obtain⟨a',c',e,-⟩:=zH hr;simp only[Value.slice.injEq] at e;obtain⟨-,hn,-⟩:=e;subst hn;have aa:=wh (u:=u) (j:=k*7+f) hr (by rw[uo];omega);rw[jB r.ts k f t t' u hk hf hp] at aa;refine h.setT (by rw[hv];simpa using aa) ((Touch.refl _ _).setCell (t:=none) (.inl (by rw[hv];rfl)) _)
theorem RAt.freeT (h:RAt W rb B own r) {g n c:Nat} (hv:B.trv=.slice (some ⟨g,0,none⟩) n c) (i:Nat):W.frozen? ⟨g,i,none⟩=false:=by
 have hr:=h.trow;rw[hv] at hr;rcases hr.2 with⟨e,_⟩ | ⟨g',cap',cur,e,hb,la,-⟩
 · cases e
 · simp only[Value.slice.injEq,Option.some.injEq,Addr.mk.injEq] at e;obtain⟨⟨rfl,-⟩,-⟩:=e;simp only[World.frozen?,la];simp
def jo (W:World) (g k:Nat) (t:Tk):World:=((((((W.setCell ⟨g,k*7,none⟩ (I t.id)).setCell ⟨g,k*7+1,none⟩ (I t.w)).setCell ⟨g,k*7+2,none⟩ (I t.group)).setCell ⟨g,k*7+3,none⟩ (I t.core)).setCell ⟨g,k*7+4,none⟩ (I t.state)).setCell ⟨g,k*7+5,none⟩ (.int .u16 t.mask)).setCell ⟨g,k*7+6,none⟩ (I t.lag)
theorem uc {α:Type} {l:List α} {k:Nat} {a b:α} (h:l[k]? = some a):(l.set k b)[k]? = some b:=by
 rw[List.getElem?_set,if_pos rfl,if_pos (List.getElem?_eq_some_iff.1 h).1]
theorem RAt.taskRow (h:RAt W rb B own r) {g n c:Nat} (hv:B.trv=.slice (some ⟨g,0,none⟩) n c) {k:Nat} {t0:Tk} (t:Tk) (hk:r.ts[k]? = some t0) :
 RAt (jo W g k t) rb B own ⟨r.cores,r.ts.set k t,r.gs,r.acc,r.ps⟩:=by
 have h1:RAt (W.setCell ⟨g,k*7,none⟩ (I t.id)) rb B own ⟨r.cores,r.ts.set k ⟨t.id,t0.w,t0.group,t0.core,t0.state,t0.mask,t0.lag⟩,r.gs,r.acc,r.ps⟩:=h.taskCell hv (f:=0) hk (by omega) rfl;have e1:=uc (b:=(⟨t.id,t0.w,t0.group,t0.core,t0.state,t0.mask,t0.lag⟩:Tk)) hk;have h2:=h1.taskCell hv (f:=1) (t':=⟨t.id,t.w,t0.group,t0.core,t0.state,t0.mask,t0.lag⟩) (u:=I t.w) e1 (by omega) rfl;have e2:=uc (b:=(⟨t.id,t.w,t0.group,t0.core,t0.state,t0.mask,t0.lag⟩:Tk)) e1;have h3:=h2.taskCell hv (f:=2) (t':=⟨t.id,t.w,t.group,t0.core,t0.state,t0.mask,t0.lag⟩) (u:=I t.group) e2 (by omega) rfl;have e3:=uc (b:=(⟨t.id,t.w,t.group,t0.core,t0.state,t0.mask,t0.lag⟩:Tk)) e2;have h4:=h3.taskCell hv (f:=3) (t':=⟨t.id,t.w,t.group,t.core,t0.state,t0.mask,t0.lag⟩) (u:=I t.core) e3 (by omega) rfl;have e4:=uc (b:=(⟨t.id,t.w,t.group,t.core,t0.state,t0.mask,t0.lag⟩:Tk)) e3;have h5:=h4.taskCell hv (f:=4) (t':=⟨t.id,t.w,t.group,t.core,t.state,t0.mask,t0.lag⟩) (u:=I t.state) e4 (by omega) rfl;have e5:=uc (b:=(⟨t.id,t.w,t.group,t.core,t.state,t0.mask,t0.lag⟩:Tk)) e4;have h6:=h5.taskCell hv (f:=5) (t':=⟨t.id,t.w,t.group,t.core,t.state,t.mask,t0.lag⟩) (u:=.int .u16 t.mask) e5 (by omega) rfl;have e6:=uc (b:=(⟨t.id,t.w,t.group,t.core,t.state,t.mask,t0.lag⟩:Tk)) e5;have h7:=h6.taskCell hv (f:=6) (t':=t) (u:=I t.lag) e6 (by omega) rfl;clear h1 h2 h3 h4 h5 h6 e1 e2 e3 e4 e5 e6;simp only[List.set_set] at h7;unfold jo;exact h7
theorem vQ {F:Nat->Prop} {W0 W:World} {g k:Nat} {t:Tk} (h:Touch F W0 W) (hb:F g\/W0.heap.size<=g):Touch F W0 (jo W g k t):=by
 unfold jo;exact((((((h.setCell (t:=none) (i:=k*7) hb _).setCell (t:=none) (i:=k*7+1) hb _).setCell (t:=none) (i:=k*7+2) hb _).setCell (t:=none) (i:=k*7+3) hb _).setCell (t:=none) (i:=k*7+4) hb _).setCell (t:=none) (i:=k*7+5) hb _).setCell (t:=none) (i:=k*7+6) hb _
theorem RAt.row_ (h:RAt W rb B own r) {k:Nat} {t:Tk} (hk:r.ts[k]? = some t):∃g n c,B.trv=.slice (some ⟨g,0,none⟩) r.ts.length c/\k<r.ts.length/\own g=some .trow/\n=r.ts.length/\W.cell? ⟨g,k*7,none⟩=some (I t.id) /\
 W.cell? ⟨g,k*7+1,none⟩=some (I t.w)/\W.cell? ⟨g,k*7+2,none⟩=some (I t.group)/\W.cell? ⟨g,k*7+3,none⟩=some (I t.core)/\W.cell? ⟨g,k*7+4,none⟩=some (I t.state) /\
 W.cell? ⟨g,k*7+5,none⟩=some (.int .u16 t.mask)/\W.cell? ⟨g,k*7+6,none⟩=some (I t.lag):=by
 obtain⟨a,c,hv,hr⟩:=h.tasks;obtain⟨g,rfl,ho,k0,k1,k2,k3,k4,k5,k6⟩:=hr k t hk;exact⟨g,_,c,hv,(List.getElem?_eq_some_iff.1 hk).1,ho,rfl,k0,k1,k2,k3,k4,k5,k6⟩
end
theorem Vc (rb:Nat) (B:RBk) (own:Nat->Option ROwn) (r:RSy) (k:Nat) (t:Tk) (W:World) (h:RAt W rb B own r) (hk:r.ts[k]? = some t) :
 Calls Tryz.prog 76 #[.pointer (some ⟨rb,0,none⟩),I k,I t.core] W fun e w'=>e=.returned (I 0)/\Below W.heap.size W w':=by
 obtain⟨g,n,c,hv,aw,ho,hn,k0,k1,k2,k3,k4,k5,k6⟩:=h.row_ hk;rw[<- hn] at hv aw;have c1:=h.c1;rw[hv] at c1;have aX:0<=(k:Int):=by omega
 have aS:(k:Int)<(n:Int):=by omega
 obtain⟨tid,tw,tg,tc,tst,tm,tl⟩:=t;simp only at k0 k1 k2 k3 k4 k5 k6⊢;clear h hk hv hn aw;go_enter Tryz.func76,Tryz.ntmps76;go_wp2_with fail
 go_ret
 exact⟨rfl,(Below.refl _ _).alloc (Nat.le_refl _) _⟩
theorem Va (rb:Nat) (B:RBk) (own:Nat->Option ROwn) (r:RSy) (k:Nat) (t:Tk) (tg9:Int) (W:World) (h:RAt W rb B own r) (hk:r.ts[k]? = some t) (ay:t.core≠tg9) (aG:t.state≠2) :
 Calls Tryz.prog 76 #[.pointer (some ⟨rb,0,none⟩),I k,I tg9] W fun e w'=>e=.returned (I 0)/\RAt w' rb B own ⟨r.cores,r.ts.set k (coT t tg9),r.gs,r.acc,r.ps⟩/\RStep own own W w':=by
 obtain⟨g,n,c,hv,aw,ho,hn,k0,k1,k2,k3,k4,k5,k6⟩:=h.row_ hk;have en:Below W.heap.size W (W.alloc (.cells #[I t.id,I t.w,I t.group,I t.core,I t.state,.int .u16 t.mask,I t.lag] 62)):=(Below.refl _ _).alloc (Nat.le_refl _) _;have lV:=h.below en;have lX:=lV.taskCell hv (f:=3) (t':=coT t tg9) (u:=I tg9) hk (by omega) rfl;have f3:=lV.freeT hv (k*7+3);have k3':=c2a (.cells #[I t.id,I t.w,I t.group,I t.core,I t.state,.int .u16 t.mask,I t.lag] 62) k3;have c1':=lV.c1;have Hy:Touch (fun k=>own k≠none) W ((W.alloc (.cells #[I t.id,I t.w,I t.group,I t.core,I t.state,.int .u16 t.mask,I t.lag] 62)).setCell ⟨g,k*7+3,none⟩ (I tg9)):=((Touch.refl _ W).alloc _).setCell (t:=none) (.inl (by rw[ho];simp)) _;rw[<- hn] at hv aw;have c1:=h.c1;rw[hv] at c1 c1';have aX:0<=(k:Int):=by omega
 have aS:(k:Int)<(n:Int):=by omega
 have HF:=lH lX;have HT:=lH Hy;obtain⟨tid,tw,tg,tc,tst,tm,tl⟩:=t;simp only at k0 k1 k2 k3 k4 k5 k6 ay aG HF HT f3 k3' c1'⊢;clear h hk hv hn aw lV lX Hy en;go_enter Tryz.func76,Tryz.ntmps76;go_wp2_with fail
 go_ret
 exact⟨rfl,HF.out,fun _ hk=>.inl hk,HT.out⟩
theorem yZ.core {W:World} {b:Nat} {t:Tk} (h:yZ W b t) (x:Int):yZ (W.setCell ⟨b,3,none⟩ (I x)) b (coT t x):=by
 unfold yZ at h⊢;simp[World.setCell,Array.getElem?_modify,h,coT]
theorem yZ.lag_ {W:World} {b:Nat} {t:Tk} (h:yZ W b t) (x:Int):yZ (W.setCell ⟨b,6,none⟩ (I x)) b (wi t x):=by
 unfold yZ at h⊢;simp[World.setCell,Array.getElem?_modify,h,wi]
abbrev QcS (rb g i qb bt:Nat) (v:Value) (tid tc:Int) (W2:World):Prop:=
 W2.cell? ⟨rb,0,none⟩=some v/\W2.cell? ⟨g,i,none⟩=some (.pointer (some ⟨qb,0,none⟩))/\W2.cell? ⟨bt,0,none⟩=some (I tid)/\W2.cell? ⟨bt,3,none⟩=some (I tc)
theorem Vb (rb:Nat) (B:RBk) (own:Nat->Option ROwn) (r:RSy) (k:Nat) (t:Tk) (i j:Nat) (ti tj:Int) (li lj:Ln) (W:World) (h:RAt W rb B own r) (hk:r.ts[k]? = some t) (hi:t.core=(i:Int)) (AC:i≠j) (aG:t.state=2)
 (eB:i<r.cores.length) (iK:j<r.cores.length) (lO:r.cores[i]! = (ti,li)) (sA:r.cores[j]! = (tj,lj)) (lm:li.ps.length<=64) (hw:∀p∈li.ps,IntKind.i64.wrap (li.base-p.v)=li.base-p.v) (lp:¬yh li.ps t.id<0)
 (lC:tj=0\/tj=1\/tj=2) (pW:lj.ps.length<=64) (eC:-2305843009213693952<=lj.base/\lj.base<=2305843009213693952) (eA:zP lj t.id t.w (zA li t.id).1=0) :
 Calls Tryz.prog 76 #[.pointer (some ⟨rb,0,none⟩),I k,I j] W fun e w'=>e=.returned (I 0) /\
  ∃B' own',RAt w' rb B' own' ⟨(r.cores.set i (ti,(zA li t.id).2.2)).set j (tj,xR lj t.id t.w (zA li t.id).1),r.ts.set k (coT t j),r.gs,r.acc,r.ps⟩/\RStep own own' W w':=by
 obtain⟨g,n,c,hv,aw,ho,hn,k0,k1,k2,k3,k4,k5,k6⟩:=h.row_ hk;have en:Below W.heap.size W (W.alloc (.cells #[I t.id,I t.w,I t.group,I t.core,I t.state,.int .u16 t.mask,I t.lag] 62)):=(Below.refl _ _).alloc (Nat.le_refl _) _;have ey:yZ (W.alloc (.cells #[I t.id,I t.w,I t.group,I t.core,I t.state,.int .u16 t.mask,I t.lag] 62)) W.heap.size t:=heap_alloc_new W _;have lV:=h.below en;have ma:=fun W' (hq:QuAt W' B.qbs[i]! (B.qv i) ti li)=>uH B.qbs[i]! (B.qv i) ti li t.id W' hq lm hw lp;have aj:=fun W' v (hq:QuAt W' B.qbs[j]! v tj lj)=>jL B.qbs[j]! v tj lj t.id t.w (zA li t.id).1 true W' hq lC pW eC eA;simp only[if_true] at aj;obtain⟨ca,cc,aQ,mA⟩:=h.coreCell;obtain⟨cg,rfl,nD,mg,oW⟩:=mA i eB;obtain⟨cg',Ig,-,-,Fl⟩:=mA j iK;obtain rfl:cg=cg':=by simpa using Ig
 obtain⟨N,hN⟩:∃N,r.cores.length=N:=⟨_,rfl⟩
 have c0:=h.c0;rw[aQ,hN] at c0;have eF:=h.lt rb (by rw[h.osys];simp);have eL:=h.lt g (by rw[ho];simp);have po:=h.oq i eB;have BR:=h.oq j iK;have nO:=h.lt _ (by rw[po];simp);have c1:=h.c1;rw[hv] at c1;have pJ:Hid (rb≠B.qbs[i]!/\cg≠B.qbs[i]!/\g≠B.qbs[i]!/\rb≠B.qbs[j]!/\cg≠B.qbs[j]!/\g≠B.qbs[j]!):=lH (by
  refine⟨?_,?_,?_,?_,?_,?_⟩ <;> intro e
  · have:=h.osys;rw[e,po] at this;simp at this
  · rw[e,po] at mg;simp at mg
  · rw[e,po] at ho;simp at ho
  · have:=h.osys;rw[e,BR] at this;simp at this
  · rw[e,BR] at mg;simp at mg
  · rw[e,BR] at ho;simp at ho)
 have RO:=lH (h.oqr i eB);have G3:=lH ho;have Rg:=lH mg;have oP:=lH po;have G7:=lH BR;have sP:=lH h.lt;have TH:=lH h.nq;have io:=lH (And.intro eF (And.intro eL (And.intro nD nO)));have pz:=lH h;have HK:=lH hk;have oa:=lH eB;have Lj:=lH iK;have L6:=lH lO;have Rh:=lH sA;have HV:=lH hv;have HN:=lH hN;have SX:(i:Int)<(N:Int):=by omega
 have NE:(j:Int)<(N:Int):=by omega
 have sf:0<=(i:Int):=by omega
 have oh:0<=(j:Int):=by omega
 have aX:0<=(k:Int):=by omega
 have aS:(k:Int)<(n:Int):=by omega
 have ay:¬(i:Int)=(j:Int):=by omega
 rw[<- hn] at c1;have c0':=(en.cell (p:=⟨rb,0,none⟩) eF).trans c0;have gi':=(en.cell (p:=⟨cg,i,none⟩) nD).trans oW;obtain⟨⟨b0,b1,b2,b3,b4,b5,b6⟩,-⟩:=ey.cells;obtain⟨qi,pH⟩:∃x,B.qbs[i]! = x:=⟨_,rfl⟩
 obtain⟨qj,NW⟩:∃x,B.qbs[j]! = x:=⟨_,rfl⟩
 rw[pH] at ma gi' pJ oP;rw[NW] at aj Fl pJ G7;have sp:=lH pH;have Mz:=lH NW;have lF:=lH en;have nB:=lH ey;have ra:=lH lV;have Rp:=lH Fl;have Ez:=lH c0;have sZ:=lH c1;obtain⟨⟨lag,er,l'⟩,om⟩:∃x,zA li t.id=x:=⟨_,rfl⟩
 rw[om] at ma aj⊢;obtain⟨tid,tw,tg,tc,tst,tm,tl⟩:=t;simp only at k0 k1 k2 k3 k4 k5 k6 b0 b1 b2 b3 b4 b5 b6 hi aG ma aj lF nB ra⊢;subst hi aG;have Gc:=lH ma;have oN:=lH aj;clear h hk hv hn aw lV en ey mA Ig aQ hN eB iK lO sA lm hw lp lC pW eC eA om eF eL po BR nO mg ho nD c0 oW Fl pH NW aj;go_enter Tryz.func76,Tryz.ntmps76;go_wp2_with fail
 obtain⟨W1,lu⟩:∃x,W.alloc (.cells #[I tid,I tw,I tg,I i,I 2,.int .u16 tm,I tl] 62)=x:=⟨_,rfl⟩
 rw[lu] at c0' gi' b0 b1 b2 b3 b4 b5 b6 lF nB ra⊢;have nc:Hid (W1.heap.size=W.heap.size+1):=lH (by rw[<- lu];simp);clear lu;have mn:=ma W1.drew (by
  have:=(ra.out.below (Below.refl _ W1).drew).q i oa.out;rw[L6.out,sp.out] at this;exact this)
 have lr:QcS rb cg i qi W.heap.size (.slice (some ⟨cg,0,none⟩) N cc) tid i W1.drew:=⟨c0',gi',b0,b3⟩
 have AR:=lH lr;have rD:Hid (∀w9:World,Touch (fun k=>k=qi) W1.drew w9->QcS rb cg i qi W.heap.size (.slice (some ⟨cg,0,none⟩) N cc) tid i w9):=lH (fun w9 hT=>by
  obtain⟨d1,d2,d3,d4,d5,d6⟩:=pJ.out;obtain⟨l1,l2,l3,l4⟩:=io.out;rw[sp.out] at l4;have hz:=nc.out;have e:∀k,k<W1.heap.size->k≠qi->w9.heap[k]? = W1.heap[k]?:=fun k hk hn=>hT.block k hk hn;obtain⟨s1,s2,s3,s4⟩:=AR.out;exact⟨(World.cell?_of_block (a:=⟨rb,0,none⟩) (e rb (by omega) d1)).trans s1,(World.cell?_of_block (a:=⟨cg,i,none⟩) (e cg (by omega) d2)).trans s2,(World.cell?_of_block (a:=⟨W.heap.size,0,none⟩) (e W.heap.size (by omega) (by omega))).trans s3,(World.cell?_of_block (a:=⟨W.heap.size,3,none⟩) (e W.heap.size (by omega) (by omega))).trans s4⟩)
 clear ma;go_region_held3 (QcS rb cg i qi W.heap.size (.slice (some ⟨cg,0,none⟩) N cc) tid i) (first | (with_reducible exact lr) | (with_reducible exact eo)) (first | (go_at_call 73;refine mn.mono ?_;rintro e w9 ⟨rfl,v9,rh,iE,nK⟩;have eo:=rD.out w9 iE) | fail)
 have mO:=(ra.out.below (Below.refl _ W1).drew).setQ oa.out (by rw[sp.out];exact rh) (iE.wider (fun k hk=>.inl (by rw[sp.out];exact hk))) (fun j hj=>.inr (nK j hj));have sH:RStep own (fun k=>if v9.ownBlock=some k then some (.qrow i) else own k) W w9:=(RStep.below lF.out.drew).trans (RStep.more (x:=.qrow i) iE (fun k hk=>by rw[hk,oP.out];simp) (fun j hj=>.inr (nK j hj)))
 have tz:=nB.out.same (W':=w9) (iE.block W.heap.size (by rw[show W1.drew.heap.size=_ from nc.out];omega) (by have:=io.out.2.2.2;rw[sp.out] at this;omega));obtain⟨⟨x0,x1,x2,x3,x4,x5,x6⟩,-⟩:=tz.cells;have AO:W.heap.size<w9.heap.size:=by have:=iE.size;have:=nc.out;have e:W1.drew.heap.size=W1.heap.size:=rfl;omega
 have y0:=eo.1;have BM:∀k,k<W.heap.size->k≠qi->w9.heap[k]? = W.heap[k]?:=fun k hk hn=>(iE.block k (by have e:W1.drew.heap.size=W1.heap.size:=rfl;have:=nc.out;omega) hn).trans (lF.out.drew.block k hk)
 have y1:w9.cell? ⟨cg,j,none⟩=some (.pointer (some ⟨qj,0,none⟩)):=(World.cell?_of_block (a:=⟨cg,j,none⟩) (BM cg io.out.2.2.1 pJ.out.2.1)).trans Rp.out;have Dc:=mO.q j (by simpa using Lj.out);simp only at Dc;rw[if_neg (fun e=>ay (by rw[e])),Mz.out,getElem!_pos _ j (by simpa using Lj.out),List.getElem_set,if_neg (fun e=>ay (by rw[e])),<- getElem!_pos r.cores j Lj.out,Rh.out] at Dc;have mM:=lH mO;have ms:=lH sH;have Se:=lH AO;have aj:=oN.out w9.drew _ (Dc.below (Below.refl _ w9).drew);have Mw:=lH BM;simp only at x0 x1 x2 x3 x4 x5 x6;clear rh iE nK eo mO sH tz AO BM Dc lr mn c0' gi' b0 b1 b2 b3 b4 b5 b6;go_wp2_with fail
 go_still_tail 12,(by kernel_rfl)
 change wpList _ _ _ _ _ (World.drew _);go_wp2_with fail
 refine aj.mono ?_;rintro e w5 ⟨rfl,v5,oF,ip,Oe⟩;have mV:=(mM.out.below (Below.refl _ w9).drew).setQ (i:=j) (by simpa using Lj.out) (by simp only;rw[Mz.out];exact oF) (ip.wider (fun k hk=>.inl (by simp only;rw[Mz.out];exact hk))) (fun j hj=>.inr (Oe j hj));have pq:=((ms.out.trans (RStep.below (Below.refl _ w9).drew)).trans (RStep.more (x:=.qrow j) ip (fun k hk=>by rw[hk];split <;> simp[G7.out]) (fun j hj=>.inr (Oe j hj))))
 have mz:∀k,k<W.heap.size->k≠qi->k≠qj->w5.heap[k]? = W.heap[k]?:=fun k hk h1 h2=>(ip.block k (by have e:w9.drew.heap.size=w9.heap.size:=rfl;have:=Se.out;omega) h2).trans (Mw.out k hk h1)
 obtain⟨d1,d2,d3,d4,d5,d6⟩:=pJ.out;have k3':=(World.cell?_of_block (a:=⟨g,k*7+3,none⟩) (mz g io.out.2.1 d3 d6)).trans k3;have c1':=(World.cell?_of_block (a:=⟨rb,1,none⟩) (mz rb io.out.1 d1 d4)).trans c1;have f3:=mV.freeT HV.out (k*7+3);have lX:=mV.taskCell HV.out (f:=3) (t':=coT ⟨tid,tw,tg,i,2,tm,tl⟩ j) (u:=I j) HK.out (by omega) rfl;have JK:=pq.trans (RStep.keep (((Touch.refl (fun k=>k=g) w5).setCell (t:=none) (c:=g) (i:=k*7+3) (.inl rfl) (I j))) (fun k hk=>by rw[hk];split <;> (try split) <;> simp[G3.out]))
 have HF:=lH (And.intro lX JK);clear mV pq mz lX JK oF ip Oe aj d1 d2 d3 d4 d5 d6 c1 k0 k1 k2 k3 k4 k5 k6 x0 x1 x2 x3 x4 x5 x6 y0 y1;go_wp2_with fail
 go_ret
 exact⟨rfl,_,_,HF.out.1,HF.out.2⟩
end
end Go.Proofs.YtoiajjobecinpaaGreat

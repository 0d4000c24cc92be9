/- hold: who may not run leaves. What every act keeps of a system. Each act keeps what holds of a syste -/
import Derived.Test.YtoiajjobecinpaaGreatTM21
import Derived.Test.YtoiajjobecinpaaGreatTM22
set_option maxHeartbeats 4000000
set_option maxRecDepth 100000
namespace Go.Proofs.YtoiajjobecinpaaGreat
open Go.RowKit Go.Shelf Go.Lib Go.Proofs
set_option linter.unusedVariables false
set_option linter.unusedSimpArgs false
section
attribute [local go_sem] Oper.semAt_some
noncomputable def yI (s:Sy) (id:Int):Sy:=
 match s.tasks id with
 | none=>s
 | some t=>if t.state=2/\vX s t=true then setTk (zn s id t t.core.toNat) id (stT (leaveT s t t.core.toNat) (nxt t.state 6).1) else s
def jt:Sy->List Int->Prop
 | _,[]=>True
 | s,id::ids=>(∃t xs,s.tasks id=some t/\zq s.gs t.group xs/\(t.state=2->∃i:Nat,t.core=i/\i<s.cores.length/\xT s))/\jt (yI s id) ids
theorem yX.touch {n₀:Nat} {F:Nat->Prop} {W W':World} {ds:List Deferred} (h:yX n₀ ds W) (hT:Touch F W W') (hF:∀k,F k->k<n₀):yX n₀ ds W':=
 h.kept (fun r hr Df _=>(hT.block r (yW Df) (fun hf=>by have:=hF r hf;omega)).trans Df)
theorem Uz (sb gb nb pb mb n:Nat) (cv:Value) (D:DataW Unit) (cbs:List Nat) (tb:Int->Nat) (own:Nat->Option Own) (s:Sy) (w:World)
 (h:SysAt w sb gb nb pb mb n cv D cbs tb own s) (hz:xj s.ps) (hd:gn s)
 (lQ:∀ids:List Int,ids.Perm (zf s.ps)->jt s ids) :
 Calls Tryz.prog 114 #[.pointer (some ⟨sb,0,none⟩)] w fun e W'=>e=.returned (.tuple #[])/\∃ids:List Int,ids.Perm (zf s.ps)/\ids.Pairwise (fun a b=>¬b<a)/\YO sb gb nb pb mb n cv D cbs tb own (ids.foldl yI s) w W':=by
 have lf:=fun W hW=>kA sb gb nb pb mb n cv D cbs tb own s W hW hz hd;have nu:(zf s.ps).length<=64:=Nat.le_trans (yl _ _) hz.1;have en:Below w.heap.size w (w.alloc (.cells #[.pointer (some ⟨sb,0,none⟩)] 81)):=(Below.refl _ w).alloc (Nat.le_refl _) _;have BW:=lf _ (h.below en);have HS:=lH h;have HD:=lH hd;have Dt:=lH lQ;have q0:=zv w (.pointer (some ⟨sb,0,none⟩)) 81;clear h hd lQ hz lf;refine callsIn_wide.1 (callsIn_of_wp_marks (n:=5) Tryz.func114 rfl trivial (wpIn_wide.2 ?_) rfl);simp only[Tryz.ntmps114,List.size_toArray,List.length_cons,List.length_nil,Nat.reduceAdd,Nat.reduceSub,Array.replicate_succ,Array.replicate_zero,List.push_toArray,List.append_toArray,List.nil_append,List.cons_append];go_wp2_with fail
 refine wp_scope_straight ?_;refine wp_seq ?_;refine wp_label ?_;show Code.wp _ _ _ _ _;go_wp2_with fail
 refine BW.mono ?_;rintro e w1 ⟨v,ids,rfl,eD,oK,aa,ab⟩;obtain⟨p,c,hv⟩:∃p c,v=.slice p ids.length c:=by
  rcases aa.2 with⟨e,h0⟩ | ⟨g,cap,cur,e,_⟩
  · exact⟨none,0,by rw[e,h0]⟩
  · exact⟨_,_,e⟩
 subst hv;have HP:=lH eD;have CC:=lH oK;have ef:Hid (Below w.heap.size w w1):=lH (en.trans (ab.mono en.size));have iL:=lH (HS.out.below ef.out);have Lm:Hid (∀k,own k≠none->k<w.heap.size):=lH HS.out.lt;have HR:=lH aa;have HB:=lH ab;obtain⟨m,hm⟩:∃m,ids.length=m:=⟨_,rfl⟩
 rw[hm];have HM:=lH hm;have C5:m<=64:=by rw[<- hm,eD.length_eq];exact nu
 clear BW eD oK aa ab hm;go_wp2_with fail
 refine wp_loop (fun a' wr=>∃(k:Nat) (y:Int) (ds:List Deferred) (u3 u4 u9 u10 u11 u12 u13 u14 u15 u16 u17 u18 u19 u20 u21 u22 u23 u24 u25 u26 u27 u28 u29 u30 u31 u32 u33 u34 u35 u36 u37 u38 u39:Value),(y=(k:Int)/\k<=m/\Hid (SysAt wr sb gb nb pb mb n cv D cbs tb own ((ids.take k).foldl yI s)/\Touch (fun j=>own j≠none) w1 wr/\jt ((ids.take k).foldl yI s) (ids.drop k))/\Hid (yX w.heap.size ds wr)) /\
  a'={tmps:=#[Value.pointer (some ⟨sb,0,none⟩),.pointer (some ⟨w.heap.size,0,none⟩),undef,u3,u4,.pointer (some ⟨sb,0,none⟩),.slice p m c,I m,I y,u9,u10,u11,u12,u13,u14,u15,u16,u17,u18,u19,u20,u21,u22,u23,u24,u25,u26,u27,u28,u29,u30,u31,u32,u33,u34,u35,u36,u37,u38,u39],defers:=ds})
  (fun a' _=>m-(intOf (a'.tmps.getD 8 undef)).toNat) ?start ?round
 case start=>exact⟨0,0,[],_,_,_,_,_,_,_,_,_,_,_,_,_,_,_,_,_,_,_,_,_,_,_,_,_,_,_,_,_,_,_,_,_,⟨rfl,Nat.zero_le _,lH ⟨iL.out,Touch.refl _ _,Dt.out _ HP.out⟩,lH trivial⟩,rfl⟩
 case round=>
  rintro _ wr ⟨k,y,ds,u3,u4,u9,u10,u11,u12,u13,u14,u15,u16,u17,u18,u19,u20,u21,u22,u23,u24,u25,u26,u27,u28,u29,u30,u31,u32,u33,u34,u35,u36,u37,u38,u39,⟨rfl,hk,rA,GX⟩,rfl⟩;obtain⟨hS,Gt,DE⟩:=rA.out;by_cases rq:k<m
  · have iY:(k:Int)<(m:Int):=by omega
    have aX:0<=(k:Int):=by omega
    have aw:k<ids.length:=by rw[HM.out];exact rq
    obtain⟨g,hp⟩:∃g,p=some ⟨g,0,none⟩:=by
     rcases HR.out.2 with⟨_,h0⟩ | ⟨g,cap,cur,e,_⟩
     · omega
     · simp only[Value.slice.injEq] at e;exact⟨g,e.1⟩
    subst hp;have lx:=HR.out.lt g rfl;have T7:=en.size;have ap:wr.cell? ⟨g,k,none⟩=some (.pointer (some ⟨tb (ids[k]'aw),0,none⟩)):=by
     refine(World.cell?_of_block (a:=⟨g,k,none⟩) (Gt.block g lx.2 (fun e=>by have:=Lm.out g e;omega))).trans ?_;have:=HR.out.cells (g:=g) rfl k (.pointer (some ⟨tb (ids[k]'aw),0,none⟩)) (by rw[List.getElem?_map,List.getElem?_eq_getElem aw];rfl);simpa [Addr.add_lit] using this
    rw[List.drop_eq_getElem_cons aw] at DE;have mq:(ids.take (k+1)).foldl yI s=yI ((ids.take k).foldl yI s) (ids[k]'aw):=by
     rw[List.take_succ_eq_append_getElem aw,List.foldl_append];rfl
    obtain⟨S,Hu⟩:∃S,(ids.take k).foldl yI s=S:=⟨_,rfl⟩
    rw[Hu] at DE mq hS;obtain⟨⟨t,xs,ht,hL,rl⟩,E2⟩:=DE;obtain⟨id,hid⟩:∃id,ids[k]'aw=id:=⟨_,rfl⟩
    rw[hid] at ap ht mq E2;have aU:=vi hL;obtain⟨hT,eP⟩:=hS.task id t ht;have aG:=hT.state;have O1:yI S id=if t.state=2/\vX S t=true then setTk (zn S id t t.core.toNat) id (stT (leaveT S t t.core.toNat) (nxt t.state 6).1) else S:=by unfold yI;rw[ht]
    obtain⟨b,hb⟩:∃b,tb id=b:=⟨_,rfl⟩
    rw[hb] at ap aG hT eP;have i9:b<wr.heap.size:=World.block_lt_of_cell? _ _ hT.id;have hq:wr.cell? ⟨w.heap.size,0,none⟩=some (.pointer (some ⟨sb,0,none⟩)):=(World.cell?_of_block (a:=⟨w.heap.size,0,none⟩) (Gt.block w.heap.size (by have:=HB.out.size;rw[World.size_alloc] at this;omega) (fun e=>by have:=Lm.out _ e;omega))).trans ((HB.out.cell (p:=⟨w.heap.size,0,none⟩) (by simp)).trans q0.1)
    have p9:w.heap.size<wr.heap.size:=World.block_lt_of_cell? _ _ hq;have eL:=hS.groups.lt;have le:=hS.lt sb (by rw[hS.osb];simp);have Dy:=lH hS;have od:=lH hT;have pN:=lH eP;have nR:=lH hb;have ML:=lH Gt;have EF:=lH E2;have Ld:=lH rl;have Lx:=lH ht;have me:=lH hL;have Lh:=lH aU;have Gb:=lH O1;have iy:=lH mq;have HC:=lH (And.intro hS.c1 hT.group);clear hS hT hL rl E2 ht aU O1 mq Hu hid Gt hb eP;by_cases h2:t.state=2
    · rw[h2] at aG;go_wp2_with fail
      have k0:=c2a (.cells #[.pointer (some ⟨b,0,none⟩)] 188) hq;have k1:=c2a (.cells #[.pointer (some ⟨b,0,none⟩)] 188) HC.out.1;have k2:=c2a (.cells #[.pointer (some ⟨b,0,none⟩)] 188) HC.out.2;have k3:=(zv wr (.pointer (some ⟨b,0,none⟩)) 188).1;have eG:(wr.alloc (.cells #[.pointer (some ⟨b,0,none⟩)] 188)).heap.size=wr.heap.size+1:=by simp
      have OX:Below wr.heap.size wr (wr.alloc (.cells #[.pointer (some ⟨b,0,none⟩)] 188)):=(Below.refl _ _).alloc (Nat.le_refl _) _;generalize wr.alloc (.cells #[.pointer (some ⟨b,0,none⟩)] 188)=W0 at k0 k1 k2 k3 eG OX⊢;go_region_held3 (fun W2=>W2.cell? ⟨w.heap.size,0,none⟩=some (.pointer (some ⟨sb,0,none⟩))/\W2.cell? ⟨sb,1,none⟩=some (.pointer (some ⟨gb,0,none⟩))/\W2.cell? ⟨b,2,none⟩=some (I t.group)/\W2.cell? ⟨wr.heap.size,0,none⟩=some (.pointer (some ⟨b,0,none⟩))) (first | exact⟨k0,k1,k2,k3⟩ | exact⟨c2a _ (c2a _ k0),c2a _ (c2a _ k1),c2a _ (c2a _ k2),c2a _ (c2a _ k3)⟩) (first | (go_at_call 112;refine(jj gb t.group _).mono ?_;rintro e w9 ⟨rfl,rfl⟩) | fail)
      have kg:=c2a (.cells #[I t.group] 3) (zv W0 (.pointer (some ⟨gb,0,none⟩)) 113).1;have ki:=(zv (W0.alloc (.cells #[.pointer (some ⟨gb,0,none⟩)] 113)) (I t.group) 3).1;rw[World.size_alloc] at ki;rw[eG] at kg ki;have kb:=c2a (.cells #[I t.group] 3) (c2a (.cells #[.pointer (some ⟨gb,0,none⟩)] 113) k0);have kt:=c2a (.cells #[I t.group] 3) (c2a (.cells #[.pointer (some ⟨gb,0,none⟩)] 113) k3);have ib:Below wr.heap.size wr ((W0.alloc (.cells #[.pointer (some ⟨gb,0,none⟩)] 113)).alloc (.cells #[I t.group] 3)).drew:=((OX.alloc (by omega) _).alloc (by simp;omega) _).drew;have et:((W0.alloc (.cells #[.pointer (some ⟨gb,0,none⟩)] 113)).alloc (.cells #[I t.group] 3)).drew.heap.size=wr.heap.size+1+1+1:=by show((W0.alloc _).alloc _).heap.size=_;simp;omega
      change World.cell? ((W0.alloc (.cells #[.pointer (some ⟨gb,0,none⟩)] 113)).alloc (.cells #[I t.group] 3)).drew _=_ at kg ki kb kt;generalize((W0.alloc (.cells #[.pointer (some ⟨gb,0,none⟩)] 113)).alloc (.cells #[I t.group] 3)).drew=W2 at kg ki kb kt ib et⊢;clear k0 k1 k2 k3;go_wp2_with fail
      have h1:1<=5:=by omega
      have iA:=Dy.out.below ib;refine(wpIn_wide (n:=5)).1 (wpIn_rangeFunc_ownG rfl h1 (gf:=155) (lb:=#[.pointer (some ⟨wr.heap.size+1+1,0,none⟩),.pointer (some ⟨wr.heap.size+1,0,none⟩)]) rfl trivial (enters_of Tryz.func155 (by kernel_rfl) rfl)
       (uE (5-1) (by omega) (wr.heap.size+1+1) (wr.heap.size+1) gb S.gs t.group xs W2 (by omega) (by omega) (by omega) ki kg iA.groups me.out) KpG.t (KpG.b (by omega) (by omega)) (Below.refl _ _) (fun _=>rfl)
       (fun pre W=>pre.any (zO S)=false/\Below W2.heap.size W2 W)
       (fun c pre W=>c=.exit 1/\pre.any (zO S)=true/\SysAt W sb gb nb pb mb n cv D cbs tb own (setTk (zn S id t t.core.toNat) id (stT (leaveT S t t.core.toNat) (nxt t.state 6).1))/\Touch (fun j=>own j≠none) W2 W)
       (OwnFrom.and (Own.from (fun s A B row hs hg hr=>hs) _) (ownFrom_below (Nat.le_refl _) (Nat.le_refl _)))
       (fun c pre A B row hs hg hr=>⟨hs.1,hs.2.1,hs.2.2.1.own_steps (fun k hk=>by have:=Dy.out.lt k hk;omega) hg (fun r p7=>(hr r p7).1),jU hs.2.2.2 hg (fun r p7=>(hr r p7).1)⟩)
       ⟨rfl,Below.refl _ _⟩
       (fun x=>{tmps:=#[Value.pointer (some ⟨sb,0,none⟩),.pointer (some ⟨w.heap.size,0,none⟩),undef,.pointer (some ⟨wr.heap.size,0,none⟩),I x.1,.pointer (some ⟨sb,0,none⟩),.slice (some ⟨g,0,none⟩) m c,I m,I k,.bool true,.pointer (some ⟨g,k,none⟩),.pointer (some ⟨b,0,none⟩),.pointer (some ⟨b,0,none⟩),.pointer (some ⟨b,0,none⟩),.pointer (some ⟨b,4,none⟩),I 2,.bool false,.pointer (some ⟨sb,0,none⟩),.pointer (some ⟨sb,0,none⟩),.pointer (some ⟨sb,1,none⟩),.pointer (some ⟨gb,0,none⟩),.pointer (some ⟨b,0,none⟩),.pointer (some ⟨b,0,none⟩),.pointer (some ⟨b,2,none⟩),I t.group,.func (.func 155) #[] #[.pointer (some ⟨wr.heap.size+1+1,0,none⟩),.pointer (some ⟨wr.heap.size+1,0,none⟩)],I x.1,u27,u28,u29,u30,u31,u32,u33,u34,u35,u36,u37,u38,u39],defers:=[]}) ?assign ?body ?done ?stop)
      case assign=>
       intro l x W K hK;gi_wp2
       simpa using hK
      case body=>
       rintro l pre ⟨x,ek,ia⟩ W ⟨IY,Hj⟩ sE;have e1:1<=5-1-1:=by omega
       obtain⟨j,rfl⟩:=Int.eq_ofNat_of_zero_le ek;have EW:Below wr.heap.size wr W:=ib.trans (Hj.mono ib.size)
       have tt:=Dy.out.below EW;obtain⟨a0,a1,a2,a3⟩:=tt.acc j (by omega);have hs:zO S ⟨(j:Int),ek,ia⟩=xt (S.acc.getD j default).1 (S.acc.getD j default).2.1 (S.acc.getD j default).2.2.1 (S.acc.getD j default).2.2.2:=by unfold zO;simp
       have iO:(pre++[(⟨(j:Int),ek,ia⟩:G16)]).any (zO S)=xt (S.acc.getD j default).1 (S.acc.getD j default).2.1 (S.acc.getD j default).2.2.1 (S.acc.getD j default).2.2.2:=by rw[List.any_append,IY,List.any_cons,List.any_nil,Bool.or_false,Bool.false_or,hs]
       generalize(S.acc.getD j default).1=q0 at a0 iO;generalize(S.acc.getD j default).2.1=q1 at a1 iO;generalize(S.acc.getD j default).2.2.1=q2 at a2 iO;generalize(S.acc.getD j default).2.2.2=q3 at a3 iO;have il:=qY q0 q1 q2 q3;generalize xt q0 q1 q2 q3=r at il iO;have Tt:W.cell? ⟨w.heap.size,0,none⟩=some (.pointer (some ⟨sb,0,none⟩)):=(EW.cell (p:=⟨w.heap.size,0,none⟩) p9).trans hq;have Tw:W.cell? ⟨wr.heap.size,0,none⟩=some (.pointer (some ⟨b,0,none⟩)):=(Hj.cell (p:=⟨wr.heap.size,0,none⟩) (by show wr.heap.size<W2.heap.size;omega)).trans kt;have Ox:=lH iO;have Hb:=lH tt;have Ex:=lH Hj;have T6:=Hj.size;clear hs kg ki kb kt iO tt IY Hj;cases r with
       | false=>
        gi_wp2_with (refine⟨trivial,?_⟩;gi_at_call 156;refine(CallsIn.inRound l (callsIn_wide.2 (il _))).mono ?_;rintro e w' ⟨rfl,hb⟩)
        exact⟨(yS hb).from _,ut hb (by have:=EW.size;omega) (by omega),Ox.out,Ex.out.trans (hb.mono Ex.out.size)⟩
       | true=>
        gi_wp2_with (refine⟨trivial,?_⟩;gi_at_call 156;refine(CallsIn.inRound l (callsIn_wide.2 (il _))).mono ?_;rintro e w' ⟨rfl,hb⟩;have Tu:=(hb.cell (p:=⟨w.heap.size,0,none⟩) (by show w.heap.size<W.heap.size;omega)).trans Tt;have JX:=(hb.cell (p:=⟨wr.heap.size,0,none⟩) (by show wr.heap.size<W.heap.size;omega)).trans Tw)
        have ma:=X8 sb gb nb pb mb n cv D cbs tb own S id t t.core.toNat w' (Hb.out.below hb) Lx.out (fun _=>by obtain⟨i,hi,eB,_⟩:=Ld.out h2;rw[hi];exact⟨rfl,by rw[Dy.out.num];exact eB⟩) (by obtain⟨i,hi,eB,hf⟩:=Ld.out h2;exact hf);rw[nR.out] at ma;have io:=lH (vZ S id t t.core.toNat Lx.out);have px:=lH (kU S t t.core.toNat);have pu:=lH hb;clear hb il;refine⟨trivial,?_⟩;refine(CallsIn.inRound l (callsIn_wide.2 ma)).mono ?_;rintro e w5 ⟨rfl,sS,ip⟩;have CN:=sS.task id _ io.out;rw[nR.out] at CN;have Cl:=vB b _ 6 w5 CN.1;rw[px.out] at Cl;have F6:=pu.out.size;have Tx:=(World.cell?_of_block (a:=⟨wr.heap.size,0,none⟩) (ip.block wr.heap.size (World.block_lt_of_cell? _ _ JX) (fun e=>by have:=Dy.out.lt _ e;omega))).trans JX;have pM:=lH sS;have EQ:=lH ip;have MJ:=lH CN;clear sS ip CN ma;gi_wp2_with fail
        refine⟨trivial,?_⟩;refine(CallsIn.inRound l (callsIn_wide.2 Cl)).mono ?_;rintro e w6 ⟨rfl,rfl⟩;gi_wp2_with fail
        have Rb:=EQ.out.size;have Di:Touch (fun j=>own j≠none) W (w5.setCell ⟨b,4,none⟩ (I (nxt 2 6).1)):=((Touch.of_below pu.out).self EQ.out).setCell (t:=none) (.inl (by show own b≠none;rw[pN.out];simp)) _;rw[show(nxt t.state 6).1=(nxt 2 6).1 by rw[h2]];refine⟨⟨Di.size,fun q o hq ho _=>(Di.block q (yW ho) (fun e=>by have:=Dy.out.lt q e;omega)).trans ho⟩,rfl,Ox.out,pM.out.setTask io.out (by rw[nR.out];exact MJ.out.1.setState _) (by rw[nR.out];exact zG _ _ _ _),(Touch.of_below Ex.out).self Di⟩
      case done=>
       rintro D' ys W hD rfl ⟨IY,EV⟩ hK;have am:(ids.take (k+1)).foldl yI s=S:=by rw[iy.out,Gb.out,if_neg (fun e=>by rw[Lh.out,IY] at e;cases e.2)]
       have pB:=EF.out;rw[Gb.out,if_neg (fun e=>by rw[Lh.out,IY] at e;cases e.2)] at pB;have aA:=lH am;have rC:=lH pB;clear am pB;go_wp2_with fail
       have oE:Below wr.heap.size wr W:=ib.trans (EV.mono ib.size)
       refine⟨⟨k+1,(k:Int)+1,_,_,_,_,_,_,_,_,_,_,_,_,_,_,_,_,_,_,_,_,_,_,_,_,_,_,_,_,_,_,_,_,_,_,⟨by omega,by omega,lH ⟨by rw[aA.out];exact Dy.out.below oE,ML.out.self (Touch.of_below oE),by rw[aA.out];exact rC.out⟩,lH (GX.out.cons oE (by omega) (by have:=ib.size;omega) hK)⟩,rfl⟩,?_⟩;simp[intOf];omega
      case stop=>
       rintro D' c' pre W hD BP ⟨rfl,aN,tt,Pe⟩ hK;have iO:xs.any (zO S)=true:=gO BP aN;have am:(ids.take (k+1)).foldl yI s=setTk (zn S id t t.core.toNat) id (stT (leaveT S t t.core.toNat) (nxt t.state 6).1):=by rw[iy.out,Gb.out,if_pos ⟨h2,by rw[Lh.out,iO]⟩]
       have pB:=EF.out;rw[Gb.out,if_pos ⟨h2,by rw[Lh.out,iO]⟩] at pB;have aA:=lH am;have rC:=lH pB;have MI:=lH tt;have PY:Touch (fun j=>own j≠none) wr W:=(Touch.of_below ib).self Pe;have EU:=lH PY;clear am pB tt Pe PY;refine wpIn_wide.2 ?_;go_wp2_with fail
       have lA:yX w.heap.size ({target:=.collected D',args:=#[]}::ds) W:=⟨⟨D',rfl,by omega,hK,fun d' Nd e=>by obtain⟨r,h1,h2⟩:=GX.out.lt d' Nd;rw[h1] at e;cases e;omega⟩,GX.out.touch EU.out (fun j hj=>Lm.out j hj)⟩
       refine⟨⟨k+1,(k:Int)+1,_,_,_,_,_,_,_,_,_,_,_,_,_,_,_,_,_,_,_,_,_,_,_,_,_,_,_,_,_,_,_,_,_,_,⟨by omega,by omega,lH ⟨by rw[aA.out];exact MI.out,ML.out.self EU.out,by rw[aA.out];exact rC.out⟩,lH lA⟩,rfl⟩,?_⟩;simp[intOf];omega
    · have am:(ids.take (k+1)).foldl yI s=S:=by rw[iy.out,Gb.out,if_neg (fun e=>h2 e.1)]
      have pB:=EF.out;rw[Gb.out,if_neg (fun e=>h2 e.1)] at pB;have aA:=lH am;have rC:=lH pB;clear am pB;go_wp2_with fail
      have aK:Below wr.heap.size wr (wr.alloc (.cells #[.pointer (some ⟨b,0,none⟩)] 188)):=(Below.refl _ _).alloc (Nat.le_refl _) _;refine⟨⟨k+1,(k:Int)+1,ds,_,_,_,_,_,_,_,_,_,_,_,_,_,_,_,_,_,_,_,_,_,_,_,_,_,_,_,_,_,_,_,_,_,⟨by omega,by omega,lH ⟨by rw[aA.out];exact Dy.out.below aK,ML.out.self (Touch.of_below aK),by rw[aA.out];exact rC.out⟩,lH (GX.out.below aK)⟩,rfl⟩,?_⟩;simp[intOf];omega
  · obtain rfl:k=m:=by omega
    rw[show ids.take k=ids from List.take_of_length_le (by rw[HM.out];exact Nat.le_refl _)] at hS;have RV:=lH hS;have OP:=lH Gt;clear hS Gt DE;go_wp2_with fail
    have TB:w.heap.size<=wr.heap.size:=Nat.le_trans ef.out.size OP.out.size;refine kW ds wr GX.out TB (fun W' m8=>?_);refine⟨_,results_none rfl _ _ _,rfl,ids,HP.out,CC.out.imp (fun h=>by omega),RV.out.same m8.size (fun j hj=>m8.block j (Lm.out j hj)),?_⟩;have tf:Touch (fun j=>own j≠none) w wr:=(Touch.of_below ef.out).self OP.out;exact⟨m8.os.trans tf.os,m8.tape.trans tf.tape,m8.output.trans tf.output,Nat.le_trans tf.size m8.size,fun j hj hf=>(m8.block j hj).trans (tf.block j hj hf)⟩
end
structure TaskK (k n:Nat) (gs:List (Bool×Int)) (x:Int) (t:Tk):Prop where
 id:t.id=x
 w:1<=t.w/\t.w<=20
 mask:(0<=t.mask/\t.mask<65536)/\ye t.mask n=true
 st:t.state=1\/t.state=2\/t.state=4\/t.state=5
 core:t.state≠1->∃i:Nat,t.core=(i:Int)/\i<n
 has:(t.state=2\/t.state=5)->zW t.mask t.core=true
 lag:-((k:Int)*232792560)<=t.lag/\t.lag<=(k:Int)*232792560
 grp:zL gs t.group=true
theorem TaskK.mono {k k' n:Nat} {gs:List (Bool×Int)} {x:Int} {t:Tk} (h:TaskK k n gs x t) (hk:k<=k'):TaskK k' n gs x t:=
 ⟨h.id,h.w,h.mask,h.st,h.core,h.has,by have:=h.lag;omega,h.grp⟩
structure GsOk (gs:List (Bool×Int)):Prop where
 len:gs.length=16
 path:∀g:Int,∃xs,zq gs g xs/\xs.length<=4
 ups:∀g:Int,zL gs g=true->upG gs g=-1\/zL gs (upG gs g)=true
structure InvY (k:Nat) (b:Int) (n:Nat) (s:Sy):Prop where
 n8:1<=n/\n<=8
 len:s.cores.length=n
 line:∀i,i<n->LnK k b s.cores[i]!.l
 srv:∀i,i<n->s.cores[i]!.srv<=k
 gs:GsOk s.gs
 acc:xO s.acc
 pslen:s.ps.length=64
 psat:∀j,j<64->0<=(s.ps.getD j default).1/\(s.ps.getD j default).1<=k/\((s.ps.getD j default).2=true->1<=(s.ps.getD j default).1)
 names:∀x,s.tasks x≠none↔x∈zf s.ps
 task:∀x t,s.tasks x=some t->TaskK k n s.gs x t
 on:∀i,i<n->∀x w,xd s.cores[i]!.l x w↔∃t,s.tasks x=some t/\t.state=2/\t.core=(i:Int)/\t.w=w
 cnt:s.cnt<=k
theorem InvY.mono {k k':Nat} {b b':Int} {n:Nat} {s:Sy} (h:InvY k b n s) (hk:k<=k') (hb:b<=b'):InvY k' b' n s:=
 ⟨h.n8,h.len,fun i hi=>(h.line i hi).mono hk hb,fun i hi=>Nat.le_trans (h.srv i hi) hk,h.gs,h.acc,h.pslen,fun j hj=>by have:=h.psat j hj;exact⟨this.1,by omega,this.2.2⟩,h.names,fun x t ht=>(h.task x t ht).mono hk,h.on,Nat.le_trans h.cnt hk⟩
theorem InvY.edit {k k':Nat} {b b':Int} {n:Nat} {s s':Sy} {id:Int} {t t':Tk} (h:InvY k b n s) (hk:k<=k') (ht:s.tasks id=some t) (ag:s'.cores.length=n) (CW:s'.gs=s.gs) (pR:s'.acc=s.acc) (iV:s'.ps=s.ps) (nW:s'.cnt=s.cnt)
 (n7:∀x,s'.tasks x=if x=id then some t' else s.tasks x) (hT:TaskK k' n s.gs id t')
 (hc:∀i,i<n->LnK k' b' s'.cores[i]!.l/\s'.cores[i]!.srv<=k'/\(∀x v,x≠id->(xd s'.cores[i]!.l x v↔xd s.cores[i]!.l x v))/\∀v,xd s'.cores[i]!.l id v↔(t'.state=2/\t'.core=(i:Int)/\t'.w=v)):InvY k' b' n s':=by
 refine⟨h.n8,ag,fun i hi=>(hc i hi).1,fun i hi=>(hc i hi).2.1,CW ▸ h.gs,pR ▸ h.acc,by rw[iV];exact h.pslen,fun j hj=>?_,fun x=>?_,fun x u hu=>?_,fun i hi x w=>?_,by rw[nW];exact Nat.le_trans h.cnt hk⟩
 · rw[iV];have:=h.psat j hj;exact⟨this.1,by omega,this.2.2⟩
 · rw[n7 x,iV];by_cases e:x=id
   · rw[if_pos e,e];exact⟨fun _=>(h.names id).1 (by rw[ht];simp),fun _=>by simp⟩
   · rw[if_neg e];exact h.names x
 · rw[n7 x] at hu;rw[CW];by_cases e:x=id
   · rw[if_pos e,Option.some.injEq] at hu;rw[e,<- hu];exact hT
   · rw[if_neg e] at hu;exact(h.task x u hu).mono hk
 · rw[n7 x];obtain⟨-,-,c3,c4⟩:=hc i hi;by_cases e:x=id
   · rw[if_pos e,e,c4 w];exact⟨fun hh=>⟨t',rfl,hh⟩,fun⟨u,hu,hh⟩=>by rw[Option.some.injEq] at hu;subst hu;exact hh⟩
   · rw[if_neg e,c3 x w e];exact h.on i hi x w
theorem InvY.setK {k:Nat} {b:Int} {n:Nat} {s:Sy} {id:Int} {t t':Tk} (h:InvY k b n s) (ht:s.tasks id=some t) (hT:TaskK k n s.gs id t')
 (h2:(t.state≠2/\t'.state≠2)\/(t'.state=t.state/\t'.core=t.core/\t'.w=t.w)):InvY k b n (setTk s id t'):=by
 refine h.edit (Nat.le_refl _) ht h.len rfl rfl rfl rfl (fun x=>rfl) hT (fun i hi=>⟨h.line i hi,h.srv i hi,fun x v hx=>Iff.rfl,fun v=>?_⟩);rw[show(Go.Proofs.YtoiajjobecinpaaGreat.setTk s id t').cores=s.cores from rfl,h.on i hi id v];constructor
 · rintro⟨u,hu,h3,h4,h5⟩;rw[ht,Option.some.injEq] at hu;subst hu;rcases h2 with⟨h2,_⟩ | ⟨e1,e2,e3⟩
   · exact absurd h3 h2
   · rw[e1,e2,e3];exact⟨h3,h4,h5⟩
 · rintro⟨h3,h4,h5⟩;rcases h2 with⟨_,h2⟩ | ⟨e1,e2,e3⟩
   · exact absurd h3 h2
   · rw[e1] at h3;rw[e2] at h4;rw[e3] at h5;exact⟨t,ht,h3,h4,h5⟩
theorem InvY.at_ {k:Nat} {b:Int} {n:Nat} {s:Sy} {id:Int} {t:Tk} (h:InvY k b n s) (ht:s.tasks id=some t) (h2:t.state=2):∃i:Nat,t.core=(i:Int)/\i<n/\xd s.cores[i]!.l id t.w:=by
 obtain⟨i,hi,aN⟩:=(h.task id t ht).core (by omega);exact⟨i,hi,aN,(h.on i aN id t.w).2 ⟨t,ht,h2,hi,rfl⟩⟩
theorem kS (k:Nat) (hk:k<=400):(k:Int)*232792560<=100000000000/\0<=(k:Int)*232792560:=by omega
theorem InvY.lagK {k:Nat} {b:Int} {n:Nat} {s:Sy} {id:Int} {t:Tk} {i:Nat} (h:InvY k b n s) (ht:s.tasks id=some t) (hi:t.state=2->t.core=(i:Int)/\i<n) :
 -((k:Int)*232792560)<=(leaveT s t i).lag/\(leaveT s t i).lag<=(k:Int)*232792560:=by
 unfold Go.Proofs.YtoiajjobecinpaaGreat.leaveT;have hT:=h.task id t ht;split
 · rename_i h2;obtain⟨hc,hn⟩:=hi h2;have:=((h.line i hn).leave t.id).2.2 t.w (by rw[hT.id];exact(h.on i hn id t.w).2 ⟨t,ht,h2,hc,rfl⟩);exact this.2
 · exact hT.lag
theorem kV {s:Sy} {id:Int} {t:Tk} {i j:Nat} (hj:j<s.cores.length):(zn s id t i).cores[j]! = if t.state=2/\i=j then(zh s.cores[i]! t.id).2.2 else s.cores[j]!:=by
 unfold zn;by_cases h2:t.state=2
 · rw[if_pos h2];show(s.cores.set i _)[j]! = _;rw[yL _ _ _ _ hj];by_cases e:i=j
   · rw[if_pos e,if_pos ⟨h2,e⟩]
   · rw[if_neg e,if_neg (fun hh=>e hh.2)]
 · rw[if_neg h2,if_neg (fun hh=>h2 hh.1)]
theorem ku {s:Sy} {id:Int} {t:Tk} {i:Nat}:(zn s id t i).cores.length=s.cores.length:=by
 unfold zn;split
 · show(s.cores.set i _).length=_;rw[List.length_set]
 · rfl
theorem xG {s:Sy} {id:Int} {t:Tk} {i:Nat}:(zn s id t i).gs=s.gs/\(zn s id t i).acc=s.acc/\(zn s id t i).ps=s.ps/\(zn s id t i).cnt=s.cnt/\∀x,x≠id->(zn s id t i).tasks x=s.tasks x:=by
 unfold zn;split
 · refine⟨rfl,rfl,rfl,rfl,fun x hx=>?_⟩;show(if x=id then _ else _)=_;rw[if_neg hx];rfl
 · exact⟨rfl,rfl,rfl,rfl,fun _ _=>rfl⟩
theorem InvY.left {k:Nat} {b:Int} {n:Nat} {s:Sy} {id:Int} {t:Tk} {i:Nat} (h:InvY k b n s) (ht:s.tasks id=some t) (hi:t.state=2->t.core=(i:Int)/\i<n) (j:Nat) (hj:j<n) :
 LnK k (b+k*232792560) (zn s id t i).cores[j]!.l/\(zn s id t i).cores[j]!.srv<=k/\(∀x v,x≠id->(xd (zn s id t i).cores[j]!.l x v↔xd s.cores[j]!.l x v))/\∀v,¬xd (zn s id t i).cores[j]!.l id v:=by
 rw[kV (by rw[h.len];exact hj)];have hT:=h.task id t ht;by_cases e:t.state=2/\i=j
 · rw[if_pos e];obtain⟨e1,rfl⟩:=e;obtain⟨a,c,d⟩:=(h.line i hj).leave t.id;rw[hT.id] at a c⊢;exact⟨a,h.srv i hj,fun x v hx=>(c x v).trans ⟨fun hh=>hh.2,fun hh=>⟨hx,hh⟩⟩,fun v hh=>((c id v).1 hh).1 rfl⟩
 · rw[if_neg e];refine⟨(h.line j hj).mono (Nat.le_refl _) (by omega),h.srv j hj,fun x v hx=>Iff.rfl,fun v hh=>?_⟩;obtain⟨u,hu,h2,h3,_⟩:=(h.on j hj id v).1 hh;rw[ht,Option.some.injEq] at hu;subst hu;have:=(hi h2).1;exact e ⟨h2,by omega⟩
theorem InvY.leaveK {k:Nat} {b:Int} {n:Nat} {s:Sy} {id:Int} {t t':Tk} {i:Nat} (h:InvY k b n s) (ht:s.tasks id=some t) (hi:t.state=2->t.core=(i:Int)/\i<n) (hT:TaskK k n s.gs id t') (hn:t'.state≠2) :
 InvY k (b+k*232792560) n (Go.Proofs.YtoiajjobecinpaaGreat.setTk (zn s id t i) id t'):=by
 obtain⟨e1,e2,e3,e4,e5⟩:=xG (s:=s) (id:=id) (t:=t) (i:=i);refine h.edit (Nat.le_refl _) ht (ku.trans h.len) e1 e2 e3 e4 (fun x=>?_) hT (fun j hj=>?_)
 · show(if x=id then _ else _)=_;by_cases e:x=id
   · rw[if_pos e,if_pos e]
   · rw[if_neg e,if_neg e,e5 x e]
 · obtain⟨a,c,d,f⟩:=h.left ht hi j hj;exact⟨a,c,d,fun v=>⟨fun hh=>absurd hh (f v),fun hh=>absurd hh.1 hn⟩⟩
theorem jH:∀(l1 l2:List Int),l1.Nodup->(∀x∈l1,x∈l2)->l1.length<=l2.length
 | [],l2,_,_=>Nat.zero_le _
 | a::l,l2,h,hs=>by
  obtain⟨h1,h2⟩:=List.nodup_cons.1 h;have ha:=hs a List.mem_cons_self;have:=jH l (l2.erase a) h2 (fun x hx=>(List.mem_erase_of_ne (fun e=>h1 (by rw[<- e];exact hx))).2 (hs x (List.mem_cons_of_mem _ hx)));rw[List.length_erase_of_mem ha] at this;have:=List.length_pos_of_mem ha;rw[List.length_cons];omega
theorem InvY.len64 {k:Nat} {b:Int} {n:Nat} {s:Sy} (h:InvY k b n s) (i:Nat) (hi:i<n):s.cores[i]!.l.ps.length<=64/\∀id t,s.tasks id=some t->(∀v,¬xd s.cores[i]!.l id v)->s.cores[i]!.l.ps.length<64:=by
 have IP:(s.cores[i]!.l.ps.map (·.id)).Nodup:=by
  have:=(h.line i hi).ids;exact List.Pairwise.map _ (fun a b (LG:a.id<b.id)=>by omega) this
 have aN:∀x∈s.cores[i]!.l.ps.map (·.id),x∈zf s.ps:=fun x hx=>by
  obtain⟨p,hp,rfl⟩:=List.mem_map.1 hx;obtain⟨t,ht,_⟩:=(h.on i hi p.id p.w).1 ⟨p,hp,rfl,rfl⟩;exact(h.names p.id).1 (by rw[ht];simp)
 have hl:(zf s.ps).length<=64:=by rw[<- h.pslen];exact yl _ _
 refine⟨?_,fun id t ht mG=>?_⟩
 · have:=jH _ _ IP aN;rw[List.length_map] at this;omega
 · have:=jH (id::s.cores[i]!.l.ps.map (·.id)) (zf s.ps) (List.nodup_cons.2 ⟨fun hx=>by
    obtain⟨p,hp,e⟩:=List.mem_map.1 hx;exact mG p.w ⟨p,hp,e,rfl⟩,IP⟩) (fun x hx=>by
    rcases List.mem_cons.1 hx with rfl | hx
    · exact(h.names x).1 (by rw[ht];simp)
    · exact aN x hx)
   rw[List.length_cons,List.length_map] at this;omega
theorem uC {x:Int}:∀{ps:List (Int×Bool)} {i:Nat},x∈yz i ps↔∃j,j<ps.length/\(ps.getD j default).2=true/\x=((i+j:Nat):Int)+64*((ps.getD j default).1-1)
 | [],i=>by simp[yz]
 | p::l,i=>by
  have ih:=uC (x:=x) (ps:=l) (i:=i+1);constructor
  · intro hx;unfold yz at hx;have key:x∈yz (i+1) l->∃j,j<(p::l).length/\((p::l).getD j default).2=true/\x=((i+j:Nat):Int)+64*(((p::l).getD j default).1-1):=fun hx=>by
     obtain⟨j,hj,h1,h2⟩:=ih.1 hx;exact⟨j+1,by simpa using hj,by simpa using h1,by rw[h2];simp only[List.getD_cons_succ];omega⟩
    split at hx
    · rename_i e;rcases List.mem_cons.1 hx with rfl | hx
      · exact⟨0,by simp,by simpa using e,by simp⟩
      · exact key hx
    · exact key hx
  · rintro⟨j,hj,h1,h2⟩;unfold yz;cases j with
    | zero=>
     simp only[List.getD_cons_zero] at h1 h2;rw[if_pos h1];exact List.mem_cons.2 (.inl (by rw[h2];simp))
    | succ j=>
     simp only[List.getD_cons_succ] at h1 h2;have:x∈yz (i+1) l:=ih.2 ⟨j,by simpa using hj,h1,by rw[h2];omega⟩;split
     · exact List.mem_cons_of_mem _ this
     · exact this
theorem xL {ps:List (Int×Bool)} {x:Int}:x∈zf ps↔∃j,j<ps.length/\(ps.getD j default).2=true/\x=(j:Int)+64*((ps.getD j default).1-1):=by
 unfold zf;rw[uC];simp
theorem InvY.idle {k:Nat} {b:Int} {n:Nat} {s:Sy} (h:InvY k b n s) {x:Int} {t:Tk} (ht:s.tasks x=some t):0<=x/\x<=64+64*k:=by
 obtain⟨j,hj,h1,h2⟩:=xL.1 ((h.names x).1 (by rw[ht];simp));rw[h.pslen] at hj;have:=h.psat j hj;have:=this.2.2 h1;omega
theorem InvY.may {k:Nat} {b:Int} {n:Nat} {s:Sy} {id:Int} {t:Tk} {i:Nat} (h:InvY k b n s) (hk:k<=400) (ht:s.tasks id=some t) (hi:i<n) (mG:∀v,¬xd s.cores[i]!.l id v) (lag:Int) (hl:-((k:Int)*232792560)<=lag/\lag<=(k:Int)*232792560) :
 zP s.cores[i]!.l id t.w lag=0:=by
 have h1:=(h.len64 i hi).2 id t ht mG;have h2:=h.idle ht;have hw:=(h.task id t ht).w;unfold zP;rw[if_pos,if_neg,if_neg (by omega)]
 · rcases zB s.cores[i]!.l.ps id with⟨hp,_⟩ | ⟨j,hj,hp,hid,_⟩
   · omega
   · exact absurd ⟨_,List.getElem_mem hj,hid,rfl⟩ (mG s.cores[i]!.l.ps[j].w)
 · unfold da;rw[bC hw];simp only[Bool.and_eq_true,decide_eq_true_eq,true_and];omega
theorem InvY.put {k:Nat} {b:Int} {n:Nat} {s:Sy} {id:Int} {t t':Tk} {i:Nat} (h:InvY k b n s) (hk:k<=400) (ht:s.tasks id=some t) (hi:i<n) (h2:t.state≠2) (lag:Int) (hl:-((k:Int)*232792560)<=lag/\lag<=(k:Int)*232792560) (x:Bool)
 (hT:TaskK k n s.gs id t') (hs:t'.state=2/\t'.core=(i:Int)/\t'.w=t.w) :
 (zg s.cores[i]! id t.w lag x).1=0/\InvY k (b+k*232792560) n (Go.Proofs.YtoiajjobecinpaaGreat.setTk (zN s i (zg s.cores[i]! id t.w lag x).2) id t'):=by
 have mG:∀j,j<n->∀v,¬xd s.cores[j]!.l id v:=fun j hj v hh=>by
  obtain⟨u,hu,h3,_⟩:=(h.on j hj id v).1 hh;rw[ht,Option.some.injEq] at hu;subst hu;exact h2 h3
 have eA:=h.may hk ht hi (mG i hi) lag hl;have lD:=h.task id t ht;have hid:=h.idle ht;unfold zg;rw[if_pos eA];refine⟨eA,h.edit (Nat.le_refl _) ht (by show(s.cores.set i _).length=n;rw[List.length_set];exact h.len) rfl rfl rfl rfl (fun y=>rfl) hT (fun j hj=>?_)⟩;show LnK k _ (s.cores.set i _)[j]!.l/\(s.cores.set i _)[j]!.srv<=k/\(∀y v,y≠id->(xd (s.cores.set i _)[j]!.l y v↔_))/\∀v,xd (s.cores.set i _)[j]!.l id v↔_;rw[yL _ _ _ _ (by rw[h.len];exact hj)];by_cases e:i=j
 · subst e;rw[if_pos rfl];have iZ:-((k:Int)*232792560)<=(if x=true then lag else yy s.cores[i]!.tag lag)/\(if x=true then lag else yy s.cores[i]!.tag lag)<=(k:Int)*232792560:=by
    split
    · exact hl
    · exact Ux _ _ _ hl
   refine⟨(h.line i hj).put (by omega) lD.w iZ (fun p hp e=>mG i hj p.w ⟨p,hp,e,rfl⟩),h.srv i hj,fun y v hy=>?_,fun v=>?_⟩
   · rw[bF];exact⟨fun hh=>hh.elim (fun hh=>absurd hh.1 hy) (fun hh=>hh),.inr⟩
   · rw[bF,hs.2.2];exact⟨fun hh=>hh.elim (fun hh=>⟨hs.1,hs.2.1,hh.2.symm⟩) (fun hh=>absurd hh (mG i hj v)),fun hh=>.inl ⟨rfl,hh.2.2.symm⟩⟩
 · rw[if_neg e];refine⟨(h.line j hj).mono (Nat.le_refl _) (by omega),h.srv j hj,fun y v hy=>Iff.rfl,fun v=>⟨fun hh=>absurd hh (mG j hj v),fun hh=>?_⟩⟩;have:=hh.2.1;have:=hs.2.1;exact absurd (by omega:i=j) e
theorem InvY.enter {k:Nat} {b:Int} {n:Nat} {s:Sy} {id:Int} {t:Tk} {i:Nat} {act:Int} (h:InvY k b n s) (hk:k<=400) (ht:s.tasks id=some t) (nE x:Bool) (hc:t.core=(i:Int)) (hi:i<n) (hm:zW t.mask t.core=true)
 (ha:nxt t.state act=(2,0)) (h2:t.state≠2) :
 (zX s id t nE i act x).1=0/\InvY k (b+k*232792560) n (zX s id t nE i act x).2/\(zX s id t nE i act x).2.ps=s.ps/\(zX s id t nE i act x).2.gs=s.gs/\(zX s id t nE i act x).2.acc=s.acc:=by
 have hT:=h.task id t ht;have h5:nxt 2 6=(5,0):=by rfl
 have Pf:∀st:Int,st=2\/st=5->TaskK k n s.gs id (stT t st):=fun st aG=>
  ⟨hT.id,hT.w,hT.mask,by show st=1\/st=2\/st=4\/st=5;omega,fun _=>⟨i,hc,hi⟩,fun _=>hm,hT.lag,hT.grp⟩
 unfold zX;rw[ha];by_cases hh:nE=true
 · rw[if_pos hh];simp only[h5];exact⟨trivial,(h.setK ht (Pf 5 (.inr rfl)) (.inl ⟨h2,by simp[stT]⟩)).mono (Nat.le_refl _) (by omega),rfl,rfl,rfl⟩
 · rw[if_neg hh];obtain⟨a,c⟩:=h.put hk ht hi h2 t.lag hT.lag x (Pf 2 (.inl rfl)) ⟨rfl,hc,rfl⟩;have hid:=hT.id;rw[hid,if_pos a];exact⟨rfl,c,rfl,rfl,rfl⟩
theorem xM (s:Int):(nxt s 4=(4,0)↔(s=2\/s=3\/s=5))/\((nxt s 4).2=0↔(s=2\/s=3\/s=5))/\((nxt s 1).2=0->s=1)/\((nxt s 5).2=0->s=4)/\(1<=s->s<=5->(nxt s 8).2=0):=by
 unfold nxt;refine⟨⟨fun h=>?_,fun h=>?_⟩,⟨fun h=>?_,fun h=>?_⟩,fun h=>?_,fun h=>?_,fun h1 h2=>?_⟩;all_goals (repeat' split at *) <;> simp_all <;> omega
theorem bM (s:Sy) (t:Tk) (i:Nat):(leaveT s t i).id=t.id/\(leaveT s t i).w=t.w/\(leaveT s t i).group=t.group/\(leaveT s t i).core=t.core/\(leaveT s t i).state=t.state/\(leaveT s t i).mask=t.mask:=by
 unfold leaveT;split <;> exact⟨rfl,rfl,rfl,rfl,rfl,rfl⟩
theorem InvY.out {k:Nat} {b:Int} {n:Nat} {s:Sy} {id:Int} {t:Tk} {i:Nat} (h:InvY k b n s) (ht:s.tasks id=some t) (hi:t.state=2->t.core=(i:Int)/\i<n) (st:Int) (aG:st=4\/st=5) (h1:t.state≠1) (h5:st=5->zW t.mask t.core=true) :
 InvY k (b+k*232792560) n (setTk (zn s id t i) id (stT (leaveT s t i) st)):=by
 have hT:=h.task id t ht;obtain⟨e1,e2,e3,e4,e5,e6⟩:=bM s t i;refine h.leaveK ht hi ⟨e1.trans hT.id,by show 1<=(leaveT s t i).w/\(leaveT s t i).w<=20;rw[e2];exact hT.w,?_,?_,fun _=>?_,fun hh=>?_,h.lagK ht hi,?_⟩ ?_
 · show(0<=(leaveT s t i).mask/\(leaveT s t i).mask<65536)/\ye (leaveT s t i).mask n=true;rw[e6];exact hT.mask
 · show st=1\/st=2\/st=4\/st=5;omega
 · show∃j:Nat,(leaveT s t i).core=_/\_;rw[e4];exact hT.core h1
 · show zW (leaveT s t i).mask (leaveT s t i).core=true;rw[e6,e4];rcases aG with rfl | rfl
   · rcases hh with hh | hh <;> exact absurd hh (by simp[stT])
   · exact h5 rfl
 · show zL s.gs (leaveT s t i).group=true;rw[e3];exact hT.grp
 · show st≠2;omega
theorem InvY.sleep {k:Nat} {b:Int} {n:Nat} {s:Sy} (h:InvY k b n s) (id:Int) (i:Nat) (hi:∀t,s.tasks id=some t->t.state=2->t.core=(i:Int)/\i<n):InvY k (b+k*232792560) n (wY s id i).2:=by
 unfold wY;cases ht:s.tasks id with
 | none=>exact h.mono (Nat.le_refl _) (by omega)
 | some t=>
  simp only
  split
  · rename_i he;have hs:=((xM t.state).2.1).1 he;rw[((xM t.state).1).2 hs];exact h.out ht (hi t ht) 4 (.inl rfl) (by omega) (fun h=>absurd h (by decide))
  · exact h.mono (Nat.le_refl _) (by omega)
theorem kq (s:Sy) (id:Int):(yI s id).ps=s.ps/\(yI s id).gs=s.gs/\(yI s id).acc=s.acc/\(yI s id).cores.length=s.cores.length:=by
 unfold yI;split
 · exact⟨rfl,rfl,rfl,rfl⟩
 · split
   · obtain⟨e1,e2,e3,e4,e5⟩:=xG (s:=s) (id:=id) (t:=_) (i:=_);exact⟨e3,e1,e2,ku⟩
   · exact⟨rfl,rfl,rfl,rfl⟩
theorem InvY.hold1 {k:Nat} {b:Int} {n:Nat} {s:Sy} (h:InvY k b n s) (id:Int):InvY k (b+k*232792560) n (yI s id):=by
 unfold yI;cases ht:s.tasks id with
 | none=>exact h.mono (Nat.le_refl _) (by omega)
 | some t=>
  simp only
  split
  · rename_i he;have h5:(nxt t.state 6).1=5:=by rw[he.1];rfl
    rw[h5];obtain⟨i,hi,aN,_⟩:=h.at_ ht he.1;have lO:t.core.toNat=i:=by omega
    rw[lO];exact h.out ht (fun _=>⟨hi,aN⟩) 5 (.inr rfl) (by omega) (fun _=>(h.task id t ht).has (.inl he.1))
  · exact h.mono (Nat.le_refl _) (by omega)
theorem InvY.fitsY {k:Nat} {b:Int} {n:Nat} {s:Sy} (h:InvY k b n s) (hk:k<=400) (hb:b<=1000000000000000000):xT s:=fun i hi=>
 (h.line i (by rw[<- h.len];exact hi)).fits (by omega) hb (h.len64 i (by rw[<- h.len];exact hi)).1
theorem InvY.some_ {k:Nat} {b:Int} {n:Nat} {s:Sy} (h:InvY k b n s) {id:Int} (hid:id∈zf s.ps):∃t xs,s.tasks id=some t/\zq s.gs t.group xs:=by
 cases ht:s.tasks id with
 | none=>exact absurd ht ((h.names id).2 hid)
 | some t=>
  obtain⟨xs,hx,_⟩:=h.gs.path t.group;exact⟨t,xs,rfl,hx⟩
theorem InvY.holds {k n:Nat} (hk:k<=400):∀(ids:List Int) (b:Int) (s:Sy),InvY k b n s->b+ids.length*(k*232792560)<=1000000000000000000->(∀x∈ids,x∈zf s.ps) ->
 jt s ids/\InvY k (b+ids.length*(k*232792560)) n (ids.foldl yI s)
 | [],b,s,h,_,_=>⟨trivial,h.mono (Nat.le_refl _) (by simp)⟩
 | id::ids,b,s,h,hb,aN=>by
  have rJ:=kS k hk;have ag:((id::ids).length:Int)=ids.length+1:=by simp
  rw[ag,Int.add_mul,Int.one_mul] at hb;have LQ:0<=(ids.length:Int)*((k:Int)*232792560):=Int.mul_nonneg (by omega) rJ.2;have hs:=kq s id;obtain⟨a,c⟩:=InvY.holds hk ids (b+k*232792560) (yI s id) (h.hold1 id) (by omega) (fun x hx=>by rw[hs.1];exact aN x (List.mem_cons_of_mem _ hx));refine⟨⟨?_,a⟩,?_⟩
  · obtain⟨t,xs,ht,hx⟩:=h.some_ (aN id List.mem_cons_self);refine⟨t,xs,ht,hx,fun h2=>?_⟩;obtain⟨i,hi,CY,_⟩:=h.at_ ht h2;exact⟨i,hi,by rw[h.len];exact CY,h.fitsY hk (by omega)⟩
  · rw[List.foldl_cons,ag,Int.add_mul,Int.one_mul];exact c.mono (Nat.le_refl _) (by omega)
theorem fO {k:Nat} {b:Int} {n:Nat} {s:Sy} (h:InvY k b n s) (hk:k<=400) (id:Int):InvY k (b+k*232792560) n (yJ s id)/\(yJ s id).ps=s.ps/\(yJ s id).gs=s.gs/\(yJ s id).acc=s.acc:=by
 unfold yJ;cases ht:s.tasks id with
 | none=>exact⟨h.mono (Nat.le_refl _) (by omega),rfl,rfl,rfl⟩
 | some t=>
  simp only
  split
  · rename_i he;obtain⟨i,hi,aN⟩:=(h.task id t ht).core (by omega);have lO:t.core.toNat=i:=by omega
    rw[lO];have:=h.enter (act:=7) hk ht false true hi aN ((h.task id t ht).has (.inr he.1)) (by rw[he.1];rfl) (by omega);exact⟨this.2.1,this.2.2⟩
  · exact⟨h.mono (Nat.le_refl _) (by omega),rfl,rfl,rfl⟩
theorem InvY.ticks {k n:Nat} (hk:k<=400):∀(ids:List Int) (b:Int) (s:Sy),InvY k b n s->b+ids.length*(k*232792560)<=1000000000000000000->(∀x∈ids,x∈zf s.ps) ->
 gN s ids/\InvY k (b+ids.length*(k*232792560)) n (ids.foldl yJ s)/\(ids.foldl yJ s).gs=s.gs
 | [],b,s,h,_,_=>⟨trivial,h.mono (Nat.le_refl _) (by simp),rfl⟩
 | id::ids,b,s,h,hb,aN=>by
  have rJ:=kS k hk;have ag:((id::ids).length:Int)=ids.length+1:=by simp
  rw[ag,Int.add_mul,Int.one_mul] at hb;have LQ:0<=(ids.length:Int)*((k:Int)*232792560):=Int.mul_nonneg (by omega) rJ.2;obtain⟨ru,sG,LU,TV⟩:=fO h hk id;obtain⟨a,c,d⟩:=InvY.ticks hk ids (b+k*232792560) (yJ s id) ru (by omega) (fun x hx=>by rw[sG];exact aN x (List.mem_cons_of_mem _ hx));refine⟨⟨?_,a⟩,?_,by rw[List.foldl_cons,d,LU]⟩
  · obtain⟨t,xs,ht,hx⟩:=h.some_ (aN id List.mem_cons_self);refine⟨t,xs,ht,hx,fun h2 _=>?_⟩;obtain⟨i,hi,CY⟩:=(h.task id t ht).core (by omega);exact⟨i,hi,by rw[h.len];exact CY,h.fitsY hk (by omega),(h.enter (act:=7) hk ht false true hi CY ((h.task id t ht).has (.inr h2)) (by rw[h2];rfl) (by omega)).1⟩
  · rw[List.foldl_cons,ag,Int.add_mul,Int.one_mul];exact c.mono (Nat.le_refl _) (by omega)
theorem InvY.perm {k:Nat} {b:Int} {n:Nat} {s:Sy} (h:InvY k b n s) {ids:List Int} (hp:ids.Perm (zf s.ps)):ids.length<=64/\∀x∈ids,x∈zf s.ps:=
 ⟨by rw[hp.length_eq];exact Nat.le_trans (yl _ _) (by rw[h.pslen];exact Nat.le_refl _),fun x hx=>hp.mem_iff.1 hx⟩
theorem InvY.accs {k:Nat} {b:Int} {n:Nat} {s:Sy} (h:InvY k b n s) {acc:List xS} (ha:xO acc):InvY k b n (zU s acc):=
 ⟨h.n8,h.len,h.line,h.srv,h.gs,ha,h.pslen,h.psat,h.names,h.task,h.on,h.cnt⟩
theorem InvY.core {k k':Nat} {b b':Int} {n:Nat} {s:Sy} {i:Nat} {c:Co} (h:InvY k b n s) (hk:k<=k') (hb:b<=b') (hi:i<n) (hl:LnK k' b' c.l) (hs:c.srv<=k') (hh:∀x v,xd c.l x v↔xd s.cores[i]!.l x v):InvY k' b' n (zN s i c):=by
 have hm:=h.mono hk hb;have pT:∀j,j<n->(zN s i c).cores[j]! = if i=j then c else s.cores[j]!:=fun j hj=>yL _ _ _ _ (by rw[h.len];exact hj)
 refine⟨h.n8,by show(s.cores.set i c).length=n;rw[List.length_set];exact h.len,fun j hj=>?_,fun j hj=>?_,h.gs,h.acc,h.pslen,hm.psat,h.names,hm.task,fun j hj x w=>?_,hm.cnt⟩
 · rw[pT j hj];split
   · exact hl
   · exact hm.line j hj
 · rw[pT j hj];split
   · exact hs
   · exact hm.srv j hj
 · rw[pT j hj];split
   · rename_i e;subst e;rw[hh x w];exact h.on i hj x w
   · exact h.on j hj x w
section
attribute [local go_sem] Oper.semAt_some
def yF (xs:List Int) (l:List Lt):Int×Int×Bool:=
 if (yT xs l (xm xs) l.length).2.2=true then(l[(yT xs l (xm xs) l.length).1.toNat]!.id,(yT xs l (xm xs) l.length).2.1,true) else(0,0,false)
theorem Wo (g c N gl cl M:Nat) (p:Option Addr) (xs:List Int) (l:List Lt) (W:World) (hN:xs.length=N) (hM:l.length=M) (hx:∀i,i<N->W.cell? ⟨g,i,none⟩=some (I (xs.getD i 0))) (i7:∀i,i<N->0<=xs.getD i 0/\xs.getD i 0<=1099511627776)
 (hl:vV W gl l) (mC:∀k,k<M->1<=l[k]!.w/\l[k]!.w<=20/\0<=l[k]!.core/\l[k]!.core<N) (BJ:∀k,k<M->0<=l[k]!.mask/\l[k]!.mask<65536) (h0:1<=N) (h1:N<=16) (h2:M<1000000) (hg:0<M->p=some ⟨gl,0,none⟩/\gl<W.heap.size) (tE:g<W.heap.size) :
 Calls Tryz.prog 119 #[.slice (some ⟨g,0,none⟩) N c,.slice p M cl] W fun e w'=>e=.returned (.tuple #[I (yF xs l).1,I (yF xs l).2.1,.bool (yF xs l).2.2])/\Below W.heap.size W w':=by
 have eA:=Jf g c N gl cl M p xs l W hN hM hx i7 hl mC (by omega) h2 hg;have mo:=fun W' (hB:Below W.heap.size W W')=>Ws g c N gl cl M p xs l W' hN hM (fun i hi=>(hB.cell (p:=⟨g,i,none⟩) tE).trans (hx i hi)) i7 (fun k hk=>hl.below hB (hg (by omega)).2 k hk) mC BJ h0 h1 h2 (fun h=>⟨(hg h).1,Nat.lt_of_lt_of_le (hg h).2 hB.size⟩) (Nat.lt_of_lt_of_le tE hB.size);have i8:=jg xs l (xm xs) M;have hr:yF xs l=if (yT xs l (xm xs) M).2.2=true then(l[(yT xs l (xm xs) M).1.toNat]!.id,(yT xs l (xm xs) M).2.1,true) else(0,0,false):=by unfold yF;rw[hM]
 rw[hr];obtain⟨⟨a,t,o⟩,nM⟩:∃r,yT xs l (xm xs) M=r:=⟨_,rfl⟩
 rw[nM] at mo i8⊢;simp only at mo i8⊢;have HL:=lH hl;have HG:=lH hg;have HM:=lH hM;clear hN hx i7 hl mC BJ h0 h1 h2 hg tE hr nM hM;cases o with
 | false=>
  rw[if_neg (by simp)];clear i8;go_enter Tryz.func119,Tryz.ntmps119;go_wp2_with fail
  refine eA.mono ?_;rintro e w1 ⟨rfl,ab⟩;have nX:=mo w1 ab;have ef:=lH ab;clear eA mo ab;go_wp2_with fail
  refine nX.mono ?_;rintro e w2 ⟨rfl,ar⟩;have ew:=lH ar;clear nX ar;go_wp2_with fail
  go_ret3
  exact⟨rfl,ef.out.trans (ew.out.mono ef.out.size)⟩
 | true=>
  rw[if_pos rfl];obtain⟨t1,t2⟩:=i8 rfl;obtain⟨an,Fc⟩:=Int.eq_ofNat_of_zero_le t1;subst Fc;have MY:0<M:=by omega
  have aN:an<l.length:=by have:=HM.out;omega
  obtain⟨hp,eL⟩:=HG.out MY;subst hp;show Calls _ _ _ _ (fun e w'=>e=.returned (.tuple #[I l[an]!.id,I t,.bool true])/\_);obtain⟨iv,FC⟩:∃x,l[an]!.id=x:=⟨_,rfl⟩
  rw[FC];have Mg:=lH FC;have k1:(an:Int)<(M:Int):=by omega
  clear i8 FC t1 t2;go_enter Tryz.func119,Tryz.ntmps119;go_wp2_with fail
  refine eA.mono ?_;rintro e w1 ⟨rfl,ab⟩;have nX:=mo w1 ab;have ef:=lH ab;clear eA mo ab;go_wp2_with fail
  refine nX.mono ?_;rintro e w2 ⟨rfl,ar⟩;have ib:=ef.out.trans (ar.mono ef.out.size)
  obtain⟨ca,-,-,-⟩:=HL.out.below ib eL an aN;rw[Mg.out] at ca;have ew:=lH ib;clear nX ar ib;go_wp2_with fail
  go_ret3
  exact⟨rfl,ew.out⟩
def ltV (p:Lt):List Value:=[I p.id,I p.w,I p.core,.int .u16 p.mask]
def xe (l:List Lt):List Value:=l.flatMap ltV
theorem gS:∀(l:List Lt) (k:Nat),k<l.length->(xe l)[k*4]? = some (I l[k]!.id)/\(xe l)[k*4+1]? = some (I l[k]!.w)/\(xe l)[k*4+2]? = some (I l[k]!.core)/\(xe l)[k*4+3]? = some (.int .u16 l[k]!.mask)
 | [],k,h=>by simp at h
 | p::l,0,_=>by simp[xe,ltV]
 | p::l,k+1,h=>by
  have ih:=gS l k (by simpa using h);have e:xe (p::l)=ltV p++xe l:=by simp[xe]
  have h4:(ltV p).length=4:=rfl;have hg:∀j,(xe (p::l))[(k+1)*4+j]? = (xe l)[k*4+j]?:=fun j=>by
   rw[e,List.getElem?_append_right (by rw[h4];omega),h4,show(k+1)*4+j-4=k*4+j by omega]
  have hb:(p::l)[k+1]! = l[k]!:=by simp
  rw[hb];exact⟨(hg 0).trans ih.1,(hg 1).trans ih.2.1,(hg 2).trans ih.2.2.1,(hg 3).trans ih.2.2.2⟩
theorem cJ {t:TypeId} {W:World} {B g c n:Nat} {l:List Lt} (h:W.ownsRow B t 4 (.slice (some ⟨g,0,none⟩) n c) l.length (xe l)):vV W g l:=fun k hk=>by
 obtain⟨f1,f2,f3,f4⟩:=gS l k hk;have hc:∀j v,(xe l)[j]? = some v->W.cell? ⟨g,j,none⟩=some v:=fun j v hv=>by
  have:=h.cells (g:=g) rfl j v hv;simpa [Addr.add_lit] using this
 exact⟨hc _ _ f1,hc _ _ f2,hc _ _ f3,hc _ _ f4⟩
theorem U6:(Tryz.prog.info? 207).map (fun i=>(i.zero,i.size,i.bytes))=some (some (.agg #[I 0,I 0,I 0,.int .u16 0]),4,32):=by kernel_rfl
def evL (s:Sy) (ids:List Int):List Lt:=ids.filterMap fun x=>match s.tasks x with | some t=>if t.state=2 then some ⟨t.id,t.w,t.core,t.mask⟩ else none | none=>none
def qV (W:World) (a:Option Addr) (n:Nat) (zs:List Int):Prop:=
 n=0\/∃b off,a=some ⟨b,off,none⟩/\b<W.heap.size/\∀j,j<n->W.cell? ⟨b,off+j,none⟩=some (I (zs.getD j 0))
theorem kX:∀(ps:List (Int×Bool)) (i:Nat),i+ps.length<=64->(yz i ps).Pairwise fun a b=>a%64<b%64
 | [],i,_=>List.Pairwise.nil
 | p::l,i,h=>by
  have h':i+1+l.length<=64:=by simp at h;omega
  have ih:=kX l (i+1) h';unfold yz;split
  · refine List.Pairwise.cons (fun x hx=>?_) ih;obtain⟨j,hj,_,rfl⟩:=uC.1 hx;omega
  · exact ih
theorem Q7 {k n:Nat} {b:Int} {s:Sy} (h:InvY k b n s) {x:Int} (hx:x∈zf s.ps):(yD s x).id=x:=by
 obtain⟨t,xs,ht,-⟩:=h.some_ hx;unfold yD;rw[ht];exact(h.task x t ht).id
end
end Go.Proofs.YtoiajjobecinpaaGreat

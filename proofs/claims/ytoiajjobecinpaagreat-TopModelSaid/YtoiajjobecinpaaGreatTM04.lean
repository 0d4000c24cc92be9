/- Put. A region that draws its order and ends in stores: what its loads read need hold up to those sto -/
import Derived.WalkSmall
import Derived.OwnWalk
import Derived.Test.YtoiajjobecinpaaGreatTM02
import Derived.Test.YtoiajjobecinpaaGreatTM03
set_option maxHeartbeats 4000000
set_option maxRecDepth 100000
namespace Go.Proofs.YtoiajjobecinpaaGreat
open Go.RowKit Go.Shelf Go.Lib Go.Proofs
set_option linter.unusedVariables false
set_option linter.unusedSimpArgs false
theorem Xx:(Tryz.prog.info? 338).map (fun i=>(i.zero,i.size,i.bytes))=some (some (.agg #[I 0,I 0,I 0,I 0]),4,32):=by kernel_rfl
theorem LineAt.reslice {W w1:World} {b:Nat} {v v':Value} {l:Ln} {ps':List Pt} (h:LineAt W b v l) (hb:w1.heap[b]? = W.heap[b]?) (al:w1.ownsRow 0 338 4 v' ps'.length (zr ps')) (ay:v'.ownBlock≠some b) :
 LineAt (w1.setCell ⟨b,2,none⟩ v') b v' ⟨l.base,l.cur,ps'⟩:=by
 have h0:∀i,w1.cell? ⟨b,i,none⟩=W.cell? ⟨b,i,none⟩:=fun i=>World.cell?_of_block hb;have h1:∀i,w1.frozen? ⟨b,i,none⟩=W.frozen? ⟨b,i,none⟩:=fun i=>World.frozen?_of_block hb;refine⟨?_,?_,World.cell?_setCell_same _ _ _ ((h0 2).trans h.sl),fun i=>?_,?_,ay⟩
 · rw[za _ (by simp),h0];exact h.base
 · rw[za _ (by simp),h0];exact h.cur
 · rw[World.frozen?_setCell,h1];exact h.live i
 · exact zb al (fun k hk=>Below.heap_setCell _ _ _ _ (by rintro rfl;exact ay hk))
theorem c2a {W:World} {a:Addr} {v:Value} (o:Obj) (h:W.cell? a=some v):(W.alloc o).cell? a=some v:=Lib.cell?_alloc_some _ h
theorem f2g {W w1:World} {b:Nat} {v:Value} {l:Ln} {o:Obj} (h:LineAt W b v l) (hg:(W.alloc o).grownBy w1 v.ownBlock):w1.frozen? ⟨b,2,none⟩=false:=by
 have ah:=h.lt b (.inl rfl);have h1:w1.heap[b]? = W.heap[b]?:=(hg.block b (by simp;omega) (fun e=>h.ne e.symm)).trans (Below.heap_alloc _ _ _ ah)
 exact(World.frozen?_of_block (a:=⟨b,2,none⟩) h1).trans (h.live 2)
theorem LineAt.pushed {w9 w1:World} {b gg cap:Nat} {v:Value} {l:Ln} {o:Obj} {p:Pt} (hL:LineAt w9 b v l) (hg:(w9.alloc o).grownBy w1 v.ownBlock)
 (al:w1.ownsRow 0 338 4 (.slice (some ⟨gg,0,none⟩) (l.ps.length+1) cap) (l.ps.length+1) (zr l.ps++p.cells)) (aE:v.ownBlock=some gg\/gg=(w9.alloc o).heap.size) :
 LineAt (w1.setCell ⟨b,2,none⟩ (.slice (some ⟨gg,0,none⟩) (l.ps.length+1) cap)) b (.slice (some ⟨gg,0,none⟩) (l.ps.length+1) cap) ⟨l.base,l.cur,l.ps++[p]⟩ /\
 Touch (lfp b v) w9 (w1.setCell ⟨b,2,none⟩ (.slice (some ⟨gg,0,none⟩) (l.ps.length+1) cap)):=by
 have ah:=hL.lt b (.inl rfl);have h1:w1.heap[b]? = w9.heap[b]?:=(hg.block b (by simp;omega) (fun e=>hL.ne e.symm)).trans (Below.heap_alloc _ _ _ ah)
 have ay:(Value.slice (some ⟨gg,0,none⟩) (l.ps.length+1) cap).ownBlock≠some b:=by
  intro e;simp[Value.ownBlock] at e
  rcases aE with h | h
  · exact hL.ne (by rw[h,e])
  · simp at h;omega
 refine⟨hL.reslice h1 ?_ ay,?_⟩
 · have e1:(l.ps++[p]).length=l.ps.length+1:=by simp
   have e2:zr (l.ps++[p])=zr l.ps++p.cells:=by rw[yO];simp[zr]
   rw[e1,e2];exact al
 · have ht:Touch (lfp b v) w9 w1:=⟨hg.os,hg.tape,hg.output,Nat.le_trans (by simp) hg.size,fun k hk hf=>(hg.block k (by simp;omega) (fun e=>hf (.inr e.symm))).trans (Below.heap_alloc _ _ _ hk)⟩
   exact ht.setCell (t:=none) (.inl (.inl rfl)) _
theorem Jj (b:Nat) (v:Value) (l:Ln) (id w lag:Int) (W:World) (h:LineAt W b v l) (ag:l.ps.length<=64)
 (hm:zP l id w lag=0) (hs:uw l.ps) (eC:-2305843009213693952<=l.base/\l.base<=2305843009213693952) :
 Calls Tryz.prog 269 #[.pointer (some ⟨b,0,none⟩),I id,I w,I lag] W fun e w'=>e=.returned (I 0)/\∃v',LineAt w' b v' (xR l id w lag)/\Touch (lfp b v) W w'/\(∀k,v'.ownBlock=some k->v.ownBlock=some k\/W.heap.size<=k):=by
 have eA:=kZ b v l id w lag W h;rw[hm] at eA;obtain⟨hid,hw,iZ,lp,mx⟩:(0<=id/\id<=1073741824)/\zQ w=true/\(-1125899906842624<=lag/\lag<=1125899906842624)/\yh l.ps id<0/\l.ps.length≠64:=by
  unfold zP at hm;split at hm
  · rename_i h1;unfold da at h1;simp only[Bool.and_eq_true,decide_eq_true_eq] at h1;split at hm
    · omega
    · split at hm
      · omega
      · exact⟨⟨h1.1,h1.2.1⟩,h1.2.2.1,h1.2.2.2,by omega,by omega⟩
  · omega
 have hn:∀q∈l.ps,q.id≠id:=by
  rcases zB l.ps id with⟨_,h2⟩ | ⟨k,_,h2,_⟩
  · exact h2
  · omega
 have HK:Hid (IntKind.i64.wrap (l.base-lag)=l.base-lag):=lH (by rw[IntKind.wrap_i64];omega);obtain⟨base',Bv⟩:∃x,l.base-lag=x:=⟨_,rfl⟩
 have ll:=fun W'=>cz ⟨id,w,base',0⟩ W' (by simp only;omega) (by simp only;omega);obtain⟨dd,Az⟩:∃dd,T8 ⟨id,w,base',0⟩=⟨id,w,base',dd⟩:=⟨_,rfl⟩
 rw[Az] at ll;have L5:=lH Bv;have Ma:=lH Az;have HN:=lH hn;have HM:=lH hm;have iY:IntKind.i64.wrap (l.base-lag)=base':=HK.out.trans Bv;simp only[Pt.cells] at ll;have HL:=lH h;have HS:=lH hs;have b1:=eC.1;have b2:=eC.2;clear Bv Az hn hm h hs hw eC;obtain⟨i0,sf,eG,aI,et⟩:=info_parts Xx;go_enter Tryz.func269,Tryz.ntmps269;go_wp2_with fail
 refine eA.mono ?_;rintro e w0 ⟨rfl,lk⟩;have hL:=HL.out.below lk;have lF:=lH lk;go_upto_region 4 with fail
 go_cut [] (fun W2=>∃g cap,LineAt W2 b (.slice (some ⟨g,0,none⟩) (l.ps.length+1) cap) ⟨l.base,l.cur,l.ps++[⟨id,w,base',dd⟩]⟩/\Touch (lfp b v) W W2/\(v.ownBlock=some g\/W.heap.size<=g))
 case first=>
  have hT:Touch (lfp b v) W w0.drew:=(Touch.of_below lF.out).drew;have hL:=hL.drew;have c0:=hL.base;have c2:=hL.sl;have f2:=hL.live 2;have ah:=hL.lt b (.inl rfl);go_wp2_with fail
  go_region_law (first | (refine step_append_lies _ (by rfl) _ _ _ (by rfl) 0 338 i0 _ 4 32 Tryz.underlying265 sf eG aI et rfl (by omega) v l.ps.length (zr l.ps) (by rfl) ((hL.alloc _).row) ⟨_,0,none⟩ 1 1 [I id,I w,I base',I dd] (by rfl) (by rfl) (World.news_of_block (cs:=#[I id,I w,I base',I dd]) (t:=338) (fr:=(0,0)) (heap_alloc_new _ _)) (by simp[Value.oneCell']) (by omega) (by unfold maxLen;omega) (by omega) (Nat.zero_le _) _ rfl ?_;intro gg cap w1 ec ez aE ah;have c2':=(ez.cell (c2a _ c2) (by simpa using hL.ne.symm));have f2':=f2g hL ez) | (go_simp;go_at_call 236;refine(ll _).mono ?_;rintro e w9 ⟨rfl,hb⟩;have hT:=hT.self (Touch.of_below hb);have hL:=hL.below hb;have c0:=hL.base;have c2:=hL.sl;have f2:=hL.live 2;have ah:=hL.lt b (.inl rfl)))
  all_goals
   go_wp2_with fail
   go_meet
   obtain⟨k1,k2⟩:=hL.pushed (p:=⟨id,w,base',dd⟩) ez ec aE;refine⟨gg,cap,k1,hT.self k2,?_⟩;rcases aE with aE | aE
   · exact .inl aE
   · right
     have:=hT.size;simp at aE;omega
 case rest=>
  obtain⟨g,cap,lU,aC,oI⟩:=hcut;have le:=lU.sl;have aa:=lU.row;have ar:=lU.lt b (.inl rfl);have sW:(l.ps++[(⟨id,w,base',dd⟩:Pt)]).length=l.ps.length+1:=by simp
  rw[<- sW] at aa;have lf:=Qz g cap ⟨id,w,base',dd⟩ l.ps wc aa HS.out HN.out ag;rw[sW] at lf;have TF:=lH sW;have mK:=lH lU;have eR:=lH aC;have oO:=lH oI;clear sW aa lU aC oI;go_wp2_with fail
  refine lf.mono ?_;rintro e w3 ⟨rfl,aL,Ai⟩;have ay:b≠g:=fun e=>mK.out.ne (by rw[e];rfl);have aK:=Ai.block b (mK.out.lt b (.inl rfl)) ay;have IC:(vH ⟨id,w,base',dd⟩ l.ps).length=l.ps.length+1:=by rw[(v6 _ _).length_eq];simp
  rw[IC] at aL;have mN:LineAt w3 b (.slice (some ⟨g,0,none⟩) (l.ps.length+1) cap) ⟨l.base,l.cur,vH ⟨id,w,base',dd⟩ l.ps⟩:=by
   have h:=mK.out;have h0:∀i,w3.cell? ⟨b,i,none⟩=wc.cell? ⟨b,i,none⟩:=fun i=>World.cell?_of_block aK;have h1:∀i,w3.frozen? ⟨b,i,none⟩=wc.frozen? ⟨b,i,none⟩:=fun i=>World.frozen?_of_block aK;exact⟨(h0 0).trans h.base,(h0 1).trans h.cur,(h0 2).trans h.sl,fun i=>(h1 i).trans (h.live i),by rw[IC];exact aL,h.ne⟩
  have ez:=uX b _ _ w3 mN (by simp only;rw[IC];omega);have Mi:=lH IC;have pA:=lH Ai;clear aL aK mN IC Ai le lf;go_wp2_with fail
  refine ez.mono ?_;rintro e w4 ⟨rfl,DF,tO⟩;have GW:=lH DF;have CE:=lH tO;clear DF tO;go_wp2_with fail
  go_ret
  refine⟨rfl,.slice (some ⟨g,0,none⟩) (l.ps.length+1) cap,?_,?_,?_⟩
  · have h:=GW.out;unfold xR;simp only
    rw[L5.out,Ma.out];exact h
  · have hF:∀k,k=g->lfp b v k\/W.heap.size<=k:=by
     rintro k rfl;rcases oO.out with h | h
     · exact .inl (.inr h)
     · exact .inr h
    exact(eR.out.trans hF pA.out).trans (fun k hk=>.inl (.inl hk)) CE.out
  · intro k hk;simp[Value.ownBlock] at hk
    subst hk;exact oO.out
section
variable {P:Program} {ops:Array Oper} {md:Region.Mode} {Q:Exit->Act->World->Prop} {S:World->Prop} {T:List Nat}
def xB (P:Program) (md:Region.Mode) (ops:Array Oper) (Q:Exit->Act->World->Prop) (S:World->Prop) (T:List Nat):Nat->Array Bool->Act->World->Prop
 | 0,listed,a,w=>Region.ready md ops listed=[]/\Q .normal a w
 | fuel+1,listed,a,w=>
  (Region.ready md ops listed=[]->Q .normal a w) /\
  ∀i∈Region.ready md ops listed,wpOp P ops Q i (fun a' w'=>(i∉T->S w')/\xB P md ops Q S T fuel (listed.setIfInBounds i true) a' w') a w
theorem kE:∀(fuel:Nat) (listed:Array Bool) (a:Act) (w:World),xB P md ops Q S T fuel listed a w->wpAny P md ops Q fuel listed a w
 | 0,_,_,_,h=>h
 | fuel+1,_,_,_,h=>⟨h.1,fun i hi=>wpOp_mono (fun a' w' h'=>kE fuel _ a' w' h'.2) (h.2 i hi)⟩
theorem ba {i:Nat} {oi:Oper} {v:Value} (hi:ops[i]? = some oi) (JJ:∀(j:Nat) (o:Oper) cs b,ops[j]? = some o->o.op≠.select cs b)
 (hQ:∀c a w,Q (.panic c) (a.put oi.dst v) w->Q (.panic c) a w)
 (hT:∀j oj,j∈T->ops[j]? = some oj->∃e∈oj.after,Region.binds md e=true/\e.on=i) :
 ∀(fuel:Nat) (listed:Array Bool) (a:Act) (w:World),
  (∀j oj,ops[j]? = some oj->j≠i->listed.getD j true=false->(∀e∈oj.after,Region.binds md e=true->e.on≠i)->oi.apart ops oj=true) ->
  i∈Region.ready md ops listed->i∉T->YieldsIf P ops S oi v a->S w ->
  xB P md ops Q S T fuel (listed.setIfInBounds i true) (a.put oi.dst v) w->xB P md ops Q S T (fuel+1) listed a w:=by
 intro fuel;induction fuel with
 | zero=>
  intro listed a w _ hr Iw hy hS H;refine⟨fun h=>(by rw[h] at hr;cases hr),fun j hj=>?_⟩;by_cases pE:j=i
  · subst pE;exact hy.wpOp hi hS ⟨fun _=>hS,H⟩
  · have:=ready_mono hj pE;rw[H.1] at this;cases this
 | succ fuel ih=>
  intro listed a w ng hr Iw hy hS H;refine⟨fun h=>(by rw[h] at hr;cases hr),fun j hj=>?_⟩;by_cases pE:j=i
  · subst pE;exact hy.wpOp hi hS ⟨fun _=>hS,H⟩
  · have h1:=H.2 j (ready_mono hj pE);obtain⟨Iz,oj,GD,aM⟩:=mem_ready.1 hj;have IS:∀e∈oj.after,Region.binds md e=true->e.on≠i:=fun e he hb heq=>by
     have h1:=aM e he hb;have h0:=(mem_ready.1 hr).1;rw[heq] at h1;rcases Nat.lt_or_ge i listed.size with h' | h'
     · simp[h'] at h0 h1;rw[h0] at h1;cases h1
     · simp[Array.getElem?_eq_none h'] at h1
    have ND:j∉T:=fun ND=>by
     obtain⟨e,he,hb,iR⟩:=hT j oj ND GD;exact IS e he hb iR
    have h2:=wpOp_putIf GD (ng j oj GD pE Iz IS) (fun cs b=>JJ i oi cs b hi) (fun cs b=>JJ j oj cs b GD) hQ hy h1;have Fr:∀k ok,ops[k]? = some ok->k≠i->(listed.setIfInBounds j true).getD k true=false ->
     (∀e∈ok.after,Region.binds md e=true->e.on≠i)->oi.apart ops ok=true:=fun k ok hk Cn P0 mG=>by
     refine ng k ok hk Cn ?_ mG;by_cases CZ:j=k
     · subst CZ;exact Iz
     · rw[getD_set_ne true CZ] at P0;exact P0
    refine wpOp_mono (fun a' w' h3=>⟨h3.2.1,ih (listed.setIfInBounds j true) a' w' Fr (ready_mono hr (Ne.symm pE)) Iw h3.1 (h3.2.1 ND) ?_⟩) h2;rw[Array.setIfInBounds_comm _ _ pE];exact h3.2.2
def U4 (md:Region.Mode) (ops:Array Oper) (T:List Nat) (i:Nat):Bool:=T.all (fun j=>Region.waitsFor md ops j i)&&!T.contains i
theorem zS {i:Nat} {oi:Oper} {v:Value} {fuel:Nat} {listed:Array Bool} {a:Act} {w:World} (hi:ops[i]? = some oi)
 (hs:Region.noSelect ops=true) (hf:Region.free md ops listed i=true) (hr:(Region.ready md ops listed).contains i=true) (hl:U4 md ops T i=true)
 (hQ:∀c a w,Q (.panic c) (a.put oi.dst v) w->Q (.panic c) a w) (hy:YieldsIf P ops S oi v a) (hS:S w)
 (h:xB P md ops Q S T fuel (listed.setIfInBounds i true) (a.put oi.dst v) w):xB P md ops Q S T (fuel+1) listed a w:=by
 unfold U4 at hl;simp only[Bool.and_eq_true,Bool.not_eq_true',List.all_eq_true] at hl;refine ba hi (Region.noSelect_spec hs) hQ (fun j oj hj GD=>?_) fuel listed a w (Region.free_spec hi hf) (by simpa using hr) (by simpa using hl.2) hy hS h;obtain⟨oj',NS,e,he,hb,iR⟩:=Region.waitsFor_spec (hl.1 j hj);have:oj'=oj:=Option.some.inj (NS.symm.trans GD);subst this;exact⟨e,he,hb,iR⟩
theorem ze {i:Nat} {o:Oper} {fuel:Nat} {listed:Array Bool} {a:Act} {w:World} (hr:Region.ready md ops listed=[i]) (ho:ops[i]? = some o) (hl:T.contains i=false)
 (h:∀K':Act->World->Prop,(∀a w,S w->xB P md ops Q S T fuel (listed.setIfInBounds i true) a w->K' a w)->if Region.wanted o (yielded ops a.tmps)=true then Oper.wp P o a w K' Q else K' (a.put o.dst undef) w) :
 xB P md ops Q S T (fuel+1) listed a w:=by
 refine⟨fun h0=>(by rw[h0] at hr;cases hr),fun j hj=>?_⟩;rw[hr] at hj;have pE:j=i:=by simpa using hj
 subst pE;exact wpOp_step ho (fun K' hK=>h K' (fun a w hS hW=>hK a w ⟨fun _=>hS,hW⟩))
theorem zk {i:Nat} {o:Oper} {fuel:Nat} {listed:Array Bool} {a:Act} {w:World} (hr:Region.ready md ops listed=[i]) (ho:ops[i]? = some o) (hl:T.contains i=true)
 (h:∀K':Act->World->Prop,(∀a w,xB P md ops Q S T fuel (listed.setIfInBounds i true) a w->K' a w)->if Region.wanted o (yielded ops a.tmps)=true then Oper.wp P o a w K' Q else K' (a.put o.dst undef) w) :
 xB P md ops Q S T (fuel+1) listed a w:=by
 refine⟨fun h0=>(by rw[h0] at hr;cases hr),fun j hj=>?_⟩;rw[hr] at hj;have pE:j=i:=by simpa using hj
 subst pE;exact wpOp_step ho (fun K' hK=>h K' (fun a w hW=>hK a w ⟨fun hn=>absurd (by simpa using hl) hn,hW⟩))
theorem zy {listed:Array Bool} {a:Act} {w:World} (hr:Region.ready md ops listed=[]) (h:Q .normal a w) :
 ∀fuel,xB P md ops Q S T fuel listed a w
 | 0=>⟨hr,h⟩
 | _+1=>⟨fun _=>h,by rw[hr];simp⟩
theorem zK {id:Nat} {a:Act} {w:World} (hm:P.follows .mixedOrders=true)
 (h:xB P .any ops Q S T ops.size (Array.replicate ops.size false) a w.drew):(Code.region id ops true).wp P Q a w:=
 wp_region_any hm (kE _ _ _ _ h)
end
section
variable {P:Program} {ops:Array Oper} {md:Region.Mode} {Q:Exit->Act->World->Prop} {S:World->Prop} {T:List Nat}
theorem aP {l:List Value} {k:Nat} {v:Value}:l.toArray.setIfInBounds k v=(l.set k v).toArray:=by simp
theorem wT (i:Nat) {oi:Oper} {v:Value} {fuel:Nat} {listed:Array Bool} {a:Act} {w:World} (h:xB P md ops Q S T fuel (listed.setIfInBounds i true) (a.put oi.dst v) w)
 (hi:ops[i]? = some oi:=by exact rfl) (hs:Region.noSelect ops=true:=by kernel_rfl) (hf:Region.free md ops listed i=true:=by kernel_rfl) (hr:(Region.ready md ops listed).contains i=true:=by kernel_rfl) (hl:U4 md ops T i=true:=by kernel_rfl)
 (hQ:∀c a w,Q (.panic c) (a.put oi.dst v) w->Q (.panic c) a w:=by exact fun _ _ _ h=>h) (hw:Region.wanted oi (yielded ops a.tmps)=true:=by rfl) (hy:∀w,S w->(execOp a.eval oi).run P w=.ok (.value v) w:=by intro w hS;repeat (obtain⟨_,hS⟩:=hS);(try simp only[Act.put,aP,List.set]);go_simp;try with_reducible rfl) (hS:S w:=by assumption):xB P md ops Q S T (fuel+1) listed a w:=
 zS hi hs hf hr hl hQ (.inl ⟨hw,hy⟩) hS h
end
structure It where
 id:Int
 w:Int
 lag:Int
deriving DecidableEq,Inhabited
def It.cells (p:It):List Value:=[I p.id,I p.w,I p.lag]
def yG:List It->List Value
 | []=>[]
 | p::l=>p.cells++yG l
theorem kP (a b:List It):yG (a++b)=yG a++yG b:=by
 induction a with
 | nil=>rfl
 | cons p l ih=>simp[yG,ih]
def itP (base:Int) (p:Pt):It:=⟨p.id,p.w,base-p.v⟩
def zw (l:Ln):List It:=l.ps.map (itP l.base)
theorem Jd:(Tryz.prog.info? 77).map (fun i=>(i.zero,i.size,i.bytes))=some (some (.agg #[I 0,I 0,I 0]),3,24):=by kernel_rfl
structure FormAt (W:World) (H B:Nat) (cur:Int) (v:Value) (its:List It):Prop where
 cur:W.cell? ⟨B,0,none⟩=some (I cur)
 sl:W.cell? ⟨B,1,none⟩=some v
 live:∀i,W.frozen? ⟨B,i,none⟩=false
 row:W.ownsRow H 77 3 v its.length (yG its)
 ne:v.ownBlock≠some B
def VG (W0 W:World) (cur:Int) (its:List It):Prop:=
 ∃v,FormAt W (W0.heap.size+2) (W0.heap.size+1) cur v its/\Below W0.heap.size W0 W/\(∃a b,W.heap[W0.heap.size]? = some (.cells #[a,b] 70 (0,0)))
theorem zR (W:World) (o:Obj):(W.alloc o).heap.size=W.heap.size+1:=by simp
abbrev SF (b B:Nat) (base i ww pv:Int) (W':World):Prop:=
 W'.cell? ⟨b,0,none⟩=some (I base)/\W'.cell? ⟨B,0,none⟩=some (I i)/\W'.cell? ⟨B,1,none⟩=some (I ww)/\W'.cell? ⟨B,2,none⟩=some (I pv)
abbrev SG (b B:Nat) (base i ww pv:Int) (Bf:Nat) (vf:Value) (W':World):Prop:=
 (W'.cell? ⟨b,0,none⟩=some (I base)/\W'.cell? ⟨B,0,none⟩=some (I i)/\W'.cell? ⟨B,1,none⟩=some (I ww)/\W'.cell? ⟨B,2,none⟩=some (I pv))/\W'.cell? ⟨Bf,1,none⟩=some vf
theorem SF.start {wr:World} {b:Nat} {base i ww pv day:Int} (h:wr.cell? ⟨b,0,none⟩=some (I base)) :
 SF b wr.heap.size base i ww pv ((wr.alloc (.cells #[I i,I ww,I pv,I day] 338)).drew):=by
 have hb:yj (wr.alloc (.cells #[I i,I ww,I pv,I day] 338)) wr.heap.size ⟨i,ww,pv,day⟩:=heap_alloc_new _ _;obtain⟨h0,h1,h2,_⟩:=hb.cells;exact⟨Lib.cell?_alloc_some _ h,h0,h1,h2⟩
theorem SF.alloc {W:World} {b B:Nat} {base i ww pv:Int} (h:SF b B base i ww pv W) (o:Obj):SF b B base i ww pv (W.alloc o):=
 ⟨Lib.cell?_alloc_some _ h.1,Lib.cell?_alloc_some _ h.2.1,Lib.cell?_alloc_some _ h.2.2.1,Lib.cell?_alloc_some _ h.2.2.2⟩
theorem SF.grown {W w1:World} {b B:Nat} {base i ww pv:Int} {row:Option Nat} (h:SF b B base i ww pv W) (hg:W.grownBy w1 row) (h1:row≠some b) (h2:row≠some B):SF b B base i ww pv w1:=
 ⟨hg.cell h.1 (fun e=>h1 e.symm),hg.cell h.2.1 (fun e=>h2 e.symm),hg.cell h.2.2.1 (fun e=>h2 e.symm),hg.cell h.2.2.2 (fun e=>h2 e.symm)⟩
theorem f1h {wr w1:World} {H B:Nat} {cur:Int} {v:Value} {its:List It} {o o':Obj} (h:FormAt wr H B cur v its) (hg:((wr.alloc o).drew.alloc o').grownBy w1 v.ownBlock):w1.frozen? ⟨B,1,none⟩=false:=by
 have ah:B<wr.heap.size:=World.block_lt_of_cell? wr _ h.cur;have h1:w1.heap[B]? = wr.heap[B]?:=(hg.block B (by simp[World.drew];omega) (fun e=>h.ne e.symm)).trans ((Below.heap_alloc _ _ _ (by simp[World.drew];omega)).trans (Below.heap_alloc _ _ _ ah))
 exact(World.frozen?_of_block (a:=⟨B,1,none⟩) h1).trans (h.live 1)
theorem e1h {wr w1:World} {H B:Nat} {cur:Int} {v:Value} {its:List It} {o o':Obj} (h:FormAt wr H B cur v its) (hg:((wr.alloc o).drew.alloc o').grownBy w1 v.ownBlock):w1.cell? ⟨B,1,none⟩=some v:=by
 have ah:B<wr.heap.size:=World.block_lt_of_cell? wr _ h.cur;have h1:w1.heap[B]? = wr.heap[B]?:=(hg.block B (by simp[World.drew];omega) (fun e=>h.ne e.symm)).trans ((Below.heap_alloc _ _ _ (by simp[World.drew];omega)).trans (Below.heap_alloc _ _ _ ah))
 exact(World.cell?_of_block (a:=⟨B,1,none⟩) h1).trans h.sl
theorem Uw (wr:World) (o o':Obj):((wr.alloc o).drew.alloc o').heap[wr.heap.size+1]? = some o':=by
 have:=heap_alloc_new (wr.alloc o).drew o';rwa [show(wr.alloc o).drew.heap.size=wr.heap.size+1 from zR wr o] at this
theorem Yk {W wr w1:World} {l:Ln} {vf:Value} {r0 r1:Value} {k gg cp:Nat} {i ww pv day:Int} {o o':Obj} (hF:FormAt wr (W.heap.size+2) (W.heap.size+1) l.cur vf ((l.ps.take k).map (itP l.base)))
 (hB:Below W.heap.size W wr) (am:wr.heap[W.heap.size]? = some (.cells #[r0,r1] 70 (0,0))) (hg:((wr.alloc o).drew.alloc o').grownBy w1 vf.ownBlock)
 (al:w1.ownsRow (W.heap.size+2) 77 3 (.slice (some ⟨gg,0,none⟩) (k+1) cp) (k+1) (yG ((l.ps.take k).map (itP l.base))++[I i,I ww,I (l.base-pv)]))
 (aE:vf.ownBlock=some gg\/gg=wr.heap.size+2) (hk:k<l.ps.length) (hp:l.ps[k]! = ⟨i,ww,pv,day⟩) :
 VG W (w1.setCell ⟨W.heap.size+1,1,none⟩ (.slice (some ⟨gg,0,none⟩) (k+1) cp)) l.cur ((l.ps.take (k+1)).map (itP l.base)):=by
 have ah:W.heap.size+1<wr.heap.size:=World.block_lt_of_cell? wr _ hF.cur;have em:∀j,j<wr.heap.size->some j≠vf.ownBlock->w1.heap[j]? = wr.heap[j]?:=fun j hj ay=>(hg.block j (by simp[World.drew];omega) ay).trans ((Below.heap_alloc _ _ _ (by simp[World.drew];omega)).trans (Below.heap_alloc _ _ _ hj))
 have h1:w1.heap[W.heap.size+1]? = wr.heap[W.heap.size+1]?:=em _ ah (fun e=>hF.ne e.symm);have AB:gg≠W.heap.size+1:=by
  rcases aE with h | h
  · intro e;subst e;exact hF.ne h
  · omega
 have ht:(l.ps.take (k+1)).map (itP l.base)=(l.ps.take k).map (itP l.base)++[⟨i,ww,l.base-pv⟩]:=by
  rw[List.take_succ_eq_append_getElem hk,List.map_append,<- yq hk,hp];rfl
 have ag:((l.ps.take (k+1)).map (itP l.base)).length=k+1:=by simp;omega
 have sK:∀j,vf.ownBlock=some j->W.heap.size+2<=j:=fun j hj=>(hF.row.lt j hj).1;refine⟨_,⟨?_,World.cell?_setCell_same _ _ _ ((World.cell?_of_block (a:=⟨W.heap.size+1,1,none⟩) h1).trans hF.sl),fun i=>?_,?_,by intro e;simp[Value.ownBlock] at e;exact AB e⟩,?_,r0,r1,?_⟩
 · rw[za _ (by simp)];exact(World.cell?_of_block (a:=⟨W.heap.size+1,0,none⟩) h1).trans hF.cur
 · rw[World.frozen?_setCell];exact(World.frozen?_of_block (a:=⟨W.heap.size+1,i,none⟩) h1).trans (hF.live i)
 · rw[ag,ht,kP];refine zb (W:=w1) ?_ (fun j hj=>Below.heap_setCell _ _ _ _ (by simp[Value.ownBlock] at hj;subst hj;exact AB));simpa [yG,It.cells] using al
 · have ab:Below W.heap.size W w1:=by
    refine⟨hg.os.trans hB.os,hg.tape.trans hB.tape,hg.output.trans hB.output,?_,fun j hj=>(em j (by have:=hB.size;omega) (fun e=>?_)).trans (hB.block j hj)⟩
    · have:=hg.size;have:=hB.size;simp[World.drew] at *
      omega
    · have:=sK j e.symm;omega
   exact ab.setCell (by simp) _
 · rw[Below.heap_setCell _ _ _ _ (by simp)];exact(em _ (by omega) (fun e=>by have:=sK _ e.symm;omega)).trans am
def uS (W:World) (cur:Int) (its:List It) (e:Ending) (w':World):Prop:=∃v',e=.returned (.agg #[I cur,v'])/\w'.ownsRow W.heap.size 77 3 v' its.length (yG its)/\Below W.heap.size W w'
theorem zM {w:World} {B B':Nat} {e:TypeId} {size:Nat} {v:Value} {n:Nat} {xs:List Value} (h:w.ownsRow B e size v n xs) (hB:B'<=B):w.ownsRow B' e size v n xs:=by
 refine⟨h.1,?_⟩;rcases h.2 with h | ⟨g,cap,cur,h1,h2,h3⟩
 · exact .inl h
 · exact .inr ⟨g,cap,cur,h1,Nat.le_trans hB h2,h3⟩
theorem gV (b:Nat) (v:Value) (l:Ln) (W:World) (h:LineAt W b v l) (ag:l.ps.length<=64) (i8:-2305843009213693952<=l.base/\l.base<=4611686018427387904)
 (hv:∀p∈l.ps,-2305843009213693952<=p.v/\p.v<=4611686018427387904) :
 Calls Tryz.prog 271 #[.pointer (some ⟨b,0,none⟩)] W (uS W l.cur (zw l)):=by
 have ah:=h.lt b (.inl rfl);have hc:=h.cur;have le:=h.sl;obtain⟨i0,hi,eG,aI,et⟩:=info_parts Jd;have HL:=lH h;have Oj:∃a c,v=.slice a l.ps.length c:=by
  rcases h.row.2 with⟨rfl,h0⟩ | ⟨g,cap,cur,rfl,_⟩
  · exact⟨none,0,by rw[h0]⟩
  · exact⟨_,cap,rfl⟩
 obtain⟨va,vc,sX⟩:=Oj;obtain⟨n,hn⟩:∃n,l.ps.length=n:=⟨_,rfl⟩
 rw[hn] at ag sX;have JM:W.cell? ⟨b,2,none⟩=some (.slice va n vc):=by rw[le,sX]
 have HN:=lH hn;have HV:=lH hv;have Gi:=lH sX;clear h hn hv sX le;go_enter Tryz.func271,Tryz.ntmps271;go_wp2
 go_loopw [16] (fun x wr=>∃k:Nat,k<=n/\x=I k/\Hid (VG W wr l.cur ((l.ps.take k).map (itP l.base)))) (fun x _=>n-(intOf x).toNat)
 case atStart=>
  have hf:=heap_alloc_new (W.alloc (.cells #[I 0,.slice none 0 0] 70)) (.cells #[I l.cur,.slice none 0 0] 70);rw[zR] at hf;refine⟨0,Nat.zero_le _,rfl,lH ⟨.slice none 0 0,⟨?_,?_,fun i=>?_,World.ownsRow_nil _ _ _ _,by simp[Value.ownBlock]⟩,((Below.refl _ _).alloc (Nat.le_refl _) _).alloc (by simp) _,?_⟩⟩
  · simp only[World.cell?,hf];rfl
  · simp only[World.cell?,hf];rfl
  · simp only[World.frozen?,hf];simp
  · exact⟨_,_,(Below.heap_alloc _ _ _ (by simp)).trans (heap_alloc_new W _)⟩
 case round=>
  obtain⟨k,hk,rfl,HR⟩:=hrel;obtain⟨vf,hF,hB,r0,r1,am⟩:=HR.out;have Nn:=World.block_lt_of_cell? wr _ hF.cur;simp only at Nn;have Bv:=hB.size;by_cases aS:k<n
  · have hL:=HL.out.below hB;obtain⟨g,cap,hg⟩:=HL.out.form (by rw[HN.out];omega);rw[HN.out] at hg;have A1:=Gi.out.symm.trans hg;simp only[Value.slice.injEq,true_and] at A1;obtain⟨rfl,rfl⟩:=A1;have HG:=lH hg;rw[hg] at hL;obtain⟨p,hp⟩:∃p,l.ps[k]! = p:=⟨_,rfl⟩
    obtain⟨c0,c1,c2,c3⟩:=hL.cells (by rw[HN.out];exact aS) hp;have eL:=hL.lt g (.inr rfl);have oJ:=hL.base;have S7:=hL.lt b (.inl rfl);have lz:k<l.ps.length:=by rw[HN.out];exact aS
    have tL:=HV.out p (by rw[<- hp,yq lz];exact List.getElem_mem lz);have HP:=lH hp;have e1:=hF.sl;have f1:=hF.live 1;have al:=hF.row;have sh:((l.ps.take k).map (itP l.base)).length=k:=by simp;omega
    have Cz:=lH sh;rw[sh] at al;have HF:=lH hF;have HB:=lH hB;have aA:=lH am;obtain⟨i,ww,pv,day⟩:=p;simp only at c0 c1 c2 c3 tL;obtain⟨q1,q2⟩:=tL;obtain⟨q3,q4⟩:=i8;have kw:IntKind.i64.wrap (l.base-pv)=l.base-pv:=by rw[IntKind.wrap_i64];omega
    have iY:(k:Int)<(n:Int):=by omega
    have aX:0<=(k:Int):=by omega
    clear hg hL hF hB am hp sh HR;have eh:((wr.alloc (.cells #[I i,I ww,I pv,I day] 338)).drew).ownsRow (W.heap.size+2) 77 3 vf _ _:=(al.alloc _)
    have lr:SF b wr.heap.size l.base i ww pv ((wr.alloc (.cells #[I i,I ww,I pv,I day] 338)).drew):=SF.start oJ;have GI:vf.ownBlock≠some b/\vf.ownBlock≠some wr.heap.size:=⟨fun e=>by have:=(al.lt _ e).1;omega,fun e=>by have:=(al.lt _ e).2;omega⟩
    go_wp2_with fail
    have lD:SG b wr.heap.size l.base i ww pv (W.heap.size+1) vf ((wr.alloc (.cells #[I i,I ww,I pv,I day] 338)).drew):=⟨lr,c2a _ e1⟩
    refine zK (S:=SG b wr.heap.size l.base i ww pv (W.heap.size+1) vf) (T:=[17]) (by kernel_rfl) ?_;refine wT 0 ?_;refine wT 1 ?_;refine wT 2 ?_;refine wT 3 ?_;refine wT 4 ?_;refine wT 5 ?_;refine wT 6 ?_;refine wT 7 ?_;refine wT 8 ?_;refine wT 9 ?_;refine wT 10 ?_;refine wT 11 ?_;refine wT 12 ?_;refine wT 13 ?_;simp only[Act.put,aP,List.set];refine ze (i:=14) (by kernel_rfl) rfl (by kernel_rfl) ?_;intro K' hK;go_simp
    have aF:SG b wr.heap.size l.base i ww pv (W.heap.size+1) vf (((wr.alloc (.cells #[I i,I ww,I pv,I day] 338)).alloc (.cells #[I i,I ww,I (l.base-pv)] 77)).drew):=
     ⟨SF.alloc lD.1 _,c2a _ (c2a _ e1)⟩
    refine hK _ _ aF ?_;clear hK;refine ze (i:=15) (by kernel_rfl) rfl (by kernel_rfl) ?_;intro K2 hK;refine step_append_lies _ rfl _ _ _ rfl (W.heap.size+2) 77 i0 _ 3 24 Tryz.underlying68 hi eG aI et rfl (by omega) vf k (yG ((l.ps.take k).map (itP l.base))) rfl ((al.alloc _).alloc _) ⟨wr.heap.size+1,0,none⟩ 1 1 [I i,I ww,I (l.base-pv)] rfl rfl (World.news_of_block (cs:=#[I i,I ww,I (l.base-pv)]) (t:=77) (fr:=(0,0)) (Uw _ _ _)) (by simp[Value.oneCell']) (by omega) (by unfold maxLen;omega) (by omega) (by simp;omega) (wr.heap.size+2) (by simp) ?_;intro gg cp w1 ec ez aE NJ;have aC:SG b wr.heap.size l.base i ww pv (W.heap.size+1) vf w1:=⟨SF.grown (aF.1) ez GI.1 GI.2,e1h HF.out ez⟩
    have f1':=f1h HF.out ez;refine hK _ _ aC ?_;clear hK lD aF;have e1':=aC.2;refine wT 16 ?_;simp only[Act.put,aP,List.set];refine zk (i:=17) (by kernel_rfl) rfl (by kernel_rfl) ?_;intro K3 hK;go_simp
    refine hK _ _ ?_;clear hK;refine zy (by kernel_rfl) ?_ _;have HFin:Hid (VG W (w1.setCell ⟨W.heap.size+1,1,none⟩ (.slice (some ⟨gg,0,none⟩) (k+1) cp)) l.cur ((l.ps.take (k+1)).map (itP l.base))):=
     lH (Yk HF.out HB.out aA.out ez ec aE lz HP.out)
    clear ec ez aE aC f1' e1' eh al;go_wp2_with fail
    go_roundw
    case rel=>exact⟨k+1,aS,by go_num,HFin⟩
    case measure=>simp[intOf];omega
  · obtain rfl:k=n:=by omega
    have eZ:l.ps.take k=l.ps:=List.take_of_length_le (by rw[HN.out];exact Nat.le_refl _);rw[eZ] at hF;obtain⟨sa,sn,sc,rfl⟩:∃a n c,vf=.slice a n c:=by
     rcases hF.row.2 with⟨rfl,_⟩ | ⟨g,cap,cur,rfl,_⟩
     · exact⟨_,_,_,rfl⟩
     · exact⟨_,_,_,rfl⟩
    have e0:=hF.cur;have e1:=hF.sl;have g0:wr.cell? ⟨W.heap.size,0,none⟩=some r0:=by simp only[World.cell?,am];rfl
    have g1:wr.cell? ⟨W.heap.size,1,none⟩=some r1:=by simp only[World.cell?,am];rfl
    have f0:wr.frozen? ⟨W.heap.size,0,none⟩=false:=by simp only[World.frozen?,am];simp
    have f1:wr.frozen? ⟨W.heap.size,1,none⟩=false:=by simp only[World.frozen?,am];simp
    have iG:Hid (((wr.setCell ⟨W.heap.size,0,none⟩ (I l.cur)).setCell ⟨W.heap.size,1,none⟩ (.slice sa sn sc)).cell? ⟨W.heap.size,0,none⟩=some (I l.cur)):=
     lH (by rw[za _ (by simp)];exact World.cell?_setCell_same _ _ _ g0)
    have eV:Hid (((wr.setCell ⟨W.heap.size,0,none⟩ (I l.cur)).setCell ⟨W.heap.size,1,none⟩ (.slice sa sn sc)).cell? ⟨W.heap.size,1,none⟩=some (.slice sa sn sc)):=
     lH (World.cell?_setCell_same _ _ _ (by rw[za _ (by simp)];exact g1))
    have eJ:Hid (((wr.setCell ⟨W.heap.size,0,none⟩ (I l.cur)).setCell ⟨W.heap.size,1,none⟩ (.slice sa sn sc)).ownsRow W.heap.size 77 3 (.slice sa sn sc) (zw l).length (yG (zw l))):=by
     refine lH (zM (zb hF.row (fun j hj=>?_)) (by omega));have:=(hF.row.lt j hj).1;rw[Below.heap_setCell _ _ _ _ (by simp;omega),Below.heap_setCell _ _ _ _ (by simp;omega)]
    have HB:=lH hB;clear hF hB am eZ HR;go_wp2
    exact bodyPost_ret (v:=.agg #[I l.cur,.slice sa sn sc]) (by simp[results,Tryz.results271,go_sem,iG.out,eV.out]) rfl ⟨_,rfl,eJ.out,(HB.out.setCell (by simp) _).setCell (by simp) _⟩
def onP (p:Pt):Pt:=if p.day<=p.v+zF p.w then T8 ⟨p.id,p.w,p.v+zF p.w,p.day⟩ else⟨p.id,p.w,p.v+zF p.w,p.day⟩
def z8 (l:Ln):Int×Int×Ln:=
 if yh l.ps l.cur<0 then(0,14,l)
 else if 2305843009213693952<(l.ps[(yh l.ps l.cur).toNat]!).v+zF (l.ps[(yh l.ps l.cur).toNat]!).w then(0,7,l)
 else
  let ps:=l.ps.set (yh l.ps l.cur).toNat (onP l.ps[(yh l.ps l.cur).toNat]!)
  ((l.ps[(yh l.ps l.cur).toNat]!).id,0,⟨yY l.base ps,l.cur,ps⟩)
theorem uV (b:Nat) (v:Value) (l:Ln) (W:World) (h:LineAt W b v l) (hp:yh l.ps l.cur<0) :
 Calls Tryz.prog 267 #[.pointer (some ⟨b,0,none⟩)] W fun e w'=>e=.returned (.tuple #[I 0,I 14])/\Below W.heap.size W w':=by
 have ai:=vD b v l l.cur W h;obtain⟨r,hr⟩:∃r,yh l.ps l.cur=r:=⟨_,rfl⟩
 rw[hr] at ai hp;have hc:=h.cur;clear hr;go_enter Tryz.func267,Tryz.ntmps267;go_wp2_with fail
 refine ai.mono ?_;rintro e w' ⟨rfl,hb⟩;go_wp2
 go_ret2
 exact⟨rfl,hb⟩
def kH (b:Nat) (v:Value) (l:Ln) (k:Nat) (p:Pt) (s:Int) (W:World) (e:Ending) (w':World):Prop:=
 (2305843009213693952<p.v+s->e=.returned (.tuple #[I 0,I 7])/\Below W.heap.size W w') /\
 (¬2305843009213693952<p.v+s->e=.returned (.tuple #[I p.id,I 0])/\LineAt w' b v ⟨yY l.base (l.ps.set k (onP p)),l.cur,l.ps.set k (onP p)⟩/\Touch (lfp b v) W w')
theorem ke (b:Nat) (v:Value) (l:Ln) (W:World) (h:LineAt W b v l) (ag:l.ps.length<=64) (k:Nat) (hk:k<l.ps.length) (hp:yh l.ps l.cur=k) (p:Pt) (ij:l.ps[k]! = p)
 (hv:-2305843009213693952<=p.v/\p.v<=4611686018427387904) :
 Calls Tryz.prog 267 #[.pointer (some ⟨b,0,none⟩)] W (kH b v l k p (zF p.w) W):=by
 have ai:=vD b v l l.cur W h;rw[hp] at ai;obtain⟨g,cap,sX⟩:=h.form (by omega);subst sX;have hc:=h.cur;have lI:=xZ p.w;obtain⟨s,hs⟩:∃s,zF p.w=s:=⟨_,rfl⟩
 have ak:=fun W'=>Z1 p.w W';rw[hs] at lI ak⊢;have A6:=lH ij;have HL:=lH h;have HP:=lH hp;have HS:=lH hs;obtain⟨n,hn⟩:∃n,l.ps.length=n:=⟨_,rfl⟩
 rw[hn] at hk;have HN:=lH hn;rw[hn] at ag;clear ij h hp hn hs;obtain⟨v1,v2⟩:=hv;obtain⟨i,ww,pv,day⟩:=p;simp only at *;go_enter Tryz.func267,Tryz.ntmps267;go_wp2_with fail
 refine ai.mono ?_;rintro e w0 ⟨rfl,lk⟩;have Gq:=HL.out.below lk;have le:=Gq.sl;rw[HN.out] at le;obtain⟨c0,c1,c2,c3⟩:=Gq.cells (by rw[HN.out];exact hk) A6.out;simp only at c0 c1 c2 c3;have eL:=Gq.lt g (.inr rfl);have i9:=Gq.lt b (.inl rfl);have Ry:=lH Gq;have lF:=lH lk;have aX:¬(k:Int)<0:=by omega
 have iY:(k:Int)<(n:Int):=by omega
 have ly:0<=(k:Int):=by omega
 have e1:IntKind.i64.wrap (pv+s)=pv+s:=by rw[IntKind.wrap_i64];omega
 clear Gq lk;go_upto_region 5 with fail
 go_cut [] (fun W2=>Hid (yj W2 w0.heap.size ⟨i,ww,pv+s,day⟩/\Below w0.heap.size w0 W2))
 case first=>
  go_wp2_with fail
  go_region_with (go_at_call 238;refine(ak _).mono ?_;rintro e w' ⟨rfl,rfl⟩)
  all_goals
   go_wp2_with fail
   go_meet
   exact lH ⟨heap_alloc_new _ _,((Below.refl _ _).alloc (Nat.le_refl _) _).drew⟩
 case rest=>
  obtain⟨aJ,ab⟩:=hcut.out;have ef:=lH ab;have nB:=lH aJ;clear hcut c0 c1 c2 c3;obtain⟨d0,d1,d2,d3⟩:=aJ.cells;simp only at d0 d1 d2 d3;by_cases lY:2305843009213693952<pv+s
  · clear aJ ab;go_wp2
    go_ret2
    exact⟨fun _=>⟨rfl,lF.out.trans (ef.out.mono lF.out.size)⟩,fun h=>absurd lY h⟩
  · obtain⟨q,hq⟩:∃q,onP ⟨i,ww,pv,day⟩=q:=⟨_,rfl⟩
    have HQ:=lH hq;have pZ:q=if day<=pv+s then⟨i,ww,pv+s,pv+s+4*s⟩ else⟨i,ww,pv+s,day⟩:=by
     rw[<- hq];unfold onP T8;simp only
     rw[HS.out]
    have sM:=lH pZ;have pH:q.id=i:=by rw[pZ];split <;> rfl
    have sp:=lH pH;have f0:=aJ.frozen 0;have f1:=aJ.frozen 1;have f2:=aJ.frozen 2;have f3:=aJ.frozen 3;clear hq pZ pH aJ ab;go_upto_if 35 with fail
    go_cut [] (fun W3=>Hid (yj W3 w0.heap.size q/\Below w0.heap.size w0 W3))
    case first=>
     by_cases hd:day<=pv+s
     · have ll:=fun W'=>cz ⟨i,ww,pv+s,day⟩ W' (by simp only;omega) (by simp only;omega);have Az:T8 ⟨i,ww,pv+s,day⟩=⟨i,ww,pv+s,pv+s+4*s⟩:=by unfold T8;simp only;rw[HS.out]
       rw[Az] at ll;simp only[Pt.cells] at ll;obtain⟨dd,AA⟩:∃x,pv+s+4*s=x:=⟨_,rfl⟩
       rw[AA] at ll;have Ma:=lH AA;clear Az AA;go_wp2_with fail
       refine(ll _).mono ?_;rintro e w5 ⟨rfl,mY⟩;have tu:=nB.out.below mY nB.out.lt;obtain⟨d0,d1,d2,d3⟩:=tu.cells;simp only at d0 d1 d2 d3;have f0:=tu.frozen 0;have f1:=tu.frozen 1;have f2:=tu.frozen 2;have f3:=tu.frozen 3;have Sb:=lH tu;have pu:=lH mY;clear tu mY;go_wp2_with fail
       go_meet
       refine lH ⟨?_,?_⟩
       · have e:q=⟨i,ww,pv+s,dd⟩:=by rw[sM.out,if_pos hd,Ma.out]
         rw[e];exact Sb.out.store4 ⟨i,ww,pv+s,dd⟩
       · exact((((ef.out.trans (pu.out.mono ef.out.size)).setCell (by simp) _).setCell (by simp) _).setCell (by simp) _).setCell (by simp) _
     · go_wp2_with fail
       go_meet
       refine lH ⟨?_,ef.out⟩;have e:q=⟨i,ww,pv+s,day⟩:=by rw[sM.out,if_neg (by omega)]
       rw[e];exact nB.out
    case rest=>
     obtain⟨aJ,aK⟩:=hcut.out;clear d0 d1 d2 d3 f0 f1 f2 f3 hcut;have mN:=Ry.out.below aK;have BV:=mN.sl;rw[HN.out] at BV;obtain⟨c0,c1,c2,c3⟩:=mN.cells (by rw[HN.out];exact hk) A6.out;simp only at c0 c1 c2 c3;obtain⟨d0,d1,d2,d3⟩:=aJ.cells;have f0:=mN.rowLive (k*4);have f1:=mN.rowLive (k*4+1);have f2:=mN.rowLive (k*4+2);have f3:=mN.rowLive (k*4+3);have lq:=(mN.setPt k (by rw[HN.out];exact hk) q).drew;have lR:Touch (lfp b (.slice (some ⟨g,0,none⟩) l.ps.length cap)) W (qI wc g (k*4) q).drew:=
      ((Touch.of_below (lF.out.trans (aK.mono lF.out.size))).trans (fun j hj=>.inl (.inr (by rw[hj];rfl))) (kD wc g (k*4) q)).drew
     have lx:=mN.lt g (.inr rfl);have Ff:yj (qI wc g (k*4) q).drew w0.heap.size q:=(dS (by omega)).trans aJ;have ol:(l.ps.set k q).length<=64:=by rw[List.length_set,HN.out];exact ag
     have ez:=uX b _ _ (qI wc g (k*4) q).drew lq ol;have MF:=lH lq;have pA:=lH lR;have F8:=lH Ff;have JP:w0.heap.size<(qI wc g (k*4) q).drew.heap.size:=Ff.lt;clear lq lR Ff aJ aK mN;go_wp2_with fail
     go_region
     change Exit.then _ _ _ _ (qI wc g (k*4) q).drew;generalize(qI wc g (k*4) q).drew=w6 at ez MF pA F8 JP⊢;go_wp2_with fail
     refine ez.mono ?_;rintro e w7 ⟨rfl,Ho,GG⟩;have Ib:yj w7 w0.heap.size q:=(GG.block _ JP (by omega)).trans F8.out;obtain⟨g0,_,_,_⟩:=Ib.cells;have Mk:=lH Ho;have ES:=lH GG;clear Ho GG Ib;rw[sp.out] at g0;go_wp2_with fail
     go_ret2
     refine⟨fun h=>absurd h (by simp only;omega),fun _=>⟨rfl,?_,pA.out.trans (fun j hj=>.inl (.inl hj)) ES.out⟩⟩;rw[HQ.out];exact Mk.out
def xI (l:Ln):Ln:=
 if yh l.ps l.cur<0 then xi l
 else if (l.ps[(yh l.ps l.cur).toNat]!).v-465585120<=(yv l.ps).v then l else xi l
theorem jw {W w0 w1:World} {m:Pt} (h:w0=W.alloc (.cells m.cells.toArray 338)) (hb:Below w0.heap.size w0 w1):yj w1 W.heap.size m:=by
 subst h;exact(hb.block W.heap.size (by simp)).trans (heap_alloc_new W _)
theorem WA (b:Nat) (v:Value) (l:Ln) (W:World) (h:LineAt W b v l) (ag:l.ps.length<=64) (hv:∀p∈l.ps,-2305843009213693952<=p.v/\p.v<=4611686018427387904) :
 Calls Tryz.prog 305 #[.pointer (some ⟨b,0,none⟩)] W (VL b v (xI l) W):=by
 have ax:=q8 b v l W h ag;have ed:=fun W' h'=>ZB b v l W' h';rcases zB l.ps l.cur with⟨hp,_⟩ | ⟨k,hk,hp,_⟩
 · have BL:=fun W' h'=>UG b v l W' h' (by omega);have e:xI l=xi l:=by unfold xI;rw[if_pos (by omega)]
   rw[e];obtain⟨m,hm⟩:∃m,yv l.ps=m:=⟨_,rfl⟩
   obtain⟨c,hc⟩:∃c,(!l.ps.isEmpty)=c:=⟨_,rfl⟩
   rw[hm,hc] at ax ed;have HL:=lH h;clear h hm hc e hp;obtain⟨i,ww,pv,day⟩:=m;simp only[Pt.cells] at ax ed;go_enter Tryz.func305,Tryz.ntmps305;go_wp2_with fail
   refine ax.mono ?_;rintro e w1 ⟨rfl,ab⟩;have iM:=HL.out.below ab;have lU:=iM.alloc (.cells #[I i,I ww,I pv,I day] 338);have hn:=BL _ lU;go_wp2_with fail
   refine hn.mono ?_;rintro e w2 ⟨rfl,ar⟩;have aJ:yj w2 w1.heap.size ⟨i,ww,pv,day⟩:=jw rfl ar;obtain⟨d0,d1,d2,d3⟩:=aJ.cells;simp only at d0 d1 d2 d3;have nG:=aJ.lt;have hL:=lU.below ar;have hT:Touch (fun k=>k=b) W w2:=Touch.of_below ((ab.alloc ab.size _).trans (ar.mono (by have:=ab.size;simp;omega)));have th:=(hL.alloc (.cells #[I 0,I 0,I 0,I 0] 338)).drew;have rj:=(hT.alloc (.cells #[I 0,I 0,I 0,I 0] 338)).drew;have HL':=lH th;have HT':=lH rj;clear iM lU hL hT ab ar aJ th rj hn ax;go_wp2_with fail
   go_region_with (go_at_call 273;refine(ed _ HL'.out).mono ?_;rintro e w' ⟨⟨i,rfl⟩,lU,aC⟩;have hT:=HT'.out.self aC)
   all_goals
    go_wp2_with fail
    go_ret2
    exact⟨⟨_,_,rfl⟩,lU,hT⟩
 · obtain⟨p,ij⟩:∃p,l.ps[k]! = p:=⟨_,rfl⟩
   have BL:=fun W' h'=>Kr b v l W' h' k hk hp p ij ag;have tL:=hv p (by rw[<- ij,yq hk];exact List.getElem_mem hk);have e:xI l=if p.v-465585120<=(yv l.ps).v then l else xi l:=by
    unfold xI;rw[if_neg (by omega),hp];simp only[Int.toNat_natCast,ij]
   have HE:=lH e;obtain⟨m,hm⟩:∃m,yv l.ps=m:=⟨_,rfl⟩
   obtain⟨c,hc⟩:∃c,(!l.ps.isEmpty)=c:=⟨_,rfl⟩
   rw[hm,hc] at ax ed;have HL:=lH h;have HM:=lH hm;clear h hm hc e hp ij hv;obtain⟨i,ww,pv,day⟩:=m;obtain⟨i2,ww2,pv2,day2⟩:=p;simp only[Pt.cells] at ax ed BL tL;obtain⟨q1,q2⟩:=tL;by_cases Af:pv2-465585120<=pv
   · have e2:xI l=l:=by rw[HE.out,HM.out,if_pos Af]
     rw[e2];clear e2;go_enter Tryz.func305,Tryz.ntmps305;go_wp2_with fail
     refine ax.mono ?_;rintro e w1 ⟨rfl,ab⟩;have iM:=HL.out.below ab;have lU:=iM.alloc (.cells #[I i,I ww,I pv,I day] 338);have hn:=BL _ lU;go_wp2_with fail
     refine hn.mono ?_;rintro e w2 ⟨rfl,ar⟩;have aJ:yj w2 w1.heap.size ⟨i,ww,pv,day⟩:=jw rfl ar;obtain⟨d0,d1,d2,d3⟩:=aJ.cells;simp only at d0 d1 d2 d3;have nG:=aJ.lt;have mK:=lH (lU.below ar);have HT:Hid (Touch (fun k=>k=b) W w2):=lH (Touch.of_below ((ab.alloc ab.size _).trans (ar.mono (by have:=ab.size;simp;omega))));clear iM lU ab ar aJ hn ax;go_wp2_with fail
     go_ret2
     exact⟨⟨_,_,rfl⟩,mK.out.alloc _,HT.out.alloc _⟩
   · have e2:xI l=xi l:=by rw[HE.out,HM.out,if_neg Af]
     rw[e2];clear e2;go_enter Tryz.func305,Tryz.ntmps305;go_wp2_with fail
     refine ax.mono ?_;rintro e w1 ⟨rfl,ab⟩;have iM:=HL.out.below ab;have lU:=iM.alloc (.cells #[I i,I ww,I pv,I day] 338);have hn:=BL _ lU;go_wp2_with fail
     refine hn.mono ?_;rintro e w2 ⟨rfl,ar⟩;have aJ:yj w2 w1.heap.size ⟨i,ww,pv,day⟩:=jw rfl ar;obtain⟨d0,d1,d2,d3⟩:=aJ.cells;simp only at d0 d1 d2 d3;have nG:=aJ.lt;have hL:=lU.below ar;have hT:Touch (fun k=>k=b) W w2:=Touch.of_below ((ab.alloc ab.size _).trans (ar.mono (by have:=ab.size;simp;omega)));have th:=(hL.alloc (.cells #[I i2,I ww2,I pv2,I day2] 338)).drew;have rj:=(hT.alloc (.cells #[I i2,I ww2,I pv2,I day2] 338)).drew;have HL':=lH th;have HT':=lH rj;clear iM lU hL hT ab ar aJ th rj hn ax;go_wp2_with fail
     go_region_with (go_at_call 273;refine(ed _ HL'.out).mono ?_;rintro e w' ⟨⟨i,rfl⟩,lU,aC⟩;have hT:=HT'.out.self aC)
     all_goals
      go_wp2_with fail
      go_ret2
      exact⟨⟨_,_,rfl⟩,lU,hT⟩
end Go.Proofs.YtoiajjobecinpaaGreat

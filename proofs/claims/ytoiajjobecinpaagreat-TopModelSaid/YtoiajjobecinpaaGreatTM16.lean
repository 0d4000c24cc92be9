/- Run: what a tick takes of the accounts. Run. sorted, where no task is. -/
import Derived.Test.YtoiajjobecinpaaGreatTM13
set_option maxHeartbeats 4000000
set_option maxRecDepth 100000
namespace Go.Proofs.YtoiajjobecinpaaGreat
open Go.RowKit Go.Shelf Go.Lib Go.Proofs
set_option linter.unusedVariables false
set_option linter.unusedSimpArgs false
section
attribute [local go_sem] Oper.semAt_some
abbrev xS:=Int×Int×Int×Int
def xO (acc:List xS):Prop:=acc.length=16/\∀i,i<16->yN (acc.getD i default).1 (acc.getD i default).2.1 (acc.getD i default).2.2.1 (acc.getD i default).2.2.2\/yb (acc.getD i default).1 (acc.getD i default).2.1 (acc.getD i default).2.2.1 (acc.getD i default).2.2.2
def xp (acc:List xS) (x:G16):List xS:=
 if (xu (acc.getD x.1.toNat default).1 (acc.getD x.1.toNat default).2.1 (acc.getD x.1.toNat default).2.2.1 (acc.getD x.1.toNat default).2.2.2).2=0
 then acc.set x.1.toNat (xu (acc.getD x.1.toNat default).1 (acc.getD x.1.toNat default).2.1 (acc.getD x.1.toNat default).2.2.1 (acc.getD x.1.toNat default).2.2.2).1 else acc
theorem KG {q p l f:Int} (h:yN q p l f\/yb q p l f) (h0:(xu q p l f).2=0):yN (xu q p l f).1.1 (xu q p l f).1.2.1 (xu q p l f).1.2.2.1 (xu q p l f).1.2.2.2\/yb (xu q p l f).1.1 (xu q p l f).1.2.1 (xu q p l f).1.2.2.1 (xu q p l f).1.2.2.2:=by
 unfold xu at h0⊢;split at h0
 · rename_i hf;rw[if_pos hf];split at h0
   · cases h0
   · rename_i hl;rw[if_neg hl];exact .inr (by unfold yb at hf⊢;simp only;omega)
 · rename_i hf;rw[if_neg hf];split at h0
   · rename_i mj;rw[if_pos mj];exact .inl mj
   · cases h0
theorem yP (l:List xS) (k j:Nat) (v:xS) (hk:k<l.length):(l.set k v).getD j default=if k=j then v else l.getD j default:=by
 rw[List.getD_eq_getElem?_getD,List.getElem?_set,List.getD_eq_getElem?_getD];by_cases e:k=j
 · subst e;simp[hk]
 · simp[e]
theorem xO.use {acc:List xS} (h:xO acc) (x:G16):xO (xp acc x):=by
 unfold xp;have hx:=x.2;split
 · rename_i h0;refine⟨by rw[List.length_set];exact h.1,fun i hi=>?_⟩;rw[yP _ _ _ _ (by rw[h.1];omega)];split
   · exact KG (h.2 _ (by omega)) h0
   · exact h.2 i hi
 · exact h
def zU (s:Sy) (acc:List xS):Sy:=⟨s.cores,s.gs,acc,s.ps,s.tasks,s.cnt⟩
theorem SysAt.own_steps {sb gb nb pb mb n:Nat} {cv:Value} {D:DataW Unit} {cbs:List Nat} {tb:Int->Nat} {own:Nat->Option Own} {s:Sy} {W W':World} {row:Option Nat} {B:Nat} (h:SysAt W sb gb nb pb mb n cv D cbs tb own s) (hB:∀k,own k≠none->k<B)
 (hg:W.grownBy W' row) (hr:∀r,row=some r->B<=r):SysAt W' sb gb nb pb mb n cv D cbs tb own s:=
 h.same hg.size (fun k hk=>hg.block k (h.lt k hk) (fun e=>by have:=hr k e.symm;have:=hB k hk;omega))
theorem SysAt.setA {W:World} {sb gb nb pb mb n:Nat} {cv:Value} {D:DataW Unit} {cbs:List Nat} {tb:Int->Nat} {own:Nat->Option Own} {s:Sy} (h:SysAt W sb gb nb pb mb n cv D cbs tb own s) (k:Nat) (hk:k<16) (hl:s.acc.length=16) (u0 u1 u2 u3:Int) :
 SysAt ((((W.setCell ⟨sb,2+k*4,none⟩ (I u0)).setCell ⟨sb,2+k*4+1,none⟩ (I u1)).setCell ⟨sb,2+k*4+2,none⟩ (I u2)).setCell ⟨sb,2+k*4+3,none⟩ (I u3)) sb gb nb pb mb n cv D cbs tb own (zU s (s.acc.set k (u0,u1,u2,u3))):=by
 have hb:∀j,j≠sb->((((W.setCell ⟨sb,2+k*4,none⟩ (I u0)).setCell ⟨sb,2+k*4+1,none⟩ (I u1)).setCell ⟨sb,2+k*4+2,none⟩ (I u2)).setCell ⟨sb,2+k*4+3,none⟩ (I u3)).heap[j]? = W.heap[j]?:=fun j hj=>by
  rw[Below.heap_setCell _ _ _ _ (by simpa using hj),Below.heap_setCell _ _ _ _ (by simpa using hj),Below.heap_setCell _ _ _ _ (by simpa using hj),Below.heap_setCell _ _ _ _ (by simpa using hj)]
 have mH:((((W.setCell ⟨sb,2+k*4,none⟩ (I u0)).setCell ⟨sb,2+k*4+1,none⟩ (I u1)).setCell ⟨sb,2+k*4+2,none⟩ (I u2)).setCell ⟨sb,2+k*4+3,none⟩ (I u3)).heap.size=W.heap.size:=by simp
 have ay:∀x o,own x=some o->o≠.sys->x≠sb:=fun x o hx ho e=>by subst e;rw[h.osb] at hx;exact ho (by simpa using hx.symm)
 have ap:∀j,(j<2+k*4\/2+k*4+3<j)->((((W.setCell ⟨sb,2+k*4,none⟩ (I u0)).setCell ⟨sb,2+k*4+1,none⟩ (I u1)).setCell ⟨sb,2+k*4+2,none⟩ (I u2)).setCell ⟨sb,2+k*4+3,none⟩ (I u3)).cell? ⟨sb,j,none⟩=W.cell? ⟨sb,j,none⟩:=fun j hj=>by
  rw[za _ (by first | (simp;done) | (simp;omega)),za _ (by first | (simp;done) | (simp;omega)),za _ (by first | (simp;done) | (simp;omega)),za _ (by first | (simp;done) | (simp;omega))]
 refine⟨(ap 0 (by omega)).trans h.head,(ap 1 (by omega)).trans h.c1,fun i hi=>?_,(ap 66 (by omega)).trans h.c66,(ap 67 (by omega)).trans h.c67,fun i=>by rw[World.frozen?_setCell,World.frozen?_setCell,World.frozen?_setCell,World.frozen?_setCell];exact h.live i,
  h.groups.same (hb gb (ay gb _ h.ogb (by simp))),h.slots.same (hb nb (ay nb _ h.onb (by simp))) (hb pb (ay pb _ h.opb (by simp))),yc h.map (hb mb (ay mb _ h.omb (by simp))),h.cnt,h.reads,fun id t ht=>?_,zb h.row (fun j hj=>hb j (ay j _ (h.rown j hj) (by simp))),h.rown,h.num,
  fun i hi=>(h.core i hi).same (by rw[mH];exact Nat.le_refl _) (fun j hj=>hb j (ay j _ hj (by simp))),h.osb,h.ogb,h.onb,h.opb,h.omb,fun j hj=>by rw[mH];exact h.lt j hj⟩
 · show _/\_;simp only[zU];rw[yP _ _ _ _ (by omega)];obtain⟨a0,a1,a2,a3⟩:=h.acc i hi;by_cases e:k=i
   · subst e;rw[if_pos rfl];refine⟨?_,?_,?_,?_⟩
     · rw[za _ (by first | (simp;done) | (simp;omega)),za _ (by first | (simp;done) | (simp;omega)),za _ (by first | (simp;done) | (simp;omega))];exact World.cell?_setCell_same _ _ _ a0
     · rw[za _ (by simp),za _ (by simp)];exact World.cell?_setCell_same _ _ _ (by rw[za _ (by simp)];exact a1)
     · rw[za _ (by simp)];exact World.cell?_setCell_same _ _ _ (by rw[za _ (by simp),za _ (by simp)];exact a2)
     · exact World.cell?_setCell_same _ _ _ (by rw[za _ (by simp),za _ (by simp),za _ (by simp)];exact a3)
   · rw[if_neg e];exact⟨(ap _ (by omega)).trans a0,(ap _ (by omega)).trans a1,(ap _ (by omega)).trans a2,(ap _ (by omega)).trans a3⟩
 · obtain⟨t1,t2⟩:=h.task id t ht;exact⟨t1.same (hb _ (ay _ _ t2 (by simp))),t2⟩
theorem SysAt.drew1 {W:World} {sb gb nb pb mb n:Nat} {cv:Value} {D:DataW Unit} {cbs:List Nat} {tb:Int->Nat} {own:Nat->Option Own} {s:Sy} (h:SysAt W sb gb nb pb mb n cv D cbs tb own s):SysAt W.drew sb gb nb pb mb n cv D cbs tb own s:=
 h.same (Nat.le_refl _) (fun _ _=>rfl)
def Ju (B1 sb C:Nat) (u0 u1 u2 u3:Int) (W:World):Prop:=
 W.cell? ⟨B1,0,none⟩=some (.pointer (some ⟨sb,0,none⟩))/\W.cell? ⟨C,0,none⟩=some (I u0)/\W.cell? ⟨C,1,none⟩=some (I u1)/\W.cell? ⟨C,2,none⟩=some (I u2)/\W.cell? ⟨C,3,none⟩=some (I u3)
theorem VQ {q p l f:Int} (h:yN q p l f\/yb q p l f):-9223372036854775808<=l/\l<=9223372036854775807:=by
 rcases h with h | h
 · unfold yN at h;omega
 · unfold yb at h;omega
theorem jU {F:Nat->Prop} {A B C:World} {row:Option Nat} (h:Touch F A B) (hg:B.grownBy C row) (hr:∀r,row=some r->A.heap.size<=r):Touch F A C:=
 ⟨hg.os.trans h.os,hg.tape.trans h.tape,hg.output.trans h.output,Nat.le_trans h.size hg.size,fun k hk hn=>(hg.block k (Nat.lt_of_lt_of_le hk h.size) (fun e=>by have:=hr k e.symm;omega)).trans (h.block k hk hn)⟩
theorem bO (w:World):Calls Tryz.prog 181 #[.int .u64 0] w fun e w'=>e=.returned (I 0)/\w=w':=by
 go_enter Tryz.func181,Tryz.ntmps181;go_wp2
 go_ret
 exact⟨by kernel_rfl,rfl⟩
theorem Kk (p:Option Addr) (c:Nat) (w:World):Calls Tryz.prog 191 #[.slice p 0 c,I 0,I 0,.func (.func 159) #[] #[]] w fun e w'=>e=.returned (.tuple #[])/\w=w':=by
 go_enter Tryz.func191,Tryz.ntmps191;go_wp2_with fail
 refine wp_loop_rounds 1 ?_;rw[rounds_succ];go_wp2_with fail
 go_end0
 exact⟨rfl,rfl⟩
theorem Kt (p:Option Addr) (c:Nat) (w:World):Calls Tryz.prog 180 #[.slice p 0 c,I 0,I 0,I 0,.func (.func 159) #[] #[]] w fun e w'=>e=.returned (.tuple #[])/\w=w':=by
 go_enter Tryz.func180,Tryz.ntmps180;go_wp2_with fail
 refine wp_loop_rounds 1 ?_;rw[rounds_succ];go_wp2_with (go_at_call 191;refine(Kk p c _).mono ?_;rintro e w' ⟨rfl,rfl⟩)
 refine bodyPost_ret (results_none rfl _ _ _) rfl ?_;exact⟨rfl,rfl⟩
theorem Q0 (p:Option Addr) (c:Nat) (w:World):Calls Tryz.prog 158 #[.slice p 0 c,.func (.func 159) #[] #[]] w fun e w'=>e=.returned (.tuple #[])/\w=w':=by
 go_enter Tryz.func158,Tryz.ntmps158;go_wp2_with (first | (go_at_call 181;refine(bO _).mono ?_;rintro e w' ⟨rfl,rfl⟩) | (go_at_call 180;refine(Kt p c _).mono ?_;rintro e w' ⟨rfl,rfl⟩))
 go_end0
 exact⟨rfl,rfl⟩
theorem YV (sb gb nb pb mb n:Nat) (cv:Value) (D:DataW Unit) (cbs:List Nat) (tb:Int->Nat) (own:Nat->Option Own) (s:Sy) (w:World)
 (h:SysAt w sb gb nb pb mb n cv D cbs tb own s) (hz:xj s.ps) (hd:gn s) (ay:zf s.ps=[]) :
 Calls Tryz.prog 117 #[.pointer (some ⟨sb,0,none⟩)] w fun e W'=>∃(v:Value) (ids:List Int),e=.returned v/\ids.Perm (zf s.ps)/\ids.Pairwise (fun a b=>¬b<a)/\W'.ownsRow w.heap.size 188 1 v ids.length (ids.map fun x=>.pointer (some ⟨tb x,0,none⟩))/\Below w.heap.size w W':=by
 have h1:1<=5:=by omega
 have le:=h.lt sb (by rw[h.osb];simp);have FH:=h.slots.lt;have c66:=h.c66;have nu:(zf s.ps).length<=64:=Nat.le_trans (yl _ _) hz.1;have HS:=lH h;have HD:=lH hd;have tV:=lH ay;have HZ:=lH hz;clear h hd ay hz;refine callsIn_wide.1 (callsIn_of_wp_marks (n:=5) Tryz.func117 rfl trivial (wpIn_wide.2 ?_) rfl);simp only[Tryz.ntmps117,List.size_toArray,List.length_cons,List.length_nil,Nat.reduceAdd,Nat.reduceSub,Array.replicate_succ,Array.replicate_zero,List.push_toArray,List.append_toArray,List.nil_append,List.cons_append];go_wp2_with (go_at_call 141;refine(fD nb _).mono ?_;rintro e w' ⟨rfl,rfl⟩)
 have q0:=zv w (.pointer (some ⟨sb,0,none⟩)) 81;have q1:=zv (w.alloc (.cells #[.pointer (some ⟨sb,0,none⟩)] 81)) (.slice none 0 0) 202;have q2:=zv ((w.alloc (.cells #[.pointer (some ⟨sb,0,none⟩)] 81)).alloc (.cells #[.slice none 0 0] 202)) (.pointer (some ⟨nb,0,none⟩)) 115;have f1:=zY (.cells #[.pointer (some ⟨nb,0,none⟩)] 115) q1.1 q1.2;replace q0:=c2a (.cells #[.pointer (some ⟨nb,0,none⟩)] 115) (c2a (.cells #[.slice none 0 0] 202) q0.1);replace q1:=c2a (.cells #[.pointer (some ⟨nb,0,none⟩)] 115) q1.1;replace q2:=q2.1;simp only[World.size_alloc] at q0 q1 q2 f1;have en:Below w.heap.size w (((w.alloc (.cells #[.pointer (some ⟨sb,0,none⟩)] 81)).alloc (.cells #[.slice none 0 0] 202)).alloc (.cells #[.pointer (some ⟨nb,0,none⟩)] 115)):=(((Below.refl _ w).alloc (Nat.le_refl _) _).alloc (by simp) _).alloc (by simp;omega) _;have hz:(((w.alloc (.cells #[.pointer (some ⟨sb,0,none⟩)] 81)).alloc (.cells #[.slice none 0 0] 202)).alloc (.cells #[.pointer (some ⟨nb,0,none⟩)] 115)).heap.size=w.heap.size+1+1+1:=by simp
 generalize((w.alloc (.cells #[.pointer (some ⟨sb,0,none⟩)] 81)).alloc (.cells #[.slice none 0 0] 202)).alloc (.cells #[.pointer (some ⟨nb,0,none⟩)] 115)=W1 at q0 q1 q2 f1 en hz⊢;refine(wpIn_wide (n:=5)).1 (wpIn_rangeFunc_ownF rfl h1 (gf:=171) (lb:=#[.pointer (some ⟨w.heap.size+1+1,0,none⟩)]) rfl trivial (enters_of Tryz.func171 (by kernel_rfl) rfl)
  (k7 (fun x=>x∈zf s.ps) (5-1) (by omega) (w.heap.size+1+1) nb pb (w.heap.size+1) s.ps (zf s.ps).attach (List.attach_map_subtype_val _) W1 q2 (HS.out.below en).slots HZ.out q1) KpL.t (KpL.b (by omega)) (Below.refl _ _) (fun _=>rfl)
  (fun pre W=>(W1.heap.size<=W.heap.size/\W.cell? ⟨w.heap.size,0,none⟩=some (.pointer (some ⟨sb,0,none⟩))/\qU W1.heap.size (w.heap.size+1) 188 1 (pre.map fun x=>.pointer (some ⟨tb x.1,0,none⟩)) pre.length W)/\Below w.heap.size w W)
  (fun _ _ _=>False)
  (OwnFrom.and (Own.from (fun s A B row hs hg hr=>⟨Nat.le_trans hs.1 hg.size,cell_kept hs.2.1 hg hr,hs.2.2.kept hg hr⟩) _) (ownFrom_below (Nat.le_refl _) (by omega)))
  (fun _ _ _ _ _ hs _ _=>hs)
  ⟨⟨Nat.le_refl _,q0,_,q1,f1,World.ownsRow_nil ..⟩,en⟩
  (fun x=>{tmps:=#[Value.pointer (some ⟨sb,0,none⟩),.pointer (some ⟨w.heap.size,0,none⟩),.slice none 0 0,.pointer (some ⟨w.heap.size+1,0,none⟩),I x.1,.pointer (some ⟨sb,0,none⟩),.pointer (some ⟨sb,0,none⟩),.pointer (some ⟨sb,66,none⟩),.pointer (some ⟨nb,0,none⟩),.func (.func 171) #[] #[.pointer (some ⟨w.heap.size+1+1,0,none⟩)],I x.1,undef,undef,undef,undef,undef,undef,undef,undef,undef,undef,undef,undef],defers:=[]}) ?assign ?body ?done ?stop)
 case assign=>
  intro l x W K hK;gi_wp2
  simpa using hK
 case body=>
  rintro l pre ⟨x,hx⟩ W ⟨⟨p9,aX,v,hv,Er,aa⟩,hB⟩ sE;rw[tV.out] at hx;cases hx
 case done=>
  rintro D' ys W hD rfl ⟨⟨p9,aX,v,hv,Er,aa⟩,hB⟩ hK;have lB:W.ownsRow W1.heap.size 188 1 v 0 []:=by
   have e1:(zf s.ps).attach=[]:=List.eq_nil_of_length_eq_zero (by rw[List.length_attach,tV.out];rfl);rw[e1] at aa;exact aa
  obtain⟨p,c,A1⟩:∃p c,v=.slice p 0 c:=by
   rcases lB.2 with⟨e,h0⟩ | ⟨g,cap,cur,e,_⟩
   · exact⟨none,0,by rw[e]⟩
   · exact⟨_,cap,e⟩
  subst A1;have n9:=hv;have eJ:=lH lB;clear aa lB;go_wp2_with fail
  refine(Q0 p c _).mono ?_;rintro e w2 ⟨rfl,rfl⟩;go_wp2_with fail
  refine⟨by simp,.inl ⟨_,_,rfl,run_takeDeferred hK,?_⟩⟩;refine⟨_,results_tmp rfl _ _ _,?_⟩;have Fe:=belowK_b (w:=w) (Nat.le_refl _) W D' _ (.deferred none) (by omega) hK rfl rfl;refine⟨_,rfl,[],by rw[tV.out],List.Pairwise.nil,?_,hB.trans Fe⟩;exact ownsRow_putObj (zM eJ.out (by omega)) _ hK rfl
 case stop=>
  rintro D' c pre W _ _ h _;exact h.elim
theorem kA (sb gb nb pb mb n:Nat) (cv:Value) (D:DataW Unit) (cbs:List Nat) (tb:Int->Nat) (own:Nat->Option Own) (s:Sy) (w:World)
 (h:SysAt w sb gb nb pb mb n cv D cbs tb own s) (hz:xj s.ps) (hd:gn s) :
 Calls Tryz.prog 117 #[.pointer (some ⟨sb,0,none⟩)] w fun e W'=>∃(v:Value) (ids:List Int),e=.returned v/\ids.Perm (zf s.ps)/\ids.Pairwise (fun a b=>¬b<a)/\W'.ownsRow w.heap.size 188 1 v ids.length (ids.map fun x=>.pointer (some ⟨tb x,0,none⟩))/\Below w.heap.size w W':=by
 by_cases ay:zf s.ps=[]
 · exact YV sb gb nb pb mb n cv D cbs tb own s w h hz hd ay
 · exact YU sb gb nb pb mb n cv D cbs tb own s w h hz hd ay
end
end Go.Proofs.YtoiajjobecinpaaGreat

/- groups.Add. Spawn. -/
import Derived.Test.YtoiajjobecinpaaGreatTM10
set_option maxHeartbeats 4000000
set_option maxRecDepth 100000
namespace Go.Proofs.YtoiajjobecinpaaGreat
open Go.RowKit Go.Shelf Go.Lib Go.Proofs
set_option linter.unusedVariables false
set_option linter.unusedSimpArgs false
section
attribute [local go_sem] Oper.semAt_some
theorem We (gb:Nat) (gs:List (Bool×Int)) (up:Int) (W:World) (h:GroupsAt W gb gs) (hh:zL gs up=false) :
 Calls Tryz.prog 98 #[.pointer (some ⟨gb,0,none⟩),I up] W fun e w'=>e=.returned (.tuple #[I 0,I 2])/\W=w':=by
 have aB:=kR gb gs up W h;rw[hh] at aB;clear h hh;go_enter Tryz.func98,Tryz.ntmps98;go_wp2_with fail
 refine aB.mono ?_;rintro e w' ⟨rfl,rfl⟩;go_wp2_with fail
 go_ret2
 exact⟨rfl,rfl⟩
theorem Wd (gb:Nat) (gs:List (Bool×Int)) (up:Int) (xs:List G16) (W:World) (h:GroupsAt W gb gs) (hL:zq gs up xs) (ay:zL gs up=true) (ag:4<=xs.length) (mt:xs.length<=1000) :
 Calls Tryz.prog 98 #[.pointer (some ⟨gb,0,none⟩),I up] W fun e w'=>e=.returned (.tuple #[I 0,I 6])/\Below W.heap.size W w':=by
 have aB:=kR gb gs up W h;have mh:=vx gb gs up xs W h hL mt;rw[ay] at aB;clear h hL ay;obtain⟨n,hn⟩:∃n,xs.length=n:=⟨_,rfl⟩
 rw[hn] at mh ag;have g1:4<=(n:Int):=by omega
 clear hn;go_enter Tryz.func98,Tryz.ntmps98;go_wp2_with fail
 refine aB.mono ?_;rintro e w' ⟨rfl,rfl⟩;go_wp2_with fail
 refine mh.mono ?_;rintro e w1 ⟨rfl,ab⟩;have HB:=lH ab;clear ab mh;go_wp2_with fail
 go_ret2
 exact⟨rfl,HB.out⟩
def vW (gs:List (Bool×Int)) (up:Int):Int×Int×List (Bool×Int):=
 match gs.findIdx? (fun p=>!p.1) with
 | some i=>((i:Int),0,gs.set i (true,up))
 | none=>(0,3,gs)
theorem Xq {gs:List (Bool×Int)} {up:Int} {k:Nat} (hk:k<gs.length) (h:∀j,j<k->(gs.getD j default).1=true) (hf:(gs.getD k default).1=false):vW gs up=((k:Int),0,gs.set k (true,up)):=by
 have og:gs.findIdx? (fun p=>!p.1)=some k:=by
  rw[List.findIdx?_eq_some_iff_getElem];have hg:∀j (hj:j<gs.length),gs.getD j default=gs[j]:=fun j hj=>by rw[List.getD_eq_getElem?_getD,List.getElem?_eq_getElem hj];rfl
  refine⟨hk,by rw[<- hg k hk,hf];rfl,fun j hj=>?_⟩;rw[<- hg j (by omega),h j hj];simp
 unfold vW;rw[og]
theorem dB {gs:List (Bool×Int)} {up:Int} (h:∀j,j<gs.length->(gs.getD j default).1=true):vW gs up=(0,3,gs):=by
 have og:gs.findIdx? (fun p=>!p.1)=none:=by
  rw[List.findIdx?_eq_none_iff];intro x hx;obtain⟨j,hj,rfl⟩:=List.mem_iff_getElem.1 hx;have:=h j hj;rw[List.getD_eq_getElem?_getD,List.getElem?_eq_getElem hj] at this;simpa using this
 unfold vW;rw[og]
theorem GroupsAt.set {W:World} {gb:Nat} {gs:List (Bool×Int)} (h:GroupsAt W gb gs) (k:Nat) (hk:k<16) (a:Bool) (u:Int) :
 GroupsAt ((W.setCell ⟨gb,k*2,none⟩ (.bool a)).setCell ⟨gb,k*2+1,none⟩ (I u)) gb (gs.set k (a,u)):=by
 have hl:=h.len;have hg:∀i,i<16->(gs.set k (a,u)).getD i default=if i=k then(a,u) else gs.getD i default:=fun i hi=>by
  simp only[List.getD_eq_getElem?_getD,List.getElem?_set];by_cases e:i=k
  · subst e;rw[if_pos rfl,if_pos rfl,if_pos (by omega)];rfl
  · rw[if_neg (fun e2=>e e2.symm),if_neg e]
 refine⟨by simpa using hl,fun i hi=>?_,fun i hi=>?_,fun i=>?_⟩
 · rw[hg i hi,za _ (fun e=>by have:=congrArg Addr.off e;simp at this;omega)];by_cases e:i=k
   · subst e;rw[if_pos rfl];exact World.cell?_setCell_same _ _ _ (h.there i hi)
   · rw[if_neg e,za _ (fun e2=>by have:=congrArg Addr.off e2;simp at this;omega)];exact h.there i hi
 · rw[hg i hi];by_cases e:i=k
   · subst e;rw[if_pos rfl];exact World.cell?_setCell_same _ _ _ ((za _ (fun e2=>by have:=congrArg Addr.off e2;simp at this)).trans (h.up i hi))
   · rw[if_neg e,za _ (fun e2=>by have:=congrArg Addr.off e2;simp at this;omega),za _ (fun e2=>by have:=congrArg Addr.off e2;simp at this;omega)];exact h.up i hi
 · rw[World.frozen?_setCell,World.frozen?_setCell];exact h.live i
def vE (gs:List (Bool×Int)):List Value:=gs.flatMap fun p=>[.bool p.1,I p.2]
theorem j9 (gs:List (Bool×Int)):(vE gs).length=gs.length*2:=by
 induction gs with
 | nil=>rfl
 | cons a b ih=>simp only[vE,List.flatMap_cons,List.length_append] at ih⊢;rw[ih];simp;omega
theorem j8:∀(gs:List (Bool×Int)) (k:Nat),k<gs.length->(vE gs)[k*2]? = some (.bool (gs.getD k default).1)/\(vE gs)[k*2+1]? = some (I (gs.getD k default).2)
 | [],k,h=>by simp at h
 | p::l,0,_=>by simp[vE]
 | p::l,k+1,h=>by
  have ih:=j8 l k (by simpa using h);have e:vE (p::l)=[.bool p.1,I p.2]++vE l:=by simp[vE]
  rw[e,List.getElem?_append_right (by simp;omega),List.getElem?_append_right (by simp;omega)];simp only[List.length_cons,List.length_nil];rw[show(k+1)*2-(0+1+1)=k*2 by omega,show(k+1)*2+1-(0+1+1)=k*2+1 by omega,ih.1,ih.2];simp
theorem KP (gb:Nat) (gs:List (Bool×Int)) (W:World) (h:GroupsAt W gb gs):Sem.run Tryz.prog (loadCellsFrom ⟨gb,0,none⟩ 0 32 #[]) W=.ok (vE gs).toArray W:=by
 refine run_loadCellsFrom_list Tryz.prog W ⟨gb,0,none⟩ (vE gs) 32 (by rw[j9,h.len]) (fun j v hv=>?_);have hj:j<32:=by
  have:=(List.getElem?_eq_some_iff.1 hv).1;rw[j9,h.len] at this;exact this
 simp only[Addr.add_lit,Nat.zero_add];obtain⟨f1,f2⟩:=j8 gs (j/2) (by rw[h.len];omega);by_cases e:j%2=0
 · rw[show j/2*2=j by omega] at f1;rw[f1] at hv;cases hv;have:=h.there (j/2) (by omega);rwa [show j/2*2=j by omega] at this
 · rw[show j/2*2+1=j by omega] at f2;rw[f2] at hv;cases hv;have:=h.up (j/2) (by omega);rwa [show j/2*2+1=j by omega] at this
def KM (gb:Nat) (r:Int×Int×List (Bool×Int)) (W:World) (e:Ending) (w':World):Prop:=
 e=.returned (.tuple #[I r.1,I r.2.1])/\GroupsAt w' gb r.2.2/\Touch (fun k=>k=gb) W w'
theorem gD {P:Program} {w:World} {ops:Array Oper} {rest:List Oper} {o:Oper} {a:Act} {Q:Exit->Act->World->Prop} (hg:o.guard=none) (ty:TypeId) (x:Operand) (nN:o.op=.load ty x) (p v:Value) (hx:a.eval x=p)
 (hr:Sem.run P (Instr.loadAt ty p) w=.ok v w) (hK:wpList P ops Q rest (a.put o.dst v) w):wpList P ops Q (o::rest) a w:=by
 refine wpList_plain hg fun K Bj=>?_;unfold Oper.wp;subst hx;simp[execOp,nN,hr,Result.andThen]
 exact Bj _ _ hK
theorem uv {P:Program} {w:World} {ops:Array Oper} {rest:List Oper} {o:Oper} {a:Act} {Q:Exit->Act->World->Prop} (hg:o.guard=none) (ty:TypeId) (x i:Operand) (nN:o.op=.index ty x i) (p q v:Value) (hx:a.eval x=p) (hi:a.eval i=q)
 (hr:Sem.run P (Instr.index ty p q) w=.ok v w) (hK:wpList P ops Q rest (a.put o.dst v) w):wpList P ops Q (o::rest) a w:=by
 refine wpList_plain hg fun K Bj=>?_;unfold Oper.wp;subst hx hi;simp[execOp,nN,hr,Result.andThen]
 exact Bj _ _ hK
theorem Xr:Tryz.prog.underlying 176=some (.array 16 175):=by kernel_rfl
theorem Ke:(Tryz.prog.underlying 175).map (fun d=>match d with | .struct _ | .array _ _=>true | _=>false)=some true:=by kernel_rfl
theorem Uv:(Tryz.prog.info? 176).map (fun i=>i.size)=some 32:=by kernel_rfl
theorem Uu:(Tryz.prog.info? 175).map (fun i=>i.size)=some 2:=by kernel_rfl
theorem Kd (gb:Nat) (gs:List (Bool×Int)) (W:World) (h:GroupsAt W gb gs):Sem.run Tryz.prog (Instr.loadAt 176 (.pointer (some ⟨gb,0,none⟩))) W=.ok (.agg (vE gs).toArray) W:=by
 have h1:=KP gb gs W h;obtain⟨i,hi,hs⟩:=Option.map_eq_some_iff.1 Uv;have Fb:(isAgg 176).run Tryz.prog W=.ok true W:=by
  unfold isAgg;rw[Sem.run_bind,run_underlying Xr W];simp
 simp[Instr.loadAt,Instr.sureAddr,loadVar,Sem.run_bind,Fb,sizeOf,typeInfo,hi,hs,loadCells,h1,Result.andThen]
theorem JD (gs:List (Bool×Int)) (k:Nat) (hk:k<gs.length) (hl:gs.length=16) (W:World) :
 Sem.run Tryz.prog (Instr.index 176 (.agg (vE gs).toArray) (I (k:Int))) W=.ok (.agg #[.bool (gs.getD k default).1,I (gs.getD k default).2]) W:=by
 obtain⟨f1,f2⟩:=j8 gs k hk;have Nn:=j9 gs;obtain⟨i,hi,hs⟩:=Option.map_eq_some_iff.1 Uu;obtain⟨d,hd,SL⟩:=Option.map_eq_some_iff.1 Ke;have Fb:(isAgg 175).run Tryz.prog W=.ok true W:=by
  unfold isAgg;rw[Sem.run_bind,run_underlying hd W];cases d <;> simp_all
 have Il:(vE gs).toArray.extract (k*2) (k*2+2)=#[.bool (gs.getD k default).1,I (gs.getD k default).2]:=by
  apply Array.ext'
  simp only[Array.toList_extract,List.extract_eq_take_drop];apply List.ext_getElem?
  intro n;simp only[List.getElem?_take,List.getElem?_drop];match n with
  | 0=>simp[f1]
  | 1=>simp[f2]
  | n+2=>simp;omega
 have Im:(List.drop (k*2) (vE gs)).take 2=[.bool (gs.getD k default).1,I (gs.getD k default).2]:=by
  have:=congrArg Array.toList Il;simpa only[Array.toList_extract,List.extract_eq_take_drop,Nat.add_sub_cancel_left] using this
 have g1:(k:Int)<16:=by omega
 simp only[Instr.index,asIntOf,Sem.run_bind,Sem.run_pure,Result.andThen_ok,run_underlying Xr W];simp only[List.getD_eq_getElem?_getD] at Im;simp[part,Sem.run_bind,Fb,sizeOf,typeInfo,hi,hs,Im,Result.andThen,g1]
theorem Uo (gb:Nat) (gs:List (Bool×Int)) (up:Int) (xs:List G16) (W:World) (h:GroupsAt W gb gs) (hL:zq gs up xs) (ay:zL gs up=true) (ag:xs.length<4) :
 Calls Tryz.prog 98 #[.pointer (some ⟨gb,0,none⟩),I up] W (KM gb (vW gs up) W):=by
 have aB:=kR gb gs up W h;have mh:=vx gb gs up xs W h hL (by omega);rw[ay] at aB;have HG:=lH h;have rL:=h.len;have eL:gb<W.heap.size:=World.block_lt_of_cell? _ _ (h.there 0 (by omega));obtain⟨n,hn⟩:∃n,xs.length=n:=⟨_,rfl⟩
 rw[hn] at mh ag;have g1:¬4<=(n:Int):=by omega
 obtain⟨r,hr⟩:∃r,vW gs up=r:=⟨_,rfl⟩
 rw[hr];have HR:=lH hr;have Cy:=lH rL;have Cw:=lH eL;clear h hL ay hn hr rL eL;go_enter Tryz.func98,Tryz.ntmps98;go_wp2_with fail
 refine aB.mono ?_;rintro e w' ⟨rfl,rfl⟩;go_wp2_with fail
 refine mh.mono ?_;rintro e w1 ⟨rfl,ab⟩;have eV:=lH (HG.out.same (ab.block gb Cw.out));have HB:=lH ab;clear ab mh aB;have tU:=lH (KP gb gs w1 eV.out);obtain⟨A,hA⟩:∃x,(vE gs).toArray=x:=⟨_,rfl⟩
 have HA:=lH hA;clear hA;go_wp2_with (refine gD rfl 176 _ rfl (.pointer (some ⟨gb,0,none⟩)) (.agg A) rfl (by rw[<- HA.out];exact Kd gb gs w1 eV.out) ?_)
 have Lv:Hid (w1.heap.size=w1.heap.size):=lH rfl;go_loopw [22] (fun x wr=>∃k:Nat,k<=16/\x=I k/\Hid (∀j,j<k->(gs.getD j default).1=true)/\Hid (Below W.heap.size W wr)) (fun x _=>16-(intOf x).toNat)
 case atStart=>exact⟨0,by omega,rfl,lH (fun j hj=>by omega),HB⟩
 case round=>
  obtain⟨k,hk,rfl,HT,HBr⟩:=hrel;by_cases aS:k<16
  · have Fz:=JD gs k (by rw[Cy.out];exact aS) Cy.out;rw[HA.out] at Fz;have HI:=lH Fz;have HGr:=lH (HG.out.same (HBr.out.block gb Cw.out));have iY:(k:Int)<16:=by omega
    have aX:0<=(k:Int):=by omega
    obtain⟨pv,tL⟩:∃x,(gs.getD k default).1=x:=⟨_,rfl⟩
    obtain⟨qv,GE⟩:∃x,(gs.getD k default).2=x:=⟨_,rfl⟩
    rw[tL,GE] at HI;have HP:=lH tL;clear Fz tL GE;cases pv with
    | true=>
     go_wp2_with (refine uv rfl 176 _ _ rfl (.agg A) (I (k:Int)) _ rfl rfl (HI.out _) ?_)
     go_roundw
     case rel=>exact⟨k+1,aS,by go_num,lH (fun j hj=>by
      by_cases e:j=k
      · subst e;exact HP.out
      · exact HT.out j (by omega)),lH (HBr.out.alloc HBr.out.size _)⟩
     case measure=>simp[intOf];omega
    | false=>
     obtain⟨wz,p9⟩:∃x,wr.alloc (.cells #[.bool false,I qv] 175)=x:=⟨_,rfl⟩
     have oH:Below W.heap.size W wz:=by rw[<- p9];exact HBr.out.alloc HBr.out.size _
     have se:=HG.out.same (oH.block gb Cw.out);have c1:=se.there k aS;have c2:=se.up k aS;have c3:=se.live (k*2);have c4:=se.live (k*2+1);have c5:(wz.setCell ⟨gb,k*2,none⟩ (.bool true)).cell? ⟨gb,k*2+1,none⟩=some (I (gs.getD k default).2):=(za _ (fun e2=>by have:=congrArg Addr.off e2;simp at this)).trans c2;have c6:(wz.setCell ⟨gb,k*2,none⟩ (.bool true)).frozen? ⟨gb,k*2+1,none⟩=false:=by rw[World.frozen?_setCell];exact c4
     have oO:=lH (se.set k aS true up);have eR:Hid (Touch (fun k=>k=gb) W ((wz.setCell ⟨gb,k*2,none⟩ (.bool true)).setCell ⟨gb,k*2+1,none⟩ (I up))):=
      lH (((Touch.of_below (F:=fun k=>k=gb) oH).setCell (t:=none) (Or.inl rfl) _).setCell (t:=none) (Or.inl rfl) _)
     have sL:=lH (Xq (up:=up) (by rw[Cy.out];exact aS) HT.out HP.out);clear se oH;subst p9;go_wp2_with (refine uv rfl 176 _ _ rfl (.agg A) (I (k:Int)) _ rfl rfl (HI.out _) ?_)
     go_ret2
     have rR:((k:Int),0,gs.set k (true,up))=r:=sL.out.symm.trans HR.out;subst rR;exact⟨rfl,oO.out,eR.out⟩
  · obtain rfl:k=16:=by omega
    have sL:=lH (dB (gs:=gs) (up:=up) (by rw[Cy.out];exact HT.out));go_wp2_with fail
    go_ret2
    have rR:((0:Int),(3:Int),gs)=r:=sL.out.symm.trans HR.out;subst rR;exact⟨rfl,HG.out.same (HBr.out.block gb Cw.out),Touch.of_below HBr.out⟩
end
theorem K0 (b a:Nat) (w:World) (ps:List (Int×Bool)) (hs:SlotsAt w b a ps) (hz:xj ps) (id:Int) (ps':List (Int×Bool)) (ht:ym ps=(id,0,ps')) :
 Calls Tryz.prog 101 #[.pointer (some ⟨b,0,none⟩)] w fun e w'=>e=.returned (.tuple #[I id,I 0])/\SlotsAt w' b a ps'/\Touch (fun k=>k=a) w w':=by
 cases hf:ps.findIdx? (fun p=>!p.2) with
 | none=>
  unfold ym at ht;rw[hf] at ht;simp at ht
 | some i=>
  unfold ym at ht;rw[hf] at ht;simp only[Prod.mk.injEq,true_and] at ht;obtain⟨rfl,rfl⟩:=ht;obtain⟨hi,h1,h2⟩:=List.findIdx?_eq_some_iff_getElem.1 hf;have Di:=hz.2 i hi;refine(Vp b a i w ps hz.1 hs hi ?_ ?_ _ Di.1 Di.2 rfl).mono ?_
  · rw[kQ hi];simpa using h1
  · intro j hj;have:=h2 j hj;rw[kQ (by omega)];simpa using this
  · rintro e w' ⟨rfl,rfl⟩;exact⟨rfl,hs.set i hi _ _,(zG _ _ _ _).self (zG _ _ _ _)⟩
def ya (id w m g:Int):Tk:=⟨id,w,g,-1,1,m,0⟩
theorem Xg (W:World) (id w m g:Int):TaskAt (W.alloc (.cells #[I id,I w,I g,I (-1),I 1,.int .u16 m,I 0] 60)) W.heap.size (ya id w m g):=by
 have hh:=heap_alloc_new W (.cells #[I id,I w,I g,I (-1),I 1,.int .u16 m,I 0] 60);refine⟨?_,?_,?_,?_,?_,?_,?_,fun i=>?_⟩
 · simp only[World.cell?,hh];rfl
 · simp only[World.cell?,hh];rfl
 · simp only[World.cell?,hh];rfl
 · simp only[World.cell?,hh];rfl
 · simp only[World.cell?,hh];rfl
 · simp only[World.cell?,hh];rfl
 · simp only[World.cell?,hh];rfl
 · simp only[World.frozen?,hh];simp
open Classical in
theorem SysAt.spawn {W W1 W2 W3:World} {sb gb nb pb mb n:Nat} {cv:Value} {D:DataW Unit} {cbs:List Nat} {tb:Int->Nat} {own:Nat->Option Own} {s:Sy} {id:Int} {t:Tk} {ps':List (Int×Bool)}
 (h:SysAt W sb gb nb pb mb n cv D cbs tb own s) (hS:SlotsAt W1 nb pb ps') (hT:Touch (fun k=>k=pb) W W1) (hB:Below W1.heap.size W1 W2) (eZ:TaskAt W2 W1.heap.size t) (et:W1.heap.size<W2.heap.size)
 (hm:W3.ownsMap Tryz.prog 3 fB mb (n+1) (D.put (.int .i64 id) (.lit (.int .i64 (W1.heap.size:Nat))))) (hg:W2.grownBy W3 (some mb)) (PK:s.tasks id=none) :
 ∃own' tb',SysAt W3 sb gb nb pb mb (n+1) cv (D.put (.int .i64 id) (.lit (.int .i64 (W1.heap.size:Nat)))) cbs tb' own' ⟨s.cores,s.gs,s.acc,ps',fun x=>if x=id then some t else s.tasks x,s.cnt+1⟩ /\
  (∀k,own' k≠none->own k≠none\/W.heap.size<=k)/\Touch (fun k=>own k≠none) W W3:=by
 have z1:=hT.size;have z2:=hB.size;have z3:=hg.size;have hk:∀k x,own k=some x->x≠.places->x≠.map->W3.heap[k]? = W.heap[k]?:=fun k x hk hx iU=>by
  have ah:=h.lt k (by rw[hk];simp);rw[hg.block k (by omega) (fun e=>by simp at e;subst e;rw[h.omb] at hk;exact iU (by simpa using hk.symm)),hB.block k (by omega),hT.block k ah (fun e=>by subst e;rw[h.opb] at hk;exact hx (by simpa using hk.symm))]
 have bsb:=hk sb _ h.osb (by simp) (by simp);have h0:∀i,W3.cell? ⟨sb,i,none⟩=W.cell? ⟨sb,i,none⟩:=fun i=>World.cell?_of_block bsb;have oR:∀i,W3.frozen? ⟨sb,i,none⟩=W.frozen? ⟨sb,i,none⟩:=fun i=>World.frozen?_of_block bsb;have PI:=h.lt mb (by rw[h.omb];simp);have Ta:=h.lt nb (by rw[h.onb];simp);have NV:=h.lt pb (by rw[h.opb];simp);have al:∀k x,own k=some x->(if k=W1.heap.size then some (Own.task id) else own k)=some x:=fun k x hk=>by
  rw[if_neg (by have:=h.lt k (by rw[hk];simp);omega)];exact hk
 have nF:∀k,(if k=W1.heap.size then some (Own.task id) else own k)≠none->k<W3.heap.size:=fun k hk=>by
  split at hk
  · omega
  · have:=h.lt k hk;omega
 have nG:∀k x,(if k=W1.heap.size then some (Own.task id) else own k)=some x->k<W3.heap.size:=fun k x hk=>nF k (by rw[hk];simp);refine⟨fun k=>if k=W1.heap.size then some (.task id) else own k,fun x=>if x=id then W1.heap.size else tb x,
  ⟨(h0 _).trans h.head,(h0 _).trans h.c1,fun i hi=>?_,(h0 _).trans h.c66,(h0 _).trans h.c67,fun i=>(oR i).trans (h.live i),h.groups.same (hk gb _ h.ogb (by simp) (by simp)),?_,hm,by have:=h.cnt;simp only;omega,fun x ia iU=>?_,fun x u hu=>?_,
  zb h.row (fun k eO=>hk k _ (h.rown k eO) (by simp) (by simp)),fun k eO=>al k _ (h.rown k eO),h.num,fun i hi=>?_,al _ _ h.osb,al _ _ h.ogb,al _ _ h.onb,al _ _ h.opb,al _ _ h.omb,nF⟩,fun k eO=>?_,?_⟩
 · obtain⟨a1,a2,a3,a4⟩:=h.acc i hi;exact⟨(h0 _).trans a1,(h0 _).trans a2,(h0 _).trans a3,(h0 _).trans a4⟩
 · have LP:nb≠mb:=fun e=>by have a:=h.onb;rw[e,h.omb] at a;cases a
   have C8:pb≠mb:=fun e=>by have a:=h.opb;rw[e,h.omb] at a;cases a
   have e:∀k,k<W1.heap.size->k≠mb->W3.heap[k]? = W1.heap[k]?:=fun k eO ay=>by rw[hg.block k (by omega) (by simpa using ay),hB.block k eO]
   exact hS.same (e nb (by omega) LP) (e pb (by omega) C8)
 · by_cases e:x=id
   · subst e;simp only[if_pos];rw[Maps.atKey_put_same h.map.isMap (by trivial)]
   · simp only[if_neg e];rw[Maps.atKey_put_other (by intro c;simp only[Lit.int.injEq,true_and] at c;exact e c)];exact h.reads x ia iU
 · by_cases e:x=id
   · subst e;simp only[if_pos,Option.some.injEq] at hu⊢;subst hu;refine⟨eZ.same (hg.block _ et (fun e=>by simp at e;omega)),?_⟩;simp
   · simp only[if_neg e] at hu⊢;obtain⟨t1,t2⟩:=h.task x u hu;exact⟨t1.same (hk _ _ t2 (by simp) (by simp)),al _ _ t2⟩
 · exact((h.core i hi).same (by omega) (fun k eO=>hk k _ eO (by simp) (by simp))).wider (fun k eO=>al k _ eO) (fun k eO=>nG k _ eO)
 · simp only at eO;split at eO
   · exact .inr (by omega)
   · exact .inl eO
 · refine⟨hg.os.trans (hB.os.trans hT.os),hg.tape.trans (hB.tape.trans hT.tape),hg.output.trans (hB.output.trans hT.output),by omega,fun k iY ly=>?_⟩;rw[hg.block k (by omega) (fun e=>by simp at e;subst e;exact ly (by rw[h.omb];simp)),hB.block k (by omega),hT.block k iY (fun e=>by subst e;exact ly (by rw[h.opb];simp))]
theorem Touch.thenBelow {F:Nat->Prop} {a b c:World} (h:Touch F a b) (k:Below b.heap.size b c):Touch F a c:=h.self (Touch.of_below k)
theorem Qh (b:Nat):fB (.pointer (some ⟨b,0,none⟩))=some (.lit (.int .i64 (b:Int)),[]):=rfl
end Go.Proofs.YtoiajjobecinpaaGreat

/- Groups: has; the way up from one. Slots at the top seat's numbers: the texts of the small seat, turn -/
import Derived.RangeFuncNested
import Derived.RangeFuncBound
import Derived.RangeFuncCalls
import Derived.RangeFuncLeaves
import Derived.RangeFuncFrom
import Derived.Shelf.Abstract
import Derived.Shelf.RegionOpen
import Derived.OwnWalkIn
import Derived.TacticsInMore
import Derived.LoopNIn
import Derived.LoopIn
import Derived.WalkSpells
import Derived.WalkLawsBesides
import Derived.Test.YtoiajjobecinpaaGreatTM06
import Derived.Test.YtoiajjobecinpaaGreatTM07
set_option maxHeartbeats 4000000
set_option maxRecDepth 100000
namespace Go.Proofs.YtoiajjobecinpaaGreat
open Go.RowKit Go.Shelf Go.Lib Go.Proofs
set_option linter.unusedVariables false
set_option linter.unusedSimpArgs false
section
attribute [local go_sem] Oper.semAt_some
def zL (gs:List (Bool×Int)) (id:Int):Bool:=decide (0<=id)&&(decide (id<16)&&(gs.getD id.toNat default).1)
def upG (gs:List (Bool×Int)) (id:Int):Int:=(gs.getD id.toNat default).2
structure GroupsAt (W:World) (gb:Nat) (gs:List (Bool×Int)):Prop where
 len:gs.length=16
 there:∀i,i<16->W.cell? ⟨gb,i*2,none⟩=some (.bool (gs.getD i default).1)
 up:∀i,i<16->W.cell? ⟨gb,i*2+1,none⟩=some (I (gs.getD i default).2)
 live:∀i,W.frozen? ⟨gb,i,none⟩=false
theorem GroupsAt.same {W W':World} {gb:Nat} {gs:List (Bool×Int)} (h:GroupsAt W gb gs) (hb:W'.heap[gb]? = W.heap[gb]?):GroupsAt W' gb gs:=
 ⟨h.len,fun i hi=>(World.cell?_of_block (a:=⟨gb,_,none⟩) hb).trans (h.there i hi),fun i hi=>(World.cell?_of_block (a:=⟨gb,_,none⟩) hb).trans (h.up i hi),fun i=>(World.frozen?_of_block (a:=⟨gb,i,none⟩) hb).trans (h.live i)⟩
theorem GroupsAt.lt {W:World} {gb:Nat} {gs:List (Bool×Int)} (h:GroupsAt W gb gs):gb<W.heap.size:=World.block_lt_of_cell? W _ (h.there 0 (by omega))
theorem kR (gb:Nat) (gs:List (Bool×Int)) (id:Int) (W:World) (h:GroupsAt W gb gs) :
 Calls Tryz.prog 148 #[.pointer (some ⟨gb,0,none⟩),I id] W fun e w'=>e=.returned (.bool (zL gs id))/\W=w':=by
 unfold zL;by_cases h1:0<=id
 · by_cases h2:id<16
   · obtain⟨k,rfl⟩:=Int.eq_ofNat_of_zero_le h1;have h3:=h.there k (by omega);rw[decide_eq_true h1,decide_eq_true h2];simp only[Int.toNat_natCast];generalize(gs.getD k default).1=b at h3⊢;clear h;go_enter Tryz.func148,Tryz.ntmps148;go_wp2
     all_goals (go_ret;exact⟨by first | rfl | simp,rfl⟩)
   · rw[decide_eq_false h2];clear h;go_enter Tryz.func148,Tryz.ntmps148;go_wp2
     go_ret
     exact⟨by simp,rfl⟩
 · rw[decide_eq_false h1];clear h;go_enter Tryz.func148,Tryz.ntmps148;go_wp2
   go_ret
   exact⟨by simp,rfl⟩
abbrev G16:={x:Int // 0<=x/\x<16}
def zq (gs:List (Bool×Int)):Int->List G16->Prop
 | id,[]=>zL gs id=false
 | id,x::xs=>x.1=id/\zL gs id=true/\zq gs (upG gs id) xs
theorem zq.unique {gs:List (Bool×Int)}:∀{id:Int} {xs ys:List G16},zq gs id xs->zq gs id ys->xs=ys
 | _,[],[],_,_=>rfl
 | _,[],_::_,h,⟨_,h2,_⟩=>by rw[show zL gs _=false from h] at h2;cases h2
 | _,_::_,[],⟨_,h2,_⟩,h=>by rw[show zL gs _=false from h] at h2;cases h2
 | _,x::xs,y::ys,⟨h1,_,hr⟩,⟨h2,_,p7⟩=>by rw[Subtype.ext (h1.trans h2.symm),zq.unique hr p7]
open Classical in
noncomputable def U5 (gs:List (Bool×Int)) (v:Value):Nat:=
 if h:∃r:Int×List G16,v=I r.1/\zq gs r.1 r.2 then(Classical.choose h).2.length else 0
theorem bN {gs:List (Bool×Int)} {id:Int} {xs:List G16} (h:zq gs id xs):U5 gs (I id)=xs.length:=by
 have Il:∃r:Int×List G16,I id=I r.1/\zq gs r.1 r.2:=⟨(id,xs),rfl,h⟩
 unfold U5;rw[dif_pos Il];obtain⟨e,hl⟩:=Classical.choose_spec Il;have e':id=(Classical.choose Il).1:=by simpa using e
 rw[<- e'] at hl;rw[zq.unique hl h]
theorem Kf {gs:List (Bool×Int)} {id:Int} (h:zL gs id=true):0<=id/\id<16:=by
 unfold zL at h;simp only[Bool.and_eq_true,decide_eq_true_eq] at h;exact⟨h.1,h.2.1⟩
def KpG (gb Bg:Nat) (W W':World):Prop:=W'.heap[gb]? = W.heap[gb]?/\W'.heap[Bg]? = W.heap[Bg]?
theorem KpG.t {gb Bg:Nat} {A B C:World} (h:KpG gb Bg A B) (k:KpG gb Bg B C):KpG gb Bg A C:=⟨k.1.trans h.1,k.2.trans h.2⟩
theorem KpG.b {gb Bg:Nat} {w:World} (h1:gb<w.heap.size) (h2:Bg<w.heap.size) (W:World) (l:Nat) (o o':Obj) (hl:w.heap.size<=l) (_:W.heap[l]? = some o) (_:o.isCells=false) (_:o.isWalk=false):KpG gb Bg W (W.putObj l o'):=by
 have e:∀k,k<w.heap.size->(W.putObj l o').heap[k]? = W.heap[k]?:=fun k hk=>World.putObj_heap_other (by omega);exact⟨e gb h1,e Bg h2⟩
theorem UH (n:Nat) (hn:2<=n) (l Bi Bg gb:Nat) (gs:List (Bool×Int)) (id:Int) (xs:List G16) (J Jx:List G16->World->Prop)
 (hY:∀pre x W,J pre W->pre.length<xs.length->YieldAt Fence.wide (n-1) Tryz.prog l #[I x.1] W fun e W'=>
   (e=.returned (.bool true)/\J (pre++[x]) W'/\KpG gb Bg W W')\/(e=.returned (.bool false)/\Jx (pre++[x]) W'))
 (W:World) (OW:W.cell? ⟨Bi,0,none⟩=some (I id)) (MS:W.cell? ⟨Bg,0,none⟩=some (.pointer (some ⟨gb,0,none⟩))) (hG:GroupsAt W gb gs) (hL:zq gs id xs) (h0:J [] W) :
 CallsIn Fence.wide n Tryz.prog 155 #[.func (.yield l) #[] #[],.pointer (some ⟨Bi,0,none⟩),.pointer (some ⟨Bg,0,none⟩)] W fun e W'=>(∃v,e=.returned v) /\
  ((∃ys,ys=xs/\J ys W')\/(∃pre,pre <+: xs/\Jx pre W')):=by
 have h1:1<=n:=by omega
 have h2:1<=n-1:=by omega
 refine callsIn_of_wp Tryz.func155 rfl trivial ?_ rfl;simp only[Tryz.ntmps155,List.size_toArray,List.length_cons,List.length_nil,Nat.reduceAdd,Nat.reduceSub,Array.replicate_succ,Array.replicate_zero,List.push_toArray,List.append_toArray,List.nil_append,List.cons_append];gi_wp2
 gi_loopw [4] (fun p wr=>∃(pre rest:List G16) (q:Int),p=I q/\xs=pre++rest/\zq gs q rest/\J pre wr/\GroupsAt wr gb gs/\wr.cell? ⟨Bg,0,none⟩=some (.pointer (some ⟨gb,0,none⟩)))
  (fun p wr=>U5 gs p)
 case atStart=>
  exact⟨[],xs,id,rfl,rfl,hL,h0,hG,MS⟩
 case round=>
  obtain⟨pre,rest,q,rfl,hx,hl,DD,MU,rI⟩:=hrel;have aB:=kR gb gs q wr MU;cases rest with
  | nil=>
   have rK:zL gs q=false:=hl;rw[rK] at aB;gi_wp2_with (refine⟨trivial,?_⟩;gi_at_call 148;refine(callsIn_wide.2 aB).mono ?_;rintro e w' ⟨rfl,rfl⟩)
   go_end0
   exact⟨⟨_,rfl⟩,.inl ⟨pre,by simp[hx],DD⟩⟩
  | cons x rest=>
   have S6:=hl;obtain⟨P9,hh,hr⟩:=hl;rw[hh] at aB;obtain⟨b1,b2⟩:=Kf hh;obtain⟨fn,tmps,assign,body,hy,hR⟩:=hY pre x wr DD (by rw[hx];simp);rw[P9] at hy;obtain⟨k,rfl⟩:=Int.eq_ofNat_of_zero_le b1;have hu:=MU.up k (by omega);have HU:upG gs (k:Int)=(gs.getD k default).2:=by unfold upG;simp
   rw[HU] at hr;generalize(gs.getD k default).2=u at hu hr;clear hG hL HU P9;gi_wp2_with (refine⟨trivial,?_⟩;gi_at_call 148;refine(callsIn_wide.2 aB).mono ?_;rintro e w' ⟨rfl,rfl⟩)
   refine hR.mono ?_;rintro e W3 (⟨rfl,E1,tG⟩ | ⟨rfl,Bh⟩)
   · have Sq:GroupsAt W3 gb gs:=MU.same tG.1;have Ft:W3.cell? ⟨Bg,0,none⟩=some (.pointer (some ⟨gb,0,none⟩)):=(World.cell?_of_block (a:=⟨Bg,0,none⟩) tG.2).trans rI;have T0:W3.cell? ⟨gb,k*2+1,none⟩=some (I u):=(World.cell?_of_block (a:=⟨gb,_,none⟩) tG.1).trans hu;gi_wp2
     go_roundw
     case rel=>exact⟨pre++[x],rest,u,rfl,by simp[hx],hr,E1,Sq,Ft⟩
     case measure=>rw[bN hr,bN S6];simp
   · gi_wp2
     refine bodyPost_ret (results_none rfl _ _ _) rfl ?_;exact⟨⟨_,rfl⟩,.inr ⟨pre++[x],⟨rest,by simp[hx]⟩,Bh⟩⟩
end
end Go.Proofs.YtoiajjobecinpaaGreat
namespace Go.Proofs.YtoiajjobecinpaaGreat
open Go.RowKit
set_option linter.unusedVariables false
set_option linter.unusedSimpArgs false
def cellsOf:List (Int×Bool)->List Value
 | []=>[]
 | p::t=>I p.1::.bool p.2::cellsOf t
theorem gP (ps:List (Int×Bool)):(cellsOf ps).length=ps.length*2:=by
 induction ps with
 | nil=>rfl
 | cons p t ih=>simp[cellsOf,ih];omega
theorem zzz (ps:List (Int×Bool)):∀i,i<ps.length->(cellsOf ps)[i*2]? = some (I (ps.getD i default).1):=by
 induction ps with
 | nil=>intro i h;simp at h
 | cons p t ih=>
  intro i h;cases i with
  | zero=>rfl
  | succ i=>
   have:=ih i (by simpa using h);rw[show(i+1)*2=i*2+1+1 from by omega];simpa [cellsOf] using this
theorem qN (ps:List (Int×Bool)):∀i,i<ps.length->(cellsOf ps)[i*2+1]? = some (.bool (ps.getD i default).2):=by
 induction ps with
 | nil=>intro i h;simp at h
 | cons p t ih=>
  intro i h;cases i with
  | zero=>rfl
  | succ i=>
   have:=ih i (by simpa using h);rw[show(i+1)*2+1=i*2+1+1+1 from by omega];simpa [cellsOf] using this
theorem jZ (ps:List (Int×Bool)) (t:Int) (b:Bool):∀i,i<ps.length ->
 cellsOf (ps.set i (t,b))=((cellsOf ps).set (i*2) (I t)).set (i*2+1) (.bool b):=by
 induction ps with
 | nil=>intro i h;simp at h
 | cons p q ih=>
  intro i h;cases i with
  | zero=>rfl
  | succ i=>
   have:=ih i (by simpa using h);rw[show(i+1)*2=i*2+1+1 from by omega];simp[cellsOf,this]
theorem Qs {l:List Value} {i:Nat} {v:Value} (h:l[i]? = some v):l.set i v=l:=by
 apply List.ext_getElem?
 intro j;rw[List.getElem?_set];split
 · rename_i e;subst e;split
   · exact h.symm
   · rename_i hn;rw[List.getElem?_eq_none (by omega)] at h;cases h
 · rfl
structure SlotsAt (w:World) (b a:Nat) (ps:List (Int×Bool)):Prop where
 head:w.cell? ⟨b,0,none⟩=some (.slice (some ⟨a,0,none⟩) ps.length ps.length)
 ne:b≠a
 row:∃T,w.heap[a]? = some (.cells (cellsOf ps).toArray T (0,0))
theorem SlotsAt.turn {w:World} {b a:Nat} {ps:List (Int×Bool)} (h:SlotsAt w b a ps) (i:Nat) (hi:i<ps.length) :
 w.cell? ⟨a,i*2,none⟩=some (I (ps.getD i default).1):=by
 obtain⟨T,hr⟩:=h.row;simp only[World.cell?,hr];simpa using zzz ps i hi
theorem SlotsAt.taken {w:World} {b a:Nat} {ps:List (Int×Bool)} (h:SlotsAt w b a ps) (i:Nat) (hi:i<ps.length) :
 w.cell? ⟨a,i*2+1,none⟩=some (.bool (ps.getD i default).2):=by
 obtain⟨T,hr⟩:=h.row;simp only[World.cell?,hr];simpa using qN ps i hi
theorem SlotsAt.frozen {w:World} {b a:Nat} {ps:List (Int×Bool)} (h:SlotsAt w b a ps) (i:Nat) :
 w.frozen? ⟨a,i,none⟩=false:=by
 obtain⟨T,hr⟩:=h.row;simp[World.frozen?,hr]
theorem wJ {w:World} {a i:Nat} {v:Value} {cs:List Value} {T:TypeId} (h:w.heap[a]? = some (.cells cs.toArray T (0,0))) :
 (w.setCell ⟨a,i,none⟩ v).heap[a]? = some (.cells (cs.set i v).toArray T (0,0)):=by
 simp[World.setCell,Array.getElem?_modify,h]
theorem SlotsAt.set {w:World} {b a:Nat} {ps:List (Int×Bool)} (h:SlotsAt w b a ps) (i:Nat) (hi:i<ps.length) (t:Int) (d:Bool) :
 SlotsAt ((w.setCell ⟨a,i*2+1,none⟩ (.bool d)).setCell ⟨a,i*2,none⟩ (I t)) b a (ps.set i (t,d)):=by
 obtain⟨T,hr⟩:=h.row;refine⟨?_,h.ne,T,?_⟩
 · rw[World.cell?_setCell_other _ _ _ _ (by intro e;injection e with e1;exact h.ne e1.symm),World.cell?_setCell_other _ _ _ _ (by intro e;injection e with e1;exact h.ne e1.symm)];simpa using h.head
 · rw[wJ (wJ hr),jZ ps t d i hi,List.set_comm _ _ (by omega)]
theorem SlotsAt.free {w:World} {b a:Nat} {ps:List (Int×Bool)} (h:SlotsAt w b a ps) (i:Nat) (hi:i<ps.length) :
 SlotsAt (w.setCell ⟨a,i*2+1,none⟩ (.bool false)) b a (ps.set i ((ps.getD i default).1,false)):=by
 obtain⟨T,hr⟩:=h.row;refine⟨?_,h.ne,T,?_⟩
 · rw[World.cell?_setCell_other _ _ _ _ (by intro e;injection e with e1;exact h.ne e1.symm)];simpa using h.head
 · rw[wJ hr,jZ ps _ _ i hi,Qs (zzz ps i hi)]
theorem SlotsAt.below {w w':World} {b a:Nat} {ps:List (Int×Bool)} (h:SlotsAt w b a ps) {B:Nat} (hb:Below B w w') (h1:b<B) (h2:a<B):SlotsAt w' b a ps:=by
 obtain⟨T,hr⟩:=h.row;exact⟨(hb.cell (p:=⟨b,0,none⟩) h1).trans h.head,h.ne,T,(hb.block a h2).trans hr⟩
theorem SlotsAt.lt {w:World} {b a:Nat} {ps:List (Int×Bool)} (h:SlotsAt w b a ps):b<w.heap.size/\a<w.heap.size:=by
 obtain⟨T,hr⟩:=h.row;exact⟨World.block_lt_of_cell? w _ h.head,(Array.getElem?_eq_some_iff.1 hr).1⟩
theorem YZ (id:Int) (w:World) (h:0<=id) (h2:id<=9223372036854775807) :
 Calls Tryz.prog 179 #[I id] w fun e w'=>e=.returned (.tuple #[I (id%64),I (id/64)])/\w=w':=by
 go_enter Tryz.func179,Tryz.ntmps179;go_wp2
 go_ret2
 exact⟨by simp,rfl⟩
theorem Xa (id:Int) (w:World) (h:id<0) :
 Calls Tryz.prog 179 #[I id] w fun e w'=>e=.returned (.tuple #[I (-1),I (-1)])/\w=w':=by
 go_enter Tryz.func179,Tryz.ntmps179;go_wp2
 go_ret2
 exact⟨rfl,rfl⟩
theorem Vp (b a i:Nat) (w:World) (ps:List (Int×Bool)) (hn:ps.length<=64) (hs:SlotsAt w b a ps) (hi:i<ps.length)
 (ng:(ps.getD i default).2=false) (aM:∀j,j<i->(ps.getD j default).2=true) (t:Int) (TX:0<=t) (ni:t<=1000000) (ht:(ps.getD i default).1=t) :
 Calls Tryz.prog 101 #[.pointer (some ⟨b,0,none⟩)] w fun e w'=>e=.returned (.tuple #[I (i+64*t),I 0]) /\
  (w.setCell ⟨a,i*2+1,none⟩ (.bool true)).setCell ⟨a,i*2,none⟩ (I (t+1))=w':=by
 have hb:=hs.head;obtain⟨n,HN⟩:∃n,Hid (ps.length=n):=⟨_,lH rfl⟩
 rw[HN.out] at hb hn hi;go_enter Tryz.func101,Tryz.ntmps101;go_wp2
 go_loop [4,5,11] (fun x4 x5 x11=>∃k:Nat,k<=i/\x11=I k) (fun _ _ i=>n-(intOf i).toNat)
 case atStart=>exact⟨0,by omega,rfl⟩
 case round=>
  obtain⟨k,hk,rfl⟩:=hrel;have aS:k<n:=by omega
  have h1:=hs.turn k (by rw[HN.out];exact aS);have h2:=hs.taken k (by rw[HN.out];exact aS);have h3:=hs.frozen (k*2+1);have h4:=hs.frozen (k*2);by_cases ah:k<i
  · rw[aM k ah] at h2;clear aM ht ng;go_wp2
    go_round
    case rel=>exact⟨k+1,by omega,by go_num⟩
    case measure=>simp[intOf];omega
  · obtain rfl:k=i:=by omega
    rw[ng] at h2;rw[ht] at h1;clear aM ng;have HT:=lH ht;clear ht;have h5:(w.setCell ⟨a,k*2+1,none⟩ (.bool true)).cell? ⟨a,k*2,none⟩=some (I t):=by
     rw[World.cell?_setCell_other _ _ _ _ (by simp)];exact h1
    have h6:((w.setCell ⟨a,k*2+1,none⟩ (.bool true)).setCell ⟨a,k*2,none⟩ (I (t+1))).cell? ⟨a,k*2,none⟩=some (I (t+1)):=
     World.cell?_setCell_same _ _ _ h5
    go_wp2
    go_ret2
    exact⟨by simp[Int.add_sub_cancel],rfl⟩
theorem Xb (b a:Nat) (w:World) (ps:List (Int×Bool)) (hn:ps.length<=64) (hs:SlotsAt w b a ps)
 (aM:∀j,j<ps.length->(ps.getD j default).2=true) :
 Calls Tryz.prog 101 #[.pointer (some ⟨b,0,none⟩)] w fun e w'=>e=.returned (.tuple #[I 0,I 3])/\w=w':=by
 have hb:=hs.head;obtain⟨n,HN⟩:∃n,Hid (ps.length=n):=⟨_,lH rfl⟩
 rw[HN.out] at hb hn aM;go_enter Tryz.func101,Tryz.ntmps101;go_wp2
 go_loop [4,5,11] (fun x4 x5 x11=>∃k:Nat,k<=n/\x11=I k) (fun _ _ i=>n-(intOf i).toNat)
 case atStart=>exact⟨0,by omega,rfl⟩
 case round=>
  obtain⟨k,hk,rfl⟩:=hrel;by_cases ah:k<n
  · have h2:=hs.taken k (by rw[HN.out];exact ah);rw[aM k ah] at h2;clear aM;go_wp2
    go_round
    case rel=>exact⟨k+1,by omega,by go_num⟩
    case measure=>simp[intOf];omega
  · clear aM;go_wp2
    go_ret2
    exact⟨rfl,rfl⟩
theorem Qu (p:Value) (id:Int) (w:World) (h:id<0) :
 Calls Tryz.prog 152 #[p,I id] w fun e w'=>e=.returned (.bool false)/\w=w':=by
 go_enter Tryz.func152,Tryz.ntmps152;go_wp2_with (go_at_call 179;refine(Xa _ _ h).mono ?_;rintro e w' ⟨rfl,rfl⟩)
 go_ret
 exact⟨rfl,rfl⟩
def hasB (ps:List (Int×Bool)) (id:Int):Bool:=
 decide (0<=id)&&(decide ((id%64).toNat<ps.length)&&((ps.getD (id%64).toNat default).2&&((ps.getD (id%64).toNat default).1-1==id/64)))
theorem Qv (b a:Nat) (id:Int) (w:World) (ps:List (Int×Bool)) (hn:ps.length<=64) (hs:SlotsAt w b a ps)
 (h0:0<=id) (h2:id<=9223372036854775807) (ht:∀j,j<ps.length->0<=(ps.getD j default).1/\(ps.getD j default).1<=1000000) :
 Calls Tryz.prog 152 #[.pointer (some ⟨b,0,none⟩),I id] w fun e w'=>e=.returned (.bool (hasB ps id))/\w=w':=by
 have hb:=hs.head;obtain⟨n,HN⟩:∃n,Hid (ps.length=n):=⟨_,lH rfl⟩
 rw[HN.out] at hb hn ht;obtain⟨q,HQ⟩:∃q:Int,Hid (id%64=q):=⟨_,lH rfl⟩
 obtain⟨u,HU⟩:∃q:Int,Hid (id/64=q):=⟨_,lH rfl⟩
 have Da:0<=q:=by rw[<- HQ.out];omega
 have oL:q<64:=by rw[<- HQ.out];omega
 have HP:=YZ id w h0 h2;rw[HQ.out,HU.out] at HP;obtain⟨m,hm⟩:=Int.eq_ofNat_of_zero_le Da;subst hm;have HG:Hid (hasB ps id=(decide (m<n)&&((ps.getD m default).2&&((ps.getD m default).1-1==u)))):=by
  refine lH ?_;unfold hasB;rw[decide_eq_true h0,HQ.out,HU.out,HN.out];rfl
 rw[HG.out];clear HG;by_cases ah:m<n
 · have c1:=hs.turn m (by rw[HN.out];exact ah);have c2:=hs.taken m (by rw[HN.out];exact ah);obtain⟨t,HT⟩:∃t:Int,Hid ((ps.getD m default).1=t):=⟨_,lH rfl⟩
   obtain⟨d,HD⟩:∃t:Bool,Hid ((ps.getD m default).2=t):=⟨_,lH rfl⟩
   have JQ:=ht m ah;rw[HT.out] at c1 JQ;rw[HD.out] at c2;rw[HT.out,HD.out];obtain⟨k1,k2⟩:=JQ;clear ht;cases d with
   | false=>
    go_enter Tryz.func152,Tryz.ntmps152;go_wp2_with (go_at_call 179;refine HP.mono ?_;rintro e w' ⟨rfl,rfl⟩)
    go_ret
    exact⟨by simp,rfl⟩
   | true=>
    go_enter Tryz.func152,Tryz.ntmps152;go_wp2_with (go_at_call 179;refine HP.mono ?_;rintro e w' ⟨rfl,rfl⟩)
    go_ret
    exact⟨by simp[ah],rfl⟩
 · clear ht;go_enter Tryz.func152,Tryz.ntmps152;go_wp2_with (go_at_call 179;refine HP.mono ?_;rintro e w' ⟨rfl,rfl⟩)
   go_ret
   exact⟨by simp[ah],rfl⟩
theorem Qt (b a:Nat) (id:Int) (w:World) (ps:List (Int×Bool)) (hn:ps.length<=64) (hs:SlotsAt w b a ps)
 (h2:id<=9223372036854775807) (ht:∀j,j<ps.length->0<=(ps.getD j default).1/\(ps.getD j default).1<=1000000) :
 Calls Tryz.prog 152 #[.pointer (some ⟨b,0,none⟩),I id] w fun e w'=>e=.returned (.bool (hasB ps id))/\w=w':=by
 by_cases h0:0<=id
 · exact Qv b a id w ps hn hs h0 h2 ht
 · have e:hasB ps id=false:=by unfold hasB;rw[decide_eq_false h0];rfl
   rw[e];exact Qu _ id w (by omega)
theorem Vl (b a:Nat) (id:Int) (w:World) (ps:List (Int×Bool)) (hn:ps.length<=64) (hs:SlotsAt w b a ps)
 (h2:id<=9223372036854775807) (ht:∀j,j<ps.length->0<=(ps.getD j default).1/\(ps.getD j default).1<=1000000) :
 Calls Tryz.prog 107 #[.pointer (some ⟨b,0,none⟩),I id] w fun e w'=>e=.returned (I (if hasB ps id=true then 0 else 2)) /\
  (if hasB ps id=true then w.setCell ⟨a,(id%64).toNat*2+1,none⟩ (.bool false) else w)=w':=by
 have HP:=Qt b a id w ps hn hs h2 ht;have hb:=hs.head;cases hh:hasB ps id with
 | false=>
  rw[hh] at HP;clear hh;go_enter Tryz.func107,Tryz.ntmps107;go_wp2_with (go_at_call 152;refine HP.mono ?_;rintro e w' ⟨rfl,rfl⟩)
  go_ret
  exact⟨by simp,by simp⟩
 | true=>
  rw[hh] at HP;have g:=hh;unfold hasB at g;simp only[Bool.and_eq_true,decide_eq_true_eq] at g;obtain⟨g1,g2,g3,g4⟩:=g;clear hh g4 ht;have c2:=hs.taken _ g2;rw[g3] at c2;clear g3;have c3:=hs.frozen ((id%64).toNat*2+1);obtain⟨n,HN⟩:∃n,Hid (ps.length=n):=⟨_,lH rfl⟩
  rw[HN.out] at hb hn g2;go_enter Tryz.func107,Tryz.ntmps107;go_wp2_with (go_at_call 152;refine HP.mono ?_;rintro e w' ⟨rfl,rfl⟩)
  go_ret
  exact⟨by simp,by simp⟩
theorem Kj:(Tryz.prog.info? 248).map (fun i=>(i.zero,i.size,i.bytes))=some (some (.agg #[I 0,.bool false]),2,16):=by kernel_rfl
def yH (m:Nat):List (Int×Bool):=List.replicate m (0,false)
theorem vv (m:Nat):(yH m).length=m:=by simp[yH]
theorem q7 (m j:Nat):(yH m).getD j default=(0,false):=by
 simp only[yH,List.getD_eq_getElem?_getD,List.getElem?_replicate];split <;> rfl
theorem fT (m:Nat):(cellsOf (yH m)).toArray=madeCells #[I 0,.bool false] (m*2):=by
 apply Array.ext_getElem?
 intro j;have hl:=gP (yH m);rw[vv] at hl;by_cases hj:j<m*2
 · have e:(madeCells #[I 0,.bool false] (m*2))[j]? = some (if j%2=0 then I 0 else .bool false):=by
    rcases Nat.mod_two_eq_zero_or_one j with h | h <;> simp[madeCells,hj,h]
   rw[e,List.getElem?_toArray];have hi:j/2<(yH m).length:=by rw[vv];omega
   rcases Nat.mod_two_eq_zero_or_one j with h | h
   · have:=zzz (yH m) (j/2) hi;rw[show j/2*2=j from by omega,q7] at this;rw[this,if_pos h]
   · have:=qN (yH m) (j/2) hi;rw[show j/2*2+1=j from by omega,q7] at this;rw[this,if_neg (by omega)]
 · rw[Array.getElem?_eq_none (by simp[hl];omega),Array.getElem?_eq_none (by simp[size_madeCells];omega)]
theorem Kp (c:Int) (h0:0<=c) (h1:c<=64) (W:World) :
 (Instr.makeSlice 179 (I c) (I c)).run Tryz.prog W=.ok (.slice (some ⟨W.heap.size,0,none⟩) c.toNat c.toNat) (W.alloc (.cells (cellsOf (yH c.toNat)).toArray 248)):=by
 obtain⟨i,hi,hz,hs,hb⟩:=info_parts Kj;have:=run_make (P:=Tryz.prog) W 179 248 i _ Tryz.underlying179 hi hz .i64 .i64 c c h0 (Int.le_refl _) (by rw[hb];omega) (by omega);rw[hs] at this;rw[this,fT];rfl
theorem cQ (w:World) (m:Nat) :
 SlotsAt ((w.alloc (.cells (cellsOf (yH m)).toArray 248)).alloc (.cells #[.slice (some ⟨w.heap.size,0,none⟩) m m] 181)) (w.heap.size+1) w.heap.size (yH m):=by
 refine⟨?_,by omega,248,?_⟩
 · have:=World.cell?_alloc_new (w.alloc (.cells (cellsOf (yH m)).toArray 248)) #[.slice (some ⟨w.heap.size,0,none⟩) m m] 181 0;rw[World.size_alloc] at this;rw[this,vv];rfl
 · rw[Below.heap_alloc _ _ _ (by simp)];exact heap_alloc_new w _
theorem Qy (w:World) :
 Calls Tryz.prog 44 #[I 64] w fun e w'=>e=.returned (.pointer (some ⟨w.heap.size+1,0,none⟩)) /\
  SlotsAt w' (w.heap.size+1) w.heap.size (yH 64)/\w'.heap.size=w.heap.size+2/\Below w.heap.size w w':=by
 have hm:=Kp 64 (by omega) (by omega);have HF:=cQ w 64;rw[show Int.toNat 64=64 from rfl] at hm;generalize hx:(cellsOf (yH 64)).toArray=X at hm HF;clear hx;have AZ:min (max (64:Int) 1) 64=64:=by decide
 go_enter Tryz.func44,Tryz.ntmps44;go_wp2
 go_ret
 exact⟨rfl,by simpa using HF,by simp,((Below.refl _ _).alloc (Nat.le_refl _) _).alloc (by simp) _⟩
def xj (ps:List (Int×Bool)):Prop:=ps.length<=64/\∀j,j<ps.length->0<=(ps.getD j default).1/\(ps.getD j default).1<=1000000
def ym (ps:List (Int×Bool)):Int×Int×List (Int×Bool):=
 match ps.findIdx? (fun p=>!p.2) with
 | some i=>((i:Int)+64*(ps.getD i default).1,0,ps.set i ((ps.getD i default).1+1,true))
 | none=>(0,3,ps)
def uq (ps:List (Int×Bool)) (id:Int):Int×List (Int×Bool):=
 if hasB ps id=true then(0,ps.set (id%64).toNat ((ps.getD (id%64).toNat default).1,false)) else(2,ps)
theorem kQ {ps:List (Int×Bool)} {i:Nat} (h:i<ps.length):ps.getD i default=ps[i]:=by
 simp[List.getD_eq_getElem?_getD,h]
end Go.Proofs.YtoiajjobecinpaaGreat
namespace Go.Proofs.YtoiajjobecinpaaGreat
open Go.RowKit Go.Shelf Go.Lib Go.Proofs
set_option linter.unusedVariables false
set_option linter.unusedSimpArgs false
inductive Own
 | sys
 | groups
 | names
 | places
 | map
 | row
 | core (i:Nat)
 | task (id:Int)
deriving DecidableEq
structure Tk where
 id:Int
 w:Int
 group:Int
 core:Int
 state:Int
 mask:Int
 lag:Int
deriving Inhabited
structure Sy where
 cores:List Co
 gs:List (Bool×Int)
 acc:List (Int×Int×Int×Int)
 ps:List (Int×Bool)
 tasks:Int->Option Tk
 cnt:Nat
instance:Inhabited Co:=⟨⟨0,default,0,0⟩⟩
structure TaskAt (W:World) (b:Nat) (t:Tk):Prop where
 id:W.cell? ⟨b,0,none⟩=some (I t.id)
 w:W.cell? ⟨b,1,none⟩=some (I t.w)
 group:W.cell? ⟨b,2,none⟩=some (I t.group)
 core:W.cell? ⟨b,3,none⟩=some (I t.core)
 state:W.cell? ⟨b,4,none⟩=some (I t.state)
 mask:W.cell? ⟨b,5,none⟩=some (.int .u16 t.mask)
 lag:W.cell? ⟨b,6,none⟩=some (I t.lag)
 live:∀i,W.frozen? ⟨b,i,none⟩=false
theorem TaskAt.same {W W':World} {b:Nat} {t:Tk} (h:TaskAt W b t) (hb:W'.heap[b]? = W.heap[b]?):TaskAt W' b t:=by
 have h0:∀i,W'.cell? ⟨b,i,none⟩=W.cell? ⟨b,i,none⟩:=fun i=>World.cell?_of_block hb;have h1:∀i,W'.frozen? ⟨b,i,none⟩=W.frozen? ⟨b,i,none⟩:=fun i=>World.frozen?_of_block hb;exact⟨(h0 _).trans h.id,(h0 _).trans h.w,(h0 _).trans h.group,(h0 _).trans h.core,(h0 _).trans h.state,(h0 _).trans h.mask,(h0 _).trans h.lag,fun i=>(h1 i).trans (h.live i)⟩
def fB:Value->Option (DataW Unit×List MemPlace)
 | .pointer none=>some (.lit (.bool false),[])
 | .pointer (some ⟨b,0,none⟩)=>some (.lit (.int .i64 b),[])
 | _=>none
theorem WX {v:Value} {ps:List MemPlace} (h:fB v=some (.lit (.bool false),ps)):v=.pointer none:=by
 unfold fB at h;split at h
 · rfl
 · simp at h
 · cases h
theorem WY {v:Value} {b:Nat} {ps:List MemPlace} (h:fB v=some (.lit (.int .i64 (b:Int)),ps)):v=.pointer (some ⟨b,0,none⟩):=by
 unfold fB at h;split at h
 · simp at h
 · simp at h;obtain⟨h1,_⟩:=h;have h2:=Int.ofNat_inj.1 h1;subst h2;rfl
 · cases h
def ql (cbs:List Nat):List Value:=cbs.map fun b=>.pointer (some ⟨b,0,none⟩)
structure SysAt (W:World) (sb gb nb pb mb n:Nat) (cv:Value) (D:DataW Unit) (cbs:List Nat) (tb:Int->Nat) (own:Nat->Option Own) (s:Sy):Prop where
 head:W.cell? ⟨sb,0,none⟩=some cv
 c1:W.cell? ⟨sb,1,none⟩=some (.pointer (some ⟨gb,0,none⟩))
 acc:∀i,i<16->W.cell? ⟨sb,2+i*4,none⟩=some (I (s.acc.getD i default).1)/\W.cell? ⟨sb,2+i*4+1,none⟩=some (I (s.acc.getD i default).2.1) /\
  W.cell? ⟨sb,2+i*4+2,none⟩=some (I (s.acc.getD i default).2.2.1)/\W.cell? ⟨sb,2+i*4+3,none⟩=some (I (s.acc.getD i default).2.2.2)
 c66:W.cell? ⟨sb,66,none⟩=some (.pointer (some ⟨nb,0,none⟩))
 c67:W.cell? ⟨sb,67,none⟩=some (.map (some mb))
 live:∀i,W.frozen? ⟨sb,i,none⟩=false
 groups:GroupsAt W gb s.gs
 slots:SlotsAt W nb pb s.ps
 map:W.ownsMap Tryz.prog 3 fB mb n D
 cnt:n<=s.cnt
 reads:∀id:Int,-9223372036854775808<=id->id<=9223372036854775807->D.atKey (.int .i64 id) (.lit (.bool false))=(match s.tasks id with | none=>.lit (.bool false) | some _=>.lit (.int .i64 (tb id)))
 task:∀id t,s.tasks id=some t->TaskAt W (tb id) t/\own (tb id)=some (.task id)
 row:W.ownsRow 0 123 1 cv cbs.length (ql cbs)
 rown:∀k,cv.ownBlock=some k->own k=some .row
 num:cbs.length=s.cores.length
 core:∀i,i<cbs.length->zo W cbs[i]! (fun k=>own k=some (.core i)) s.cores[i]!
 osb:own sb=some .sys
 ogb:own gb=some .groups
 onb:own nb=some .names
 opb:own pb=some .places
 omb:own mb=some .map
 lt:∀k,own k≠none->k<W.heap.size
def KO (W:World) (sb:Nat) (own:Nat->Option Own) (s:Sy):Prop:=
 ∃(gb nb pb mb n:Nat) (cv:Value) (D:DataW Unit) (cbs:List Nat) (tb:Int->Nat),SysAt W sb gb nb pb mb n cv D cbs tb own s
theorem SlotsAt.same {w w':World} {b a:Nat} {ps:List (Int×Bool)} (h:SlotsAt w b a ps) (h1:w'.heap[b]? = w.heap[b]?) (h2:w'.heap[a]? = w.heap[a]?):SlotsAt w' b a ps:=by
 obtain⟨T,hr⟩:=h.row;exact⟨(World.cell?_of_block (a:=⟨b,0,none⟩) h1).trans h.head,h.ne,T,h2.trans hr⟩
theorem SysAt.same {W W':World} {sb gb nb pb mb n:Nat} {cv:Value} {D:DataW Unit} {cbs:List Nat} {tb:Int->Nat} {own:Nat->Option Own} {s:Sy} (h:SysAt W sb gb nb pb mb n cv D cbs tb own s)
 (hs:W.heap.size<=W'.heap.size) (hb:∀k,own k≠none->W'.heap[k]? = W.heap[k]?):SysAt W' sb gb nb pb mb n cv D cbs tb own s:=by
 have bsb:=hb sb (by rw[h.osb];simp);have h0:∀i,W'.cell? ⟨sb,i,none⟩=W.cell? ⟨sb,i,none⟩:=fun i=>World.cell?_of_block bsb;have h1:∀i,W'.frozen? ⟨sb,i,none⟩=W.frozen? ⟨sb,i,none⟩:=fun i=>World.frozen?_of_block bsb;refine⟨(h0 _).trans h.head,(h0 _).trans h.c1,fun i hi=>?_,(h0 _).trans h.c66,(h0 _).trans h.c67,fun i=>(h1 i).trans (h.live i),h.groups.same (hb gb (by rw[h.ogb];simp)),h.slots.same (hb nb (by rw[h.onb];simp)) (hb pb (by rw[h.opb];simp)),
  yc h.map (hb mb (by rw[h.omb];simp)),h.cnt,h.reads,fun id t ht=>?_,zb h.row (fun k hk=>hb k (by rw[h.rown k hk];simp)),h.rown,h.num,fun i hi=>(h.core i hi).same hs (fun k hk=>hb k (by rw[hk];simp)),h.osb,h.ogb,h.onb,h.opb,h.omb,fun k hk=>Nat.lt_of_lt_of_le (h.lt k hk) hs⟩
 · obtain⟨a1,a2,a3,a4⟩:=h.acc i hi;exact⟨(h0 _).trans a1,(h0 _).trans a2,(h0 _).trans a3,(h0 _).trans a4⟩
 · obtain⟨t1,t2⟩:=h.task id t ht;exact⟨t1.same (hb _ (by rw[t2];simp)),t2⟩
theorem SysAt.below {W W':World} {sb gb nb pb mb n:Nat} {cv:Value} {D:DataW Unit} {cbs:List Nat} {tb:Int->Nat} {own:Nat->Option Own} {s:Sy} (h:SysAt W sb gb nb pb mb n cv D cbs tb own s)
 (hb:Below W.heap.size W W'):SysAt W' sb gb nb pb mb n cv D cbs tb own s:=h.same hb.size (fun k hk=>hb.block k (h.lt k hk))
theorem yL (l:List Co) (k j:Nat) (q:Co) (hj:j<l.length):(l.set k q)[j]! = if k=j then q else l[j]!:=by
 rw[getElem!_pos _ j (by simpa using hj),List.getElem_set,getElem!_pos l j hj]
open Classical in
theorem SysAt.setCore {W W':World} {sb gb nb pb mb n:Nat} {cv:Value} {D:DataW Unit} {cbs:List Nat} {tb:Int->Nat} {own:Nat->Option Own} {s:Sy} (h:SysAt W sb gb nb pb mb n cv D cbs tb own s)
 {i:Nat} (hi:i<cbs.length) {F':Nat->Prop} {c':Co} (hc:zo W' cbs[i]! F' c') (ht:Touch (fun k=>own k=some (.core i)) W W') (hF:∀k,F' k->own k=some (.core i)\/W.heap.size<=k) :
 ∃own',SysAt W' sb gb nb pb mb n cv D cbs tb own' ⟨s.cores.set i c',s.gs,s.acc,s.ps,s.tasks,s.cnt⟩/\∀k,k<W.heap.size->own' k=own k:=by
 refine⟨fun k=>if k<W.heap.size then own k else if F' k then some (.core i) else none,?_,fun k hk=>if_pos hk⟩;have em:∀k x,own k=some x->(if k<W.heap.size then own k else if F' k then some (.core i) else none)=some x:=fun k x hk=>by
  rw[if_pos (h.lt k (by rw[hk];simp))];exact hk
 have hb:∀k x,own k=some x->x≠.core i->W'.heap[k]? = W.heap[k]?:=fun k x hk hx=>ht.block k (h.lt k (by rw[hk];simp)) (by rw[hk];simpa using hx);have bsb:=hb sb _ h.osb (by simp);have h0:∀i,W'.cell? ⟨sb,i,none⟩=W.cell? ⟨sb,i,none⟩:=fun i=>World.cell?_of_block bsb;have h1:∀i,W'.frozen? ⟨sb,i,none⟩=W.frozen? ⟨sb,i,none⟩:=fun i=>World.frozen?_of_block bsb;have nF:∀k,(if k<W.heap.size then own k else if F' k then some (Own.core i) else none)≠none->k<W'.heap.size:=by
  intro k hk;split at hk
  · rename_i ly;exact Nat.lt_of_lt_of_le ly ht.size
  · split at hk
    · rename_i tG;exact hc.lt k tG
    · exact absurd rfl hk
 refine⟨(h0 _).trans h.head,(h0 _).trans h.c1,fun j hj=>?_,(h0 _).trans h.c66,(h0 _).trans h.c67,fun j=>(h1 j).trans (h.live j),h.groups.same (hb gb _ h.ogb (by simp)),h.slots.same (hb nb _ h.onb (by simp)) (hb pb _ h.opb (by simp)),
  yc h.map (hb mb _ h.omb (by simp)),h.cnt,h.reads,fun id t hid=>?_,zb h.row (fun k hk=>hb k _ (h.rown k hk) (by simp)),fun k hk=>em k _ (h.rown k hk),by rw[List.length_set];exact h.num,fun j hj=>?_,
  em _ _ h.osb,em _ _ h.ogb,em _ _ h.onb,em _ _ h.opb,em _ _ h.omb,nF⟩
 · obtain⟨a1,a2,a3,a4⟩:=h.acc j hj;exact⟨(h0 _).trans a1,(h0 _).trans a2,(h0 _).trans a3,(h0 _).trans a4⟩
 · obtain⟨t1,t2⟩:=h.task id t hid;exact⟨t1.same (hb _ _ t2 (by simp)),em _ _ t2⟩
 · simp only
   rw[yL _ _ _ _ (by rw[<- h.num];exact hj)];by_cases e:i=j
   · subst e;rw[if_pos rfl];refine hc.wider (fun k hk=>?_) (fun k hk=>nF k (by rw[hk];simp));rcases hF k hk with h5 | h5
     · exact em k _ h5
     · rw[if_neg (by omega),if_pos hk]
   · rw[if_neg e];have sA:=h.core j hj;have Nb:zo W' cbs[j]! (fun k=>own k=some (.core j)) s.cores[j]!:=sA.same ht.size (fun k hk=>hb k _ hk (by simp;omega));exact Nb.wider (fun k hk=>em k _ hk) (fun k hk=>nF k (by rw[hk];simp))
abbrev acc (q p l f:Int):Value:=.agg #[I q,I p,I l,I f]
def yN (q p l f:Int):Prop:=q=0/\p=0/\l=0/\f=0
def yb (q p l f:Int):Prop:=1<=q/\q<=1073741824/\1<=p/\p<=1073741824/\0<=l/\l<=q/\0<=f/\f<p
instance (q p l f:Int):Decidable (yN q p l f):=by unfold yN;infer_instance
instance (q p l f:Int):Decidable (yb q p l f):=by unfold yb;infer_instance
def xV (q p l f:Int):Bool:=decide (yN q p l f\/yb q p l f)
def dA (q p l f:Int):Bool:=decide (yN q p l f)
def xt (q p l f:Int):Bool:=decide (yb q p l f/\l=0)
theorem fA {a b:Bool} (h:a=b):Ending.returned (.bool a)=.returned (.bool b):=by rw[h]
theorem yes {P:Prop} [Decidable P] (h:P):true=decide P:=(decide_eq_true h).symm
theorem no {P:Prop} [Decidable P] (h:¬P):false=decide P:=(decide_eq_false h).symm
theorem xx (w:World) (o:Obj):Below w.heap.size w (w.alloc o):=(Below.refl _ _).alloc (Nat.le_refl _) _
theorem wN (q p l f:Int) (w:World) :
 Calls Tryz.prog 157 #[acc q p l f] w fun e w'=>e=.returned (.bool (dA q p l f))/\Below w.heap.size w w':=by
 go_enter Tryz.func157,Tryz.ntmps157;go_wp2
 all_goals
  go_ret
  exact⟨fA (by first | exact yes (by unfold yN;omega) | exact no (by unfold yN;omega)),xx _ _⟩
theorem wm (q p l f:Int) (w:World) :
 Calls Tryz.prog 147 #[acc q p l f] w fun e w'=>e=.returned (.bool (xV q p l f))/\Below w.heap.size w w':=by
 go_enter Tryz.func147,Tryz.ntmps147;go_wp2
 all_goals
  go_ret
  exact⟨fA (by first | exact yes (by unfold yN yb;omega) | exact no (by unfold yN yb;omega) | exact decide_eq_decide.2 (by unfold yN yb;omega)),xx _ _⟩
theorem xU {q p l f:Int} (h:yb q p l f):dA q p l f=false:=by
 unfold dA;exact decide_eq_false (by unfold yb at h;unfold yN;omega)
theorem yi {q p l f:Int} (h:yb q p l f):xV q p l f=true:=decide_eq_true (.inr h)
theorem wn {q p l f:Int} (h:yN q p l f):xV q p l f=true:=decide_eq_true (.inl h)
theorem gh (q p l f:Int):yb q p l f\/yN q p l f\/xV q p l f=false:=by
 by_cases h1:yb q p l f
 · exact .inl h1
 · by_cases h2:yN q p l f
   · exact .inr (.inl h2)
   · exact .inr (.inr (decide_eq_false (by rintro(h | h) <;> contradiction)))
theorem y8 {w w1:World} (o:Obj) (h:Below (w.alloc o).heap.size (w.alloc o) w1):Below w.heap.size w w1:=(xx w o).trans (h.mono (by simp))
theorem qY (q p l f:Int) (w:World) :
 Calls Tryz.prog 156 #[acc q p l f] w fun e w'=>e=.returned (.bool (xt q p l f))/\Below w.heap.size w w':=by
 have hg:=wm q p l f;have hf:=wN q p l f;have HT:=gh q p l f;obtain⟨r,HR⟩:∃r,Hid (xt q p l f=r):=⟨_,lH rfl⟩
 rw[HR.out];rcases HT with h | h | h
 · rw[yi h] at hg;rw[xU h] at hf;obtain⟨d,HD⟩:∃d,Hid ((l==0)=d):=⟨_,lH rfl⟩
   have er:r=d:=by rw[<- HR.out,<- HD.out];unfold xt;rw[decide_eq_decide.2 (show(yb q p l f/\l=0)↔l=0 from⟨fun g=>g.2,fun g=>⟨h,g⟩⟩)];rfl
   subst er;have hd:=HD.out;clear h;go_enter Tryz.func156,Tryz.ntmps156;go_wp2_with fail
   refine(hg _).mono ?_;rintro e w1 ⟨rfl,ab⟩;obtain⟨k1,k2⟩:=uU ab;go_wp2_with fail
   refine(hf _).mono ?_;rintro e w2 ⟨rfl,ar⟩;obtain⟨k3,k4⟩:=uU ar;have aI:=ab.size;rw[World.size_alloc] at aI;have hz:w.heap.size<w1.heap.size:=by omega
   go_wp2
   go_ret
   exact⟨rfl,(y8 _ ab).trans (ar.mono (by omega))⟩
 · rw[wn h] at hg;have e:dA q p l f=true:=decide_eq_true h;rw[e] at hf;have er:r=false:=by rw[<- HR.out];exact decide_eq_false (by unfold yN at h;unfold yb;omega)
   subst er;clear e h;go_enter Tryz.func156,Tryz.ntmps156;go_wp2_with fail
   refine(hg _).mono ?_;rintro e w1 ⟨rfl,ab⟩;obtain⟨k1,k2⟩:=uU ab;go_wp2_with fail
   refine(hf _).mono ?_;rintro e w2 ⟨rfl,ar⟩;have aI:=ab.size;rw[World.size_alloc] at aI;go_wp2
   go_ret
   exact⟨rfl,(y8 _ ab).trans (ar.mono (by omega))⟩
 · rw[h] at hg;have er:r=false:=by
    rw[<- HR.out];refine decide_eq_false fun g=>?_;rw[yi g.1] at h;cases h
   subst er;clear h;go_enter Tryz.func156,Tryz.ntmps156;go_wp2_with fail
   refine(hg _).mono ?_;rintro e w1 ⟨rfl,ab⟩;go_wp2
   go_ret
   exact⟨rfl,y8 _ ab⟩
abbrev XC:=Int×Int×Int×Int
abbrev vr (t:XC):Value:=acc t.1 t.2.1 t.2.2.1 t.2.2.2
def wF (q p:Int):XC×Int:=if xV q p q 0=true then((q,p,q,0),0) else((0,0,0,0),1)
def xu (q p l f:Int):XC×Int:=
 if yb q p l f then(if l=0 then((0,0,0,0),14) else((q,p,l-1,f),0))
 else if yN q p l f then((q,p,l,f),0) else((0,0,0,0),1)
def zJ (q p l f n:Int):XC×Bool:=
 if yb q p l f/\0<n then(if p-f<=n then((q,p,q,(f+n%p)%p),true) else((q,p,l,(f+n%p)%p),false))
 else((q,p,l,f),false)
theorem vt {w1:World} {b:Nat} {c0 c1 c2 c3:Value} {T:TypeId} (h:w1.heap[b]? = some (.cells #[c0,c1,c2,c3] T (0,0))) (v0 v1 v2 v3:Value) :
 ((((w1.setCell ⟨b,0,none⟩ v0).setCell ⟨b,1,none⟩ v1).setCell ⟨b,2,none⟩ v2).setCell ⟨b,3,none⟩ v3).heap[b]? = some (.cells #[v0,v1,v2,v3] T (0,0)):=by
 simp[World.setCell,Array.getElem?_modify,h]
theorem zi {w1:World} {b:Nat} {c0 c1 c2 c3:Value} {T:TypeId} (h:w1.heap[b]? = some (.cells #[c0,c1,c2,c3] T (0,0))) :
 w1.cell? ⟨b,0,none⟩=some c0/\w1.cell? ⟨b,1,none⟩=some c1/\w1.cell? ⟨b,2,none⟩=some c2/\w1.cell? ⟨b,3,none⟩=some c3:=by
 simp[World.cell?,h]
theorem z7 {w w1:World} {A B:Obj} (hb:Below ((w.alloc A).alloc B).heap.size ((w.alloc A).alloc B) w1):w1.heap[w.heap.size]? = some A:=by
 rw[hb.block _ (by simp;omega),Below.heap_alloc _ _ _ (by simp)];exact heap_alloc_new w _
theorem zx {w w1:World} {A B:Obj} (hb:Below ((w.alloc A).alloc B).heap.size ((w.alloc A).alloc B) w1):w1.heap[w.heap.size+1]? = some B:=by
 rw[hb.block _ (by simp)];have:=heap_alloc_new (w.alloc A) B;rwa [World.size_alloc] at this
theorem zT {w w1:World} {A B:Obj} (hb:Below ((w.alloc A).alloc B).heap.size ((w.alloc A).alloc B) w1):Below w.heap.size w w1:=
 (((Below.refl w.heap.size w).alloc (Nat.le_refl _) _).alloc (by simp) _).trans (hb.mono (by simp;omega))
theorem VS (q p:Int) (w:World) :
 Calls Tryz.prog 97 #[I q,I p] w fun e w'=>e=.returned (.tuple #[vr (wF q p).1,I (wF q p).2])/\Below w.heap.size w w':=by
 have hg:=wm q p q 0;cases hb:xV q p q 0 with
 | true=>
  rw[hb] at hg;rw[show wF q p=((q,p,q,0),0) from if_pos hb];clear hb;go_enter Tryz.func97,Tryz.ntmps97;go_wp2_with fail
  refine(hg _).mono ?_;rintro e w1 ⟨rfl,ab⟩;obtain⟨k1,k2⟩:=uU ab;have aI:=ab.size;go_wp2_with fail
  obtain⟨r0,r1,r2,r3⟩:=zi (vt (z7 ab) (I q) (I p) (I q) (I 0));refine bodyPost_ret (v:=.tuple #[acc q p q 0,I 0]) (by simp[results,Tryz.results97,go_sem,r0,r1,r2,r3]) rfl ⟨rfl,?_⟩;have iH:=zT ab;repeat (first | exact iH | refine Below.setCell ?_ (by simp) _)
 | false=>
  rw[hb] at hg;rw[show wF q p=((0,0,0,0),1) from if_neg (by rw[hb];decide)];clear hb;go_enter Tryz.func97,Tryz.ntmps97;go_wp2_with fail
  refine(hg _).mono ?_;rintro e w1 ⟨rfl,ab⟩;obtain⟨k1,k2⟩:=uU ab;have aI:=ab.size;go_wp2_with fail
  obtain⟨r0,r1,r2,r3⟩:=zi (vt (z7 ab) (I 0) (I 0) (I 0) (I 0));refine bodyPost_ret (v:=.tuple #[acc 0 0 0 0,I 1]) (by simp[results,Tryz.results97,go_sem,r0,r1,r2,r3]) rfl ⟨rfl,?_⟩;have iH:=zT ab;repeat (first | exact iH | refine Below.setCell ?_ (by simp) _)
theorem zc {w1:World} {b:Nat} {cs:Array Value} {T:TypeId} (h:w1.heap[b]? = some (.cells cs T (0,0))):∀i,w1.frozen? ⟨b,i,none⟩=false:=by
 intro i;simp[World.frozen?,h]
theorem kC {q p l f:Int} (h:yb q p l f):xt q p l f=decide (l=0):=by
 unfold xt;exact decide_eq_decide.2 ⟨fun g=>g.2,fun g=>⟨h,g⟩⟩
theorem xg {q p l f:Int} (h:yN q p l f):¬yb q p l f:=by unfold yN at h;unfold yb;omega
theorem zC {W w1:World} {b:Nat} {o:Obj} (hb:Below W.heap.size W w1) (h:W.heap[b]? = some o):w1.heap[b]? = some o:=by
 rw[hb.block b (Array.getElem?_eq_some_iff.1 h).1,h]
theorem VT (q p l f:Int) (w:World) (hl:-9223372036854775808<=l) (pG:l<=9223372036854775807) :
 Calls Tryz.prog 113 #[acc q p l f] w fun e w'=>e=.returned (.tuple #[vr (xu q p l f).1,I (xu q p l f).2])/\Below w.heap.size w w':=by
 have hg:=wm q p l f;have hs:=qY q p l f;have hf:=wN q p l f;rcases gh q p l f with h | h | h
 · rw[yi h] at hg;rw[xU h] at hf;rw[kC h] at hs;by_cases rK:l=0
   · rw[decide_eq_true rK] at hs;rw[show xu q p l f=((0,0,0,0),14) from by unfold xu;rw[if_pos h,if_pos rK]];clear h rK;go_enter Tryz.func113,Tryz.ntmps113;go_wp2_with fail
     refine(hg _).mono ?_;rintro e w1 ⟨rfl,ab⟩;obtain⟨k1,k2⟩:=uU ab;have b1:=z7 ab;have b2:=zx ab;have aI:=ab.size;rw[World.size_alloc,World.size_alloc] at aI;go_wp2_with fail
     refine(hs _).mono ?_;rintro e w2 ⟨rfl,ar⟩;obtain⟨k3,k4⟩:=uU ar;have et:=ar.size;obtain⟨r0,r1,r2,r3⟩:=zi (vt (zC ar b2) (I 0) (I 0) (I 0) (I 0));have hz:w.heap.size+1<w1.heap.size:=by omega
     go_wp2_with fail
     refine bodyPost_ret (v:=.tuple #[acc 0 0 0 0,I 14]) (by simp[results,Tryz.results113,go_sem,r0,r1,r2,r3]) rfl ⟨rfl,?_⟩;have iH:=(zT ab).trans (ar.mono (by omega))
     repeat (first | exact iH | refine Below.setCell ?_ (by simp) _)
   · rw[decide_eq_false rK] at hs;rw[show xu q p l f=((q,p,l-1,f),0) from by unfold xu;rw[if_pos h,if_neg rK]];have AE:1<=l:=by unfold yb at h;omega
     clear h rK;go_enter Tryz.func113,Tryz.ntmps113;go_wp2_with fail
     refine(hg _).mono ?_;rintro e w1 ⟨rfl,ab⟩;obtain⟨k1,k2⟩:=uU ab;have b1:=z7 ab;have b2:=zx ab;have aI:=ab.size;rw[World.size_alloc,World.size_alloc] at aI;have hz:w.heap.size+1<w1.heap.size:=by omega
     go_wp2_with fail
     refine(hs _).mono ?_;rintro e w2 ⟨rfl,ar⟩;obtain⟨k3,k4⟩:=uU ar;have et:=ar.size;have Cv:w.heap.size+1<w2.heap.size:=by omega
     replace b1:=zC ar b1;replace b2:=zC ar b2;obtain⟨u0,u1,u2,u3⟩:=zi b1;go_wp2_with fail
     refine(hf _).mono ?_;rintro e w3 ⟨rfl,aK⟩;replace b1:=zC aK b1;replace b2:=zC aK b2;obtain⟨y0,y1,y2,y3⟩:=zi b1;obtain⟨t0,t1,t2,t3⟩:=zi b2;have f1:=zc b1;have f2:=zc b2;have lE:=aK.size;have iH:=((zT ab).trans (ar.mono (by omega))).trans (aK.mono (by omega))
     have m1:(w3.setCell ⟨w.heap.size,2,none⟩ (I (l-1))).heap[w.heap.size]? = some (.cells #[I q,I p,I (l-1),I f] 119 (0,0)):=by
      simp[World.setCell,Array.getElem?_modify,b1]
     obtain⟨_,_,m2,_⟩:=zi m1;have n1:(w3.setCell ⟨w.heap.size,2,none⟩ (I (l-1))).heap[w.heap.size+1]? = _:=(Below.heap_setCell _ _ _ _ (by simp)).trans b2;obtain⟨r0,r1,r2,r3⟩:=zi (vt n1 (I q) (I p) (I (l-1)) (I f));clear m1 n1 b1 b2 k1 k2 k3 k4;go_wp2_with fail
     refine bodyPost_ret (v:=.tuple #[acc q p (l-1) f,I 0]) (by simp[results,Tryz.results113,go_sem,r0,r1,r2,r3]) rfl ⟨rfl,?_⟩;repeat (first | exact iH | refine Below.setCell ?_ (by simp) _)
 · rw[wn h] at hg;rw[show dA q p l f=true from decide_eq_true h] at hf;rw[show xt q p l f=false from decide_eq_false fun g=>xg h g.1] at hs;rw[show xu q p l f=((q,p,l,f),0) from by unfold xu;rw[if_neg (xg h),if_pos h]];clear h;go_enter Tryz.func113,Tryz.ntmps113;go_wp2_with fail
   refine(hg _).mono ?_;rintro e w1 ⟨rfl,ab⟩;obtain⟨k1,k2⟩:=uU ab;have b1:=z7 ab;have b2:=zx ab;have aI:=ab.size;rw[World.size_alloc,World.size_alloc] at aI;have hz:w.heap.size+1<w1.heap.size:=by omega
   go_wp2_with fail
   refine(hs _).mono ?_;rintro e w2 ⟨rfl,ar⟩;have et:=ar.size;have Cv:w.heap.size+1<w2.heap.size:=by omega
   replace b1:=zC ar b1;replace b2:=zC ar b2;obtain⟨u0,u1,u2,u3⟩:=zi b1;go_wp2_with fail
   refine(hf _).mono ?_;rintro e w3 ⟨rfl,aK⟩;replace b1:=zC aK b1;replace b2:=zC aK b2;obtain⟨y0,y1,y2,y3⟩:=zi b1;obtain⟨t0,t1,t2,t3⟩:=zi b2;have f2:=zc b2;have lE:=aK.size;have iH:=((zT ab).trans (ar.mono (by omega))).trans (aK.mono (by omega))
   obtain⟨r0,r1,r2,r3⟩:=zi (vt b2 (I q) (I p) (I l) (I f));clear b2 b1 k1 k2;go_wp2_with fail
   refine bodyPost_ret (v:=.tuple #[acc q p l f,I 0]) (by simp[results,Tryz.results113,go_sem,r0,r1,r2,r3]) rfl ⟨rfl,?_⟩;repeat (first | exact iH | refine Below.setCell ?_ (by simp) _)
 · rw[show xu q p l f=((0,0,0,0),1) from by
    unfold xu;rw[if_neg (fun g=>by rw[yi g] at h;cases h),if_neg (fun g=>by rw[wn g] at h;cases h)]]
   rw[h] at hg;clear h;go_enter Tryz.func113,Tryz.ntmps113;go_wp2_with fail
   refine(hg _).mono ?_;rintro e w1 ⟨rfl,ab⟩;obtain⟨k1,k2⟩:=uU ab;have b2:=zx ab;have aI:=ab.size;obtain⟨r0,r1,r2,r3⟩:=zi (vt b2 (I 0) (I 0) (I 0) (I 0));have iH:=zT ab;clear b2;go_wp2_with fail
   refine bodyPost_ret (v:=.tuple #[acc 0 0 0 0,I 1]) (by simp[results,Tryz.results113,go_sem,r0,r1,r2,r3]) rfl ⟨rfl,?_⟩;repeat (first | exact iH | refine Below.setCell ?_ (by simp) _)
def vU:List (Bool×Int):=(true,-1)::List.replicate 15 (false,0)
def g0:G16:=⟨0,by decide⟩
theorem ch:zq vU 0 [g0]:=⟨rfl,by decide,by show zL vU (upG vU 0)=false;decide⟩
theorem bB (W:World) :
 Calls Tryz.prog 43 #[] W fun e w'=>e=.returned (.pointer (some ⟨W.heap.size,0,none⟩))/\GroupsAt w' W.heap.size vU/\w'.heap.size=W.heap.size+1/\Below W.heap.size W w':=by
 go_enter Tryz.func43,Tryz.ntmps43;go_wp2
 go_ret
 have hh:=heap_alloc_new W (.cells #[.bool true,I (-1),.bool false,I 0,.bool false,I 0,.bool false,I 0,.bool false,I 0,.bool false,I 0,.bool false,I 0,.bool false,I 0,.bool false,I 0,.bool false,I 0,.bool false,I 0,.bool false,I 0,.bool false,I 0,.bool false,I 0,.bool false,I 0,.bool false,I 0] 178);refine⟨rfl,⟨rfl,fun i hi=>?_,fun i hi=>?_,fun i=>?_⟩,by simp,(Below.refl _ _).alloc (Nat.le_refl _) _⟩
 · simp only[World.cell?,hh];have:i=0\/i=1\/i=2\/i=3\/i=4\/i=5\/i=6\/i=7\/i=8\/i=9\/i=10\/i=11\/i=12\/i=13\/i=14\/i=15:=by omega
   rcases this with rfl | rfl | rfl | rfl | rfl | rfl | rfl | rfl | rfl | rfl | rfl | rfl | rfl | rfl | rfl | rfl <;> rfl
 · simp only[World.cell?,hh];have:i=0\/i=1\/i=2\/i=3\/i=4\/i=5\/i=6\/i=7\/i=8\/i=9\/i=10\/i=11\/i=12\/i=13\/i=14\/i=15:=by omega
   rcases this with rfl | rfl | rfl | rfl | rfl | rfl | rfl | rfl | rfl | rfl | rfl | rfl | rfl | rfl | rfl | rfl <;> rfl
 · simp only[World.frozen?,hh];simp
section
attribute [local go_sem] Oper.semAt_some
structure Tr where
 tag:Int
 base:Int
 stg:Int
 why:Int
 age:Int
 b:Value
 q:Value
 f0:Bool
 f1:Bool
 f2:Bool
 f3:Bool
 f4:Bool
 f5:Bool
def trC (cb:Nat) (t:Tr):Array Value:=#[.pointer (some ⟨cb,0,none⟩),I t.tag,I t.base,I t.stg,I t.why,I t.age,t.b,t.q,.bool t.f0,.bool t.f1,.bool t.f2,.bool t.f3,.bool t.f4,.bool t.f5]
def QR (W:World) (tb cb:Nat) (t:Tr):Prop:=W.heap[tb]? = some (.cells (trC cb t) 260 (0,0))
theorem QR.same {W W':World} {tb cb:Nat} {t:Tr} (h:QR W tb cb t) (hb:W'.heap[tb]? = W.heap[tb]?):QR W' tb cb t:=hb.trans h
end
end Go.Proofs.YtoiajjobecinpaaGreat

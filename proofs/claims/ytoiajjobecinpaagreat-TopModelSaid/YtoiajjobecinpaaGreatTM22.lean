/- Move: a task to another core. Bind: other cores for a task. Move: a ready task to another core. Mask -/
import Derived.Test.YtoiajjobecinpaaGreatTM18
import Derived.Test.YtoiajjobecinpaaGreatTM19
import Derived.Test.YtoiajjobecinpaaGreatTM20
set_option maxHeartbeats 4000000
set_option maxRecDepth 100000
namespace Go.Proofs.YtoiajjobecinpaaGreat
open Go.RowKit Go.Shelf Go.Lib Go.Proofs
set_option linter.unusedVariables false
set_option linter.unusedSimpArgs false
def onT (t:Tk):Bool:=decide (t.state=2)||decide (t.state=5)
theorem jr (b:Nat) (t:Tk) (W:World) (h:TaskAt W b t):Calls Tryz.prog 109 #[.pointer (some ⟨b,0,none⟩)] W fun e w'=>e=.returned (.bool (onT t))/\W=w':=by
 have hs:=h.state;unfold onT;clear h;generalize t.state=x at hs⊢;by_cases h2:x=2
 · subst h2;go_enter Tryz.func109,Tryz.ntmps109;go_wp2
   go_ret
   exact⟨rfl,rfl⟩
 · by_cases h5:x=5
   · subst h5;go_enter Tryz.func109,Tryz.ntmps109;go_wp2
     go_ret
     exact⟨rfl,rfl⟩
   · rw[decide_eq_false h2,decide_eq_false h5];have e2:(x==2)=false:=by simpa using h2
     have e5:(x==5)=false:=by simpa using h5
     clear h2 h5;go_enter Tryz.func109,Tryz.ntmps109;go_wp2
     go_ret
     exact⟨rfl,rfl⟩
theorem Wx (sb gb nb pb mb n:Nat) (cv:Value) (D:DataW Unit) (cbs:List Nat) (tb:Int->Nat) (own:Nat->Option Own) (s:Sy) (id tg:Int) (W:World) (h:SysAt W sb gb nb pb mb n cv D cbs tb own s)
 (h1:-9223372036854775808<=id) (h2:id<=9223372036854775807) (ht:s.tasks id=none) :
 Calls Tryz.prog 54 #[.pointer (some ⟨sb,0,none⟩),I id,I tg] W fun e w'=>e=.returned (I 2)/\W=w':=by
 have hl:=h.look id h1 h2;rw[ht] at hl;simp only at hl;have c67:=h.c67;clear h ht;go_enter Tryz.func54,Tryz.ntmps54;go_wp2_with fail
 go_ret
 exact⟨rfl,rfl⟩
def dK (t:Tk) (tg:Int):Int:=if onT t=false then 4 else if zW t.mask tg=false then 5 else 0
theorem Wy (sb gb nb pb mb n:Nat) (cv:Value) (D:DataW Unit) (cbs:List Nat) (tb:Int->Nat) (own:Nat->Option Own) (s:Sy) (id tg:Int) (t:Tk) (W:World) (h:SysAt W sb gb nb pb mb n cv D cbs tb own s)
 (h1:-9223372036854775808<=id) (h2:id<=9223372036854775807) (ht:s.tasks id=some t) (hm:0<=t.mask/\t.mask<65536) (hs:onT t=false\/zW t.mask tg=false\/tg=t.core) :
 Calls Tryz.prog 54 #[.pointer (some ⟨sb,0,none⟩),I id,I tg] W fun e w'=>e=.returned (I (dK t tg))/\W=w':=by
 have hl:=h.look id h1 h2;rw[ht] at hl;simp only at hl;have c67:=h.c67;have hT:=(h.task id t ht).1;have iR:=jr (tb id) t W hT;have q3:=hT.core;have q5:=hT.mask;have aB:=vK t.mask tg hm W;unfold dK;generalize tb id=b at hl iR q3 q5;clear h ht hT hm;by_cases ho:onT t=false
 · rw[ho] at iR;rw[if_pos ho];clear hs ho;go_enter Tryz.func54,Tryz.ntmps54;go_wp2_with fail
   refine iR.mono ?_;rintro e w' ⟨rfl,rfl⟩;go_wp2_with fail
   go_ret
   exact⟨rfl,rfl⟩
 · rw[show onT t=true by simpa using ho] at iR;rw[if_neg ho];by_cases hh:zW t.mask tg=false
   · rw[hh] at aB;rw[if_pos hh];clear hs ho hh;go_enter Tryz.func54,Tryz.ntmps54;go_wp2_with fail
     refine iR.mono ?_;rintro e w' ⟨rfl,rfl⟩;go_wp2_with fail
     refine aB.mono ?_;rintro e w' ⟨rfl,rfl⟩;go_wp2_with fail
     go_ret
     exact⟨rfl,rfl⟩
   · rw[show zW t.mask tg=true by simpa using hh] at aB;rw[if_neg hh];have eP:tg=t.core:=by
      rcases hs with h | h | h
      · exact absurd h ho
      · exact absurd h hh
      · exact h
     have he:(tg==t.core)=true:=by simp[eP]
     clear hs ho hh eP;go_enter Tryz.func54,Tryz.ntmps54;go_wp2_with fail
     refine iR.mono ?_;rintro e w' ⟨rfl,rfl⟩;go_wp2_with fail
     refine aB.mono ?_;rintro e w' ⟨rfl,rfl⟩;go_wp2_with fail
     go_ret
     exact⟨rfl,rfl⟩
theorem dL (sb gb nb pb mb n:Nat) (cv:Value) (D:DataW Unit) (cbs:List Nat) (tb:Int->Nat) (own:Nat->Option Own) (s:Sy) (id tg:Int) (t:Tk) (W:World) (h:SysAt W sb gb nb pb mb n cv D cbs tb own s)
 (h1:-9223372036854775808<=id) (h2:id<=9223372036854775807) (ht:s.tasks id=some t) (hm:0<=t.mask/\t.mask<65536) (h5:t.state=5) (hh:zW t.mask tg=true) (eP:tg≠t.core) :
 Calls Tryz.prog 54 #[.pointer (some ⟨sb,0,none⟩),I id,I tg] W fun e w'=>e=.returned (I 0)/\YP sb gb nb pb mb n cv D cbs tb own (setTk s id (coT t tg)) W w':=by
 have hl:=h.look id h1 h2;rw[ht] at hl;simp only at hl;have c67:=h.c67;obtain⟨hT,al⟩:=h.task id t ht;have iR:=jr (tb id) t W hT;rw[show onT t=true by unfold onT;simp[h5]] at iR;have q3:=hT.core;have f3:=hT.live 3;have q4:=hT.state;have q5:=hT.mask;have aB:=vK t.mask tg hm W;rw[hh] at aB;rw[h5] at q4;have he:(tg==t.core)=false:=by simpa using eP
 have HS:=lH h;have HT:=lH ht;have od:=lH hT;have HO:=lH al;obtain⟨b,hb⟩:∃b,tb id=b:=⟨_,rfl⟩
 rw[hb] at hl iR q3 f3 q4 q5;have HB:=lH hb;clear h ht hT hm h5 hh eP al hb;go_enter Tryz.func54,Tryz.ntmps54;go_wp2_with fail
 refine iR.mono ?_;rintro e w' ⟨rfl,rfl⟩;go_wp2_with fail
 refine aB.mono ?_;rintro e w' ⟨rfl,rfl⟩;go_wp2_with fail
 go_ret
 exact⟨rfl,own,HS.out.setTask HT.out (by rw[HB.out];have:=od.out;rw[HB.out] at this;exact this.setCore tg) (by rw[HB.out];exact zG _ _ _ _),fun _ _=>rfl,(zG _ _ _ _).wider (fun k hk=>by rw[hk,<- HB.out,HO.out];simp)⟩
section
attribute [local go_sem] Oper.semAt_some
def ye (m c:Int):Bool:=decide (1<=c)&&(decide (c<=16)&&(m != 0&&(m/2 ^ c.toNat==0)))
theorem wS (m c:Int) (hm:0<=m/\m<65536) (W:World) :
 Calls Tryz.prog 99 #[.int .u16 m,I c] W fun e w'=>e=.returned (.bool (ye m c))/\W=w':=by
 unfold ye;obtain⟨m1,m2⟩:=hm;by_cases h1:1<=c
 · by_cases h2:c<=16
   · rw[decide_eq_true h1,decide_eq_true h2];go_enter Tryz.func99,Tryz.ntmps99;go_wp2
     all_goals (go_ret;exact⟨by simp_all,rfl⟩)
   · rw[decide_eq_false h2];go_enter Tryz.func99,Tryz.ntmps99;go_wp2
     go_ret
     exact⟨by simp,rfl⟩
 · rw[decide_eq_false h1];go_enter Tryz.func99,Tryz.ntmps99;go_wp2
   go_ret
   exact⟨by simp,rfl⟩
def zI (t:Tk) (m:Int):Tk:=⟨t.id,t.w,t.group,t.core,t.state,m,t.lag⟩
theorem TaskAt.setMask {W:World} {b:Nat} {t:Tk} (h:TaskAt W b t) (x:Int):TaskAt (W.setCell ⟨b,5,none⟩ (.int .u16 x)) b (zI t x):=by
 refine⟨?_,?_,?_,?_,?_,World.cell?_setCell_same _ _ _ h.mask,?_,fun i=>(World.frozen?_setCell _ _ _ _).trans (h.live i)⟩
 · rw[za _ (by simp)];exact h.id
 · rw[za _ (by simp)];exact h.w
 · rw[za _ (by simp)];exact h.group
 · rw[za _ (by simp)];exact h.core
 · rw[za _ (by simp)];exact h.state
 · rw[za _ (by simp)];exact h.lag
theorem XL (sb gb nb pb mb n:Nat) (cv:Value) (D:DataW Unit) (cbs:List Nat) (tb:Int->Nat) (own:Nat->Option Own) (s:Sy) (id m:Int) (W:World) (h:SysAt W sb gb nb pb mb n cv D cbs tb own s)
 (h1:-9223372036854775808<=id) (h2:id<=9223372036854775807) (ht:s.tasks id=none) :
 Calls Tryz.prog 53 #[.pointer (some ⟨sb,0,none⟩),I id,.int .u16 m] W fun e w'=>e=.returned (I 2)/\W=w':=by
 have hl:=h.look id h1 h2;rw[ht] at hl;simp only at hl;have c67:=h.c67;clear h ht;go_enter Tryz.func53,Tryz.ntmps53;go_wp2_with fail
 go_ret
 exact⟨rfl,rfl⟩
theorem VX (sb gb nb pb mb n:Nat) (cv:Value) (D:DataW Unit) (cbs:List Nat) (tb:Int->Nat) (own:Nat->Option Own) (s:Sy) (id m:Int) (t:Tk) (W:World) (h:SysAt W sb gb nb pb mb n cv D cbs tb own s)
 (h1:-9223372036854775808<=id) (h2:id<=9223372036854775807) (ht:s.tasks id=some t) (hm:0<=m/\m<65536) (h0:0<cbs.length) (hg:ye m cbs.length=false) :
 Calls Tryz.prog 53 #[.pointer (some ⟨sb,0,none⟩),I id,.int .u16 m] W fun e w'=>e=.returned (I 5)/\W=w':=by
 have hl:=h.look id h1 h2;rw[ht] at hl;simp only at hl;have c67:=h.c67;obtain⟨g,c,aQ⟩:=h.form h0;have c0:=h.head;rw[aQ] at c0;have eH:=wS m cbs.length hm W;rw[hg] at eH;generalize tb id=b at hl;generalize cbs.length=k at c0 eH;clear h ht hm hg aQ h0;go_enter Tryz.func53,Tryz.ntmps53;go_wp2_with fail
 refine eH.mono ?_;rintro e w' ⟨rfl,rfl⟩;go_wp2_with fail
 go_ret
 exact⟨rfl,rfl⟩
theorem XM (sb gb nb pb mb n:Nat) (cv:Value) (D:DataW Unit) (cbs:List Nat) (tb:Int->Nat) (own:Nat->Option Own) (s:Sy) (id m:Int) (t:Tk) (W:World) (h:SysAt W sb gb nb pb mb n cv D cbs tb own s)
 (h1:-9223372036854775808<=id) (h2:id<=9223372036854775807) (ht:s.tasks id=some t) (hm:0<=m/\m<65536) (h0:0<cbs.length) (hg:ye m cbs.length=true) (hs:onT t=false\/zW m t.core=true) :
 Calls Tryz.prog 53 #[.pointer (some ⟨sb,0,none⟩),I id,.int .u16 m] W fun e w'=>e=.returned (I 0)/\YP sb gb nb pb mb n cv D cbs tb own (setTk s id (zI t m)) W w':=by
 have hl:=h.look id h1 h2;rw[ht] at hl;simp only at hl;have c67:=h.c67;obtain⟨g,c,aQ⟩:=h.form h0;have c0:=h.head;rw[aQ] at c0;have eH:=wS m cbs.length hm W;rw[hg] at eH;obtain⟨hT,al⟩:=h.task id t ht;have q5:=hT.mask;have f5:=hT.live 5;have ip:=hT.setMask m;have iR:=jr (tb id) _ _ ip;have q3:=ip.core;have aB:=vK m t.core hm (W.setCell ⟨tb id,5,none⟩ (.int .u16 m));have HE:=lH (h.setTask ht ip (zG _ _ _ _));have HO:=lH al;obtain⟨b,hb⟩:∃b,tb id=b:=⟨_,rfl⟩
 rw[hb] at hl q5 f5 iR q3 aB HE;have HB:=lH hb;have e1:onT (zI t m)=onT t:=rfl;rw[e1] at iR;simp only[zI] at q3;have pN:Hid (Touch (fun k=>own k≠none) W (W.setCell ⟨b,5,none⟩ (.int .u16 m))):=lH ((zG _ _ _ _).wider (fun k hk=>by rw[hk,<- hb,al];simp));have au:Hid (YP sb gb nb pb mb n cv D cbs tb own (setTk s id (zI t m)) W (W.setCell ⟨b,5,none⟩ (.int .u16 m))):=lH ⟨own,HE.out,fun _ _=>rfl,pN.out⟩;generalize cbs.length=k at c0 eH;by_cases ho:onT t=true
 · have hh:zW m t.core=true:=by
    rcases hs with h | h
    · rw[h] at ho;cases ho
    · exact h
   rw[ho] at iR;rw[hh] at aB;clear h ht hm hg aQ h0 hT ip al hb hs ho hh e1;go_enter Tryz.func53,Tryz.ntmps53;go_wp2_with fail
   refine eH.mono ?_;rintro e w' ⟨rfl,rfl⟩;go_wp2_with fail
   refine iR.mono ?_;rintro e w' ⟨rfl,rfl⟩;go_wp2_with fail
   refine aB.mono ?_;rintro e w' ⟨rfl,rfl⟩;go_wp2_with fail
   go_ret
   exact⟨rfl,au.out⟩
 · rw[show onT t=false by simpa using ho] at iR;clear h ht hm hg aQ h0 hT ip al hb hs ho e1 aB;go_enter Tryz.func53,Tryz.ntmps53;go_wp2_with fail
   refine eH.mono ?_;rintro e w' ⟨rfl,rfl⟩;go_wp2_with fail
   refine iR.mono ?_;rintro e w' ⟨rfl,rfl⟩;go_wp2_with fail
   go_ret
   exact⟨rfl,au.out⟩
theorem dx (sb gb nb pb mb n:Nat) (cv:Value) (D:DataW Unit) (cbs:List Nat) (tb:Int->Nat) (own:Nat->Option Own) (s:Sy) (id m:Int) (t:Tk) (j:Int) (S2:Sy) (W:World) (h:SysAt W sb gb nb pb mb n cv D cbs tb own s)
 (h1:-9223372036854775808<=id) (h2:id<=9223372036854775807) (ht:s.tasks id=some t) (hm:0<=m/\m<65536) (h0:0<cbs.length) (nd:cbs.length<=16) (hf:xT s) (hg:ye m cbs.length=true) (ho:onT t=true) (hh:zW m t.core=false)
 (hj:(zD (zj s) m).1=j)
 (lP:∀W1,SysAt W1 sb gb nb pb mb n cv D cbs tb own (setTk s id (zI t m))->Calls Tryz.prog 54 #[.pointer (some ⟨sb,0,none⟩),I id,I j] W1 fun e w'=>e=.returned (I 0)/\YP sb gb nb pb mb n cv D cbs tb own S2 W1 w') :
 Calls Tryz.prog 53 #[.pointer (some ⟨sb,0,none⟩),I id,.int .u16 m] W fun e w'=>e=.returned (I 0)/\YP sb gb nb pb mb n cv D cbs tb own S2 W w':=by
 have hl:=h.look id h1 h2;rw[ht] at hl;simp only at hl;have c67:=h.c67;obtain⟨g,c,aQ⟩:=h.form h0;have c0:=h.head;rw[aQ] at c0;have eH:=wS m cbs.length hm W;rw[hg] at eH;obtain⟨hT,al⟩:=h.task id t ht;have q5:=hT.mask;have f5:=hT.live 5;have ip:=hT.setMask m;have iR:=jr (tb id) _ _ ip;have q3:=ip.core;have aB:=vK m t.core hm (W.setCell ⟨tb id,5,none⟩ (.int .u16 m));have hE:=h.setTask ht ip (zG _ _ _ _);have ax:=kF sb gb nb pb mb n cv D cbs tb own (setTk s id (zI t m)) m _ hE hf h0 nd hm;rw[show zj (setTk s id (zI t m))=zj s from rfl,hj] at ax;have HE:=lH hE;have HO:=lH al;obtain⟨b,hb⟩:∃b,tb id=b:=⟨_,rfl⟩
 rw[hb] at hl q5 f5 iR q3 aB HE ax;have HB:=lH hb;have e1:onT (zI t m)=onT t:=rfl;rw[e1,ho] at iR;rw[hh] at aB;simp only[zI] at q3;have pN:Hid (Touch (fun k=>own k≠none) W (W.setCell ⟨b,5,none⟩ (.int .u16 m))):=lH ((zG _ _ _ _).wider (fun k hk=>by rw[hk,<- hb,al];simp));have HM:=lH lP;generalize cbs.length=k at c0 eH;clear h ht hm hg aQ h0 hT ip al hb ho hh e1 hj hf hE lP;go_enter Tryz.func53,Tryz.ntmps53;go_wp2_with fail
 refine eH.mono ?_;rintro e w' ⟨rfl,rfl⟩;go_wp2_with fail
 refine iR.mono ?_;rintro e w' ⟨rfl,rfl⟩;go_wp2_with fail
 refine aB.mono ?_;rintro e w' ⟨rfl,rfl⟩;go_wp2_with fail
 refine ax.mono ?_;rintro e w1 ⟨rfl,ab⟩;have mo:=HM.out w1 (HE.out.below ab);have ef:=lH ab;clear ax ab;go_wp2_with fail
 refine mo.mono ?_;rintro e w2 ⟨rfl,own',iA,pY,nI⟩;have iy:=lH iA;have Cd:=lH pY;have eR:=lH nI;clear iA pY nI mo;go_wp2_with fail
 go_ret
 have hz:W.heap.size<=w1.heap.size:=Nat.le_trans pN.out.size ef.out.size;exact⟨rfl,own',iy.out,fun k hk=>Cd.out k (Nat.lt_of_lt_of_le hk hz),(pN.out.self (Touch.of_below ef.out)).self eR.out⟩
end
def je (s:Sy) (id:Int) (t:Tk) (i j:Nat):Sy:=
 setTk (zN (zn s id t i) j (zg (zn s id t i).cores[j]! id t.w (leaveT s t i).lag true).2) id (coT (leaveT s t i) j)
theorem cL (sb gb nb pb mb n:Nat) (cv:Value) (D:DataW Unit) (cbs:List Nat) (tb:Int->Nat) (own:Nat->Option Own) (s:Sy) (id:Int) (t:Tk) (i j:Nat) (W:World) (h:SysAt W sb gb nb pb mb n cv D cbs tb own s)
 (h1:-9223372036854775808<=id) (h2:id<=9223372036854775807) (ht:s.tasks id=some t) (hm:0<=t.mask/\t.mask<65536) (h5:t.state=2) (hh:zW t.mask (j:Int)=true) (hi:t.core=(i:Int)) (AC:j≠i) (eB:i<cbs.length) (iK:j<cbs.length) (hf:xT s)
 (hr:(zg (zn s id t i).cores[j]! id t.w (leaveT s t i).lag true).1=0) :
 Calls Tryz.prog 54 #[.pointer (some ⟨sb,0,none⟩),I id,I (j:Int)] W fun e w'=>e=.returned (I 0)/\YP sb gb nb pb mb n cv D cbs tb own (je s id t i j) W w':=by
 have hl:=h.look id h1 h2;rw[ht] at hl;simp only at hl;have c67:=h.c67;obtain⟨hT,al⟩:=h.task id t ht;have iR:=jr (tb id) t W hT;rw[show onT t=true by unfold onT;simp[h5]] at iR;have q3:=hT.core;have q4:=hT.state;have q5:=hT.mask;have aB:=vK t.mask (j:Int) hm W;rw[hh] at aB;rw[h5] at q4;have he:((j:Int)==t.core)=false:=by simp[hi];omega
 have ma:=k9 sb gb nb pb mb n cv D cbs tb own s id t i W h ht (fun _=>⟨hi,eB⟩) hf;have HL:=lH (vZ s id t i ht);have Fp:yn (zn s id t i).cores[j]!.l:=by
  have NF:j<s.cores.length:=by rw[<- h.num];exact iK
  have:(zn s id t i).cores[j]! = s.cores[j]!:=by
   unfold zn;rw[if_pos h5];show(s.cores.set i _)[j]! = _;rw[getElem!_pos _ j (by simpa using NF),List.getElem_set,if_neg (fun e=>AC e.symm),getElem!_pos s.cores j NF]
  rw[this];exact hf j NF
 have hw:(leaveT s t i).w=t.w:=by unfold leaveT;split <;> rfl
 have HW:=lH hw;have HF:=lH Fp;have pN:=lH al;have HJ:=lH iK;have Ey:=lH (h.lt (tb id) (by rw[al];simp));unfold je;obtain⟨S1,eu⟩:∃x,zn s id t i=x:=⟨_,rfl⟩
 obtain⟨t1,ni⟩:∃x,leaveT s t i=x:=⟨_,rfl⟩
 rw[eu] at ma HL HF hr⊢;rw[ni] at HL HW hr⊢;obtain⟨r,Df⟩:∃r,zg S1.cores[j]! id t.w t1.lag true=r:=⟨_,rfl⟩
 rw[Df] at hr⊢;have HR:=lH hr;have Cg:=lH Df;obtain⟨b,hb⟩:∃b,tb id=b:=⟨_,rfl⟩
 rw[hb] at hl iR q3 q4 q5 ma;have HB:=lH hb;clear h ht hT hm h5 hh al hb hi AC eB hf Fp hw eu ni hr Df iK;go_enter Tryz.func54,Tryz.ntmps54;go_wp2_with fail
 refine iR.mono ?_;rintro e w' ⟨rfl,rfl⟩;go_wp2_with fail
 refine aB.mono ?_;rintro e w' ⟨rfl,rfl⟩;go_wp2_with fail
 refine ma.mono ?_;rintro e w1 ⟨rfl,own1,eu,Eb,ni⟩;obtain⟨g,c,aQ⟩:=eu.form (by have:=HJ.out;omega);have aF:=(eu.task id t1 HL.out).1;have ec:=(eu.task id t1 HL.out).2;rw[HB.out] at aF ec;obtain⟨cb,mu⟩:∃cb,cbs[j]! = cb:=⟨_,rfl⟩
 have sA:=eu.core j HJ.out;rw[mu] at sA;have r9:∀W',W'.heap=w1.heap->Calls Tryz.prog 110 #[.pointer (some ⟨cb,0,none⟩),I id,I t.w,I t1.lag,.bool true] W' (xC cb (fun k=>own1 k=some (.core j)) r W'):=fun W' m8=>by
  rw[<- Cg.out];exact gQ cb _ S1.cores[j]! id t.w t1.lag true W' (sA.same (by rw[m8];exact Nat.le_refl _) (fun k _=>by rw[m8])) HF.out
 obtain⟨m,hm⟩:∃m,cbs.length=m:=⟨_,rfl⟩
 have DX:(j:Int)<(m:Int):=by have:=HJ.out;omega
 have oh:0<=(j:Int):=by omega
 have k1:w1.cell? ⟨sb,0,none⟩=some (.slice (some ⟨g,0,none⟩) m c):=eu.head.trans (by rw[aQ,hm])
 have k2:w1.cell? ⟨g,j,none⟩=some (.pointer (some ⟨cb,0,none⟩)):=by
  have Bx:=aQ;subst Bx;rw[<- mu];exact eu.coreCell j HJ.out
 have k3:w1.cell? ⟨b,1,none⟩=some (I t.w):=by rw[<- HW.out];exact aF.w
 have k4:w1.cell? ⟨b,6,none⟩=some (I t1.lag):=aF.lag;have hg:own1 g=some .row:=eu.rown g (by rw[aQ];rfl);have HE:Hid (∀W':World,(∀x,own1 x≠some (.core j)->x<w1.heap.size->W'.heap[x]? = w1.heap[x]?) ->
  (W'.cell? ⟨sb,0,none⟩=some (.slice (some ⟨g,0,none⟩) m c)/\W'.cell? ⟨g,j,none⟩=some (.pointer (some ⟨cb,0,none⟩)))/\W'.cell? ⟨b,1,none⟩=some (I t.w)/\W'.cell? ⟨b,6,none⟩=some (I t1.lag)):=lH (fun W' m8=>by
  have e:∀y x,own1 y=some x->x≠.core j->W'.heap[y]? = w1.heap[y]?:=fun y x hy hx=>m8 y (by rw[hy];simpa using hx) (eu.lt y (by rw[hy];simp));have e1:=e sb _ eu.osb (by simp);have e2:=e g _ hg (by simp);have e3:=e b _ ec (by simp);exact⟨⟨(World.cell?_of_block (a:=⟨sb,0,none⟩) e1).trans k1,(World.cell?_of_block (a:=⟨g,j,none⟩) e2).trans k2⟩,(World.cell?_of_block (a:=⟨b,1,none⟩) e3).trans k3,(World.cell?_of_block (a:=⟨b,6,none⟩) e3).trans k4⟩)
 have iL:=lH eu;have CA:=lH Eb;have lh:=lH ni;have rB:=lH mu;have HM:=lH hm;have q4:=aF.state;obtain⟨st1,N7⟩:∃x,t1.state=x:=⟨_,rfl⟩
 clear eu Eb ni mu hm aF ec sA hg aQ ma hl iR aB q3 q5 N7 q4;go_wp2_with fail
 go_region_held3 (fun W2=>(W2.cell? ⟨sb,0,none⟩=some (.slice (some ⟨g,0,none⟩) m c)/\W2.cell? ⟨g,j,none⟩=some (.pointer (some ⟨cb,0,none⟩)))/\W2.cell? ⟨b,1,none⟩=some (I t.w)/\W2.cell? ⟨b,6,none⟩=some (I t1.lag)) (first | exact⟨⟨k1,k2⟩,k3,k4⟩ | exact AU) (first | (go_at_call 110;refine(r9 w1.drew rfl).mono ?_;rintro e w9 ⟨rfl,AT⟩;have AU:=HE.out w9 (fun j hj iK=>AT.choose_spec.2.1.block j iK hj)) | fail)
 obtain⟨F',c1,c2,c3⟩:=AT;have tP:Touch (fun k=>own1 k=some (.core j)) w1 w9:=((Touch.refl _ w1).drew).self c2;obtain⟨own',eo,Ec⟩:=iL.out.setCore (i:=j) HJ.out (by rw[rB.out];exact c1) tP (fun k hk=>c3 k hk);have ms:Hid (SysAt w9 sb gb nb pb mb n cv D cbs tb own' (zN S1 j r.2)):=lH eo;have Ge:=lH Ec;have AS:=lH tP;have iE:=ms.out.task id t1 HL.out;have od:=lH iE;rw[HB.out] at iE;have f3:=iE.1.live 3;have q3:=iE.1.core;have Ef:=HR.out;clear AU c1 c2 c3 tP eo Ec k1 k2 k3 k4 iE r9;obtain⟨r1,rc⟩:=r;simp only at Ef;subst Ef;simp only at ms⊢;go_wp2_with fail
 go_ret
 have DJ:=od.out;rw[HB.out] at DJ;refine⟨rfl,own',ms.out.setTask HL.out (by rw[HB.out];exact DJ.1.setCore _) (by rw[HB.out];exact zG _ _ _ _),fun k hk=>(Ge.out k (Nat.lt_of_lt_of_le hk lh.out.size)).trans (CA.out k hk),?_⟩;have e1:Touch (fun k=>own k≠none) W w9:=lh.out.trans (G:=fun k=>own1 k=some (.core j)) (fun k hk=>by
  by_cases hl:k<W.heap.size
  · left
    have eO:own1 k=some (.core j):=hk;rw[CA.out k hl] at eO;show own k≠none;rw[eO];simp
  · exact .inr (by omega)) AS.out
 exact e1.self ((zG w9 b 3 (I j)).wider (fun k hk=>by rw[hk,<- HB.out,pN.out];simp))
theorem Jz (a:Nat) (ha:a<65536):bits .and .u16 (a:Int) 1=((a%2:Nat):Int):=by
 unfold bits;simp only[IntKind.wrap_u16];have e:(BitVec.ofInt IntKind.u16.bits (a:Int) &&& BitVec.ofInt IntKind.u16.bits 1).toNat=a%2:=by
  show(BitVec.ofInt 16 (a:Int) &&& BitVec.ofInt 16 1).toNat=a%2;rw[BitVec.toNat_and];have h1:(BitVec.ofInt 16 (1:Int)).toNat=1:=by decide
  have h2:(BitVec.ofInt 16 (a:Int)).toNat=a:=by
   rw[BitVec.toNat_ofInt];omega
  rw[h1,h2,Nat.and_one_is_mod]
 rw[e];omega
theorem vF (m:Nat) (hm:m<65536) (j:Nat) (hj:j<16):zW (m:Int) (j:Int)=m.testBit j:=by
 unfold zW;have h1:decide (0<=(j:Int))=true:=by simp
 have h2:decide ((j:Int)<16)=true:=by simp;omega
 rw[h1,h2,Bool.true_and,Bool.true_and];have e:(m:Int)/2 ^ ((j:Int)).toNat=((m/2 ^ j:Nat):Int):=by
  rw[Int.toNat_natCast,Int.natCast_ediv];congr 1
 rw[e,Jz _ (Nat.lt_of_le_of_lt (Nat.div_le_self _ _) hm),Nat.testBit_eq_decide_div_mod_eq];rcases Nat.mod_two_eq_zero_or_one (m/2 ^ j) with h | h <;> rw[h] <;> rfl
theorem XU (m:Nat) (hm:m<65536) (c:Nat) (hc:c<16):∃m':Nat,xF (m:Int) c=(m':Int)/\m'<65536/\∀j,j<16->m'.testBit j=(m.testBit j&&decide (j≠c)):=by
 refine⟨(BitVec.ofInt 16 (m:Int) &&& ~~~ BitVec.ofInt 16 (2 ^ c)).toNat,?_,BitVec.isLt _,fun j hj=>?_⟩
 · unfold xF bits;simp only[IntKind.wrap_u16];have:=BitVec.isLt (BitVec.ofInt 16 (m:Int) &&& ~~~ BitVec.ofInt 16 (2 ^ c));show(((BitVec.ofInt 16 (m:Int) &&& ~~~ BitVec.ofInt 16 (2 ^ c)).toNat:Nat):Int)%65536=_;omega
 · have h2:(BitVec.ofInt 16 (m:Int)).toNat=m:=by
    rw[BitVec.toNat_ofInt];omega
   have h3:(BitVec.ofInt 16 (2 ^ c)).toNat=2 ^ c:=by
    obtain h | h | h | h | h | h | h | h | h | h | h | h | h | h | h | h:c=0\/c=1\/c=2\/c=3\/c=4\/c=5\/c=6\/c=7\/c=8\/c=9\/c=10\/c=11\/c=12\/c=13\/c=14\/c=15:=by omega
    all_goals (subst h;decide)
   rw[BitVec.testBit_toNat,BitVec.getLsbD_and,BitVec.getLsbD_not,<- BitVec.testBit_toNat,<- BitVec.testBit_toNat,h2,h3,Nat.testBit_two_pow];have:decide (j<16)=true:=by simp[hj]
   rw[this,Bool.true_and];congr 1
   by_cases e:c=j
   · subst e;simp
   · have e':¬j=c:=fun h=>e h.symm;simp[e,e']
theorem Wg {m:Int} {n:Nat} (hm:0<=m/\m<65536) (h:ye m n=true):(1<=n/\n<=16)/\∃j:Nat,j<n/\zW m (j:Int)=true:=by
 unfold ye at h;simp only[Bool.and_eq_true,decide_eq_true_eq,bne_iff_ne,ne_eq,beq_iff_eq] at h;obtain⟨h1,h2,h3,h4⟩:=h;obtain⟨a,rfl⟩:=Int.eq_ofNat_of_zero_le hm.1;have hn:(1<=n/\n<=16):=by omega
 refine⟨hn,?_⟩;rw[Int.toNat_natCast] at h4;have h5:a/2 ^ n=0:=by
  have:(a:Int)/2 ^ n=((a/2 ^ n:Nat):Int):=by
   rw[Int.natCast_ediv];congr 1
  rw[this] at h4;exact_mod_cast h4
 have ah:a<2 ^ n:=by
  rcases Nat.div_eq_zero_iff.1 h5 with h | h
  · exact absurd h (by have:=Nat.two_pow_pos n;omega)
  · exact h
 have ay:a≠0:=fun e=>h3 (by rw[e];rfl);obtain⟨j,hj⟩:=Nat.exists_testBit_of_ne_zero ay;have mZ:j<n:=by
  by_cases hh:j<n
  · exact hh
  · rw[Nat.testBit_lt_two_pow (Nat.lt_of_lt_of_le ah (Nat.pow_le_pow_right (by decide) (by omega)))] at hj;cases hj
 exact⟨j,mZ,by rw[vF a (by omega) j (by omega)];exact hj⟩
theorem wR {m:Int} {x:G16}:x∈zV m↔zW m x.1=true:=by
 unfold zV;rw[List.mem_filter];refine⟨fun h=>h.2,fun h=>⟨?_,h⟩⟩;have hx:=x.2;unfold vo;refine List.mem_map.2 ⟨⟨x.1.toNat,by omega⟩,List.mem_finRange _,?_⟩;apply Subtype.ext
 show((x.1.toNat:Nat):Int)=x.1;omega
theorem fa {loads:List Int} (P:Int->Prop):∀(xs:List G16) (a:Int×Bool),(a.2=true->P a.1/\a.1<loads.length/\0<=a.1)->(∀x∈xs,P x.1) ->
 ((xs.foldl (zZ loads) a).2=true->P (xs.foldl (zZ loads) a).1/\(xs.foldl (zZ loads) a).1<loads.length/\0<=(xs.foldl (zZ loads) a).1)/\((a.2=true\/∃x∈xs,x.1<loads.length)->(xs.foldl (zZ loads) a).2=true)
 | [],a,h,_=>⟨h,fun hh=>hh.elim id (fun⟨x,hx,_⟩=>by cases hx)⟩
 | x::xs,a,h,hp=>by
  have aG:(zZ loads a x).2=true->P (zZ loads a x).1/\(zZ loads a x).1<loads.length/\0<=(zZ loads a x).1:=by
   unfold zZ;split
   · rename_i hh;exact fun _=>⟨hp x List.mem_cons_self,hh.1,x.2.1⟩
   · exact h
  obtain⟨i1,i2⟩:=fa P xs (zZ loads a x) aG (fun y hy=>hp y (List.mem_cons_of_mem _ hy));refine⟨i1,fun hh=>i2 ?_⟩;rcases hh with hh | ⟨y,hy,ah⟩
  · left
    unfold zZ;split
    · rfl
    · exact hh
  · rcases List.mem_cons.1 hy with rfl | hy
    · left
      unfold zZ;by_cases ha:a.2=true
      · split
        · rfl
        · exact ha
      · rw[if_pos ⟨ah,.inl (by simpa using ha)⟩]
    · exact .inr ⟨y,hy,ah⟩
theorem bJ {loads:List Int} {m:Int} {n:Nat} (hl:loads.length=n) (hm:0<=m/\m<65536) (h:ye m n=true):∃i:Nat,(zD loads m).1=(i:Int)/\i<n/\zW m (i:Int)=true/\(zD loads m).2=true:=by
 obtain⟨hn,j,hj,hh⟩:=Wg hm h;obtain⟨h1,h2⟩:=fa (loads:=loads) (fun x=>zW m x=true) (zV m) (0,false) (fun h=>by cases h) (fun x hx=>wR.1 hx);have h3:=h2 (.inr ⟨⟨(j:Int),by omega,by omega⟩,wR.2 hh,by show(j:Int)<_;omega⟩);obtain⟨a,b,c⟩:=h1 h3;refine⟨(zD loads m).1.toNat,?_,?_,?_,h3⟩
 · unfold zD;omega
 · unfold zD;omega
 · have:(((zD loads m).1.toNat:Nat):Int)=(zD loads m).1:=by unfold zD;omega
   rw[this];exact a
theorem bK {loads:List Int} {m:Int} (h:(zD loads m).2=true):∃i:Nat,(zD loads m).1=(i:Int)/\i<loads.length/\zW m (i:Int)=true:=by
 obtain⟨h1,-⟩:=fa (loads:=loads) (fun x=>zW m x=true) (zV m) (0,false) (fun h=>by cases h) (fun x hx=>wR.1 hx);obtain⟨a,b,c⟩:=h1 h;refine⟨(zD loads m).1.toNat,?_,?_,?_⟩
 · unfold zD;omega
 · unfold zD;omega
 · have:(((zD loads m).1.toNat:Nat):Int)=(zD loads m).1:=by unfold zD;omega
   rw[this];exact a
theorem V6 (sb gb nb pb mb n:Nat) (cv:Value) (D:DataW Unit) (cbs:List Nat) (tb:Int->Nat) (own:Nat->Option Own) (s:Sy) (id:Int) (W:World) (h:SysAt W sb gb nb pb mb n cv D cbs tb own s)
 (h1:-9223372036854775808<=id) (h2:id<=9223372036854775807) (ht:s.tasks id=none) :
 Calls Tryz.prog 50 #[.pointer (some ⟨sb,0,none⟩),I id] W fun e w'=>e=.returned (I 2)/\W=w':=by
 have ai:=qz sb gb nb pb mb n cv D cbs tb own s id 5 W h h1 h2 ht;clear h ht;go_enter Tryz.func50,Tryz.ntmps50;go_wp2_with fail
 refine ai.mono ?_;rintro e w' ⟨rfl,rfl⟩;go_wp2_with fail
 go_ret
 exact⟨rfl,rfl⟩
theorem QH (sb gb nb pb mb n:Nat) (cv:Value) (D:DataW Unit) (cbs:List Nat) (tb:Int->Nat) (own:Nat->Option Own) (s:Sy) (id:Int) (t:Tk) (W:World) (h:SysAt W sb gb nb pb mb n cv D cbs tb own s)
 (h1:-9223372036854775808<=id) (h2:id<=9223372036854775807) (ht:s.tasks id=some t) (he:¬(nxt t.state 5).2=0) :
 Calls Tryz.prog 50 #[.pointer (some ⟨sb,0,none⟩),I id] W fun e w'=>e=.returned (I (nxt t.state 5).2)/\W=w':=by
 have ai:=wP sb gb nb pb mb n cv D cbs tb own s id 5 t W h h1 h2 ht;generalize(nxt t.state 5).2=y at he ai⊢;clear h ht;go_enter Tryz.func50,Tryz.ntmps50;go_wp2_with fail
 refine ai.mono ?_;rintro e w' ⟨rfl,rfl⟩;go_wp2_with fail
 go_ret
 exact⟨rfl,rfl⟩
theorem KH (sb gb nb pb mb n:Nat) (cv:Value) (D:DataW Unit) (cbs:List Nat) (tb:Int->Nat) (own:Nat->Option Own) (s:Sy) (id:Int) (t:Tk) (xs:List G16) (i:Nat) (W:World) (h:SysAt W sb gb nb pb mb n cv D cbs tb own s)
 (h1:-9223372036854775808<=id) (h2:id<=9223372036854775807) (ht:s.tasks id=some t) (he:(nxt t.state 5).2=0) (hm:0<=t.mask/\t.mask<65536) (hf:xT s) (h0:0<cbs.length) (nd:cbs.length<=16) (hL:zq s.gs t.group xs)
 (hi:(if zW t.mask t.core=true then t.core else(zD (zj s) t.mask).1)=(i:Int)) (eB:i<cbs.length) (hr:(zX (setTk s id (coT t i)) id (coT t i) (xs.any (zO s)) i 5 false).1=0) :
 Calls Tryz.prog 50 #[.pointer (some ⟨sb,0,none⟩),I id] W fun e w'=>e=.returned (I 0) /\
  YP sb gb nb pb mb n cv D cbs tb own (zX (setTk s id (coT t i)) id (coT t i) (xs.any (zO s)) i 5 false).2 W w':=by
 have ai:=wP sb gb nb pb mb n cv D cbs tb own s id 5 t W h h1 h2 ht;rw[he] at ai;obtain⟨hT,eP⟩:=h.task id t ht;obtain⟨b,hb⟩:∃b,tb id=b:=⟨_,rfl⟩
 rw[hb] at ai hT eP;have Hx:=World.block_lt_of_cell? _ _ hT.id;have q0:=hT.id;have q1:=hT.w;have q2:=hT.group;have q3:=hT.core;have q4:=hT.state;have q5:=hT.mask;have q6:=hT.lag;have ou:=lH hb;have HS:=lH h;have HT:=lH ht;have HF:=lH hf;have pN:=lH eP;have HL:=lH hL;have HI:=lH hi;have HR:=lH hr;have HM:=lH hm;have H0:=lH (And.intro h0 nd);obtain⟨res,am⟩:∃res,(zX (setTk s id (coT t i)) id (coT t i) (xs.any (zO s)) i 5 false).2=res:=⟨_,rfl⟩
 rw[am];have aA:=lH am;clear h ht hb eP hf hL hi hr hm h0 nd am he;go_enter Tryz.func50,Tryz.ntmps50;go_wp2_with fail
 refine ai.mono ?_;rintro e w' ⟨rfl,rfl⟩;clear ai;go_wp2_with fail
 have en:Below W.heap.size W (W.alloc (.cells #[I t.id,I t.w,I t.group,I t.core,I t.state,.int .u16 t.mask,I t.lag] 60)):=(Below.refl _ _).alloc (Nat.le_refl _) _;have nh:=HI.out;have lD:=((HS.out.below en).task id t HT.out).1;rw[ou.out] at lD;have q3:=lD.core;have q5:=lD.mask;clear q0 q1 q2 q4 q6 hT Hx;have RY:=lH lD;clear lD;generalize W.alloc (.cells #[I t.id,I t.w,I t.group,I t.core,I t.state,.int .u16 t.mask,I t.lag] 60)=w0 at en q3 q5 RY⊢;have Av:∀n,Calls Tryz.prog 20 #[.int .u16 t.mask,I t.core] (w0.drewN n) fun e w''=>e=.returned (.bool (zW t.mask t.core))/\∃m,w''=w0.drewN m:=fun n=>(vK t.mask t.core HM.out (w0.drewN n)).mono (fun e w' ⟨he,hw⟩=>⟨he,n,hw.symm⟩);by_cases Gz:zW t.mask t.core=true
 · rw[Gz] at Av;rw[if_pos Gz] at nh;have HI':=lH nh;clear nh;go_quiet (exact Av _)
   have en:Below W.heap.size W (w0.drewN nq):=en.trans (zm _ _ _)
   have nh:=HI'.out;have eu:=HS.out.below en;have Di:setTk s id (coT t i)=s:=by
    have:coT t i=t:=by rw[<- nh];rfl
    rw[this];unfold setTk;have Nq:(fun x=>if x=id then some t else s.tasks x)=s.tasks:=by
     funext x
     split
     · rename_i e;rw[e,HT.out]
     · rfl
    rw[Nq]
   have LJ:coT t i=t:=by rw[<- nh];rfl
   have BT:=aA.out;have rR:=HR.out;rw[Di,LJ] at BT rR;have aj:=qy sb gb nb pb mb n cv D cbs tb own s id 5 t false xs i _ eu HT.out HL.out nh eB HF.out;rw[rR,BT,ou.out] at aj;clear eu Di LJ BT rR nh Gz Av;go_wp2_with fail
   refine aj.mono ?_;rintro e w2 ⟨rfl,own',rZ,IU,Ai⟩;go_wp2_with fail
   go_ret
   exact⟨rfl,own',rZ,fun k hk=>IU k (Nat.lt_of_lt_of_le hk en.size),(Touch.of_below en).self Ai⟩
 · rw[show zW t.mask t.core=false by simpa using Gz] at Av;rw[if_neg Gz] at nh;have HI':=lH nh;clear nh;go_quiet (exact Av _)
   have en:Below W.heap.size W (w0.drewN nq):=en.trans (zm _ _ _)
   have nh:=HI'.out;have ax:=kF sb gb nb pb mb n cv D cbs tb own s t.mask _ (HS.out.below en) HF.out H0.out.1 H0.out.2 HM.out;rw[nh] at ax;clear Av nh Gz;go_wp2_with fail
   refine ax.mono ?_;rintro e w1 ⟨rfl,ab⟩;have nS:Below W.heap.size W w1:=en.trans (ab.mono en.size)
   have eu:=HS.out.below nS;have aF:=(eu.task id t HT.out).1;rw[ou.out] at aF;have c3:=aF.core;have f3:=aF.live 3;have iA:SysAt (w1.setCell ⟨b,3,none⟩ (I i)) sb gb nb pb mb n cv D cbs tb own (setTk s id (coT t i)):=eu.setTask HT.out (by rw[ou.out];exact aF.setCore i) (by rw[ou.out];exact zG _ _ _ _);have aj:=qy sb gb nb pb mb n cv D cbs tb own (setTk s id (coT t i)) id 5 (coT t i) false xs i _ iA (by simp[setTk]) HL.out rfl eB HF.out;rw[show xs.any (zO (setTk s id (coT t i)))=xs.any (zO s) from rfl,HR.out,aA.out,ou.out] at aj;have sk:=lH nS;clear ax ab eu aF iA en nS;go_wp2_with fail
   refine aj.mono ?_;rintro e w2 ⟨rfl,own',rZ,IU,Ai⟩;go_wp2_with fail
   go_ret
   have e1:Touch (fun k=>own k≠none) W (w1.setCell ⟨b,3,none⟩ (I i)):=(Touch.of_below sk.out).self ((zG w1 b 3 (I i)).wider (fun k hk=>by rw[hk,pN.out];simp));exact⟨rfl,own',rZ,fun k hk=>IU k (Nat.lt_of_lt_of_le hk e1.size),e1.self Ai⟩
end Go.Proofs.YtoiajjobecinpaaGreat

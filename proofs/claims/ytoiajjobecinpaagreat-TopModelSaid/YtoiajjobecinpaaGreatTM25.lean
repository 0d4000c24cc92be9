/- Each act keeps what holds of a system: move, bind, weigh, end, spawn, group, run. What each method o -/
import Derived.Test.YtoiajjobecinpaaGreatTM23
import Derived.Test.YtoiajjobecinpaaGreatTM24
set_option maxHeartbeats 4000000
set_option maxRecDepth 100000
namespace Go.Proofs.YtoiajjobecinpaaGreat
open Go.RowKit Go.Shelf Go.Lib Go.Proofs
set_option linter.unusedVariables false
set_option linter.unusedSimpArgs false
theorem gG {m c:Int} {n:Nat} (hm:0<=m/\m<65536) (hg:ye m n=true) (h:zW m c=true):∃j:Nat,c=(j:Int)/\j<n:=by
 have h':=h;unfold zW at h';simp only[Bool.and_eq_true,decide_eq_true_eq] at h';obtain⟨h1,h2,-⟩:=h';obtain⟨j,rfl⟩:=Int.eq_ofNat_of_zero_le h1;obtain⟨a,rfl⟩:=Int.eq_ofNat_of_zero_le hm.1;refine⟨j,rfl,?_⟩;rw[vF a (by omega) j (by omega)] at h;unfold ye at hg;simp only[Bool.and_eq_true,decide_eq_true_eq,bne_iff_ne,ne_eq,beq_iff_eq] at hg;obtain⟨g1,g2,g3,g4⟩:=hg;rw[Int.toNat_natCast] at g4;have h5:a/2 ^ n=0:=by
  have:(a:Int)/2 ^ n=((a/2 ^ n:Nat):Int):=by
   rw[Int.natCast_ediv];congr 1
  rw[this] at g4;exact_mod_cast g4
 have ah:a<2 ^ n:=by
  rcases Nat.div_eq_zero_iff.1 h5 with h | h
  · exact absurd h (by have:=Nat.two_pow_pos n;omega)
  · exact h
 by_cases hh:j<n
 · exact hh
 · rw[Nat.testBit_lt_two_pow (Nat.lt_of_lt_of_le ah (Nat.pow_le_pow_right (by decide) (by omega)))] at h;cases h
theorem vk (s:Sy) (id:Int) (t t':Tk):setTk (setTk s id t) id t'=setTk s id t':=by
 unfold setTk;congr 1
 funext x
 by_cases e:x=id <;> simp[e]
theorem k8 {s:Sy} {id:Int} {t:Tk} (h:s.tasks id=some t):setTk s id t=s:=by
 unfold setTk;cases s;congr 1
 funext x
 by_cases e:x=id
 · subst e;rw[if_pos rfl];exact h.symm
 · rw[if_neg e]
theorem qr (s:Sy) (i:Nat) (c:Co) (id:Int) (t t':Tk):setTk (zN (setTk s id t) i c) id t'=setTk (zN s i c) id t':=by
 unfold setTk zN;congr 1
 funext x
 by_cases e:x=id <;> simp[e]
theorem InvY.moveG {k:Nat} {b:Int} {n:Nat} {s:Sy} {id:Int} {t:Tk} {i j:Nat} (h:InvY k b n s) (hk:k<=400) (ht:s.tasks id=some t) (h2:t.state=2) (hi:t.core=(i:Int)) (aN:i<n) (hj:j<n) (m:Int) (hm:(0<=m/\m<65536)/\ye m n=true) (hh:zW m (j:Int)=true) :
 (zg (zn (setTk s id (zI t m)) id (zI t m) i).cores[j]! id (zI t m).w (leaveT (setTk s id (zI t m)) (zI t m) i).lag true).1=0 /\
 InvY k (b+k*232792560+k*232792560) n (je (setTk s id (zI t m)) id (zI t m) i j):=by
 have hT:=h.task id t ht;have hL:=h.lagK ht (i:=i) (fun _=>⟨hi,aN⟩);have ho:=h.out ht (fun _=>⟨hi,aN⟩) 4 (.inl rfl) (by omega) (fun h=>absurd h (by decide));have ma:Go.Proofs.YtoiajjobecinpaaGreat.leaveT s t i=wi t (zh s.cores[i]! t.id).1:=by
  unfold Go.Proofs.YtoiajjobecinpaaGreat.leaveT;rw[if_pos h2]
 have NK:Go.Proofs.YtoiajjobecinpaaGreat.leaveT (setTk s id (zI t m)) (zI t m) i=wi (zI t m) (zh s.cores[i]! t.id).1:=by
  unfold Go.Proofs.YtoiajjobecinpaaGreat.leaveT;rw[if_pos (show(zI t m).state=2 from h2)];rfl
 have mC:zn s id t i=setTk (zN s i (zh s.cores[i]! t.id).2.2) id (wi t (zh s.cores[i]! t.id).1):=by
  unfold zn;rw[if_pos h2]
 have pX:zn (setTk s id (zI t m)) id (zI t m) i=setTk (zN (setTk s id (zI t m)) i (zh s.cores[i]! t.id).2.2) id (wi (zI t m) (zh s.cores[i]! t.id).1):=by
  unfold zn;rw[if_pos (show(zI t m).state=2 from h2)];rfl
 rw[ma] at hL ho;rw[mC] at ho;unfold je;rw[NK,pX];rw[vk] at ho;rw[qr];have hid:=hT.id;have ni:(setTk (zN s i (zh s.cores[i]! t.id).2.2) id (stT (wi t (zh s.cores[i]! t.id).1) 4)).tasks id=some (stT (wi t (zh s.cores[i]! t.id).1) 4):=by
  show(if id=id then _ else _)=_;rw[if_pos rfl]
 obtain⟨a,c⟩:=ho.put (i:=j) (t':=coT (wi (zI t m) (zh s.cores[i]! t.id).1) j) hk ni hj (by simp[stT]) (zh s.cores[i]! t.id).1 hL true
  ⟨hid,hT.w,hm,.inr (.inl h2),fun _=>⟨j,rfl,hj⟩,fun _=>hh,hL,hT.grp⟩ ⟨h2,rfl,rfl⟩
 rw[qr] at c;refine⟨a,?_⟩;rw[qr];exact c
theorem InvY.weigh {k:Nat} {b:Int} {n:Nat} {s:Sy} {id w:Int} {t:Tk} {i:Nat} (h:InvY k b n s) (ht:s.tasks id=some t) (h2:t.state=2) (hi:t.core=(i:Int)) (aN:i<n) (hw:1<=w/\w<=20) :
 (yA s.cores[i]! id w).1=0/\InvY k (b+k*232792560) n (setTk (zN s i (yA s.cores[i]! id w).2) id (wTk t w)):=by
 have hT:=h.task id t ht;have hh:=(h.on i aN id t.w).2 ⟨t,ht,h2,hi,rfl⟩;obtain⟨a,c,d⟩:=(h.line i aN).weigh hw hh;refine⟨a,h.edit (Nat.le_refl _) ht (by show(s.cores.set i _).length=n;rw[List.length_set];exact h.len) rfl rfl rfl rfl (fun y=>rfl) ⟨hT.id,hw,hT.mask,hT.st,hT.core,hT.has,hT.lag,hT.grp⟩ (fun j hj=>?_)⟩;show LnK k _ (s.cores.set i _)[j]!.l/\(s.cores.set i _)[j]!.srv<=k/\(∀y v,y≠id->(xd (s.cores.set i _)[j]!.l y v↔_))/\∀v,xd (s.cores.set i _)[j]!.l id v↔_;rw[yL _ _ _ _ (by rw[h.len];exact hj)];by_cases e:i=j
 · subst e;rw[if_pos rfl];refine⟨c,h.srv i hj,fun y v hy=>?_,fun v=>?_⟩
   · refine(d y v).trans ⟨fun hh=>hh.elim (fun hh=>absurd hh.1 hy) (fun hh=>hh.2),fun hh=>.inr ⟨hy,hh⟩⟩
   · refine(d id v).trans ⟨fun hh=>hh.elim (fun hh=>⟨h2,hi,hh.2.symm⟩) (fun hh=>absurd rfl hh.1),fun hh=>.inl ⟨rfl,hh.2.2.symm⟩⟩
 · rw[if_neg e];refine⟨(h.line j hj).mono (Nat.le_refl _) (by omega),h.srv j hj,fun y v hy=>Iff.rfl,fun v=>⟨fun hh=>?_,fun hh=>?_⟩⟩
   · obtain⟨u,hu,_,h3,_⟩:=(h.on j hj id v).1 hh;rw[ht,Option.some.injEq] at hu;subst hu;exact absurd (by omega:i=j) e
   · have h3:t.core=(j:Int):=hh.2.1;exact absurd (by omega:i=j) e
theorem xy (l:List (Int×Bool)) (k j:Nat) (v:Int×Bool) (hk:k<l.length):(l.set k v).getD j default=if k=j then v else l.getD j default:=by
 rw[List.getD_eq_getElem?_getD,List.getElem?_set,List.getD_eq_getElem?_getD];by_cases e:k=j
 · subst e;simp[hk]
 · simp[e]
theorem InvY.hasK {k:Nat} {b:Int} {n:Nat} {s:Sy} (h:InvY k b n s) {id:Int} (hid:id∈zf s.ps):hasB s.ps id=true/\(id%64).toNat<64/\∃q,s.ps.getD (id%64).toNat default=(q,true)/\1<=q/\q<=k/\id=((id%64).toNat:Int)+64*(q-1):=by
 obtain⟨j,hj,h1,h2⟩:=xL.1 hid;rw[h.pslen] at hj;have h3:=h.psat j hj;have h4:=h3.2.2 h1;have BH:(id%64).toNat=j:=by omega
 refine⟨?_,by omega,(s.ps.getD j default).1,?_,h4,h3.2.1,?_⟩
 · unfold Go.Proofs.YtoiajjobecinpaaGreat.hasB;rw[BH];simp only[Bool.and_eq_true,decide_eq_true_eq,beq_iff_eq];exact⟨by omega,by rw[h.pslen];exact hj,h1,by omega⟩
 · rw[BH,<- h1]
 · rw[BH];exact h2
theorem InvY.end_ {k:Nat} {b:Int} {n:Nat} {s:Sy} {id:Int} {t:Tk} {i:Nat} (h:InvY k b n s) (ht:s.tasks id=some t) (hi:t.state=2->t.core=(i:Int)/\i<n):InvY k (b+k*232792560) n (b8 s id t i):=by
 obtain⟨e1,e2,e3,e4,e5⟩:=xG (s:=s) (id:=id) (t:=t) (i:=i);obtain⟨hb,hj,q,hq,q1,q2,hid⟩:=h.hasK ((h.names id).1 (by rw[ht];simp));have mj:(uq s.ps id).2=s.ps.set (id%64).toNat (q,false):=by
  unfold uq;rw[if_pos hb,hq]
 have ev:∀x,x∈zf (s.ps.set (id%64).toNat (q,false))↔x≠id/\x∈zf s.ps:=fun x=>by
  rw[xL,xL];constructor
  · rintro⟨j,l9,h1,h2⟩;rw[xy _ _ _ _ (by rw[h.pslen];exact hj)] at h1 h2;rw[List.length_set,h.pslen] at l9;by_cases e:(id%64).toNat=j
    · rw[if_pos e] at h1;cases h1
    · rw[if_neg e] at h1 h2;exact⟨fun hx=>e (by rw[hx] at h2;omega),j,by rw[h.pslen];exact l9,h1,h2⟩
  · rintro⟨ay,j,l9,h1,h2⟩;have PC:(id%64).toNat≠j:=fun e=>by
     subst e;rw[hq] at h2;exact ay (by omega)
    refine⟨j,by rw[List.length_set];exact l9,?_,?_⟩
    · rw[xy _ _ _ _ (by rw[h.pslen];exact hj),if_neg PC];exact h1
    · rw[xy _ _ _ _ (by rw[h.pslen];exact hj),if_neg PC];exact h2
 unfold b8;rw[mj];refine⟨h.n8,ku.trans h.len,fun j hj=>(h.left ht hi j hj).1,fun j hj=>(h.left ht hi j hj).2.1,h.gs,h.acc,by rw[List.length_set];exact h.pslen,fun j l9=>?_,fun x=>?_,fun x u hu=>?_,fun j l9 x w=>?_,h.cnt⟩
 · rw[xy _ _ _ _ (by rw[h.pslen];exact hj)];split
   · exact⟨by show 0<=q;omega,q2,fun hh=>by cases hh⟩
   · exact h.psat j l9
 · show(if x=id then none else(zn s id t i).tasks x)≠none↔_;rw[ev x];by_cases e:x=id
   · rw[if_pos e];exact⟨fun hh=>absurd rfl hh,fun hh=>absurd e hh.1⟩
   · rw[if_neg e,e5 x e,h.names x];exact⟨fun hh=>⟨e,hh⟩,fun hh=>hh.2⟩
 · replace hu:(if x=id then none else(zn s id t i).tasks x)=some u:=hu;by_cases e:x=id
   · rw[if_pos e] at hu;cases hu
   · rw[if_neg e,e5 x e] at hu;exact h.task x u hu
 · show xd (zn s id t i).cores[j]!.l x w↔∃u,(if x=id then none else(zn s id t i).tasks x)=some u/\_;obtain⟨-,-,c3,c4⟩:=h.left ht hi j l9;by_cases e:x=id
   · rw[if_pos e,e];exact⟨fun hh=>absurd hh (c4 w),fun⟨u,hu,_⟩=>by cases hu⟩
   · rw[if_neg e,e5 x e,c3 x w e];exact h.on j l9 x w
theorem dZ {ps:List (Int×Bool)} (h:(ym ps).2.1=0):∃j,j<ps.length/\(ps.getD j default).2=false/\ym ps=((j:Int)+64*(ps.getD j default).1,0,ps.set j ((ps.getD j default).1+1,true)):=by
 unfold ym at h⊢;cases hf:ps.findIdx? (fun p=>!p.2) with
 | some i=>
  obtain⟨hi,hp,-⟩:=List.findIdx?_eq_some_iff_getElem.1 hf;refine⟨i,hi,?_,rfl⟩;rw[List.getD_eq_getElem?_getD,List.getElem?_eq_getElem hi];simpa using hp
 | none=>rw[hf] at h;simp at h
theorem InvY.spawn {k:Nat} {b:Int} {n:Nat} {s:Sy} {w m g:Int} (h:InvY k b n s) (hk:k<=400) (h0:(ym s.ps).2.1=0) (hw:1<=w/\w<=20) (hm:(0<=m/\m<65536)/\ye m n=true) (hg:zL s.gs g=true) :
 (0<=(ym s.ps).1/\(ym s.ps).1<=1000000)/\s.tasks (ym s.ps).1=none /\
 InvY (k+1) b n ⟨s.cores,s.gs,s.acc,(ym s.ps).2.2,fun x=>if x=(ym s.ps).1 then some (ya (ym s.ps).1 w m g) else s.tasks x,s.cnt+1⟩:=by
 obtain⟨j,hj,hf,ht⟩:=dZ h0;rw[h.pslen] at hj;rw[ht];simp only
 have PQ:=h.psat j hj;generalize(s.ps.getD j default).1=q at PQ;have ev:∀x,x∈zf (s.ps.set j (q+1,true))↔x=(j:Int)+64*q\/x∈zf s.ps:=fun x=>by
  rw[xL,xL];constructor
  · rintro⟨i,hi,h1,h2⟩;rw[xy _ _ _ _ (by rw[h.pslen];exact hj)] at h1 h2;by_cases e:j=i
    · rw[if_pos e] at h2;left;subst e;simp only at h2;omega
    · rw[if_neg e] at h1 h2;exact .inr ⟨i,by simpa using hi,h1,h2⟩
  · rintro(rfl | ⟨i,hi,h1,h2⟩)
    · refine⟨j,by rw[List.length_set,h.pslen];exact hj,?_,?_⟩
      · rw[xy _ _ _ _ (by rw[h.pslen];exact hj),if_pos rfl]
      · rw[xy _ _ _ _ (by rw[h.pslen];exact hj),if_pos rfl];simp only;omega
    · have pE:j≠i:=fun e=>by subst e;rw[hf] at h1;cases h1
      refine⟨i,by rw[List.length_set];exact hi,?_,?_⟩
      · rw[xy _ _ _ _ (by rw[h.pslen];exact hj),if_neg pE];exact h1
      · rw[xy _ _ _ _ (by rw[h.pslen];exact hj),if_neg pE];exact h2
 have aZ:s.tasks ((j:Int)+64*q)=none:=by
  by_cases e:s.tasks ((j:Int)+64*q)=none
  · exact e
  · obtain⟨i,hi,h1,h2⟩:=xL.1 ((h.names _).1 e);rw[h.pslen] at hi;have:i=j:=by omega
    subst this;rw[hf] at h1;cases h1
 have rN:=h.mono (Nat.le_succ k) (Int.le_refl b);refine⟨by omega,aZ,h.n8,h.len,rN.line,rN.srv,h.gs,h.acc,by rw[List.length_set];exact h.pslen,fun i hi=>?_,fun x=>?_,fun x u hu=>?_,fun i hi x v=>?_,by have:=h.cnt;show s.cnt+1<=k+1;omega⟩
 · rw[xy _ _ _ _ (by rw[h.pslen];exact hj)];split
   · simp only;omega
   · exact rN.psat i hi
 · show(if x=(j:Int)+64*q then some _ else s.tasks x)≠none↔_;rw[ev x];by_cases e:x=(j:Int)+64*q
   · rw[if_pos e];exact⟨fun _=>.inl e,fun _=>by simp⟩
   · rw[if_neg e,h.names x];exact⟨.inr,fun hh=>hh.elim (fun hh=>absurd hh e) id⟩
 · replace hu:(if x=(j:Int)+64*q then some (ya ((j:Int)+64*q) w m g) else s.tasks x)=some u:=hu;by_cases e:x=(j:Int)+64*q
   · rw[if_pos e,Option.some.injEq] at hu;subst hu;refine⟨e.symm,hw,hm,.inl rfl,fun hh=>absurd rfl hh,fun hh=>?_,by simp only[ya];omega,hg⟩;rcases hh with hh | hh <;> exact absurd hh (by simp[ya])
   · rw[if_neg e] at hu;exact rN.task x u hu
 · show xd s.cores[i]!.l x v↔∃u,(if x=(j:Int)+64*q then some (ya ((j:Int)+64*q) w m g) else s.tasks x)=some u/\_;rw[h.on i hi x v];by_cases e:x=(j:Int)+64*q
   · rw[if_pos e];constructor
     · rintro⟨u,hu,_⟩;rw[e,aZ] at hu;cases hu
     · rintro⟨u,hu,h2,_⟩;rw[Option.some.injEq] at hu;subst hu;exact absurd h2 (by simp[ya])
   · rw[if_neg e]
theorem dC (l:List (Bool×Int)) (k j:Nat) (v:Bool×Int) (hk:k<l.length):(l.set k v).getD j default=if k=j then v else l.getD j default:=by
 rw[List.getD_eq_getElem?_getD,List.getElem?_set,List.getD_eq_getElem?_getD];by_cases e:k=j
 · subst e;simp[hk]
 · simp[e]
theorem InvY.run1 {k:Nat} {b:Int} {n:Nat} {s:Sy} {i:Nat} (h:InvY k b n s) (hk:k<=400) (hb:b<=900000000000000000) (hi:i<n) :
 ∃c',InvY (k+1) (b+(k+1:Nat)*232792560) n (zN s i c')/\(yE s.cores[i]! = (-1,0,c')\/∃id t,yE s.cores[i]! = (id,0,c')/\s.tasks id=some t/\t.state=2/\t.core=(i:Int)):=by
 obtain⟨p1,p2⟩:=(h.line i hi).pick s.cores[i]!.tag;obtain⟨c1,c2,c3⟩:=p1.charge (by omega) (by omega);have nQ:=h.srv i hi;have Iy:∀x v,xd (uh s.cores[i]!.tag s.cores[i]!.l).2.2 x v↔xd s.cores[i]!.l x v:=fun x v=>(c2 x v).trans (p2 x v)
 unfold yE;rcases c3 with e | ⟨e,w,hw⟩
 · have e':(uh s.cores[i]!.tag s.cores[i]!.l).2.1=14:=e;simp only[e'];exact⟨_,h.core (Nat.le_succ k) (by omega) hi c1 (by simp only;omega) Iy,.inl rfl⟩
 · have e':(uh s.cores[i]!.tag s.cores[i]!.l).2.1=0:=e;simp only[e'];obtain⟨t,ht,h2,h3,_⟩:=(h.on i hi _ w).1 ((p2 _ w).1 hw);exact⟨_,h.core (Nat.le_succ k) (by omega) hi c1 (by simp only;omega) Iy,.inr ⟨_,t,rfl,ht,h2,h3⟩⟩
def uf (s:Sy) (m:Int):Int:=(zD (zj s) m).1
noncomputable def wk (s:Sy) (id:Int):Int×Sy:=
 match s.tasks id with
 | none=>(2,s)
 | some t=>if (nxt t.state 1).2=0 then zX (setTk s id (coT t (uf s t.mask))) id (coT t (uf s t.mask)) (vX s t) (uf s t.mask).toNat 1 false else((nxt t.state 1).2,s)
def ui (s:Sy) (id:Int):Int×Sy:=wY s id (match s.tasks id with | none=>0 | some t=>t.core.toNat)
def qR (s:Sy) (t:Tk):Int:=if zW t.mask t.core=true then t.core else uf s t.mask
noncomputable def qS (s:Sy) (id:Int):Int×Sy:=
 match s.tasks id with
 | none=>(2,s)
 | some t=>if (nxt t.state 5).2=0 then zX (setTk s id (coT t (qR s t))) id (coT t (qR s t)) (vX s t) (qR s t).toNat 5 false else((nxt t.state 5).2,s)
def fX (s:Sy) (id:Int):Int×Sy:=
 match s.tasks id with
 | none=>(2,s)
 | some t=>if (nxt t.state 8).2=0 then(0,b8 s id t t.core.toNat) else((nxt t.state 8).2,s)
def uj (s:Sy) (id w:Int):Int×Sy:=
 match s.tasks id with
 | none=>(2,s)
 | some t=>if zQ w=false then(1,s) else if t.state=2 then(0,setTk (zN s t.core.toNat (yA s.cores[t.core.toNat]! id w).2) id (wTk t w)) else(0,setTk s id (wTk t w))
def xP (s:Sy) (id tg:Int):Int×Sy:=
 match s.tasks id with
 | none=>(2,s)
 | some t=>if onT t=false\/zW t.mask tg=false\/tg=t.core then(dK t tg,s) else if t.state=5 then(0,setTk s id (coT t tg)) else(0,je s id t t.core.toNat tg.toNat)
def qM (s:Sy) (id m:Int):Int×Sy:=
 match s.tasks id with
 | none=>(2,s)
 | some t=>if ye m s.cores.length=false then(5,s) else if onT t=false\/zW m t.core=true then(0,setTk s id (zI t m))
  else if t.state=5 then(0,setTk (setTk s id (zI t m)) id (coT (zI t m) (uf s m))) else(0,je (setTk s id (zI t m)) id (zI t m) t.core.toNat (uf s m).toNat)
section
variable {k n:Nat} {b:Int} {s:Sy} {sb:Nat} {cbs:List Nat} {own:Nat->Option Own} {W:World}
theorem InvY.coT_ {id:Int} {t:Tk} {i:Nat} (h:InvY k b n s) (ht:s.tasks id=some t) (hs:t.state=1\/t.state=4) (hi:i<n):InvY k b n (setTk s id (coT t (i:Int))):=by
 have hT:=h.task id t ht;refine h.setK ht ⟨hT.id,hT.w,hT.mask,hT.st,fun _=>⟨i,rfl,hi⟩,fun hh=>?_,hT.lag,hT.grp⟩ (.inl ⟨by omega,?_⟩)
 · replace hh:t.state=2\/t.state=5:=hh;omega
 · show t.state≠2;omega
theorem ws (h:InvY k b n s) {m:Int} (hm:(0<=m/\m<65536)/\ye m n=true):∃i:Nat,uf s m=(i:Int)/\i<n/\zW m (i:Int)=true:=by
 obtain⟨i,hi,aN,AY,-⟩:=bJ (loads:=zj s) (m:=m) (n:=n) (by simp[zj,h.len]) hm.1 hm.2;exact⟨i,hi,aN,AY⟩
theorem wW (s:Sy) (id:Int) (t:Tk):(setTk s id t).tasks id=some t:=by
 show(if id=id then _ else _)=_;rw[if_pos rfl]
theorem Vv (h:∃gb nb pb mb n cv D tb,SysAt W sb gb nb pb mb n cv D cbs tb own s) (hI:InvY k b n s) (hk:k<=400) (hb:b<=1000000000000000000) (id:Int) (h1:-9223372036854775808<=id) (h2:id<=9223372036854775807) :
 InvY k (b+k*232792560) n (wk s id).2/\(wk s id).2.gs=s.gs /\
 Calls Tryz.prog 48 #[.pointer (some ⟨sb,0,none⟩),I id] W fun e w'=>e=.returned (I (wk s id).1)/\YQ sb cbs own (wk s id).2 W w':=by
 obtain⟨gb,nb,pb,mb,nn,cv,D,tb,hS⟩:=h;have hn:=hS.num;have hl:=hI.len;have h8:=hI.n8;have iT:YQ sb cbs own s W W:=YQ.below hS (Below.refl _ _);have hm:InvY k (b+k*232792560) n s:=hI.mono (Nat.le_refl _) (by omega);unfold wk;cases ht:s.tasks id with
 | none=>exact⟨hm,rfl,(Xc sb gb nb pb mb nn cv D cbs tb own s id W hS h1 h2 ht).mono (fun e w' ⟨he,hw⟩=>⟨he,hw ▸ iT⟩)⟩
 | some t=>
  simp only
  by_cases he:(nxt t.state 1).2=0
  · rw[if_pos he];have hT:=hI.task id t ht;have hs:=(xM t.state).2.2.1 he;obtain⟨i,hi,aN,AY⟩:=ws hI hT.mask;rw[hi,Int.toNat_natCast];obtain⟨xs,hx,-⟩:=hI.gs.path t.group;rw[vi hx];obtain⟨a,c,d,f,g⟩:=(hI.coT_ ht (.inl hs) aN).enter (act:=1) (i:=i) (t:=coT t i) hk (wW _ _ _) (xs.any (zO s)) false rfl aN AY (by show nxt t.state 1=_;rw[hs];rfl) (by show t.state≠2;omega);exact⟨c,f,(Q1 sb gb nb pb mb nn cv D cbs tb own s id t xs i W hS h1 h2 ht he hT.mask.1 (hI.fitsY hk hb) (by omega) (by omega) hx hi (by omega) a).mono (fun e w' ⟨he,hw⟩=>⟨by rw[he,a],hw.q⟩)⟩
  · rw[if_neg he];exact⟨hm,rfl,(Vq sb gb nb pb mb nn cv D cbs tb own s id t W hS h1 h2 ht he).mono (fun e w' ⟨he,hw⟩=>⟨he,hw ▸ iT⟩)⟩
theorem Q6 (h:∃gb nb pb mb n cv D tb,SysAt W sb gb nb pb mb n cv D cbs tb own s) (hI:InvY k b n s) (hk:k<=400) (hb:b<=1000000000000000000) (id:Int) (h1:-9223372036854775808<=id) (h2:id<=9223372036854775807) :
 InvY k (b+k*232792560) n (qS s id).2/\(qS s id).2.gs=s.gs /\
 Calls Tryz.prog 50 #[.pointer (some ⟨sb,0,none⟩),I id] W fun e w'=>e=.returned (I (qS s id).1)/\YQ sb cbs own (qS s id).2 W w':=by
 obtain⟨gb,nb,pb,mb,nn,cv,D,tb,hS⟩:=h;have hn:=hS.num;have hl:=hI.len;have h8:=hI.n8;have iT:YQ sb cbs own s W W:=YQ.below hS (Below.refl _ _);have hm:InvY k (b+k*232792560) n s:=hI.mono (Nat.le_refl _) (by omega);unfold qS;cases ht:s.tasks id with
 | none=>exact⟨hm,rfl,(V6 sb gb nb pb mb nn cv D cbs tb own s id W hS h1 h2 ht).mono (fun e w' ⟨he,hw⟩=>⟨he,hw ▸ iT⟩)⟩
 | some t=>
  simp only
  by_cases he:(nxt t.state 5).2=0
  · rw[if_pos he];have hT:=hI.task id t ht;have hs:=(xM t.state).2.2.2.1 he;obtain⟨i,hi,aN,AY⟩:∃i:Nat,qR s t=(i:Int)/\i<n/\zW t.mask (i:Int)=true:=by
     unfold qR;split
     · rename_i hh;obtain⟨i,hi,aN⟩:=gG hT.mask.1 hT.mask.2 hh;exact⟨i,hi,aN,by rw[<- hi];exact hh⟩
     · exact ws hI hT.mask
    have nh:=hi;unfold qR uf at nh;rw[hi,Int.toNat_natCast];obtain⟨xs,hx,-⟩:=hI.gs.path t.group;rw[vi hx];obtain⟨a,c,d,f,g⟩:=(hI.coT_ ht (.inr hs) aN).enter (act:=5) (i:=i) (t:=coT t i) hk (wW _ _ _) (xs.any (zO s)) false rfl aN AY (by show nxt t.state 5=_;rw[hs];rfl) (by show t.state≠2;omega);exact⟨c,f,(KH sb gb nb pb mb nn cv D cbs tb own s id t xs i W hS h1 h2 ht he hT.mask.1 (hI.fitsY hk hb) (by omega) (by omega) hx nh (by omega) a).mono (fun e w' ⟨he,hw⟩=>⟨by rw[he,a],hw.q⟩)⟩
  · rw[if_neg he];exact⟨hm,rfl,(QH sb gb nb pb mb nn cv D cbs tb own s id t W hS h1 h2 ht he).mono (fun e w' ⟨he,hw⟩=>⟨he,hw ▸ iT⟩)⟩
theorem Vt (h:∃gb nb pb mb n cv D tb,SysAt W sb gb nb pb mb n cv D cbs tb own s) (hI:InvY k b n s) (hk:k<=400) (hb:b<=1000000000000000000) (id:Int) (h1:-9223372036854775808<=id) (h2:id<=9223372036854775807) :
 InvY k (b+k*232792560) n (ui s id).2/\(ui s id).2.gs=s.gs /\
 Calls Tryz.prog 49 #[.pointer (some ⟨sb,0,none⟩),I id] W fun e w'=>e=.returned (I (ui s id).1)/\YQ sb cbs own (ui s id).2 W w':=by
 obtain⟨gb,nb,pb,mb,nn,cv,D,tb,hS⟩:=h;have hn:=hS.num;have hl:=hI.len;have hi:∀t,s.tasks id=some t->t.state=2->t.core=(((match s.tasks id with | none=>0 | some t=>t.core.toNat):Nat):Int)/\(match s.tasks id with | none=>0 | some t=>t.core.toNat)<n:=fun t ht h2=>by
  obtain⟨i,hi,aN,-⟩:=hI.at_ ht h2;rw[ht];simp only
  omega
 unfold ui;refine⟨hI.sleep id _ hi,?_,(Vm sb gb nb pb mb nn cv D cbs tb own s id _ W hS h1 h2 (fun t ht h2=>⟨(hi t ht h2).1,by rw[hn,hl];exact(hi t ht h2).2⟩) (hI.fitsY hk hb)).mono (fun e w' ⟨he,hw⟩=>⟨he,hw.q⟩)⟩;unfold wY;split
 · rfl
 · split
   · exact xG.1
   · rfl
theorem K8 (h:∃gb nb pb mb n cv D tb,SysAt W sb gb nb pb mb n cv D cbs tb own s) (hI:InvY k b n s) (hk:k<=400) (hb:b<=1000000000000000000) (id:Int) (h1:-9223372036854775808<=id) (h2:id<=9223372036854775807) :
 InvY k (b+k*232792560) n (fX s id).2/\(fX s id).2.gs=s.gs /\
 Calls Tryz.prog 51 #[.pointer (some ⟨sb,0,none⟩),I id] W fun e w'=>e=.returned (I (fX s id).1)/\YQ sb cbs own (fX s id).2 W w':=by
 obtain⟨gb,nb,pb,mb,nn,cv,D,tb,hS⟩:=h;have hn:=hS.num;have hl:=hI.len;have iT:YQ sb cbs own s W W:=YQ.below hS (Below.refl _ _);have hm:InvY k (b+k*232792560) n s:=hI.mono (Nat.le_refl _) (by omega);unfold fX;cases ht:s.tasks id with
 | none=>exact⟨hm,rfl,(Uj sb gb nb pb mb nn cv D cbs tb own s id W hS h1 h2 ht).mono (fun e w' ⟨he,hw⟩=>⟨he,hw ▸ iT⟩)⟩
 | some t=>
  simp only
  have hi:t.state=2->t.core=((t.core.toNat:Nat):Int)/\t.core.toNat<n:=fun h2=>by
   obtain⟨i,hi,aN,-⟩:=hI.at_ ht h2;omega
  by_cases he:(nxt t.state 8).2=0
  · rw[if_pos he];exact⟨hI.end_ ht hi,rfl,(KY sb cbs own s id t t.core.toNat W ⟨gb,nb,pb,mb,nn,cv,D,tb,hS⟩ h1 h2 ht he (fun hh=>⟨(hi hh).1,by rw[hn,hl];exact(hi hh).2⟩) (hI.fitsY hk hb) ⟨by rw[hI.pslen];exact Nat.le_refl _,fun j hj=>by
     have:=hI.psat j (by rw[<- hI.pslen];exact hj);omega⟩ (hI.hasK ((hI.names id).1 (by rw[ht];simp))).1)⟩
  · rw[if_neg he];exact⟨hm,rfl,(QZ sb gb nb pb mb nn cv D cbs tb own s id t W hS h1 h2 ht he).mono (fun e w' ⟨he,hw⟩=>⟨he,hw ▸ iT⟩)⟩
theorem Vw (h:∃gb nb pb mb n cv D tb,SysAt W sb gb nb pb mb n cv D cbs tb own s) (hI:InvY k b n s) (hk:k<=400) (hb:b<=1000000000000000000) (id w:Int) (h1:-9223372036854775808<=id) (h2:id<=9223372036854775807) :
 InvY k (b+k*232792560) n (uj s id w).2/\(uj s id w).2.gs=s.gs /\
 Calls Tryz.prog 52 #[.pointer (some ⟨sb,0,none⟩),I id,I w] W fun e w'=>e=.returned (I (uj s id w).1)/\YQ sb cbs own (uj s id w).2 W w':=by
 obtain⟨gb,nb,pb,mb,nn,cv,D,tb,hS⟩:=h;have hn:=hS.num;have hl:=hI.len;have iT:YQ sb cbs own s W W:=YQ.below hS (Below.refl _ _);have hm:InvY k (b+k*232792560) n s:=hI.mono (Nat.le_refl _) (by omega);unfold uj;cases ht:s.tasks id with
 | none=>exact⟨hm,rfl,(Xk sb gb nb pb mb nn cv D cbs tb own s id w W hS h1 h2 ht).mono (fun e w' ⟨he,hw⟩=>⟨he,hw ▸ iT⟩)⟩
 | some t=>
  simp only
  have hT:=hI.task id t ht;by_cases hw:zQ w=false
  · rw[if_pos hw];exact⟨hm,rfl,(V7 sb gb nb pb mb nn cv D cbs tb own s id w t W hS h1 h2 ht hw).mono (fun e w' ⟨he,hw⟩=>⟨he,hw ▸ iT⟩)⟩
  · rw[if_neg hw];have nj:zQ w=true:=by simpa using hw
    have Dl:1<=w/\w<=20:=by
     unfold zQ at nj;simp only[Bool.and_eq_true,decide_eq_true_eq] at nj;exact nj
    by_cases h5:t.state=2
    · rw[if_pos h5];obtain⟨i,hi,aN,-⟩:=hI.at_ ht h5;rw[show t.core.toNat=i from by omega];obtain⟨a,c⟩:=hI.weigh ht h5 hi aN Dl;exact⟨c,rfl,(QI sb gb nb pb mb nn cv D cbs tb own s id w t i W hS h1 h2 ht nj h5 hi (by omega) (hI.fitsY hk hb) a).mono (fun e w' ⟨he,hw⟩=>⟨he,hw.q⟩)⟩
    · rw[if_neg h5];exact⟨(hI.setK ht (t':=wTk t w) ⟨hT.id,Dl,hT.mask,hT.st,hT.core,hT.has,hT.lag,hT.grp⟩ (.inl ⟨h5,h5⟩)).mono (Nat.le_refl _) (by omega),rfl,(V8 sb gb nb pb mb nn cv D cbs tb own s id w t W hS h1 h2 ht nj h5).mono (fun e w' ⟨he,hw⟩=>⟨he,hw.q⟩)⟩
theorem Q4 (h:∃gb nb pb mb n cv D tb,SysAt W sb gb nb pb mb n cv D cbs tb own s) (hI:InvY k b n s) (hk:k<=400) (hb:b<=1000000000000000000) (id tg:Int) (h1:-9223372036854775808<=id) (h2:id<=9223372036854775807) :
 InvY k (b+k*232792560+k*232792560) n (xP s id tg).2/\(xP s id tg).2.gs=s.gs /\
 Calls Tryz.prog 54 #[.pointer (some ⟨sb,0,none⟩),I id,I tg] W fun e w'=>e=.returned (I (xP s id tg).1)/\YQ sb cbs own (xP s id tg).2 W w':=by
 obtain⟨gb,nb,pb,mb,nn,cv,D,tb,hS⟩:=h;have hn:=hS.num;have hl:=hI.len;have iT:YQ sb cbs own s W W:=YQ.below hS (Below.refl _ _);have hm:InvY k (b+k*232792560+k*232792560) n s:=hI.mono (Nat.le_refl _) (by omega);unfold xP;cases ht:s.tasks id with
 | none=>exact⟨hm,rfl,(Wx sb gb nb pb mb nn cv D cbs tb own s id tg W hS h1 h2 ht).mono (fun e w' ⟨he,hw⟩=>⟨he,hw ▸ iT⟩)⟩
 | some t=>
  simp only
  have hT:=hI.task id t ht;by_cases hs:onT t=false\/zW t.mask tg=false\/tg=t.core
  · rw[if_pos hs];exact⟨hm,rfl,(Wy sb gb nb pb mb nn cv D cbs tb own s id tg t W hS h1 h2 ht hT.mask.1 hs).mono (fun e w' ⟨he,hw⟩=>⟨he,hw ▸ iT⟩)⟩
  · rw[if_neg hs];have hh:zW t.mask tg=true:=by
     by_cases e:zW t.mask tg=true
     · exact e
     · exact absurd (.inr (.inl (by simpa using e))) hs
    have ay:tg≠t.core:=fun e=>hs (.inr (.inr e));obtain⟨j,rfl,hj⟩:=gG hT.mask.1 hT.mask.2 hh;by_cases h5:t.state=5
    · rw[if_pos h5];exact⟨(hI.setK ht (t':=coT t (j:Int)) ⟨hT.id,hT.w,hT.mask,hT.st,fun _=>⟨j,rfl,hj⟩,fun _=>hh,hT.lag,hT.grp⟩ (.inl ⟨by omega,by show t.state≠2;omega⟩)).mono (Nat.le_refl _) (by omega),rfl,(dL sb gb nb pb mb nn cv D cbs tb own s id j t W hS h1 h2 ht hT.mask.1 h5 hh ay).mono (fun e w' ⟨he,hw⟩=>⟨he,hw.q⟩)⟩
    · rw[if_neg h5];have Ci:t.state=2:=by
       by_cases e:onT t=false
       · exact absurd (.inl e) hs
       · rcases hT.st with ru | ru | ru | ru
         · unfold onT at e;rw[ru] at e;exact absurd rfl e
         · exact ru
         · unfold onT at e;rw[ru] at e;exact absurd rfl e
         · exact absurd ru h5
      obtain⟨i,hi,aN,-⟩:=hI.at_ ht Ci;rw[show t.core.toNat=i from by omega,Int.toNat_natCast];obtain⟨a,c⟩:=hI.moveG hk ht Ci hi aN hj t.mask hT.mask hh;have T9:zI t t.mask=t:=rfl;rw[T9,k8 ht] at a c;exact⟨c,xG.1,(cL sb gb nb pb mb nn cv D cbs tb own s id t i j W hS h1 h2 ht hT.mask.1 Ci hh hi (fun e=>ay (by rw[hi,e])) (by omega) (by omega) (hI.fitsY hk hb) a).mono (fun e w' ⟨he,hw⟩=>⟨he,hw.q⟩)⟩
theorem Q2 (h:∃gb nb pb mb n cv D tb,SysAt W sb gb nb pb mb n cv D cbs tb own s) (hI:InvY k b n s) (hk:k<=400) (hb:b<=1000000000000000000) (id m:Int) (h1:-9223372036854775808<=id) (h2:id<=9223372036854775807) (hm:0<=m/\m<65536) :
 InvY k (b+k*232792560+k*232792560) n (qM s id m).2/\(qM s id m).2.gs=s.gs /\
 Calls Tryz.prog 53 #[.pointer (some ⟨sb,0,none⟩),I id,.int .u16 m] W fun e w'=>e=.returned (I (qM s id m).1)/\YQ sb cbs own (qM s id m).2 W w':=by
 obtain⟨gb,nb,pb,mb,nn,cv,D,tb,hS⟩:=h;have hn:=hS.num;have hl:=hI.len;have h8:=hI.n8;have iT:YQ sb cbs own s W W:=YQ.below hS (Below.refl _ _);have rN:InvY k (b+k*232792560+k*232792560) n s:=hI.mono (Nat.le_refl _) (by omega);unfold qM;cases ht:s.tasks id with
 | none=>exact⟨rN,rfl,(XL sb gb nb pb mb nn cv D cbs tb own s id m W hS h1 h2 ht).mono (fun e w' ⟨he,hw⟩=>⟨he,hw ▸ iT⟩)⟩
 | some t=>
  simp only
  have hT:=hI.task id t ht;by_cases hg:ye m s.cores.length=false
  · rw[if_pos hg];exact⟨rN,rfl,(VX sb gb nb pb mb nn cv D cbs tb own s id m t W hS h1 h2 ht hm (by omega) (by rw[hn];exact hg)).mono (fun e w' ⟨he,hw⟩=>⟨he,hw ▸ iT⟩)⟩
  · rw[if_neg hg];have ic:ye m s.cores.length=true:=by simpa using hg
    have Fu:ye m n=true:=by rw[<- hl];exact ic
    by_cases hs:onT t=false\/zW m t.core=true
    · rw[if_pos hs];refine⟨(hI.setK ht (t':=zI t m) ⟨hT.id,hT.w,⟨hm,Fu⟩,hT.st,hT.core,fun hh=>?_,hT.lag,hT.grp⟩ (.inr ⟨rfl,rfl,rfl⟩)).mono (Nat.le_refl _) (by omega),rfl,(XM sb gb nb pb mb nn cv D cbs tb own s id m t W hS h1 h2 ht hm (by omega) (by rw[hn];exact ic) hs).mono (fun e w' ⟨he,hw⟩=>⟨he,hw.q⟩)⟩;rcases hs with hs | hs
      · replace hh:t.state=2\/t.state=5:=hh;unfold onT at hs;rcases hh with hh | hh <;> rw[hh] at hs <;> exact absurd hs (by decide)
      · exact hs
    · rw[if_neg hs];have ho:onT t=true:=by
       by_cases e:onT t=true
       · exact e
       · exact absurd (.inl (by simpa using e)) hs
      have hh:zW m t.core=false:=by
       by_cases e:zW m t.core=true
       · exact absurd (.inr e) hs
       · simpa using e
      obtain⟨j,hj,mZ,D9⟩:=ws hI ⟨hm,Fu⟩;have l9:=hj;unfold uf at l9;have C3:(j:Int)≠t.core:=fun e=>by rw[<- e,D9] at hh;cases hh
      have CU:xT (setTk s id (zI t m)):=hI.fitsY hk hb;by_cases h5:t.state=5
      · rw[if_pos h5,hj];refine⟨?_,rfl,(dx sb gb nb pb mb nn cv D cbs tb own s id m t j _ W hS h1 h2 ht hm (by omega) (by omega) (hI.fitsY hk hb) (by rw[hn];exact ic) ho hh l9 (fun W1 eu=>dL sb gb nb pb mb nn cv D cbs tb own _ id j (zI t m) W1 eu h1 h2 (wW _ _ _) hm h5 D9 C3)).mono (fun e w' ⟨he,hw⟩=>⟨he,hw.q⟩)⟩;rw[vk];exact(hI.setK ht (t':=coT (zI t m) (j:Int)) ⟨hT.id,hT.w,⟨hm,Fu⟩,hT.st,fun _=>⟨j,rfl,mZ⟩,fun _=>D9,hT.lag,hT.grp⟩ (.inl ⟨by omega,by show t.state≠2;omega⟩)).mono (Nat.le_refl _) (by omega)
      · rw[if_neg h5];have Ci:t.state=2:=by
         rcases hT.st with ru | ru | ru | ru
         · unfold onT at ho;rw[ru] at ho;exact absurd ho (by decide)
         · exact ru
         · unfold onT at ho;rw[ru] at ho;exact absurd ho (by decide)
         · exact absurd ru h5
        obtain⟨i,hi,aN,-⟩:=hI.at_ ht Ci;rw[show t.core.toNat=i from by omega,hj,Int.toNat_natCast];obtain⟨a,c⟩:=hI.moveG hk ht Ci hi aN mZ m ⟨hm,Fu⟩ D9;refine⟨c,xG.1,(dx sb gb nb pb mb nn cv D cbs tb own s id m t j _ W hS h1 h2 ht hm (by omega) (by omega) (hI.fitsY hk hb) (by rw[hn];exact ic) ho hh l9 (fun W1 eu=>cL sb gb nb pb mb nn cv D cbs tb own _ id (zI t m) i j W1 eu h1 h2 (wW _ _ _) hm Ci D9 hi (fun e=>C3 (by rw[hi,e])) (by omega) (by omega) CU a)).mono (fun e w' ⟨he,hw⟩=>⟨he,hw.q⟩)⟩
end
section
attribute [local go_sem] Oper.semAt_some
theorem b9 {s:Sy} {ids:List Int} {k:Nat} (h:k<ids.length) {t:Tk} (ht:s.tasks ids[k]=some t):evL s (ids.take (k+1))=evL s (ids.take k)++(if t.state=2 then[⟨t.id,t.w,t.core,t.mask⟩] else[]):=by
 unfold evL;rw[List.take_succ_eq_append_getElem h,List.filterMap_append];congr 1
 rw[List.filterMap_cons,ht];by_cases h2:t.state=2
 · simp[h2]
 · simp[h2]
theorem cA {s:Sy} {ids:List Int} {k:Nat} (h:k<(evL s ids).length):∃x t,x∈ids/\s.tasks x=some t/\t.state=2/\(evL s ids)[k]! = ⟨t.id,t.w,t.core,t.mask⟩:=by
 rw[getElem!_pos (evL s ids) k h];have:=List.getElem_mem h;generalize(evL s ids)[k]=y at this⊢;unfold evL at this;obtain⟨x,hx,e⟩:=List.mem_filterMap.1 this;cases ht:s.tasks x with
 | none=>rw[ht] at e;cases e
 | some t=>
  rw[ht] at e;simp only at e;split at e
  · rename_i h2;exact⟨x,t,hx,ht,h2,by simpa using e.symm⟩
  · cases e
theorem gE (s:Sy) (ids:List Int):(evL s ids).length<=ids.length:=List.length_filterMap_le _ _
theorem hU (l:List Lt) (p:Lt):xe (l++[p])=xe l++ltV p:=by simp[xe]
theorem vV.below' {W W':World} {g:Nat} {l:List Lt} {p:Option Addr} {M:Nat} (h:vV W g l) (hb:Below W.heap.size W W') (hM:l.length=M) (hg:0<M->p=some ⟨g,0,none⟩/\g<W.heap.size):vV W' g l:=fun k hk=>h.below hb (hg (by omega)).2 k hk
theorem bQ {t:TypeId} {W:World} {B:Nat} {v:Value} {l:List Lt} (h:W.ownsRow B t 4 v l.length (xe l)):∃p c g,v=.slice p l.length c/\vV W g l/\(0<l.length->p=some ⟨g,0,none⟩/\g<W.heap.size):=by
 have h':=h;rcases h.2 with⟨e,h0⟩ | ⟨g,cap,cur,e,_⟩
 · exact⟨none,0,0,by rw[e,h0],fun k hk=>by omega,fun hk=>by omega⟩
 · subst e;exact⟨_,cap,g,rfl,cJ h',fun _=>⟨rfl,(h'.lt g rfl).2⟩⟩
theorem Uk (sb gb nb pb mb n:Nat) (cv:Value) (D:DataW Unit) (cbs:List Nat) (tb:Int->Nat) (own:Nat->Option Own) (s:Sy) (W:World) (h:SysAt W sb gb nb pb mb n cv D cbs tb own s) (hz:xj s.ps) (hd:gn s) (hf:xT s) (h0:0<cbs.length) (nd:cbs.length<=16)
 (i7:∀i,i<cbs.length->0<=(zj s).getD i 0/\(zj s).getD i 0<=1099511627776)
 (AN:∀x t,s.tasks x=some t->t.state=2->(1<=t.w/\t.w<=20/\0<=t.core/\t.core<cbs.length)/\0<=t.mask/\t.mask<65536) (mv:List Int->Sy)
 (mo:∀ids:List Int,ids.Perm (zf s.ps)->(yF (zj s) (evL s ids)).2.2=true->∀W',SysAt W' sb gb nb pb mb n cv D cbs tb own s->Calls Tryz.prog 54 #[.pointer (some ⟨sb,0,none⟩),I (yF (zj s) (evL s ids)).1,I (yF (zj s) (evL s ids)).2.1] W' fun e w'=>e=.returned (I 0)/\YP sb gb nb pb mb n cv D cbs tb own (mv ids) W' w') :
 Calls Tryz.prog 57 #[.pointer (some ⟨sb,0,none⟩)] W fun e w'=>∃ids:List Int,ids.Perm (zf s.ps)/\ids.Pairwise (fun a b=>¬b<a) /\
  ((e=.returned (.tuple #[I 0,.bool false])/\(yF (zj s) (evL s ids)).2.2=false/\YP sb gb nb pb mb n cv D cbs tb own s W w') \/
   (e=.returned (.tuple #[I (yF (zj s) (evL s ids)).1,.bool true])/\(yF (zj s) (evL s ids)).2.2=true/\YP sb gb nb pb mb n cv D cbs tb own (mv ids) W w')):=by
 have lf:=kA sb gb nb pb mb n cv D cbs tb own s W h hz hd;have nu:(zf s.ps).length<=64:=Nat.le_trans (yl _ _) hz.1;obtain⟨i0,hi,eG,aI,et⟩:=info_parts U6;have HS:=lH h;have HD:=lH hd;have HF:=lH hf;have oQ:=lH i7;have Gh:=lH AN;have Gd:=lH mo;obtain⟨P1,Gr⟩:∃P:Ending->World->Prop,P=(fun e w'=>∃ids:List Int,ids.Perm (zf s.ps)/\ids.Pairwise (fun a b=>¬b<a) /\
  ((e=.returned (.tuple #[I 0,.bool false])/\(yF (zj s) (evL s ids)).2.2=false/\YP sb gb nb pb mb n cv D cbs tb own s W w') \/
   (e=.returned (.tuple #[I (yF (zj s) (evL s ids)).1,.bool true])/\(yF (zj s) (evL s ids)).2.2=true/\YP sb gb nb pb mb n cv D cbs tb own (mv ids) W w'))):=⟨_,rfl⟩
 rw[<- Gr];have RK:=lH Gr;clear h hz hd hf i7 AN mo Gr;go_enter Tryz.func57,Tryz.ntmps57;go_wp2_with fail
 refine lf.mono ?_;rintro e w1 ⟨v,ids,rfl,eD,oK,aa,ab⟩;obtain⟨m,hm⟩:∃m,ids.length=m:=⟨_,rfl⟩
 obtain⟨p,c,hv⟩:∃p c,v=.slice p m c:=by
  rcases aa.2 with⟨e,h0⟩ | ⟨g,cap,cur,e,_⟩
  · exact⟨none,0,by rw[e,<- hm,h0]⟩
  · exact⟨_,_,by rw[e,hm]⟩
 subst hv;have C5:m<=64:=by rw[<- hm,eD.length_eq];exact nu
 have HR:=lH aa;have ef:=lH ab;have Cf:=lH eD;have CC:=lH oK;have HM:=lH hm;have iL:=lH (HS.out.below ab);clear lf aa ab eD oK hm;go_wp2_with fail
 go_loopw [4,13] (fun x4 x wr=>∃k:Nat,k<=m/\x=I k/\Hid (wr.ownsRow w1.heap.size 207 4 x4 (evL s (ids.take k)).length (xe (evL s (ids.take k))))/\Hid (Below w1.heap.size w1 wr)) (fun _ x _=>m-(intOf x).toNat)
 case atStart=>exact⟨0,Nat.zero_le _,rfl,lH (World.ownsRow_nil ..),lH (Below.refl _ _)⟩
 case round=>
  obtain⟨k,hk,rfl,A8,HB⟩:=hrel;by_cases rq:k<m
  · have iY:(k:Int)<(m:Int):=by omega
    have aX:0<=(k:Int):=by omega
    have aw:k<ids.length:=by rw[HM.out];exact rq
    obtain⟨g,hp⟩:∃g,p=some ⟨g,0,none⟩:=by
     rcases HR.out.2 with⟨_,h0⟩ | ⟨g,cap,cur,e,_⟩
     · have:=HM.out;omega
     · simp only[Value.slice.injEq] at e;exact⟨g,e.1⟩
    subst hp;have eL:=HR.out.lt g rfl;have Ax:=iL.out.below HB.out;have ap:wr.cell? ⟨g,k,none⟩=some (.pointer (some ⟨tb (ids[k]'aw),0,none⟩)):=by
     refine(HB.out.cell (p:=⟨g,k,none⟩) eL.2).trans ?_;have:=HR.out.cells (g:=g) rfl k (.pointer (some ⟨tb (ids[k]'aw),0,none⟩)) (by rw[List.getElem?_map,List.getElem?_eq_getElem aw];rfl);simpa [Addr.add_lit] using this
    have ev:(ids[k]'aw)∈zf s.ps:=Cf.out.subset (List.getElem_mem aw);obtain⟨_,t,ht,-⟩:=HD.out _ ev;have hT:=(Ax.task _ t ht).1;have iB:=b9 aw ht;have ag:=gE s (ids.take k);rw[List.length_take] at ag;obtain⟨q,hq⟩:∃q,(evL s (ids.take k)).length=q:=⟨_,rfl⟩
    rw[hq] at A8 ag;obtain⟨t0,t1,t3,t4,t5⟩:=And.intro hT.id (And.intro hT.w (And.intro hT.core (And.intro hT.state hT.mask)));generalize tb (ids[k]'aw)=b at ap t0 t1 t3 t4 t5;have HQ:=lH hq;have iD:=lH iB;have oH:=HB.out.size;clear Ax ev ht hT iB hq;by_cases h2:t.state=2
    · have oC:Hid (evL s (ids.take (k+1))=evL s (ids.take k)++[⟨t.id,t.w,t.core,t.mask⟩]):=lH (iD.out.trans (by rw[if_pos h2]));rw[h2] at t4;have aa:=A8.out.drew;go_wp2_with fail
      have Sm:Below w1.heap.size w1 wr.drew:=HB.out.drew;go_region_law (first | (refine step_append_lies _ (by rfl) _ _ _ (by rfl) w1.heap.size 207 i0 _ 4 32 Tryz.underlying205 hi eG aI et rfl (by omega) _ q (xe (evL s (ids.take k))) (by rfl) (aa.alloc _) ⟨_,0,none⟩ 1 1 [I t.id,I t.w,I t.core,.int .u16 t.mask] (by rfl) (by rfl) (World.news_of_block (cs:=#[I t.id,I t.w,I t.core,.int .u16 t.mask]) (t:=207) (fr:=(0,0)) (heap_alloc_new _ _)) (by simp[Value.oneCell']) (by omega) (by unfold maxLen;omega) (by omega) (by simp;omega) _ rfl ?_;intro gg cap w4 aV aq eW ln) | fail)
      all_goals
       have hr:w4.ownsRow w1.heap.size 207 4 (.slice (some ⟨gg,0,none⟩) (q+1) cap) (evL s (ids.take (k+1))).length (xe (evL s (ids.take (k+1)))):=by
        rw[oC.out,hU,List.length_append,HQ.out];exact aV
       have Ap:=lH hr;have AQ:Hid (Below w1.heap.size w1 w4):=lH ((Sm.alloc (by exact oH) _).grown aq (by simp;omega) (fun j hj=>(aa.lt j hj).1));clear hr aV aq eW ln;go_wp2_with fail
       go_roundw
       case rel=>exact⟨k+1,rq,by go_num,Ap,AQ⟩
       case measure=>simp[intOf];omega
    · have oC:Hid (evL s (ids.take (k+1))=evL s (ids.take k)):=lH (iD.out.trans (by rw[if_neg h2,List.append_nil]));go_wp2_with fail
      go_roundw
      case rel=>exact⟨k+1,rq,by go_num,by rw[oC.out,HQ.out];exact A8,HB⟩
      case measure=>simp[intOf];omega
  · obtain rfl:k=m:=by omega
    have FS:=A8.out;rw[show ids.take k=ids from List.take_of_length_le (by rw[HM.out];exact Nat.le_refl _)] at FS;obtain⟨pl,cl,gl,Oc,tJ,C7⟩:=bQ FS;subst Oc;have iA:=iL.out.below HB.out;have BD:=dH sb gb nb pb mb n cv D cbs tb own s wr iA HF.out h0 nd;have ag:(zj s).length=cbs.length:=by unfold zj;rw[List.length_map];exact HS.out.num.symm
    have ev:=fun k (hk:k<(evL s ids).length)=>cA hk;have mx:=gE s ids;have mo:=Gd.out ids Cf.out;obtain⟨l,lI⟩:∃l,evL s ids=l:=⟨_,rfl⟩
    obtain⟨xs,GK⟩:∃xs,zj s=xs:=⟨_,rfl⟩
    have i7:=oQ.out;have Gr:=RK.out;have E3:∀e w',((e=.returned (.tuple #[I 0,.bool false])/\(yF xs l).2.2=false/\YP sb gb nb pb mb n cv D cbs tb own s W w')\/(e=.returned (.tuple #[I (yF xs l).1,.bool true])/\(yF xs l).2.2=true/\YP sb gb nb pb mb n cv D cbs tb own (mv ids) W w'))->P1 e w':=fun e w' h=>by
     rw[Gr];refine⟨ids,Cf.out,CC.out.imp (fun h=>by omega),?_⟩;rw[lI,GK];exact h
    rw[lI] at tJ C7 ev mx mo;rw[GK] at BD ag mo i7;rw[lI];obtain⟨M,hM⟩:∃M,l.length=M:=⟨_,rfl⟩
    have mC:∀k,k<M->(1<=l[k]!.w/\l[k]!.w<=20/\0<=l[k]!.core/\l[k]!.core<cbs.length)/\0<=l[k]!.mask/\l[k]!.mask<65536:=fun k hk=>by
     obtain⟨x,t,_,ht,h2,e⟩:=ev k (by omega);rw[e];exact Gh.out x t ht h2
    rw[hM] at C7⊢;have EG:=lH tJ;have CB:=lH C7;have px:=lH mC;have Sc:=lH i7;have mL:=lH ag;have GZ:=lH mo;have Ce:=lH E3;have A5:=lH hM;have iy:=lH iA;have MZ:M<1000000:=by have:=HM.out;omega
    have ew:=lH (ef.out.trans (HB.out.mono ef.out.size));clear FS tJ C7 iA ev mx mo lI GK i7 Gr E3 hM mC ag;go_wp2_with fail
    refine BD.mono ?_;rintro e w2 ⟨vl,rfl,om,ar⟩;rw[<- mL.out] at om;obtain⟨g2,cc2,GI,ap⟩:=us om (by rw[mL.out];exact h0);subst GI;have oI:=om.lt g2 rfl;have lP:=Wo g2 cc2 xs.length gl cl M pl xs l w2 rfl A5.out ap (by rw[mL.out];exact Sc.out) (EG.out.below' ar A5.out CB.out) (by rw[mL.out];exact fun k hk=>(px.out k hk).1) (fun k hk=>(px.out k hk).2) (by rw[mL.out];exact h0) (by rw[mL.out];exact nd) MZ (fun h=>⟨(CB.out h).1,Nat.lt_of_lt_of_le (CB.out h).2 ar.size⟩) oI.2;have rP:=GZ.out;have E3:=Ce.out;obtain⟨⟨r1,r2,r3⟩,hr⟩:∃r,yF xs l=r:=⟨_,rfl⟩
    rw[hr] at lP rP E3;rw[mL.out] at lP⊢;simp only at lP rP E3;have Lp:=lH E3;have EH:=lH rP;have GO:=lH (ew.out.trans (ar.mono ew.out.size));clear om ap oI ar rP E3 hr Ce GZ;go_wp2_with fail
    refine lP.mono ?_;rintro e w3 ⟨rfl,aK⟩;have tT:=lH (GO.out.trans (aK.mono GO.out.size));have rW:=lH (HS.out.below tT.out);clear lP aK;cases r3 with
    | false=>
     go_wp2_with fail
     (try go_ret2)
     exact Lp.out _ _ (.inl ⟨rfl,by simp,own,rW.out,fun _ _=>rfl,Touch.of_below tT.out⟩)
    | true=>
     have BK:=EH.out rfl w3 rW.out;go_wp2_with fail
     refine BK.mono ?_;rintro e w4 ⟨rfl,own',sR,PM,tO⟩;have EK:=lH sR;have RH:=lH PM;have CE:=lH tO;clear BK sR PM tO;go_wp2_with fail
     (try go_ret2)
     exact Lp.out _ _ (.inr ⟨rfl,by simp,own',EK.out,fun k hk=>RH.out k (Nat.lt_of_lt_of_le hk tT.out.size),(Touch.of_below tT.out).self CE.out⟩)
def xW (zs:List Int) (n:Nat):List Int:=(List.range n).map fun i=>zs.getD i 0
theorem wt (zs:List Int) (n:Nat):(xW zs n).length=n:=by simp[xW]
theorem dG (zs:List Int) (n k:Nat) (hk:k<n):(xW zs n).getD k 0=zs.getD k 0:=by
 simp[xW,List.getD_eq_getElem?_getD,hk]
theorem kK.same {W W':World} {ob wb sb:Nat} {s:Sy} {m:Nat} {cbs:List Nat} {L:Int->Option Tr} {own:Nat->Option Own} {ow:Nat->Option OwnW} (h:kK W ob wb sb s m cbs L own ow) (hs:W.heap.size<=W'.heap.size)
 (hb:∀k,(k=ob\/own k≠none\/ow k≠none)->W'.heap[k]? = W.heap[k]?):kK W' ob wb sb s m cbs L own ow:=by
 obtain⟨h1,⟨⟨gb,nb,pb,mb,n,cv,D,tb,hS⟩,⟨mb2,n2,av,D2,tbs,ttb,hW⟩,hd⟩,h3,h4⟩:=h;exact⟨(hb ob (.inl rfl)).trans h1,⟨⟨gb,nb,pb,mb,n,cv,D,tb,hS.same hs (fun k hk=>hb k (.inr (.inl hk)))⟩,⟨mb2,n2,av,D2,tbs,ttb,hW.same hs (fun k hk=>hb k (.inr (.inr hk)))⟩,hd⟩,h3,h4⟩
end
end Go.Proofs.YtoiajjobecinpaaGreat

/- The document's own accounts: New, Good. The document's own accounts: Spent, Use. The document's own  -/
import Derived.Deep.Slices
import Derived.Lib.SmallJoins
import Derived.OpenShut
import Derived.Test.YtoiajjobecinpaaGreatTM27
set_option maxHeartbeats 4000000
set_option maxRecDepth 100000
namespace Go.Proofs.YtoiajjobecinpaaGreat
open Go.RowKit Go.Shelf Go.Lib Go.Proofs
set_option linter.unusedVariables false
set_option linter.unusedSimpArgs false
def uN (q p:Int):Prop:=(q=0/\p=0)\/(1<=q/\q<=1073741824/\1<=p/\p<=1073741824)
theorem dO:wF 0 0=((0,0,0,0),0):=by decide
theorem bW {q p:Int} (h1:1<=q) (h2:q<=1073741824) (h3:1<=p) (h4:p<=1073741824):wF q p=((q,p,q,0),0):=by
 unfold wF;rw[if_pos (yi (by unfold yb;omega))]
theorem Xz {q p:Int} (h:¬uN q p):wF q p=((0,0,0,0),1):=by
 unfold wF;rw[if_neg];unfold xV uN yN yb at *;simp only[decide_eq_true_eq];omega
theorem xY (q p:Int) (w:World) :
 Calls Tryz.prog 62 #[I q,I p] w fun e w'=>e=.returned (.tuple #[vr (wF q p).1,I (wF q p).2])/\Below w.heap.size w w':=by
 by_cases h:uN q p
 · by_cases h0:q=0
   · obtain rfl:=h0;have hp:p=0:=by unfold uN at h;omega
     subst hp;rw[dO];go_enter Tryz.func62,Tryz.ntmps62;go_wp2
     refine bodyPost_ret (v:=.tuple #[acc 0 0 0 0,I 0]) (by simp[results,Tryz.results62,go_sem]) rfl ⟨rfl,xx _ _⟩
   · obtain⟨h1,h2,h3,h4⟩:1<=q/\q<=1073741824/\1<=p/\p<=1073741824:=by unfold uN at h;omega
     rw[bW h1 h2 h3 h4];have e0:(q==0)=false:=beq_eq_false_iff_ne.2 h0;clear h;go_enter Tryz.func62,Tryz.ntmps62;go_wp2
     refine bodyPost_ret (v:=.tuple #[acc q p q 0,I 0]) (by simp[results,Tryz.results62,go_sem]) rfl ⟨rfl,xx _ _⟩
 · rw[Xz h];unfold uN at h;by_cases h0:q=0
   · have hp:(p==0)=false:=beq_eq_false_iff_ne.2 (by omega);have e0:(q==0)=true:=beq_iff_eq.2 h0;have e1:q<1:=by omega
     clear h h0;go_enter Tryz.func62,Tryz.ntmps62;go_wp2
     refine bodyPost_ret (v:=.tuple #[acc 0 0 0 0,I 1]) (by simp[results,Tryz.results62,go_sem]) rfl ⟨rfl,xx _ _⟩
   · have e0:(q==0)=false:=beq_eq_false_iff_ne.2 h0;by_cases c1:q<1
     · clear h;go_enter Tryz.func62,Tryz.ntmps62;go_wp2
       refine bodyPost_ret (v:=.tuple #[acc 0 0 0 0,I 1]) (by simp[results,Tryz.results62,go_sem]) rfl ⟨rfl,xx _ _⟩
     · by_cases c2:1073741824<q
       · clear h;go_enter Tryz.func62,Tryz.ntmps62;go_wp2
         refine bodyPost_ret (v:=.tuple #[acc 0 0 0 0,I 1]) (by simp[results,Tryz.results62,go_sem]) rfl ⟨rfl,xx _ _⟩
       · by_cases c3:p<1
         · clear h;go_enter Tryz.func62,Tryz.ntmps62;go_wp2
           refine bodyPost_ret (v:=.tuple #[acc 0 0 0 0,I 1]) (by simp[results,Tryz.results62,go_sem]) rfl ⟨rfl,xx _ _⟩
         · have c4:1073741824<p:=by omega
           clear h;go_enter Tryz.func62,Tryz.ntmps62;go_wp2
           refine bodyPost_ret (v:=.tuple #[acc 0 0 0 0,I 1]) (by simp[results,Tryz.results62,go_sem]) rfl ⟨rfl,xx _ _⟩
theorem Ur {q p l f:Int} (h:xV q p l f=true):uN q p:=by
 unfold xV yN yb at h;simp only[decide_eq_true_eq] at h;unfold uN;omega
theorem Wi {q p l f:Int} (h:uN q p) (h1:0<=l) (h2:l<=q) (h3:0<=f):xV q p l f=decide (f<p\/yN q p l f):=by
 unfold xV;refine decide_eq_decide.2 ?_;unfold uN at h;unfold yN yb;omega
theorem Uq {q p l f:Int} (h:l<0\/q<l\/f<0):xV q p l f=false:=by
 unfold xV;refine decide_eq_false ?_;unfold yN yb;omega
theorem wx (q p l f:Int) (w:World) :
 Calls Tryz.prog 135 #[acc q p l f] w fun e w'=>e=.returned (.bool (xV q p l f))/\Below w.heap.size w w':=by
 by_cases h:uN q p
 · obtain⟨⟨n1,n2,n3,n4⟩,HN⟩:∃r:XC,Hid (wF q p=(r,0)):=by
    unfold uN at h;by_cases h0:q=0
    · have hp:p=0:=by omega
      subst h0 hp;exact⟨_,lH dO⟩
    · exact⟨_,lH (bW (by omega) (by omega) (by omega) (by omega))⟩
   by_cases c:0<=l/\l<=q/\0<=f
   · obtain⟨c1,c2,c3⟩:=c;rw[Wi h c1 c2 c3];have HH:=lH h;clear h;by_cases d:f<p
     · rw[decide_eq_true (.inl d)];go_enter Tryz.func135,Tryz.ntmps135;go_wp2_with fail
       refine(xY q p _).mono ?_;rw[HN.out];rintro e w1 ⟨rfl,hb⟩;obtain⟨k0,k1,k2,k3⟩:=zi (zC hb (heap_alloc_new w _));have hz:=hb.size;rw[World.size_alloc] at hz;have Cv:w.heap.size<w1.heap.size:=by omega
       go_wp2
       go_ret
       exact⟨rfl,(y8 _ hb).alloc (by omega) _⟩
     · by_cases e:yN q p l f
       · rw[decide_eq_true (.inr e)];obtain⟨rfl,rfl,rfl,rfl⟩:=e;go_enter Tryz.func135,Tryz.ntmps135;go_wp2_with fail
         refine(xY 0 0 _).mono ?_;rw[HN.out];rintro e w1 ⟨rfl,hb⟩;obtain⟨k0,k1,k2,k3⟩:=zi (zC hb (heap_alloc_new w _));have hz:=hb.size;rw[World.size_alloc] at hz;have Cv:w.heap.size<w1.heap.size:=by omega
         go_wp2
         go_ret
         exact⟨rfl,(y8 _ hb).alloc (by omega) _⟩
       · rw[decide_eq_false (by rintro(g | g) <;> contradiction)];unfold yN at e;go_enter Tryz.func135,Tryz.ntmps135;go_wp2_with fail
         refine(xY q p _).mono ?_;rw[HN.out];rintro e w1 ⟨rfl,hb⟩;obtain⟨k0,k1,k2,k3⟩:=zi (zC hb (heap_alloc_new w _));have hz:=hb.size;rw[World.size_alloc] at hz;have Cv:w.heap.size<w1.heap.size:=by omega
         go_wp2
         all_goals first
          | (go_ret;exact⟨fA (by first | rfl | (rw[beq_eq_false_iff_ne];omega) | (simp;omega)),(y8 _ hb).alloc (by omega) _⟩)
          | (exfalso;omega)
   · rw[Uq (by omega)];clear h;by_cases c1:l<0
     · clear c;go_enter Tryz.func135,Tryz.ntmps135;go_wp2_with fail
       refine(xY q p _).mono ?_;rw[HN.out];rintro e w1 ⟨rfl,hb⟩;obtain⟨k0,k1,k2,k3⟩:=zi (zC hb (heap_alloc_new w _));have hz:=hb.size;rw[World.size_alloc] at hz;have Cv:w.heap.size<w1.heap.size:=by omega
       go_wp2
       go_ret
       exact⟨rfl,(y8 _ hb).alloc (by omega) _⟩
     · by_cases c2:q<l
       · clear c;go_enter Tryz.func135,Tryz.ntmps135;go_wp2_with fail
         refine(xY q p _).mono ?_;rw[HN.out];rintro e w1 ⟨rfl,hb⟩;obtain⟨k0,k1,k2,k3⟩:=zi (zC hb (heap_alloc_new w _));have hz:=hb.size;rw[World.size_alloc] at hz;have Cv:w.heap.size<w1.heap.size:=by omega
         go_wp2
         go_ret
         exact⟨rfl,(y8 _ hb).alloc (by omega) _⟩
       · have c3:f<0:=by omega
         clear c;go_enter Tryz.func135,Tryz.ntmps135;go_wp2_with fail
         refine(xY q p _).mono ?_;rw[HN.out];rintro e w1 ⟨rfl,hb⟩;obtain⟨k0,k1,k2,k3⟩:=zi (zC hb (heap_alloc_new w _));have hz:=hb.size;rw[World.size_alloc] at hz;have Cv:w.heap.size<w1.heap.size:=by omega
         go_wp2
         go_ret
         exact⟨rfl,(y8 _ hb).alloc (by omega) _⟩
 · have hg:xV q p l f=false:=by
    cases hh:xV q p l f with
    | false=>rfl
    | true=>exact absurd (Ur hh) h
   rw[hg];have HN:=lH (Xz h);clear h hg;go_enter Tryz.func135,Tryz.ntmps135;go_wp2_with fail
   refine(xY q p _).mono ?_;rw[HN.out];rintro e w1 ⟨rfl,hb⟩;obtain⟨k0,k1,k2,k3⟩:=zi (zC hb (heap_alloc_new w _));have hz:=hb.size;rw[World.size_alloc] at hz;have Cv:w.heap.size<w1.heap.size:=by omega
   go_wp2
   go_ret
   exact⟨rfl,(y8 _ hb).alloc (by omega) _⟩
theorem fC (q p l f:Int) (w:World) :
 Calls Tryz.prog 136 #[acc q p l f] w fun e w'=>e=.returned (.bool (xt q p l f))/\Below w.heap.size w w':=by
 have hg:=wx q p l f;rcases gh q p l f with h | h | h
 · rw[yi h] at hg;rw[kC h];have hq:0<q:=by unfold yb at h;omega
   clear h;go_enter Tryz.func136,Tryz.ntmps136;go_wp2_with fail
   refine(hg _).mono ?_;rintro e w1 ⟨rfl,hb⟩;obtain⟨k0,k1,k2,k3⟩:=zi (zC hb (heap_alloc_new w _));go_wp2
   go_ret
   exact⟨rfl,y8 _ hb⟩
 · rw[wn h] at hg;rw[show xt q p l f=false from decide_eq_false fun g=>xg h g.1];obtain⟨rfl,rfl,rfl,rfl⟩:=h;go_enter Tryz.func136,Tryz.ntmps136;go_wp2_with fail
   refine(hg _).mono ?_;rintro e w1 ⟨rfl,hb⟩;obtain⟨k0,k1,k2,k3⟩:=zi (zC hb (heap_alloc_new w _));go_wp2
   go_ret
   exact⟨rfl,y8 _ hb⟩
 · rw[h] at hg;rw[show xt q p l f=false from decide_eq_false fun g=>by rw[yi g.1] at h;cases h];clear h;go_enter Tryz.func136,Tryz.ntmps136;go_wp2_with fail
   refine(hg _).mono ?_;rintro e w1 ⟨rfl,hb⟩;go_wp2
   go_ret
   exact⟨rfl,y8 _ hb⟩
theorem Qp (q p l f:Int) (w:World) :
 Calls Tryz.prog 80 #[acc q p l f] w fun e w'=>e=.returned (.tuple #[vr (xu q p l f).1,I (xu q p l f).2])/\Below w.heap.size w w':=by
 have hg:=wx q p l f;have hs:=fC q p l f;rcases gh q p l f with h | h | h
 · rw[yi h] at hg;rw[kC h] at hs;have hq:0<q:=by unfold yb at h;omega
   by_cases rK:l=0
   · rw[decide_eq_true rK] at hs;rw[show xu q p l f=((0,0,0,0),14) from by unfold xu;rw[if_pos h,if_pos rK]];clear h rK;go_enter Tryz.func80,Tryz.ntmps80;go_wp2_with fail
     refine(hg _).mono ?_;rintro e w1 ⟨rfl,ab⟩;have b1:=z7 ab;have b2:=zx ab;obtain⟨y0,y1,y2,y3⟩:=zi b1;go_wp2_with fail
     refine(hs _).mono ?_;rintro e w2 ⟨rfl,ar⟩;replace b1:=zC ar b1;replace b2:=zC ar b2;have aI:=ab.size;rw[World.size_alloc,World.size_alloc] at aI;have iH:=(zT ab).trans (ar.mono (by omega))
     obtain⟨t0,t1,t2,t3⟩:=zi b2;have f2:=zc b2;obtain⟨r0,r1,r2,r3⟩:=zi (vt b2 (I 0) (I 0) (I 0) (I 0));clear b1 b2;go_wp2_with fail
     refine bodyPost_ret (v:=.tuple #[acc 0 0 0 0,I 14]) (by simp[results,Tryz.results80,go_sem,r0,r1,r2,r3]) rfl ⟨rfl,?_⟩;repeat (first | exact iH | refine Below.setCell ?_ (by simp) _)
   · rw[decide_eq_false rK] at hs;rw[show xu q p l f=((q,p,l-1,f),0) from by unfold xu;rw[if_pos h,if_neg rK]];have AE:1<=l:=by unfold yb at h;omega
     have pG:l<=1073741824:=by unfold yb at h;omega
     clear h rK;go_enter Tryz.func80,Tryz.ntmps80;go_wp2_with fail
     refine(hg _).mono ?_;rintro e w1 ⟨rfl,ab⟩;have b1:=z7 ab;have b2:=zx ab;obtain⟨y0,y1,y2,y3⟩:=zi b1;go_wp2_with fail
     clear y0 y1 y2 y3;refine(hs _).mono ?_;rintro e w2 ⟨rfl,ar⟩;replace b1:=zC ar b1;replace b2:=zC ar b2;have aI:=ab.size;rw[World.size_alloc,World.size_alloc] at aI;have iH:=(zT ab).trans (ar.mono (by omega))
     obtain⟨y0,y1,y2,y3⟩:=zi b1;obtain⟨t0,t1,t2,t3⟩:=zi b2;have f1:=zc b1;have f2:=zc b2;have m1:(w2.setCell ⟨w.heap.size,2,none⟩ (I (l-1))).heap[w.heap.size]? = some (.cells #[I q,I p,I (l-1),I f] 52 (0,0)):=by
      simp[World.setCell,Array.getElem?_modify,b1]
     obtain⟨_,_,m2,_⟩:=zi m1;have n1:(w2.setCell ⟨w.heap.size,2,none⟩ (I (l-1))).heap[w.heap.size+1]? = _:=(Below.heap_setCell _ _ _ _ (by simp)).trans b2;obtain⟨r0,r1,r2,r3⟩:=zi (vt n1 (I q) (I p) (I (l-1)) (I f));clear m1 n1 b1 b2;go_wp2_with fail
     refine bodyPost_ret (v:=.tuple #[acc q p (l-1) f,I 0]) (by simp[results,Tryz.results80,go_sem,r0,r1,r2,r3]) rfl ⟨rfl,?_⟩;repeat (first | exact iH | refine Below.setCell ?_ (by simp) _)
 · rw[wn h] at hg;rw[show xt q p l f=false from decide_eq_false fun g=>xg h g.1] at hs;rw[show xu q p l f=((q,p,l,f),0) from by unfold xu;rw[if_neg (xg h),if_pos h]];obtain⟨rfl,rfl,rfl,rfl⟩:=h;go_enter Tryz.func80,Tryz.ntmps80;go_wp2_with fail
   refine(hg _).mono ?_;rintro e w1 ⟨rfl,ab⟩;have b1:=z7 ab;have b2:=zx ab;obtain⟨y0,y1,y2,y3⟩:=zi b1;go_wp2_with fail
   clear y0 y1 y2 y3;refine(hs _).mono ?_;rintro e w2 ⟨rfl,ar⟩;replace b1:=zC ar b1;replace b2:=zC ar b2;have aI:=ab.size;rw[World.size_alloc,World.size_alloc] at aI;have iH:=(zT ab).trans (ar.mono (by omega))
   obtain⟨y0,y1,y2,y3⟩:=zi b1;obtain⟨t0,t1,t2,t3⟩:=zi b2;have f2:=zc b2;obtain⟨r0,r1,r2,r3⟩:=zi (vt b2 (I 0) (I 0) (I 0) (I 0));clear b1 b2;go_wp2_with fail
   refine bodyPost_ret (v:=.tuple #[acc 0 0 0 0,I 0]) (by simp[results,Tryz.results80,go_sem,r0,r1,r2,r3]) rfl ⟨rfl,?_⟩;repeat (first | exact iH | refine Below.setCell ?_ (by simp) _)
 · rw[show xu q p l f=((0,0,0,0),1) from by
    unfold xu;rw[if_neg (fun g=>by rw[yi g] at h;cases h),if_neg (fun g=>by rw[wn g] at h;cases h)]]
   rw[h] at hg;clear h hs;go_enter Tryz.func80,Tryz.ntmps80;go_wp2_with fail
   refine(hg _).mono ?_;rintro e w1 ⟨rfl,ab⟩;have b2:=zx ab;obtain⟨t0,t1,t2,t3⟩:=zi b2;have f2:=zc b2;obtain⟨r0,r1,r2,r3⟩:=zi (vt b2 (I 0) (I 0) (I 0) (I 0));have iH:=zT ab;clear b2;go_wp2_with fail
   refine bodyPost_ret (v:=.tuple #[acc 0 0 0 0,I 1]) (by simp[results,Tryz.results80,go_sem,r0,r1,r2,r3]) rfl ⟨rfl,?_⟩;repeat (first | exact iH | refine Below.setCell ?_ (by simp) _)
theorem QY {n p:Int} (h0:0<p) (h:p<=n):0<n/p:=by
 have:=Int.le_ediv_of_mul_le (a:=1) (b:=n) (c:=p) h0 (by omega);omega
theorem Uh {n p:Int} (h0:0<=n) (h:n<p):n/p=0:=Int.ediv_eq_zero_of_lt h0 h
theorem Vh (q p l f n:Int) (w:World) (mF:-9223372036854775808<=n) (m9:n<=9223372036854775807) (h:yb q p l f) (hn:0<n) (ht:p-f<=n) (hp:p<=n) :
 Calls Tryz.prog 83 #[acc q p l f,I n] w fun e w'=>e=.returned (.tuple #[vr (zJ q p l f n).1,.bool (zJ q p l f n).2])/\Below w.heap.size w w':=by
 have hg:=wx q p l f;rw[yi h] at hg;rw[show zJ q p l f n=((q,p,q,(f+n%p)%p),true) from by unfold zJ;rw[if_pos ⟨h,hn⟩,if_pos ht]];obtain⟨x1,x2,x3,x4,x5,x6,x7,x8⟩:=h;have e1:=Int.emod_nonneg n (show p≠0 by omega);have e2:=Int.emod_lt_of_pos n (show 0<p by omega);have e0:(q==0)=false:=beq_eq_false_iff_ne.2 (by omega);have ep:(p==0)=false:=beq_eq_false_iff_ne.2 (by omega);have ep':p≠0:=by omega
 have hd:=QY (show 0<p by omega) hp;go_enter Tryz.func83,Tryz.ntmps83;go_wp2_with fail
 refine(hg _).mono ?_;rintro e w1 ⟨rfl,ab⟩;have b1:=z7 ab;have b2:=zx ab;obtain⟨y0,y1,y2,y3⟩:=zi b1;obtain⟨t0,t1,t2,t3⟩:=zi b2;have f1:=zc b1;have f2:=zc b2;have iH:=zT ab;have N1:=lH (show((w1.setCell ⟨w.heap.size,3,none⟩ (I ((f+n%p)%p))).setCell ⟨w.heap.size,2,none⟩ (I q)).heap[w.heap.size+1]? = _ from(Below.heap_setCell _ _ _ _ (by simp)).trans ((Below.heap_setCell _ _ _ _ (by simp)).trans b2));clear b1 b2;go_wp2_with fail
 have hX:(f+n)%p=(f+n%p)%p:=by simp
 try rw[hX]
 clear hX;generalize(f+n%p)%p=X at N1⊢;obtain⟨r0,r1,r2,r3⟩:=zi (vt N1.out (I q) (I p) (I q) (I X));refine bodyPost_ret (v:=.tuple #[acc q p q X,.bool true]) (by simp[results,Tryz.results83,go_sem,r0,r1,r2,r3]) rfl ⟨rfl,?_⟩;repeat (first | exact iH | refine Below.setCell ?_ (by simp) _)
theorem YM (q p l f n:Int) (w:World) (mF:-9223372036854775808<=n) (m9:n<=9223372036854775807) (h:yb q p l f) (hn:0<n) (ht:p-f<=n) (hp:¬p<=n) :
 Calls Tryz.prog 83 #[acc q p l f,I n] w fun e w'=>e=.returned (.tuple #[vr (zJ q p l f n).1,.bool (zJ q p l f n).2])/\Below w.heap.size w w':=by
 have hg:=wx q p l f;rw[yi h] at hg;rw[show zJ q p l f n=((q,p,q,(f+n%p)%p),true) from by unfold zJ;rw[if_pos ⟨h,hn⟩,if_pos ht]];obtain⟨x1,x2,x3,x4,x5,x6,x7,x8⟩:=h;have e1:=Int.emod_nonneg n (show p≠0 by omega);have e2:=Int.emod_lt_of_pos n (show 0<p by omega);have e0:(q==0)=false:=beq_eq_false_iff_ne.2 (by omega);have ep:(p==0)=false:=beq_eq_false_iff_ne.2 (by omega);have ep':p≠0:=by omega
 have hd:=Uh (show 0<=n by omega) (show n<p by omega);have hm:n%p=n:=Int.emod_eq_of_lt (by omega) (by omega);have Af:p<=f+n%p:=by omega
 have HM:=lH hm;clear hm;go_enter Tryz.func83,Tryz.ntmps83;go_wp2_with fail
 refine(hg _).mono ?_;rintro e w1 ⟨rfl,ab⟩;have b1:=z7 ab;have b2:=zx ab;obtain⟨y0,y1,y2,y3⟩:=zi b1;obtain⟨t0,t1,t2,t3⟩:=zi b2;have f1:=zc b1;have f2:=zc b2;have iH:=zT ab;have N1:=lH (show((w1.setCell ⟨w.heap.size,3,none⟩ (I ((f+n%p)%p))).setCell ⟨w.heap.size,2,none⟩ (I q)).heap[w.heap.size+1]? = _ from(Below.heap_setCell _ _ _ _ (by simp)).trans ((Below.heap_setCell _ _ _ _ (by simp)).trans b2));clear b1 b2;go_wp2_with fail
 have hX:(f+n)%p=(f+n%p)%p:=by simp
 try rw[hX]
 clear hX;generalize(f+n%p)%p=X at N1⊢;obtain⟨r0,r1,r2,r3⟩:=zi (vt N1.out (I q) (I p) (I q) (I X));refine bodyPost_ret (v:=.tuple #[acc q p q X,.bool true]) (by simp[results,Tryz.results83,go_sem,r0,r1,r2,r3]) rfl ⟨rfl,?_⟩;repeat (first | exact iH | refine Below.setCell ?_ (by simp) _)
theorem Ql (q p l f n:Int) (w:World) (mF:-9223372036854775808<=n) (m9:n<=9223372036854775807) (h:yb q p l f) (hn:0<n) (ht:¬p-f<=n) :
 Calls Tryz.prog 83 #[acc q p l f,I n] w fun e w'=>e=.returned (.tuple #[vr (zJ q p l f n).1,.bool (zJ q p l f n).2])/\Below w.heap.size w w':=by
 have hg:=wx q p l f;rw[yi h] at hg;rw[show zJ q p l f n=((q,p,l,(f+n%p)%p),false) from by unfold zJ;rw[if_pos ⟨h,hn⟩,if_neg ht]];obtain⟨x1,x2,x3,x4,x5,x6,x7,x8⟩:=h;have e1:=Int.emod_nonneg n (show p≠0 by omega);have e2:=Int.emod_lt_of_pos n (show 0<p by omega);have e0:(q==0)=false:=beq_eq_false_iff_ne.2 (by omega);have ep:(p==0)=false:=beq_eq_false_iff_ne.2 (by omega);have ep':p≠0:=by omega
 have hd:=Uh (show 0<=n by omega) (show n<p by omega);have hm:n%p=n:=Int.emod_eq_of_lt (by omega) (by omega);have Af:f+n%p<p:=by omega
 have HM:=lH hm;clear hm;go_enter Tryz.func83,Tryz.ntmps83;go_wp2_with fail
 refine(hg _).mono ?_;rintro e w1 ⟨rfl,ab⟩;have b1:=z7 ab;have b2:=zx ab;obtain⟨y0,y1,y2,y3⟩:=zi b1;obtain⟨t0,t1,t2,t3⟩:=zi b2;have f1:=zc b1;have f2:=zc b2;have iH:=zT ab;have N1:=lH (show(w1.setCell ⟨w.heap.size,3,none⟩ (I ((f+n%p)%p))).heap[w.heap.size+1]? = _ from(Below.heap_setCell _ _ _ _ (by simp)).trans b2);clear b1 b2;go_wp2_with fail
 have hX:(f+n)%p=(f+n%p)%p:=by simp
 try rw[hX]
 clear hX;generalize(f+n%p)%p=X at N1⊢;obtain⟨r0,r1,r2,r3⟩:=zi (vt N1.out (I q) (I p) (I l) (I X));refine bodyPost_ret (v:=.tuple #[acc q p l X,.bool false]) (by simp[results,Tryz.results83,go_sem,r0,r1,r2,r3,Af]) rfl ⟨rfl,?_⟩;repeat (first | exact iH | refine Below.setCell ?_ (by simp) _)
theorem YN (q p l f n:Int) (w:World) (mF:-9223372036854775808<=n) (m9:n<=9223372036854775807) (h:yb q p l f) (hn:¬0<n) :
 Calls Tryz.prog 83 #[acc q p l f,I n] w fun e w'=>e=.returned (.tuple #[vr (zJ q p l f n).1,.bool (zJ q p l f n).2])/\Below w.heap.size w w':=by
 have hg:=wx q p l f;rw[yi h] at hg;rw[show zJ q p l f n=((q,p,l,f),false) from by unfold zJ;rw[if_neg (fun g=>hn g.2)]];clear h;go_enter Tryz.func83,Tryz.ntmps83;go_wp2_with fail
 refine(hg _).mono ?_;rintro e w1 ⟨rfl,ab⟩;have b1:=z7 ab;have b2:=zx ab;obtain⟨y0,y1,y2,y3⟩:=zi b1;obtain⟨t0,t1,t2,t3⟩:=zi b2;have f1:=zc b1;have f2:=zc b2;have iH:=zT ab;obtain⟨r0,r1,r2,r3⟩:=zi (vt b2 (I q) (I p) (I l) (I f));clear b1 b2;go_wp2_with fail
 refine bodyPost_ret (v:=.tuple #[acc q p l f,.bool false]) (by simp[results,Tryz.results83,go_sem,r0,r1,r2,r3]) rfl ⟨rfl,?_⟩;repeat (first | exact iH | refine Below.setCell ?_ (by simp) _)
theorem YL (q p l f n:Int) (w:World) (mF:-9223372036854775808<=n) (m9:n<=9223372036854775807) (h:yN q p l f) :
 Calls Tryz.prog 83 #[acc q p l f,I n] w fun e w'=>e=.returned (.tuple #[vr (zJ q p l f n).1,.bool (zJ q p l f n).2])/\Below w.heap.size w w':=by
 have hg:=wx q p l f;rw[wn h] at hg;rw[show zJ q p l f n=((q,p,l,f),false) from by unfold zJ;rw[if_neg (fun g=>xg h g.1)]];obtain⟨rfl,rfl,rfl,rfl⟩:=h;by_cases c:n<1
 · go_enter Tryz.func83,Tryz.ntmps83;go_wp2_with fail
   refine(hg _).mono ?_;rintro e w1 ⟨rfl,ab⟩;have b1:=z7 ab;have b2:=zx ab;obtain⟨y0,y1,y2,y3⟩:=zi b1;obtain⟨t0,t1,t2,t3⟩:=zi b2;have f1:=zc b1;have f2:=zc b2;have iH:=zT ab;obtain⟨r0,r1,r2,r3⟩:=zi (vt b2 (I 0) (I 0) (I 0) (I 0));clear b1 b2;go_wp2_with fail
   refine bodyPost_ret (v:=.tuple #[acc 0 0 0 0,.bool false]) (by simp[results,Tryz.results83,go_sem,r0,r1,r2,r3]) rfl ⟨rfl,?_⟩;repeat (first | exact iH | refine Below.setCell ?_ (by simp) _)
 · go_enter Tryz.func83,Tryz.ntmps83;go_wp2_with fail
   refine(hg _).mono ?_;rintro e w1 ⟨rfl,ab⟩;have b1:=z7 ab;have b2:=zx ab;obtain⟨y0,y1,y2,y3⟩:=zi b1;obtain⟨t0,t1,t2,t3⟩:=zi b2;have f1:=zc b1;have f2:=zc b2;have iH:=zT ab;obtain⟨r0,r1,r2,r3⟩:=zi (vt b2 (I 0) (I 0) (I 0) (I 0));clear b1 b2;go_wp2_with fail
   refine bodyPost_ret (v:=.tuple #[acc 0 0 0 0,.bool false]) (by simp[results,Tryz.results83,go_sem,r0,r1,r2,r3]) rfl ⟨rfl,?_⟩;repeat (first | exact iH | refine Below.setCell ?_ (by simp) _)
theorem Vg (q p l f n:Int) (w:World) (mF:-9223372036854775808<=n) (m9:n<=9223372036854775807) (h:xV q p l f=false) :
 Calls Tryz.prog 83 #[acc q p l f,I n] w fun e w'=>e=.returned (.tuple #[vr (zJ q p l f n).1,.bool (zJ q p l f n).2])/\Below w.heap.size w w':=by
 have hg:=wx q p l f;rw[show zJ q p l f n=((q,p,l,f),false) from by unfold zJ;rw[if_neg (fun g=>by rw[yi g.1] at h;cases h)]];rw[h] at hg;clear h;go_enter Tryz.func83,Tryz.ntmps83;go_wp2_with fail
 refine(hg _).mono ?_;rintro e w1 ⟨rfl,ab⟩;have b1:=z7 ab;have b2:=zx ab;obtain⟨y0,y1,y2,y3⟩:=zi b1;obtain⟨t0,t1,t2,t3⟩:=zi b2;have f1:=zc b1;have f2:=zc b2;have iH:=zT ab;obtain⟨r0,r1,r2,r3⟩:=zi (vt b2 (I q) (I p) (I l) (I f));clear b1 b2;go_wp2_with fail
 refine bodyPost_ret (v:=.tuple #[acc q p l f,.bool false]) (by simp[results,Tryz.results83,go_sem,r0,r1,r2,r3]) rfl ⟨rfl,?_⟩;repeat (first | exact iH | refine Below.setCell ?_ (by simp) _)
theorem Vf (q p l f n:Int) (w:World) (mF:-9223372036854775808<=n) (m9:n<=9223372036854775807) :
 Calls Tryz.prog 83 #[acc q p l f,I n] w fun e w'=>e=.returned (.tuple #[vr (zJ q p l f n).1,.bool (zJ q p l f n).2])/\Below w.heap.size w w':=by
 rcases gh q p l f with h | h | h
 · by_cases hn:0<n
   · by_cases ht:p-f<=n
     · by_cases hp:p<=n
       · exact Vh q p l f n w mF m9 h hn ht hp
       · exact YM q p l f n w mF m9 h hn ht hp
     · exact Ql q p l f n w mF m9 h hn ht
   · exact YN q p l f n w mF m9 h hn
 · exact YL q p l f n w mF m9 h
 · exact Vg q p l f n w mF m9 h
end Go.Proofs.YtoiajjobecinpaaGreat
namespace Go.Proofs.YtoiajjobecinpaaGreat
open Go.ChangeShapes Go.WideShapes Go.ChangeAt Go.RowKit Go.Lib Go.Joins
set_option linter.unusedVariables false
set_option linter.unusedSimpArgs false
theorem J8 {x:Int} (h:(Lit.int .i64 x).wf=true):-9223372036854775808<=x/\x<=9223372036854775807:=by
 simp only[Lit.wf,Bool.and_eq_true,decide_eq_true_eq] at h;have h1:IntKind.i64.min=-9223372036854775808:=by decide
 have h2:IntKind.i64.max=9223372036854775807:=by decide
 rw[h1,h2] at h;exact h
theorem fN:Tryz.prog.cellsOf 35=7:=by kernel_rfl
theorem jS:Tryz.prog.cellsOf 215=4:=by kernel_rfl
theorem XA:Tryz.prog.cellsOf 3=1:=by kernel_rfl
theorem KA:Tryz.prog.cellsOf 2=1:=by kernel_rfl
theorem KB:Tryz.prog.cellsOf 5=1:=by kernel_rfl
theorem QA:Tryz.prog.cellsOf 33=1:=by kernel_rfl
section
variable {H:Type} {enc:TypeId×Value->H} {W:World} {fuel:Nat} {cs:List Value} {x:DataW H×List MemPlace}
theorem dy (h:DataW.trod enc Tryz.prog W 0 (fun _=>true) true fuel 215 cs=some x):∃x0 x1 x2 x3:Int,cs=[I x0,I x1,I x2,.int .u8 x3]:=by
 obtain⟨y0,y1,y2,y3,n,-,hl,h0,h1,h2,h3⟩:=trod_struct4 Tryz.underlying215 h;rw[jS] at hl;match cs,hl with
 | [c0,c1,c2,c3],_=>
  simp only[XA,KB,List.drop,List.take] at h0 h1 h2 h3;obtain⟨x0,e0,-⟩:=DataW.trod_int Tryz.underlying3 h0;obtain⟨x1,e1,-⟩:=DataW.trod_int Tryz.underlying3 h1;obtain⟨x2,e2,-⟩:=DataW.trod_int Tryz.underlying3 h2;obtain⟨x3,e3,-⟩:=DataW.trod_int Tryz.underlying5 h3;simp only[List.cons.injEq,and_true] at e0 e1 e2 e3;subst e0 e1 e2 e3;exact⟨x0,x1,x2,x3,rfl⟩
theorem ZT (h:DataW.trod enc Tryz.prog W 0 (fun _=>true) true fuel 33 cs=some x):∃v n,cs=[v]/\dn W v n:=by
 rcases Go.Deep.open_slice Tryz.underlying33 h with⟨rfl,-⟩ | ⟨a,len,cap,m,k,D,Pl,rfl,-,hl,hm,AZ,-,aM⟩
 · exact⟨_,0,rfl,none,0,rfl,fun j hj=>absurd hj (Nat.not_lt_zero j)⟩
 · simp only[if_true] at AZ;refine⟨_,len,rfl,some a,cap,rfl,fun j hj=>?_⟩;obtain⟨cs',h1,h2⟩:=aM j (by omega);obtain⟨-,-,h3⟩:=World.cells?_some h1;obtain⟨x0,x1,x2,x3,rfl⟩:=dy h2;rw[jS] at h3;obtain⟨g,o,spot⟩:=a;have BX:spot=none:=by
    obtain⟨cs0,z1,z2⟩:=aM 0 (by omega);obtain⟨-,zl,z3⟩:=World.cells?_some z1;obtain⟨_,_,_,_,rfl⟩:=dy z2;have z4:=z3 0 (by rw[jS];omega);simp only[Nat.zero_mul] at z4;simpa [Addr.add] using World.cell?_spot z4
   subst BX;have k0:=h3 0 (by omega);have k1:=h3 1 (by omega);have k2:=h3 2 (by omega);have k3:=h3 3 (by omega);simp only[Addr.add_lit,Nat.add_zero] at k0 k1 k2 k3;exact⟨g,o,rfl,World.block_lt_of_cell? W _ k0,x0,x1,x2,x3,k0,k1,k2,k3⟩
theorem bk (h:DataW.trod enc Tryz.prog W 0 (fun _=>true) true fuel 35 cs=some x):∃(op a b c n m:Int) (bl:Value) (nb:Nat),cs=[I op,I a,I b,I c,I n,I m,bl]/\((-9223372036854775808<=a/\a<=9223372036854775807)/\n<=9223372036854775807)/\dn W bl nb:=by
 obtain⟨xs,k,-,-,hl,ag,hf⟩:=DataW.trod_struct Tryz.underlying35 h;rw[fN] at hl;match xs,ag with
 | [y0,y1,y2,y3,y4,y5,y6],_=>
  match cs,hl with
  | [c0,c1,c2,c3,c4,c5,c6],_=>
   have h0:DataW.trod enc Tryz.prog W 0 (fun _=>true) true k 3 (([c0,c1,c2,c3,c4,c5,c6].drop 0).take (Tryz.prog.cellsOf 3))=some y0:=hf 0 _ rfl;have h1:DataW.trod enc Tryz.prog W 0 (fun _=>true) true k 3 (([c0,c1,c2,c3,c4,c5,c6].drop 1).take (Tryz.prog.cellsOf 3))=some y1:=hf 1 _ rfl;have h2:DataW.trod enc Tryz.prog W 0 (fun _=>true) true k 3 (([c0,c1,c2,c3,c4,c5,c6].drop 2).take (Tryz.prog.cellsOf 3))=some y2:=hf 2 _ rfl;have h3:DataW.trod enc Tryz.prog W 0 (fun _=>true) true k 3 (([c0,c1,c2,c3,c4,c5,c6].drop 3).take (Tryz.prog.cellsOf 3))=some y3:=hf 3 _ rfl;have h4:DataW.trod enc Tryz.prog W 0 (fun _=>true) true k 2 (([c0,c1,c2,c3,c4,c5,c6].drop 4).take (Tryz.prog.cellsOf 2))=some y4:=hf 4 _ rfl;have h5:DataW.trod enc Tryz.prog W 0 (fun _=>true) true k 2 (([c0,c1,c2,c3,c4,c5,c6].drop 5).take (Tryz.prog.cellsOf 2))=some y5:=hf 5 _ rfl;have h6:DataW.trod enc Tryz.prog W 0 (fun _=>true) true k 33 (([c0,c1,c2,c3,c4,c5,c6].drop 6).take (Tryz.prog.cellsOf 33))=some y6:=hf 6 _ rfl;simp only[XA,KA,QA,List.drop,List.take] at h0 h1 h2 h3 h4 h5 h6;obtain⟨x0,e0,-,-⟩:=DataW.trod_int Tryz.underlying3 h0;obtain⟨x1,e1,-,w1⟩:=DataW.trod_int Tryz.underlying3 h1;obtain⟨x2,e2,-,-⟩:=DataW.trod_int Tryz.underlying3 h2;obtain⟨x3,e3,-,-⟩:=DataW.trod_int Tryz.underlying3 h3;obtain⟨x4,e4,-,w4⟩:=DataW.trod_int Tryz.underlying2 h4;obtain⟨x5,e5,-,-⟩:=DataW.trod_int Tryz.underlying2 h5;obtain⟨v,nb,e6,hb⟩:=ZT h6;simp only[List.cons.injEq,and_true] at e0 e1 e2 e3 e4 e5 e6;subst e0 e1 e2 e3 e4 e5 e6;exact⟨x0,x1,x2,x3,x4,x5,_,nb,rfl,⟨J8 w1,(J8 w4).2⟩,hb⟩
theorem XF (h:DataW.trod enc Tryz.prog W 0 (fun _=>true) true fuel 23 cs=some x):∃p len c,cs=[.slice p len c]/\uR W p len:=by
 rcases Go.Deep.open_slice Tryz.underlying23 h with⟨rfl,-⟩ | ⟨a,len,cap,m,k,D,Pl,rfl,-,hl,hm,AZ,-,aM⟩
 · exact⟨none,0,0,rfl,fun j hj=>absurd hj (Nat.not_lt_zero j)⟩
 · simp only[if_true] at AZ;refine⟨some a,len,cap,rfl,fun j hj=>?_⟩;obtain⟨cs',h1,h2⟩:=aM j (by omega);obtain⟨-,-,h3⟩:=World.cells?_some h1;obtain⟨op,a1,b,c,n,m',bl,nb,rfl,i8,i9⟩:=bk h2;rw[fN] at h3;obtain⟨g,o,spot⟩:=a;have BX:spot=none:=by
    obtain⟨cs0,z1,z2⟩:=aM 0 (by omega);obtain⟨-,zl,z3⟩:=World.cells?_some z1;obtain⟨_,_,_,_,_,_,_,_,rfl,_⟩:=bk z2;have z4:=z3 0 (by rw[fN];omega);simp only[Nat.zero_mul] at z4;simpa [Addr.add] using World.cell?_spot z4
   subst BX;have k0:=h3 0 (by omega);have k1:=h3 1 (by omega);have k2:=h3 2 (by omega);have k3:=h3 3 (by omega);have k4:=h3 4 (by omega);have k5:=h3 5 (by omega);have k6:=h3 6 (by omega);simp only[Addr.add_lit,Nat.add_zero] at k0 k1 k2 k3 k4 k5 k6;exact⟨g,o,rfl,World.block_lt_of_cell? W _ k0,op,a1,b,c,n,m',bl,nb,⟨k0,k1,k2,k3,k4,k5,k6⟩,i8,i9⟩
end
end Go.Proofs.YtoiajjobecinpaaGreat

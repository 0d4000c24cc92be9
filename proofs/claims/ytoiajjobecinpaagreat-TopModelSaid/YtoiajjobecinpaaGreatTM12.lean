/- The greatest load; a set of one core. -/
import Derived.Sort.BigQuietIn
import Derived.Test.YtoiajjobecinpaaGreatTM08
set_option maxHeartbeats 4000000
set_option maxRecDepth 100000
namespace Go.Proofs.YtoiajjobecinpaaGreat
open Go.RowKit Go.Shelf Go.Lib Go.Proofs
set_option linter.unusedVariables false
set_option linter.unusedSimpArgs false
section
attribute [local go_sem] Oper.semAt_some
def wu (xs:List Int):Nat->Int
 | 0=>xs.getD 0 0
 | k+1=>max (wu xs k) (xs.getD (k+1) 0)
theorem Qx (g c N:Nat) (xs:List Int) (W:World) (hn:1<=N) (hx:∀i,i<N->W.cell? ⟨g,i,none⟩=some (I (xs.getD i 0))) (hl:N<1000000) :
 Calls Tryz.prog 202 #[.slice (some ⟨g,0,none⟩) N c] W fun e w'=>e=.returned (I (wu xs (N-1)))/\W=w':=by
 have c0:=hx 0 (by omega);have HX:=lH hx;have h0:wu xs 0=xs.getD 0 0:=rfl;rw[<- h0] at c0;have mF:¬(N:Int)<1:=by omega
 have m9:0<(N:Int):=by omega
 clear hx h0;go_enter Tryz.func202,Tryz.ntmps202;go_wp2_with fail
 go_loop [3,4] (fun x3 x4=>∃k:Nat,1<=k/\k<=N/\x4=I (k:Int)/\x3=I (wu xs (k-1))) (fun _ i=>N-(intOf i).toNat)
 case atStart=>exact⟨1,by omega,by omega,rfl,rfl⟩
 case round=>
  obtain⟨k,iY,hk,rfl,rfl⟩:=hrel;by_cases aS:k<N
  · have c1:=HX.out k (by omega);have hm:wu xs (k+1-1)=max (wu xs (k-1)) (xs.getD k 0):=by
     obtain⟨j,rfl⟩:∃j,k=j+1:=⟨k-1,by omega⟩
     rfl
    generalize xs.getD k 0=y at c1 hm;generalize wu xs (k-1)=z at hm⊢;have HM:=lH hm;have k1:(k:Int)<(N:Int):=by omega
    have k0:0<=(k:Int):=by omega
    clear hm;go_wp2_with fail
    go_round
    case rel=>exact⟨k+1,by omega,by omega,by go_num,by rw[HM.out]⟩
    case measure=>simp[intOf];omega
  · obtain rfl:k=N:=by omega
    go_wp2_with fail
    go_ret
    exact⟨rfl,rfl⟩
def cE (xs:List Int) (v:Int):Int:=match xs.findIdx? (fun x=>x==v) with | some i=>(i:Int) | none=>-1
theorem Xt {xs:List Int} {v:Int} {k:Nat} (hk:k<xs.length) (h:∀j,j<k->xs.getD j 0≠v) (hv:xs.getD k 0=v):cE xs v=k:=by
 have og:xs.findIdx? (fun x=>x==v)=some k:=by
  rw[List.findIdx?_eq_some_iff_getElem];have hg:∀j (hj:j<xs.length),xs.getD j 0=xs[j]:=fun j hj=>by rw[List.getD_eq_getElem?_getD,List.getElem?_eq_getElem hj];rfl
  refine⟨hk,by rw[<- hg k hk,hv];simp,fun j hj=>?_⟩;rw[<- hg j (by omega)];simpa using h j hj
 unfold cE;rw[og]
theorem Wm {xs:List Int} {v:Int} (h:∀j,j<xs.length->xs.getD j 0≠v):cE xs v=-1:=by
 have og:xs.findIdx? (fun x=>x==v)=none:=by
  rw[List.findIdx?_eq_none_iff];intro x hx;obtain⟨j,hj,rfl⟩:=List.mem_iff_getElem.1 hx;have:=h j hj;rw[List.getD_eq_getElem?_getD,List.getElem?_eq_getElem hj] at this;simpa using this
 unfold cE;rw[og]
theorem Qw (g c N:Nat) (xs:List Int) (v:Int) (W:World) (hN:xs.length=N) (hx:∀i,i<N->W.cell? ⟨g,i,none⟩=some (I (xs.getD i 0))) (hl:N<1000000) :
 Calls Tryz.prog 201 #[.slice (some ⟨g,0,none⟩) N c,I v] W fun e w'=>e=.returned (I (cE xs v))/\W=w':=by
 have HX:=lH hx;have HN:=lH hN;obtain⟨r,hr⟩:∃r,cE xs v=r:=⟨_,rfl⟩
 rw[hr];have HR:=lH hr;clear hx hN hr;go_enter Tryz.func201,Tryz.ntmps201;go_wp2_with fail
 go_loop [8] (fun x8=>∃k:Nat,k<=N/\x8=I (k:Int)/\Hid (∀j,j<k->xs.getD j 0≠v)) (fun i=>N-(intOf i).toNat)
 case atStart=>exact⟨0,by omega,rfl,lH (fun j hj=>by omega)⟩
 case round=>
  obtain⟨k,hk,rfl,HT⟩:=hrel;by_cases aS:k<N
  · have c1:=HX.out k (by omega);obtain⟨y,hy⟩:∃y,xs.getD k 0=y:=⟨_,rfl⟩
    rw[hy] at c1;have HY:=lH hy;have k1:(k:Int)<(N:Int):=by omega
    have k0:0<=(k:Int):=by omega
    clear hy;by_cases e:v=y
    · have Cg:=lH (Xt (by rw[HN.out];exact aS) HT.out (HY.out.trans e.symm));go_wp2_with fail
      go_ret
      rw[<- HR.out,Cg.out];exact⟨rfl,rfl⟩
    · go_wp2_with fail
      go_round
      case rel=>exact⟨k+1,by omega,by go_num,lH (fun j hj=>by
       by_cases e2:j=k
       · subst e2;rw[HY.out];exact fun e3=>e e3.symm
       · exact HT.out j (by omega))⟩
      case measure=>simp[intOf];omega
  · obtain rfl:k=N:=by omega
    have Cg:=lH (Wm (by rw[HN.out];exact HT.out));go_wp2_with fail
    go_ret
    rw[<- HR.out,Cg.out];exact⟨rfl,rfl⟩
def xm (xs:List Int):Int:=cE xs (wu xs (xs.length-1))
theorem UB (g c N:Nat) (xs:List Int) (W:World) (hN:xs.length=N) (h1:1<=N) (hx:∀i,i<N->W.cell? ⟨g,i,none⟩=some (I (xs.getD i 0))) (hl:N<1000000) :
 Calls Tryz.prog 183 #[.slice (some ⟨g,0,none⟩) N c] W fun e w'=>e=.returned (.tuple #[I (xm xs),.bool true])/\W=w':=by
 have hm:=Qx g c N xs W h1 hx hl;have hi:=Qw g c N xs (wu xs (N-1)) W hN hx hl;have mF:¬(N:Int)=0:=by omega
 unfold xm;rw[hN];generalize wu xs (N-1)=y at hm hi⊢;generalize cE xs y=z at hi⊢;clear hN h1 hx hl;go_enter Tryz.func183,Tryz.ntmps183;go_wp2_with fail
 refine hm.mono ?_;rintro e w' ⟨rfl,rfl⟩;go_wp2_with fail
 refine hi.mono ?_;rintro e w' ⟨rfl,rfl⟩;go_wp2_with fail
 go_ret2
 exact⟨rfl,rfl⟩
theorem Jh:∀c:Nat,c<16->bits BinOp.or .u16 0 (IntKind.u16.wrap (2 ^ c))=2 ^ c:=by decide
theorem Kq (g cp c:Nat) (W:World) (hc:c<16) (hx:W.cell? ⟨g,0,none⟩=some (I c)) :
 Calls Tryz.prog 184 #[.slice (some ⟨g,0,none⟩) 1 cp] W fun e w'=>e=.returned (.int .u16 (2 ^ c))/\W=w':=by
 have mQ:(c:Int)<16:=by omega
 have lW:0<=(c:Int):=by omega
 go_enter Tryz.func184,Tryz.ntmps184;go_wp2_with fail
 refine wp_loop_rounds 2 ?_;rw[rounds_succ];go_wp2_with fail
 rw[rounds_succ];go_wp2_with fail
 go_ret
 exact⟨by rw[Jh c hc];rfl,rfl⟩
end
end Go.Proofs.YtoiajjobecinpaaGreat

/- TopModel: for every input the law returns true, and each argument reads as it did; no condition. -/
import Derived.ShutString
import Derived.ChangeOld
import Derived.Test.YtoiajjobecinpaaGreatTMLawZH
import Derived.Test.YtoiajjobecinpaaGreatTMFact
set_option maxRecDepth 100000
namespace Go.Proofs.YtoiajjobecinpaaGreat.topModel
open Go.ChangeShapes Go.WideShapes Go.ChangeAt Go.RowKit
open Go.ChangeMaps (open_string shut_string)
set_option linter.unusedVariables false
set_option linter.unusedSimpArgs false
theorem own:ownKnob Tryz.prog.godebug=none:=by kernel_rfl
theorem laidOut:laidOutB Tryz.prog=true:=by kernel_rfl
def IsRow (k:IntKind) (w:World) (a:Option Addr) (len cap:Nat) (zs:List Int):Prop:=
 (a=none/\len=0/\cap=0/\zs=[]) \/
 ∃x,a=some x/\len<=cap/\cap<=maxLen/\zs.length=cap/\(∀i,i<zs.length->w.cell? (x.add i)=some (.int k (zs.getD i 0)))/\∀n∈zs,(Lit.int k n).wf=true
theorem reads_of {w:World} {a:Option Addr} {len cap:Nat} {zs:List Int} (h:IsRow .i64 w a len cap zs):qV w a len zs:=by
 rcases h with⟨_,h,_⟩ | ⟨x,rfl,hl,_,hz,hc,_⟩
 · exact .inl h
 · by_cases h0:len=0
   · exact .inl h0
   · obtain⟨b,off,rfl,Fh⟩:=ints_at hc (by omega);exact .inr ⟨b,off,rfl,World.block_lt_of_cell? w _ (Fh 0 (by omega)),fun j hj=>Fh j (by omega)⟩
theorem walk (a0:Option Addr) (bO cap0:Nat) (z0:List Int) (a1:Option Addr) (len1 cap1:Nat) (w:World) (w0:IsRow .i64 w a0 bO cap0 z0) (w1:uR w a1 len1) :
 Calls Tryz.prog 3 #[.slice a0 bO cap0,.slice a1 len1 cap1] w fun e w'=>e=.returned (.bool true)/\Below w.heap.size w w':=
 Wv a0 bO cap0 z0 a1 len1 cap1 w (reads_of w0) w1
theorem lifted (os:Os) (started:os.Started) (H:Type) (enc:TypeId×Value->H) :
 ReturnsInHanded {} Tryz.checked os 3 .any (Rows.topModelSpec.pre6 enc Tryz.prog Tryz.f3 Rows.topModelRow.domain false) (Rows.topModelSpec.post enc Tryz.prog Tryz.f3 false true false false):=by
 refine returnsInHanded_of_change (C:=Tryz.checked) own started (by kernel_rfl) Tryz.func3
  (ChangeSpec.witness6 (enc:=enc) (C:=Tryz.checked) false ⟨#[],#[.slice none 0 0,.slice none 0 0],[]⟩ 3 (by kernel_rfl) (by kernel_rfl) (by kernel_rfl) (by kernel_rfl)) ?_
 intro W base args ds gs before Eq hW SJ _;have FY:∀(j:Nat) t v,Tryz.f3.params[j]? = some t->args[j]? = some v->Value.okWide Tryz.prog W .any base t v:=Eq;have m8:=hW;obtain⟨p,q,tX,hV,rfl,Gw,IP⟩:=hW;have hA:DataW.TrodAll enc Tryz.prog W 0 (fun _=>true) true Tryz.f3.params.toList args.toList ds p:=tX;rw[Tryz.params3] at hA FY;obtain⟨v0,vs0,d0,ds0,p0,q0,Pj,rfl,rfl,h0,r0⟩:=trodAll_cons hA;obtain⟨v1,vs1,d1,ds1,p1,q1,rfl,rfl,rfl,h1,r1⟩:=trodAll_cons r0;obtain⟨rfl,rfl,rfl⟩:=trodAll_nil r1;obtain rfl:args=#[v0,v1]:=by cases args;simp_all
 obtain⟨rfl,rfl⟩:=trodVars_none hV;obtain⟨a0,bO,cap0,rfl⟩:=okWide_slice Tryz.underlying22 (FY 0 22 v0 rfl rfl);have k0:=h0;have lt0:∀x∈p0,x.block<W.heap.size:=by obtain⟨m,hm⟩:=k0;exact DataW.trod_lt m _ _ _ hm
 obtain⟨z0,w0⟩:∃zs,IsRow .i64 W a0 bO cap0 zs:=by
  obtain⟨fuel,hf⟩:=h0;rcases open_ints Tryz.underlying22 Tryz.underlying3 (by kernel_rfl) hf with⟨l8,_⟩ | ⟨x,l,c,zs,l8,_,hl,hm,hz,_,ap,p9⟩
  · simp[Value.cells] at l8
    obtain⟨rfl,rfl,rfl⟩:=l8;exact⟨[],.inl ⟨rfl,rfl,rfl,rfl⟩⟩
  · simp[Value.cells] at l8
    obtain⟨rfl,rfl,rfl⟩:=l8;exact⟨zs,.inr ⟨_,rfl,hl,hm,by simpa using hz,ap,p9⟩⟩
 obtain⟨a1,len1,cap1,rfl⟩:=okWide_slice Tryz.underlying23 (FY 1 23 v1 rfl rfl);have k1:=h1;have lt1:∀x∈p1,x.block<W.heap.size:=by obtain⟨m,hm⟩:=k1;exact DataW.trod_lt m _ _ _ hm
 have w1:uR W a1 len1:=by
  obtain⟨fuel,hf⟩:=h1;obtain⟨p,l,c,l8,H9⟩:=XF hf;simp[Value.cells] at l8
  obtain⟨rfl,rfl,rfl⟩:=l8;exact H9
 clear tX Eq;refine(walk a0 bO cap0 z0 a1 len1 cap1 W w0 w1).mono fun e W' ⟨he,bel⟩=>?_;subst he;exact⟨_,rfl,_,_,_,[],_,[],m8,trodAll_mk1 (shut_bool Tryz.underlying4 _),(trodAll_cons_mk (Below.trod laidOut (by kernel_rfl) (of_decide_eq_true (by kernel_rfl)) k0 bel lt0) (trodAll_cons_mk (Below.trod laidOut (by kernel_rfl) (of_decide_eq_true (by kernel_rfl)) k1 bel lt1) trodAll_mk0)),rfl,bel.frame _,fun h=>by cases h⟩
theorem over:Rows.topModelRow.holds Tryz.pinned (OpenSpec.ofChange Rows.topModelSpec):=
 OpenClaim.holds_of_wide 3 Tryz.f3 rfl rfl rfl rfl rfl rfl rfl ⟨rfl,rfl,rfl,rfl,rfl⟩ rfl rfl rfl rfl rfl o1 Tryz.func3 o2 o3 o4 (fun os started H enc _=>lifted os started H enc)
theorem proved:Rows.TopModelSaid:=over
#print axioms proved
end Go.Proofs.YtoiajjobecinpaaGreat.topModel

/- Own law: append of one known run of cells at a plain region's list, inside a fence. What a world does with an act: syste -/
import Derived.Test.YtoiajjobecinpaaGreatTA20
set_option maxHeartbeats 4000000
namespace Go.Proofs.YtoiajjobecinpaaGreat
set_option linter.unusedSimpArgs false
open Go.RowKit Go.Shelf Go.Lib Go.Proofs
set_option linter.unusedVariables false
theorem wpListIn_append_lies {F : Fence} {n0 : Nat} {P : Program} (w : World) {ops : Array Oper} {rest : List Oper} {o : Oper} {a : Act} {Q : Exit → Act → World → Prop} (hgd : o.guard = none) (s x : Operand) (t : TypeId)
 (ho : o.op = .call { callee := .builtin .append, args := #[s, x], argTypes := #[t, t] })
 (base : Nat) (e : TypeId) (i : TypeInfo) (z : Value) (size bytes : Nat) (ht : P.underlying t = some (.slice e)) (hi : P.info? e = some i) (hz : i.zero = some z)
 (hsize : i.size = size) (hby : i.bytes = bytes) (hzs : z.cells.size = size) (hsz : 0 < size)
 (v : Value) (n : Nat) (xs : List Value) (hs : a.eval s = v) (hown : w.ownsRow base e size v n xs)
 (ad : Addr) (m c : Nat) (news : List Value) (hx : a.eval x = .slice (some ad) m c) (hl : news.length = m * size) (hnews : ∀ j u, news[j]? = some u → w.cell? (ad.add j) = some u) (h1 : ∀ u ∈ news, u.oneCell' = true)
 (hm : 0 < m) (h63 : n + m ≤ maxLen) (hbytes : (n + m) * bytes ≤ 140737488355328) (hbase : base ≤ w.heap.size) (H : Nat) (hH : w.heap.size = H)
 (h : ∀ g cap w', w'.ownsRow base e size (.slice (some ⟨g, 0, none⟩) (n + m) cap) (n + m) (xs ++ news) → w.grownBy w' v.ownBlock → (v.ownBlock = some g ∨ g = H) → g < w'.heap.size → wpListIn F n0 P ops Q rest (a.put o.dst (.slice (some ⟨g, 0, none⟩) (n + m) cap)) w') :
 wpListIn F n0 P ops Q (o :: rest) a w := by
 refine wpListIn_plain hgd fun K hK => ?_; obtain ⟨g, cap, w', hr, h2, h3, h4, h5⟩ := run_append_lies (P := P) w t o.type base e i z size bytes ht hi hz hsize hby hzs hsz v n xs hown ad m c news hl hnews h1 hm h63 hbytes hbase H hH; unfold Oper.wpIn; refine ⟨by simp [Oper.about, ho, resolve, Target.leads, Sem.run_pure], ?_⟩; rw [Oper.semAt_plain F _ _ (by rw [ho]; intro c hc'; cases hc')]; simp [execOp, ho, resolve, invoke, builtin, hs, hx, hr, Result.andThen]
 exact hK _ _ (h g cap w' h2 h3 h4 h5)
end Go.Proofs.YtoiajjobecinpaaGreat
namespace Go.Proofs.YtoiajjobecinpaaGreat
open Go.RowKit Go.Shelf Go.Lib Go.Proofs
set_option linter.unusedVariables false
set_option linter.unusedSimpArgs false
section
attribute [local go_sem] Oper.semAt_some
def actV (op a b c n m : Int) (bl : Value) : Value := .agg #[.int .i64 op, .int .i64 a, .int .i64 b, .int .i64 c, .int .i64 n, .int .i64 m, bl]
def Two (R : Int → Int → World → Prop) (e : Ending) (w' : World) : Prop := ∃ x y : Int, e = .returned (.tuple #[.int .i64 x, .int .i64 y]) ∧ R x y w'
def One' (R : Int → World → Prop) (e : Ending) (w' : World) : Prop := ∃ y : Int, e = .returned (.int .i64 y) ∧ R y w'
def inAct (W : World) (op a b c n m : Int) (bl : Value) : World := (W.alloc (.cells #[.int .i64 op, .int .i64 a, .int .i64 b, .int .i64 c, .int .i64 n, .int .i64 m, bl] 35)).drew
def ActS (W : World) (ob B : Nat) (sv wv : Value) (op a b c n m : Int) (bl : Value) : Prop :=
 (W.cell? ⟨ob, 0, none⟩ = some sv ∧ W.cell? ⟨ob, 1, none⟩ = some wv) ∧ W.cell? ⟨B, 0, none⟩ = some (.int .i64 op) ∧ W.cell? ⟨B, 1, none⟩ = some (.int .i64 a) ∧ W.cell? ⟨B, 2, none⟩ = some (.int .i64 b) ∧ W.cell? ⟨B, 3, none⟩ = some (.int .i64 c) ∧
  W.cell? ⟨B, 4, none⟩ = some (.int .i64 n) ∧ W.cell? ⟨B, 5, none⟩ = some (.int .i64 m) ∧ W.cell? ⟨B, 6, none⟩ = some bl
theorem actS_alloc {W : World} {ob : Nat} {sv wv : Value} (h0 : W.cell? ⟨ob, 0, none⟩ = some sv) (h1 : W.cell? ⟨ob, 1, none⟩ = some wv) (op a b c n m : Int) (bl : Value) :
 ActS (W.alloc (.cells #[.int .i64 op, .int .i64 a, .int .i64 b, .int .i64 c, .int .i64 n, .int .i64 m, bl] 35)) ob W.heap.size sv wv op a b c n m bl := by
 have hh := heap_alloc_new W (.cells #[.int .i64 op, .int .i64 a, .int .i64 b, .int .i64 c, .int .i64 n, .int .i64 m, bl] 35); refine ⟨⟨c2a _ h0, c2a _ h1⟩, ?_, ?_, ?_, ?_, ?_, ?_, ?_⟩; all_goals (simp only [World.cell?, hh]; rfl)
theorem ActS.kept {W W' : World} {ob B : Nat} {sv wv : Value} {op a b c n m : Int} {bl : Value} (h : ActS W ob B sv wv op a b c n m bl) (h1 : W'.heap[ob]? = W.heap[ob]?) (h2 : W'.heap[B]? = W.heap[B]?) : ActS W' ob B sv wv op a b c n m bl := by
 have e1 : ∀ i, W'.cell? ⟨ob, i, none⟩ = W.cell? ⟨ob, i, none⟩ := fun i => World.cell?_of_block h1; have e2 : ∀ i, W'.cell? ⟨B, i, none⟩ = W.cell? ⟨B, i, none⟩ := fun i => World.cell?_of_block h2; obtain ⟨⟨a1, a2⟩, a3, a4, a5, a6, a7, a8, a9⟩ := h; exact ⟨⟨(e1 _).trans a1, (e1 _).trans a2⟩, (e2 _).trans a3, (e2 _).trans a4, (e2 _).trans a5, (e2 _).trans a6, (e2 _).trans a7, (e2 _).trans a8, (e2 _).trans a9⟩
def KeepA (W0 : World) (ob B : Nat) (w' : World) : Prop := w'.heap[ob]? = W0.heap[ob]? ∧ w'.heap[B]? = W0.heap[B]?
set_option maxRecDepth 100000 in
theorem system_group (W : World) (ob sb : Nat) (wv : Value) (a b c n m : Int) (bl : Value) (R : Int → Int → World → Prop) (h0 : W.cell? ⟨ob, 0, none⟩ = some (.pointer (some ⟨sb, 0, none⟩))) (h1 : W.cell? ⟨ob, 1, none⟩ = some wv)
 (hcall : Calls Tryz.prog 46 #[.pointer (some ⟨sb, 0, none⟩), .int .i64 a, .int .i64 n, .int .i64 m] (inAct W 1 a b c n m bl) (Two fun x y w' => R x y w' ∧ KeepA (inAct W 1 a b c n m bl) ob W.heap.size w')) :
 Calls Tryz.prog 28 #[.pointer (some ⟨ob, 0, none⟩), actV 1 a b c n m bl] W (Two R) := by
 unfold inAct at hcall; unfold actV; have hS := actS_alloc h0 h1 1 a b c n m bl; generalize hB : W.heap.size = B at hS hcall; have hSk : ∀ w', KeepA ((W.alloc (.cells #[.int .i64 1, .int .i64 a, .int .i64 b, .int .i64 c, .int .i64 n, .int .i64 m, bl] 35)).drew) ob B w' → ActS w' ob B (.pointer (some ⟨sb, 0, none⟩)) wv 1 a b c n m bl := fun w' hk => hS.kept hk.1 hk.2; go_enter Tryz.func28, Tryz.ntmps28; go_wp2_with fail
 go_region_held3 (fun W2 => W2.cell? ⟨ob, 0, none⟩ = some (.pointer (some ⟨sb, 0, none⟩)) ∧ W2.cell? ⟨B, 1, none⟩ = some (.int .i64 a) ∧ W2.cell? ⟨B, 4, none⟩ = some (.int .i64 n) ∧ W2.cell? ⟨B, 5, none⟩ = some (.int .i64 m)) (first | exact ⟨hS.1.1, hS.2.2.1, hS.2.2.2.2.2.1, hS.2.2.2.2.2.2.1⟩ | exact ⟨hS9.1.1, hS9.2.2.1, hS9.2.2.2.2.2.1, hS9.2.2.2.2.2.2.1⟩) (first | (go_at_call 46; refine hcall.mono ?_; rintro e w9 ⟨x9, y9, rfl, hr9, hk9⟩; have hS9 := hSk w9 hk9) | fail)
 all_goals
  go_wp2_with fail
  go_ret2
  exact ⟨x9, y9, rfl, hr9⟩
set_option maxRecDepth 100000 in
theorem system_spawn (W : World) (ob sb : Nat) (wv : Value) (a b c n m : Int) (bl : Value) (R : Int → Int → World → Prop) (h0 : W.cell? ⟨ob, 0, none⟩ = some (.pointer (some ⟨sb, 0, none⟩))) (h1 : W.cell? ⟨ob, 1, none⟩ = some wv)
 (hcall : Calls Tryz.prog 47 #[.pointer (some ⟨sb, 0, none⟩), .int .i64 a, .int .u16 (IntKind.u16.wrap b), .int .i64 c] (inAct W 2 a b c n m bl) (Two fun x y w' => R x y w' ∧ KeepA (inAct W 2 a b c n m bl) ob W.heap.size w')) :
 Calls Tryz.prog 28 #[.pointer (some ⟨ob, 0, none⟩), actV 2 a b c n m bl] W (Two R) := by
 unfold inAct at hcall; unfold actV; have hS := actS_alloc h0 h1 2 a b c n m bl; generalize hB : W.heap.size = B at hS hcall; have hSk : ∀ w', KeepA ((W.alloc (.cells #[.int .i64 2, .int .i64 a, .int .i64 b, .int .i64 c, .int .i64 n, .int .i64 m, bl] 35)).drew) ob B w' → ActS w' ob B (.pointer (some ⟨sb, 0, none⟩)) wv 2 a b c n m bl := fun w' hk => hS.kept hk.1 hk.2; go_enter Tryz.func28, Tryz.ntmps28; go_wp2_with fail
 go_region_held3 (fun W2 => W2.cell? ⟨ob, 0, none⟩ = some (.pointer (some ⟨sb, 0, none⟩)) ∧ W2.cell? ⟨B, 1, none⟩ = some (.int .i64 a) ∧ W2.cell? ⟨B, 2, none⟩ = some (.int .i64 b) ∧ W2.cell? ⟨B, 3, none⟩ = some (.int .i64 c)) (first | exact ⟨hS.1.1, hS.2.2.1, hS.2.2.2.1, hS.2.2.2.2.1⟩ | exact ⟨hS9.1.1, hS9.2.2.1, hS9.2.2.2.1, hS9.2.2.2.2.1⟩) (first | (go_at_call 47; refine hcall.mono ?_; rintro e w9 ⟨x9, y9, rfl, hr9, hk9⟩; have hS9 := hSk w9 hk9) | fail)
 all_goals
  go_wp2_with fail
  go_ret2
  exact ⟨x9, y9, rfl, hr9⟩
set_option maxRecDepth 100000 in
theorem system_start (W : World) (ob sb : Nat) (wv : Value) (a b c n m : Int) (bl : Value) (R : Int → World → Prop) (h0 : W.cell? ⟨ob, 0, none⟩ = some (.pointer (some ⟨sb, 0, none⟩))) (h1 : W.cell? ⟨ob, 1, none⟩ = some wv)
 (hcall : Calls Tryz.prog 48 #[.pointer (some ⟨sb, 0, none⟩), .int .i64 a] (inAct W 3 a b c n m bl) (One' fun y w' => R y w' ∧ KeepA (inAct W 3 a b c n m bl) ob W.heap.size w')) :
 Calls Tryz.prog 28 #[.pointer (some ⟨ob, 0, none⟩), actV 3 a b c n m bl] W (Two fun x y w' => x = 0 ∧ R y w') := by
 unfold inAct at hcall; unfold actV; have hS := actS_alloc h0 h1 3 a b c n m bl; generalize hB : W.heap.size = B at hS hcall; have hSk : ∀ w', KeepA ((W.alloc (.cells #[.int .i64 3, .int .i64 a, .int .i64 b, .int .i64 c, .int .i64 n, .int .i64 m, bl] 35)).drew) ob B w' → ActS w' ob B (.pointer (some ⟨sb, 0, none⟩)) wv 3 a b c n m bl := fun w' hk => hS.kept hk.1 hk.2; go_enter Tryz.func28, Tryz.ntmps28; go_wp2_with fail
 go_region_held3 (fun W2 => W2.cell? ⟨ob, 0, none⟩ = some (.pointer (some ⟨sb, 0, none⟩)) ∧ W2.cell? ⟨B, 1, none⟩ = some (.int .i64 a)) (first | exact ⟨hS.1.1, hS.2.2.1⟩ | exact ⟨hS9.1.1, hS9.2.2.1⟩) (first | (go_at_call 48; refine hcall.mono ?_; rintro e w9 ⟨y9, rfl, hr9, hk9⟩; have hS9 := hSk w9 hk9) | fail)
 all_goals
  go_wp2_with fail
  go_ret2
  exact ⟨0, y9, rfl, rfl, hr9⟩
set_option maxRecDepth 100000 in
theorem system_sleep (W : World) (ob sb : Nat) (wv : Value) (a b c n m : Int) (bl : Value) (R : Int → World → Prop) (h0 : W.cell? ⟨ob, 0, none⟩ = some (.pointer (some ⟨sb, 0, none⟩))) (h1 : W.cell? ⟨ob, 1, none⟩ = some wv)
 (hcall : Calls Tryz.prog 49 #[.pointer (some ⟨sb, 0, none⟩), .int .i64 a] (inAct W 4 a b c n m bl) (One' fun y w' => R y w' ∧ KeepA (inAct W 4 a b c n m bl) ob W.heap.size w')) :
 Calls Tryz.prog 28 #[.pointer (some ⟨ob, 0, none⟩), actV 4 a b c n m bl] W (Two fun x y w' => x = 0 ∧ R y w') := by
 unfold inAct at hcall; unfold actV; have hS := actS_alloc h0 h1 4 a b c n m bl; generalize hB : W.heap.size = B at hS hcall; have hSk : ∀ w', KeepA ((W.alloc (.cells #[.int .i64 4, .int .i64 a, .int .i64 b, .int .i64 c, .int .i64 n, .int .i64 m, bl] 35)).drew) ob B w' → ActS w' ob B (.pointer (some ⟨sb, 0, none⟩)) wv 4 a b c n m bl := fun w' hk => hS.kept hk.1 hk.2; go_enter Tryz.func28, Tryz.ntmps28; go_wp2_with fail
 go_region_held3 (fun W2 => W2.cell? ⟨ob, 0, none⟩ = some (.pointer (some ⟨sb, 0, none⟩)) ∧ W2.cell? ⟨B, 1, none⟩ = some (.int .i64 a)) (first | exact ⟨hS.1.1, hS.2.2.1⟩ | exact ⟨hS9.1.1, hS9.2.2.1⟩) (first | (go_at_call 49; refine hcall.mono ?_; rintro e w9 ⟨y9, rfl, hr9, hk9⟩; have hS9 := hSk w9 hk9) | fail)
 all_goals
  go_wp2_with fail
  go_ret2
  exact ⟨0, y9, rfl, rfl, hr9⟩
set_option maxRecDepth 100000 in
theorem system_wake (W : World) (ob sb : Nat) (wv : Value) (a b c n m : Int) (bl : Value) (R : Int → World → Prop) (h0 : W.cell? ⟨ob, 0, none⟩ = some (.pointer (some ⟨sb, 0, none⟩))) (h1 : W.cell? ⟨ob, 1, none⟩ = some wv)
 (hcall : Calls Tryz.prog 50 #[.pointer (some ⟨sb, 0, none⟩), .int .i64 a] (inAct W 5 a b c n m bl) (One' fun y w' => R y w' ∧ KeepA (inAct W 5 a b c n m bl) ob W.heap.size w')) :
 Calls Tryz.prog 28 #[.pointer (some ⟨ob, 0, none⟩), actV 5 a b c n m bl] W (Two fun x y w' => x = 0 ∧ R y w') := by
 unfold inAct at hcall; unfold actV; have hS := actS_alloc h0 h1 5 a b c n m bl; generalize hB : W.heap.size = B at hS hcall; have hSk : ∀ w', KeepA ((W.alloc (.cells #[.int .i64 5, .int .i64 a, .int .i64 b, .int .i64 c, .int .i64 n, .int .i64 m, bl] 35)).drew) ob B w' → ActS w' ob B (.pointer (some ⟨sb, 0, none⟩)) wv 5 a b c n m bl := fun w' hk => hS.kept hk.1 hk.2; go_enter Tryz.func28, Tryz.ntmps28; go_wp2_with fail
 go_region_held3 (fun W2 => W2.cell? ⟨ob, 0, none⟩ = some (.pointer (some ⟨sb, 0, none⟩)) ∧ W2.cell? ⟨B, 1, none⟩ = some (.int .i64 a)) (first | exact ⟨hS.1.1, hS.2.2.1⟩ | exact ⟨hS9.1.1, hS9.2.2.1⟩) (first | (go_at_call 50; refine hcall.mono ?_; rintro e w9 ⟨y9, rfl, hr9, hk9⟩; have hS9 := hSk w9 hk9) | fail)
 all_goals
  go_wp2_with fail
  go_ret2
  exact ⟨0, y9, rfl, rfl, hr9⟩
set_option maxRecDepth 100000 in
theorem system_end (W : World) (ob sb : Nat) (wv : Value) (a b c n m : Int) (bl : Value) (R : Int → World → Prop) (h0 : W.cell? ⟨ob, 0, none⟩ = some (.pointer (some ⟨sb, 0, none⟩))) (h1 : W.cell? ⟨ob, 1, none⟩ = some wv)
 (hcall : Calls Tryz.prog 51 #[.pointer (some ⟨sb, 0, none⟩), .int .i64 a] (inAct W 6 a b c n m bl) (One' fun y w' => R y w' ∧ KeepA (inAct W 6 a b c n m bl) ob W.heap.size w')) :
 Calls Tryz.prog 28 #[.pointer (some ⟨ob, 0, none⟩), actV 6 a b c n m bl] W (Two fun x y w' => x = 0 ∧ R y w') := by
 unfold inAct at hcall; unfold actV; have hS := actS_alloc h0 h1 6 a b c n m bl; generalize hB : W.heap.size = B at hS hcall; have hSk : ∀ w', KeepA ((W.alloc (.cells #[.int .i64 6, .int .i64 a, .int .i64 b, .int .i64 c, .int .i64 n, .int .i64 m, bl] 35)).drew) ob B w' → ActS w' ob B (.pointer (some ⟨sb, 0, none⟩)) wv 6 a b c n m bl := fun w' hk => hS.kept hk.1 hk.2; go_enter Tryz.func28, Tryz.ntmps28; go_wp2_with fail
 go_region_held3 (fun W2 => W2.cell? ⟨ob, 0, none⟩ = some (.pointer (some ⟨sb, 0, none⟩)) ∧ W2.cell? ⟨B, 1, none⟩ = some (.int .i64 a)) (first | exact ⟨hS.1.1, hS.2.2.1⟩ | exact ⟨hS9.1.1, hS9.2.2.1⟩) (first | (go_at_call 51; refine hcall.mono ?_; rintro e w9 ⟨y9, rfl, hr9, hk9⟩; have hS9 := hSk w9 hk9) | fail)
 all_goals
  go_wp2_with fail
  go_ret2
  exact ⟨0, y9, rfl, rfl, hr9⟩
set_option maxRecDepth 100000 in
theorem system_weigh (W : World) (ob sb : Nat) (wv : Value) (a b c n m : Int) (bl : Value) (R : Int → World → Prop) (h0 : W.cell? ⟨ob, 0, none⟩ = some (.pointer (some ⟨sb, 0, none⟩))) (h1 : W.cell? ⟨ob, 1, none⟩ = some wv)
 (hcall : Calls Tryz.prog 52 #[.pointer (some ⟨sb, 0, none⟩), .int .i64 a, .int .i64 b] (inAct W 7 a b c n m bl) (One' fun y w' => R y w' ∧ KeepA (inAct W 7 a b c n m bl) ob W.heap.size w')) :
 Calls Tryz.prog 28 #[.pointer (some ⟨ob, 0, none⟩), actV 7 a b c n m bl] W (Two fun x y w' => x = 0 ∧ R y w') := by
 unfold inAct at hcall; unfold actV; have hS := actS_alloc h0 h1 7 a b c n m bl; generalize hB : W.heap.size = B at hS hcall; have hSk : ∀ w', KeepA ((W.alloc (.cells #[.int .i64 7, .int .i64 a, .int .i64 b, .int .i64 c, .int .i64 n, .int .i64 m, bl] 35)).drew) ob B w' → ActS w' ob B (.pointer (some ⟨sb, 0, none⟩)) wv 7 a b c n m bl := fun w' hk => hS.kept hk.1 hk.2; go_enter Tryz.func28, Tryz.ntmps28; go_wp2_with fail
 go_region_held3 (fun W2 => W2.cell? ⟨ob, 0, none⟩ = some (.pointer (some ⟨sb, 0, none⟩)) ∧ W2.cell? ⟨B, 1, none⟩ = some (.int .i64 a) ∧ W2.cell? ⟨B, 2, none⟩ = some (.int .i64 b)) (first | exact ⟨hS.1.1, hS.2.2.1, hS.2.2.2.1⟩ | exact ⟨hS9.1.1, hS9.2.2.1, hS9.2.2.2.1⟩) (first | (go_at_call 52; refine hcall.mono ?_; rintro e w9 ⟨y9, rfl, hr9, hk9⟩; have hS9 := hSk w9 hk9) | fail)
 all_goals
  go_wp2_with fail
  go_ret2
  exact ⟨0, y9, rfl, rfl, hr9⟩
set_option maxRecDepth 100000 in
theorem system_bind (W : World) (ob sb : Nat) (wv : Value) (a b c n m : Int) (bl : Value) (R : Int → World → Prop) (h0 : W.cell? ⟨ob, 0, none⟩ = some (.pointer (some ⟨sb, 0, none⟩))) (h1 : W.cell? ⟨ob, 1, none⟩ = some wv)
 (hcall : Calls Tryz.prog 53 #[.pointer (some ⟨sb, 0, none⟩), .int .i64 a, .int .u16 (IntKind.u16.wrap b)] (inAct W 8 a b c n m bl) (One' fun y w' => R y w' ∧ KeepA (inAct W 8 a b c n m bl) ob W.heap.size w')) :
 Calls Tryz.prog 28 #[.pointer (some ⟨ob, 0, none⟩), actV 8 a b c n m bl] W (Two fun x y w' => x = 0 ∧ R y w') := by
 unfold inAct at hcall; unfold actV; have hS := actS_alloc h0 h1 8 a b c n m bl; generalize hB : W.heap.size = B at hS hcall; have hSk : ∀ w', KeepA ((W.alloc (.cells #[.int .i64 8, .int .i64 a, .int .i64 b, .int .i64 c, .int .i64 n, .int .i64 m, bl] 35)).drew) ob B w' → ActS w' ob B (.pointer (some ⟨sb, 0, none⟩)) wv 8 a b c n m bl := fun w' hk => hS.kept hk.1 hk.2; go_enter Tryz.func28, Tryz.ntmps28; go_wp2_with fail
 go_region_held3 (fun W2 => W2.cell? ⟨ob, 0, none⟩ = some (.pointer (some ⟨sb, 0, none⟩)) ∧ W2.cell? ⟨B, 1, none⟩ = some (.int .i64 a) ∧ W2.cell? ⟨B, 2, none⟩ = some (.int .i64 b)) (first | exact ⟨hS.1.1, hS.2.2.1, hS.2.2.2.1⟩ | exact ⟨hS9.1.1, hS9.2.2.1, hS9.2.2.2.1⟩) (first | (go_at_call 53; refine hcall.mono ?_; rintro e w9 ⟨y9, rfl, hr9, hk9⟩; have hS9 := hSk w9 hk9) | fail)
 all_goals
  go_wp2_with fail
  go_ret2
  exact ⟨0, y9, rfl, rfl, hr9⟩
set_option maxRecDepth 100000 in
theorem system_move (W : World) (ob sb : Nat) (wv : Value) (a b c n m : Int) (bl : Value) (R : Int → World → Prop) (h0 : W.cell? ⟨ob, 0, none⟩ = some (.pointer (some ⟨sb, 0, none⟩))) (h1 : W.cell? ⟨ob, 1, none⟩ = some wv)
 (hcall : Calls Tryz.prog 54 #[.pointer (some ⟨sb, 0, none⟩), .int .i64 a, .int .i64 b] (inAct W 9 a b c n m bl) (One' fun y w' => R y w' ∧ KeepA (inAct W 9 a b c n m bl) ob W.heap.size w')) :
 Calls Tryz.prog 28 #[.pointer (some ⟨ob, 0, none⟩), actV 9 a b c n m bl] W (Two fun x y w' => x = 0 ∧ R y w') := by
 unfold inAct at hcall; unfold actV; have hS := actS_alloc h0 h1 9 a b c n m bl; generalize hB : W.heap.size = B at hS hcall; have hSk : ∀ w', KeepA ((W.alloc (.cells #[.int .i64 9, .int .i64 a, .int .i64 b, .int .i64 c, .int .i64 n, .int .i64 m, bl] 35)).drew) ob B w' → ActS w' ob B (.pointer (some ⟨sb, 0, none⟩)) wv 9 a b c n m bl := fun w' hk => hS.kept hk.1 hk.2; go_enter Tryz.func28, Tryz.ntmps28; go_wp2_with fail
 go_region_held3 (fun W2 => W2.cell? ⟨ob, 0, none⟩ = some (.pointer (some ⟨sb, 0, none⟩)) ∧ W2.cell? ⟨B, 1, none⟩ = some (.int .i64 a) ∧ W2.cell? ⟨B, 2, none⟩ = some (.int .i64 b)) (first | exact ⟨hS.1.1, hS.2.2.1, hS.2.2.2.1⟩ | exact ⟨hS9.1.1, hS9.2.2.1, hS9.2.2.2.1⟩) (first | (go_at_call 54; refine hcall.mono ?_; rintro e w9 ⟨y9, rfl, hr9, hk9⟩; have hS9 := hSk w9 hk9) | fail)
 all_goals
  go_wp2_with fail
  go_ret2
  exact ⟨0, y9, rfl, rfl, hr9⟩
set_option maxRecDepth 100000 in
theorem system_run (W : World) (ob sb : Nat) (wv : Value) (a b c n m : Int) (bl : Value) (R : Int → Int → World → Prop) (h0 : W.cell? ⟨ob, 0, none⟩ = some (.pointer (some ⟨sb, 0, none⟩))) (h1 : W.cell? ⟨ob, 1, none⟩ = some wv)
 (hcall : Calls Tryz.prog 55 #[.pointer (some ⟨sb, 0, none⟩), .int .i64 a] (inAct W 10 a b c n m bl) (Two fun x y w' => R x y w' ∧ KeepA (inAct W 10 a b c n m bl) ob W.heap.size w')) :
 Calls Tryz.prog 28 #[.pointer (some ⟨ob, 0, none⟩), actV 10 a b c n m bl] W (Two R) := by
 unfold inAct at hcall; unfold actV; have hS := actS_alloc h0 h1 10 a b c n m bl; generalize hB : W.heap.size = B at hS hcall; have hSk : ∀ w', KeepA ((W.alloc (.cells #[.int .i64 10, .int .i64 a, .int .i64 b, .int .i64 c, .int .i64 n, .int .i64 m, bl] 35)).drew) ob B w' → ActS w' ob B (.pointer (some ⟨sb, 0, none⟩)) wv 10 a b c n m bl := fun w' hk => hS.kept hk.1 hk.2; go_enter Tryz.func28, Tryz.ntmps28; go_wp2_with fail
 go_region_held3 (fun W2 => W2.cell? ⟨ob, 0, none⟩ = some (.pointer (some ⟨sb, 0, none⟩)) ∧ W2.cell? ⟨B, 1, none⟩ = some (.int .i64 a)) (first | exact ⟨hS.1.1, hS.2.2.1⟩ | exact ⟨hS9.1.1, hS9.2.2.1⟩) (first | (go_at_call 55; refine hcall.mono ?_; rintro e w9 ⟨x9, y9, rfl, hr9, hk9⟩; have hS9 := hSk w9 hk9) | fail)
 all_goals
  go_wp2_with fail
  go_ret2
  exact ⟨x9, y9, rfl, hr9⟩
set_option maxRecDepth 100000 in
theorem system_tick (W : World) (ob sb : Nat) (wv : Value) (a b c n m : Int) (bl : Value) (R : Int → World → Prop) (h0 : W.cell? ⟨ob, 0, none⟩ = some (.pointer (some ⟨sb, 0, none⟩))) (h1 : W.cell? ⟨ob, 1, none⟩ = some wv)
 (hcall : Calls Tryz.prog 56 #[.pointer (some ⟨sb, 0, none⟩), .int .i64 n] (inAct W 11 a b c n m bl) (One' fun y w' => R y w' ∧ KeepA (inAct W 11 a b c n m bl) ob W.heap.size w')) :
 Calls Tryz.prog 28 #[.pointer (some ⟨ob, 0, none⟩), actV 11 a b c n m bl] W (Two fun x y w' => x = 0 ∧ R y w') := by
 unfold inAct at hcall; unfold actV; have hS := actS_alloc h0 h1 11 a b c n m bl; generalize hB : W.heap.size = B at hS hcall; have hSk : ∀ w', KeepA ((W.alloc (.cells #[.int .i64 11, .int .i64 a, .int .i64 b, .int .i64 c, .int .i64 n, .int .i64 m, bl] 35)).drew) ob B w' → ActS w' ob B (.pointer (some ⟨sb, 0, none⟩)) wv 11 a b c n m bl := fun w' hk => hS.kept hk.1 hk.2; go_enter Tryz.func28, Tryz.ntmps28; go_wp2_with fail
 go_region_held3 (fun W2 => W2.cell? ⟨ob, 0, none⟩ = some (.pointer (some ⟨sb, 0, none⟩)) ∧ W2.cell? ⟨B, 4, none⟩ = some (.int .i64 n)) (first | exact ⟨hS.1.1, hS.2.2.2.2.2.1⟩ | exact ⟨hS9.1.1, hS9.2.2.2.2.2.1⟩) (first | (go_at_call 56; refine hcall.mono ?_; rintro e w9 ⟨y9, rfl, hr9, hk9⟩; have hS9 := hSk w9 hk9) | fail)
 all_goals
  go_wp2_with fail
  go_ret2
  exact ⟨0, y9, rfl, rfl, hr9⟩
end
section
attribute [local go_sem] Oper.semAt_some
theorem info60 : (Tryz.prog.info? 60).map (fun i => (i.zero, i.size, i.bytes)) = some (some (.agg #[.int .i64 0, .int .i64 0, .int .i64 0, .int .i64 0, .int .i64 0, .int .u16 0, .int .i64 0]), 7, 56) := by kernel_rfl
def taskY (s : Sy) (x : Int) : Tk := toldT s ((s.tasks x).getD default)
def ReadyY (s : Sy) : Prop := ∀ x t, s.tasks x = some t → t.state = 2 → ∃ i : Nat, t.core = (i : Int) ∧ i < s.cores.length
theorem task_any (sb gb nb pb mb n : Nat) (cv : Value) (D : DataW Unit) (cbs : List Nat) (tb : Int → Nat) (own : Nat → Option Own) (s : Sy) (id : Int) (t : Tk) (W : World) (h : SysAt W sb gb nb pb mb n cv D cbs tb own s)
 (h1 : -9223372036854775808 ≤ id) (h2 : id ≤ 9223372036854775807) (ht : s.tasks id = some t) (hid : t.id = id) (hr : ReadyY s) (hf : FitsY s) :
 Calls Tryz.prog 142 #[.pointer (some ⟨sb, 0, none⟩), .int .i64 id] W (TaskP s t W) := by
 by_cases hst : t.state = 2
 · obtain ⟨i, hi, hil⟩ := hr id t ht hst; exact task_ready sb gb nb pb mb n cv D cbs tb own s id t i W h h1 h2 ht hst hid hi (by rw [h.num]; exact hil) (hf i hil)
 · exact task_idle sb gb nb pb mb n cv D cbs tb own s id t W h h1 h2 ht hst
def flatT (l : List Tk) : List Value := l.flatMap Tk.cells
theorem flatT_append (a b : List Tk) : flatT (a ++ b) = flatT a ++ flatT b := by simp [flatT]
theorem kpl_below {B : Nat} {W W' : World} (h : Below W.heap.size W W') (hB : B < W.heap.size) : KpL B W W' :=
 ⟨h.size, fun k o ho _ _ _ => (h.block k (lt_of_some ho)).trans ho, fun v' k hv hk => .inl ⟨v', by rw [← hv]; exact (h.cell (p := ⟨B, 0, none⟩) hB).symm, hk⟩⟩
set_option maxRecDepth 100000 in
theorem tasks_any (sb gb nb pb mb n : Nat) (cv : Value) (D : DataW Unit) (cbs : List Nat) (tb : Int → Nat) (own : Nat → Option Own) (s : Sy) (w : World)
 (h : SysAt w sb gb nb pb mb n cv D cbs tb own s) (hz : Sized s.ps) (hd : DomY s) (hr : ReadyY s) (hf : FitsY s) :
 Calls Tryz.prog 90 #[.pointer (some ⟨sb, 0, none⟩)] w fun e W' => ∃ v : Value, e = .returned v ∧ W'.ownsRow w.heap.size 60 7 v (listP s.ps).length (flatT ((listP s.ps).map (taskY s))) ∧ Below w.heap.size w W' := by
 have h1 : 1 ≤ 5 := by omega
 have hsl := h.lt sb (by rw [h.osb]; simp); have hnl := h.slots.lt; have c66 := h.c66; have hlen64 : (listP s.ps).length ≤ 64 := Nat.le_trans (listFrom_len _ _) hz.1; have HS := lH h; have HD := lH hd; have HZ := lH hz; have HR := lH hr; have HF := lH hf; clear h hd hz hr hf; refine callsIn_wide.1 (callsIn_of_wp_marks (n := 5) Tryz.func90 rfl trivial (wpIn_wide.2 ?_) rfl); simp only [Tryz.ntmps90, List.size_toArray, List.length_cons, List.length_nil, Nat.reduceAdd, Nat.reduceSub, Array.replicate_succ, Array.replicate_zero, List.push_toArray, List.append_toArray, List.nil_append, List.cons_append]; go_wp2_with (go_at_call 141; refine (sall_any nb _).mono ?_; rintro e w' ⟨rfl, rfl⟩)
 have q0 := cell_new_l w (.pointer (some ⟨sb, 0, none⟩)) 81; have q1 := cell_new_l (w.alloc (.cells #[.pointer (some ⟨sb, 0, none⟩)] 81)) (.slice none 0 0) 41; have q2 := cell_new_l ((w.alloc (.cells #[.pointer (some ⟨sb, 0, none⟩)] 81)).alloc (.cells #[.slice none 0 0] 41)) (.pointer (some ⟨nb, 0, none⟩)) 115; have f1 := frozen_alloc_l (.cells #[.pointer (some ⟨nb, 0, none⟩)] 115) q1.1 q1.2; replace q0 := c2a (.cells #[.pointer (some ⟨nb, 0, none⟩)] 115) (c2a (.cells #[.slice none 0 0] 41) q0.1); replace q1 := c2a (.cells #[.pointer (some ⟨nb, 0, none⟩)] 115) q1.1; replace q2 := q2.1; simp only [World.size_alloc] at q0 q1 q2 f1; have hB0 : Below w.heap.size w (((w.alloc (.cells #[.pointer (some ⟨sb, 0, none⟩)] 81)).alloc (.cells #[.slice none 0 0] 41)).alloc (.cells #[.pointer (some ⟨nb, 0, none⟩)] 115)) := (((Below.refl _ w).alloc (Nat.le_refl _) _).alloc (by simp) _).alloc (by simp; omega) _; have hz : (((w.alloc (.cells #[.pointer (some ⟨sb, 0, none⟩)] 81)).alloc (.cells #[.slice none 0 0] 41)).alloc (.cells #[.pointer (some ⟨nb, 0, none⟩)] 115)).heap.size = w.heap.size + 1 + 1 + 1 := by simp
 have hz3 : w.heap.size + 3 ≤ (((w.alloc (.cells #[.pointer (some ⟨sb, 0, none⟩)] 81)).alloc (.cells #[.slice none 0 0] 41)).alloc (.cells #[.pointer (some ⟨nb, 0, none⟩)] 115)).heap.size := by simp
 clear hz; generalize ((w.alloc (.cells #[.pointer (some ⟨sb, 0, none⟩)] 81)).alloc (.cells #[.slice none 0 0] 41)).alloc (.cells #[.pointer (some ⟨nb, 0, none⟩)] 115) = W1 at q0 q1 q2 f1 hB0 hz3 ⊢; refine (wpIn_wide (n := 5)).1 (wpIn_rangeFunc_ownF rfl h1 (gf := 171) (lb := #[.pointer (some ⟨w.heap.size + 1 + 1, 0, none⟩)]) rfl trivial (enters_of Tryz.func171 (by kernel_rfl) rfl)
  (sall_stops (fun x => x ∈ listP s.ps) (5 - 1) (by omega) (w.heap.size + 1 + 1) nb pb (w.heap.size + 1) s.ps (listP s.ps).attach (List.attach_map_subtype_val _) W1 q2 (HS.out.below hB0).slots HZ.out q1) KpL.t (KpL.b (by omega)) (Below.refl _ _) (fun _ => rfl)
  (fun pre W => (W1.heap.size ≤ W.heap.size ∧ W.cell? ⟨w.heap.size, 0, none⟩ = some (.pointer (some ⟨sb, 0, none⟩)) ∧ BoxRow W1.heap.size (w.heap.size + 1) 60 7 (flatT (pre.map fun x => taskY s x.1)) pre.length W) ∧ Below w.heap.size w W)
  (fun _ _ _ => False)
  (OwnFrom.and (Own.from (fun s A B row hs hg hr => ⟨Nat.le_trans hs.1 hg.size, cell_kept hs.2.1 hg hr, hs.2.2.kept hg hr⟩) _) (ownFrom_below (Nat.le_refl _) (by omega)))
  (fun _ _ _ _ _ hs _ _ => hs)
  ⟨⟨Nat.le_refl _, q0, _, q1, f1, World.ownsRow_nil ..⟩, hB0⟩
  (fun x => { tmps := #[Value.pointer (some ⟨sb, 0, none⟩), .pointer (some ⟨w.heap.size, 0, none⟩), .slice none 0 0, .pointer (some ⟨w.heap.size + 1, 0, none⟩), .int .i64 x.1, undef, undef, .pointer (some ⟨sb, 0, none⟩), .pointer (some ⟨sb, 0, none⟩), .pointer (some ⟨sb, 66, none⟩), .pointer (some ⟨nb, 0, none⟩), .func (.func 171) #[] #[.pointer (some ⟨w.heap.size + 1 + 1, 0, none⟩)], .int .i64 x.1, undef, undef, undef, undef, undef, undef, undef, undef, undef, undef, undef], defers := [] }) ?assign ?body ?done ?stop)
 case assign =>
  intro l x W K hK; gi_wp2
  simpa using hK
 case body =>
  rintro l pre ⟨x, hx⟩ W ⟨⟨hwz, hk0, v, hv, hvf, hrow⟩, hB⟩ hpl; have e1 : 1 ≤ 5 - 1 - 1 := by omega
  obtain ⟨i0, hi, hz0, hz1, hz2⟩ := info_parts info60; have hpl2 : pre.length < 64 := by rw [List.length_attach] at hpl; omega
  have hzB := hB.size; obtain ⟨⟨hx1, hx2⟩, t, ht, hid⟩ := HD.out x hx; have htask := task_any sb gb nb pb mb n cv D cbs tb own s x t W (HS.out.below hB) (by omega) hx2 ht hid HR.out HF.out; have hty : taskY s x = toldT s t := by unfold taskY; rw [ht]; rfl
  unfold TaskP at htask; rw [← hty] at htask; obtain ⟨T, hT⟩ : ∃ T, taskY s x = T := ⟨_, rfl⟩
  rw [hT] at htask; clear hty; obtain ⟨ti, tw, tg, tc, ts, tm, tl⟩ := T; unfold Tk.cells at htask; simp only at htask; have HTY := lH hT; clear hT ht hid; obtain ⟨xs, hxs⟩ : ∃ xs, flatT (pre.map fun x => taskY s x.1) = xs := ⟨_, rfl⟩
  rw [hxs] at hrow; have HXS := lH hxs; clear hxs; gi_wp2_with (first | (refine ⟨trivial, ?_⟩; gi_at_call 142; refine (CallsIn.inRound l (callsIn_wide.2 htask)).mono ?_; rintro e w' ⟨rfl, hb⟩; have hk0' := (hb.cell (p := ⟨w.heap.size, 0, none⟩) (by show w.heap.size < W.heap.size; omega)).trans hk0; have hv' := (hb.cell (p := ⟨w.heap.size + 1, 0, none⟩) (by show w.heap.size + 1 < W.heap.size; omega)).trans hv; have hvf' : w'.frozen? ⟨w.heap.size + 1, 0, none⟩ = false := (World.frozen?_of_block (a := ⟨w.heap.size + 1, 0, none⟩) (hb.block (w.heap.size + 1) (by omega))).trans hvf; have hrow' := ownsRow_same hrow (fun k hk => hb.block k (hrow.lt k hk).2); have hz' := hb.size; have hv2 := c2a (.cells #[.int .i64 ti, .int .i64 tw, .int .i64 tg, .int .i64 tc, .int .i64 ts, .int .u16 tm, .int .i64 tl] 60) hv') | (gi_at_builtin; refine wpListIn_append_lies _ rfl _ _ 41 rfl W1.heap.size 60 i0 (.agg #[.int .i64 0, .int .i64 0, .int .i64 0, .int .i64 0, .int .i64 0, .int .u16 0, .int .i64 0]) 7 56 Tryz.underlying41 hi hz0 hz1 hz2 rfl (by decide) v pre.length xs rfl ((hrow'.alloc _).alloc _) ⟨w'.heap.size + 1, 0, none⟩ 1 1 [.int .i64 ti, .int .i64 tw, .int .i64 tg, .int .i64 tc, .int .i64 ts, .int .u16 tm, .int .i64 tl] rfl rfl (World.news_of_block (cs := #[.int .i64 ti, .int .i64 tw, .int .i64 tg, .int .i64 tc, .int .i64 ts, .int .u16 tm, .int .i64 tl]) (t := 60) (fr := (0, 0)) (by have := heap_alloc_new (w'.alloc (.cells #[.int .i64 ti, .int .i64 tw, .int .i64 tg, .int .i64 tc, .int .i64 ts, .int .u16 tm, .int .i64 tl] 60)) (.cells #[.int .i64 ti, .int .i64 tw, .int .i64 tg, .int .i64 tc, .int .i64 ts, .int .u16 tm, .int .i64 tl] 60); rwa [World.size_alloc] at this)) (by simp [Value.oneCell']) (by omega) (by unfold maxLen; omega) (by omega) (by simp; omega) (w'.heap.size + 2) (by simp) ?_; intro g cap w4 hown4 hgrow4 hat4 hlt4; have hvne : v.ownBlock ≠ some (w.heap.size + 1) := (fun e => by have := (hrow'.lt _ e).1; omega); have hv4 := hgrow4.cell (c2a (.cells #[.int .i64 ti, .int .i64 tw, .int .i64 tg, .int .i64 tc, .int .i64 ts, .int .u16 tm, .int .i64 tl] 60) hv2) (fun e => hvne e.symm); have hf4 : w4.frozen? ⟨w.heap.size + 1, 0, none⟩ = false := (World.frozen?_of_block (a := ⟨w.heap.size + 1, 0, none⟩) ((hgrow4.block (w.heap.size + 1) (by simp; omega) (fun e => hvne e.symm)).trans ((Below.heap_alloc _ _ _ (by simp; omega)).trans (Below.heap_alloc _ _ _ (by omega))))).trans hvf'))
  have hB2 : Below w.heap.size w (w'.alloc (.cells #[.int .i64 ti, .int .i64 tw, .int .i64 tg, .int .i64 tc, .int .i64 ts, .int .u16 tm, .int .i64 tl] 60)) := (hB.trans (hb.mono hzB)).alloc (by omega) _; have hf2 := frozen_alloc_l (.cells #[.int .i64 ti, .int .i64 tw, .int .i64 tg, .int .i64 tc, .int .i64 ts, .int .u16 tm, .int .i64 tl] 60) hv' hvf'; have hsz2 : (w'.alloc (.cells #[.int .i64 ti, .int .i64 tw, .int .i64 tg, .int .i64 tc, .int .i64 ts, .int .u16 tm, .int .i64 tl] 60)).heap.size = w'.heap.size + 1 := by simp
  have hk2 := c2a (.cells #[.int .i64 ti, .int .i64 tw, .int .i64 tg, .int .i64 tc, .int .i64 ts, .int .u16 tm, .int .i64 tl] 60) hk0'; obtain ⟨r1, r2, r3, r4, r5, r6, r7⟩ := box_step (n₀ := W1.heap.size) hv2 hf2 (hrow'.alloc _) (by omega) (by omega) hgrow4 hown4 (by rw [hsz2]; exact hat4); have hBW : Below W.heap.size W (w'.alloc (.cells #[.int .i64 ti, .int .i64 tw, .int .i64 tg, .int .i64 tc, .int .i64 ts, .int .u16 tm, .int .i64 tl] 60)) := hb.alloc hz' _; have hz4 := hgrow4.size; simp only [World.size_alloc] at hz4; have hrowE : flatT (((pre ++ [(⟨x, hx⟩ : {x : Int // x ∈ listP s.ps})]).map fun x => taskY s x.1)) = xs ++ [.int .i64 ti, .int .i64 tw, .int .i64 tg, .int .i64 tc, .int .i64 ts, .int .u16 tm, .int .i64 tl] := by
   rw [List.map_append, flatT_append, HXS.out]; congr 1
   have : taskY s x = ⟨ti, tw, tg, tc, ts, tm, tl⟩ := HTY.out; simp [this, flatT, Tk.cells]
  refine ⟨(keeps_below hBW).trans r1, (kpl_below hBW (by omega)).t r2, ⟨?_, (World.cell?_of_block (a := ⟨w.heap.size, 0, none⟩) (r4 w.heap.size (by omega) (by omega))).trans hk2, ?_⟩, ?_⟩
  · simp only [World.size_setCell]; omega
  · rw [hrowE, List.length_append]; exact r3
  · refine ⟨r5.trans hB2.os, r6.trans hB2.tape, r7.trans hB2.output, ?_, fun k hk => ?_⟩
    · simp only [World.size_setCell]; omega
    · rw [r4 k (by omega) (by omega)]; exact hB2.block k hk
 case done =>
  rintro D' ys W hD rfl ⟨⟨hwz, hk0, v, hv, hvf, hrow⟩, hB⟩ hK; have hrow2 : W.ownsRow W1.heap.size 60 7 v (listP s.ps).length (flatT ((listP s.ps).map (taskY s))) := by
   have e1 : ((listP s.ps).attach.map fun x => taskY s x.1) = (listP s.ps).map (taskY s) := by
    have := congrArg (List.map (taskY s)) (List.attach_map_subtype_val (listP s.ps)); rw [List.map_map] at this; exact this
   rw [e1, List.length_attach] at hrow; exact hrow
  clear hrow; have HROW := lH hrow2; clear hrow2; go_wp2_with fail
  refine ⟨by simp, .inl ⟨_, _, rfl, run_takeDeferred hK, ?_⟩⟩; refine ⟨_, results_tmp rfl _ _ _, ?_⟩; refine ⟨_, rfl, ?_, hB.trans (belowK_b (w := w) (Nat.le_refl _) _ D' _ _ (by omega) hK rfl rfl)⟩; exact ownsRow_putObj (ownsRow_base HROW.out (by omega)) _ hK rfl
 case stop =>
  rintro D' c pre W _ _ h _; exact h.elim
end
def accsK (s : Sy) (k : Nat) : List Acc4 := ((List.range k).filter fun g : Nat => hasG s.gs (g : Int)).map fun g => s.acc.getD g default
theorem accsK_skip {s : Sy} {k : Nat} (h : hasG s.gs (k : Int) = false) : accsK s (k + 1) = accsK s k := by
 unfold accsK; rw [List.range_succ, List.filter_append]; simp [h]
theorem accsK_more {s : Sy} {k : Nat} (h : hasG s.gs (k : Int) = true) : accsK s (k + 1) = accsK s k ++ [s.acc.getD k default] := by
 unfold accsK; rw [List.range_succ, List.filter_append]; simp [h]
structure OfA (w : World) (s : Sy) (a b : Nat) (wr : World) (vs : Nat → Value) (cnt : Nat → Nat) (xs : Nat → List Value) (P : Nat → Prop) (fl : List (Int × Value)) : Prop where
 st : StA (w.heap.size + 2) wr (w.heap.size + 1) vs cnt xs P
 below : Below w.heap.size w wr
 zero : wr.heap[w.heap.size]? = some (.cells #[.slice none 0 0, .slice none 0 0, .slice none 0 0, .slice none 0 0, .slice none 0 0] 44 (0, 0))
 p0 : ∀ k, P k → w.heap.size + 2 ≤ k
 tags : cnt 0 = s.cores.length ∧ xs 0 = tagsV s.cores
 forms : cnt 1 = s.cores.length ∧ xs 1 = flatF fl ∧ FormsOk wr P fl s.cores
 tasks : cnt 2 = (listP s.ps).length ∧ xs 2 = flatT ((listP s.ps).map (taskY s))
 lefts : cnt 3 = (accsK s a).length ∧ xs 3 = (accsK s a).map fun q => .int .i64 q.2.2.1
 phases : cnt 4 = (accsK s b).length ∧ xs 4 = (accsK s b).map fun q => .int .i64 q.2.2.2
theorem OfInv.tasks {w wr w7 : World} {s : Sy} {v : Value} (h : OfInv w s.cores s.cores.length wr) (hb : Below wr.heap.size wr w7) (hr : w7.ownsRow wr.heap.size 60 7 v (listP s.ps).length (flatT ((listP s.ps).map (taskY s)))) :
 (w7.cell? ⟨w.heap.size + 1, 2, none⟩ = some (.slice none 0 0) ∧ w7.frozen? ⟨w.heap.size + 1, 2, none⟩ = false) ∧ ∃ vs cnt xs P fl, OfA w s 0 0 (w7.setCell ⟨w.heap.size + 1, 2, none⟩ v) vs cnt xs P fl := by
 obtain ⟨vs, cnt, xs, P, fl, hSt, hBw, hz0, hP0, hc0, hc1, hrest⟩ := h; have h7 := hSt.same hb; have hlt := hSt.lt; have hz := hb.size; refine ⟨⟨(h7.cell 2 (by omega)).trans (by rw [(hrest 2 (by omega) (by omega)).1]), h7.live 2⟩, ?_⟩; have hput := h7.put (i := 2) (by omega) (v := v) (n := (listP s.ps).length) (ys := flatT ((listP s.ps).map (taskY s))) (ownsRow_base hr hlt) (fun k hk => by
  have h1 := hr.lt k hk; exact ⟨fun j hj _ e => by have := ((hSt.row j hj).lt k e).2; omega, fun hp => by have := (hSt.free k hp).1; omega⟩)
 have hkeep : ∀ j, j < wr.heap.size → j ≠ w.heap.size + 1 → (w7.setCell ⟨w.heap.size + 1, 2, none⟩ v).heap[j]? = wr.heap[j]? := fun j hj hne => by
  rw [Below.heap_setCell _ _ _ _ hne, hb.block j hj]
 rw [List.take_length] at hc0 hc1; refine ⟨_, _, _, P, fl, hput, (hBw.trans (hb.mono (by omega))).setCell (by simp) _, (hkeep _ (by omega) (by omega)).trans hz0, hP0, ⟨by simpa [setV] using hc0.1, by simpa [setV] using hc0.2⟩, ⟨by simpa [setV] using hc1.1, by simpa [setV] using hc1.2.1, hc1.2.2.same (by simp; omega) (fun j hj => hkeep j (hSt.free j hj).1 (hSt.free j hj).2.1) (fun _ h => h)⟩,
  ⟨by simp [setV], by simp [setV]⟩, ⟨?_, ?_⟩, ⟨?_, ?_⟩⟩
 · simp only [setV]; rw [if_neg (by omega), (hrest 3 (by omega) (by omega)).2.1]; rfl
 · simp only [setV]; rw [if_neg (by omega), (hrest 3 (by omega) (by omega)).2.2]; rfl
 · simp only [setV]; rw [if_neg (by omega), (hrest 4 (by omega) (by omega)).2.1]; rfl
 · simp only [setV]; rw [if_neg (by omega), (hrest 4 (by omega) (by omega)).2.2]; rfl
theorem OfA.same {w wr wr' : World} {s : Sy} {a b : Nat} {vs : Nat → Value} {cnt : Nat → Nat} {xs : Nat → List Value} {P : Nat → Prop} {fl : List (Int × Value)} (h : OfA w s a b wr vs cnt xs P fl) (hb : Below wr.heap.size wr wr') : OfA w s a b wr' vs cnt xs P fl := by
 have hlt := h.st.lt; exact ⟨h.st.same hb, h.below.trans (hb.mono (by omega)), (hb.block _ (by omega)).trans h.zero, h.p0, h.tags, ⟨h.forms.1, h.forms.2.1, h.forms.2.2.same hb.size (fun j hj => hb.block j (h.st.free j hj).1) (fun _ h => h)⟩, h.tasks, h.lefts, h.phases⟩
theorem OfA.keep {w wr : World} {s : Sy} {a b : Nat} {vs : Nat → Value} {cnt : Nat → Nat} {xs : Nat → List Value} {P : Nat → Prop} {fl : List (Int × Value)} (h : OfA w s a b wr vs cnt xs P fl) {B : Nat} (h1 : B < wr.heap.size) (h2 : B ≠ w.heap.size + 1) (h3 : ∀ i, i < 5 → (vs i).ownBlock ≠ some B) (h4 : w.heap.size + 2 ≤ B) :
 OfA w s a b wr vs cnt xs (fun k => P k ∨ k = B) fl :=
 ⟨h.st.more (fun k hk => hk.elim .inl (fun e => .inr (by subst e; exact ⟨h1, h2, h3⟩))), h.below, h.zero, fun k hk => hk.elim (h.p0 k) (fun e => by rw [e]; exact h4), h.tags, ⟨h.forms.1, h.forms.2.1, h.forms.2.2.same (Nat.le_refl _) (fun _ _ => rfl) (fun _ h => .inl h)⟩, h.tasks, h.lefts, h.phases⟩
theorem OfA.row3 {w wr w4 : World} {s : Sy} {a b : Nat} {vs : Nat → Value} {cnt : Nat → Nat} {xs : Nat → List Value} {P : Nat → Prop} {fl : List (Int × Value)} (h : OfA w s a b wr vs cnt xs P fl) {q : Acc4} {g cap : Nat} {o : Obj} (hq : accsK s (a + 1) = accsK s a ++ [q])
 (hg : (wr.alloc o).grownBy w4 (vs 3).ownBlock) (hown : w4.ownsRow (w.heap.size + 2) 2 1 (.slice (some ⟨g, 0, none⟩) (cnt 3 + 1) cap) (cnt 3 + 1) (xs 3 ++ [.int .i64 q.2.2.1])) (hat : (vs 3).ownBlock = some g ∨ g = wr.heap.size + 1) :
 (w4.cell? ⟨w.heap.size + 1, 3, none⟩ = some (vs 3) ∧ w4.frozen? ⟨w.heap.size + 1, 3, none⟩ = false) ∧ (∃ vs' cnt' xs', OfA w s (a + 1) b (w4.setCell ⟨w.heap.size + 1, 3, none⟩ (.slice (some ⟨g, 0, none⟩) (cnt 3 + 1) cap)) vs' cnt' xs' P fl) ∧
  ∀ j, P j → (w4.setCell ⟨w.heap.size + 1, 3, none⟩ (.slice (some ⟨g, 0, none⟩) (cnt 3 + 1) cap)).heap[j]? = wr.heap[j]? := by
 obtain ⟨hcf, hS, hsame, hbel⟩ := h.st.step (i := 3) (by omega) hg hown hat; have hlt := h.st.lt; have hkeep : ∀ j, P j → (w4.setCell ⟨w.heap.size + 1, 3, none⟩ (.slice (some ⟨g, 0, none⟩) (cnt 3 + 1) cap)).heap[j]? = wr.heap[j]? := fun j hj => hsame j (h.st.free j hj).1 (h.st.free j hj).2.1 ((h.st.free j hj).2.2 3 (by omega)); refine ⟨hcf, ⟨_, _, _, hS, h.below.trans (hbel.mono (by omega)), (hsame _ (by omega) (by omega) (fun e => by have := ((h.st.row 3 (by omega)).lt _ e).1; omega)).trans h.zero, h.p0, ⟨by simpa [setV] using h.tags.1, by simpa [setV] using h.tags.2⟩, ⟨by simpa [setV] using h.forms.1, by simpa [setV] using h.forms.2.1, h.forms.2.2.same hbel.size hkeep (fun _ h => h)⟩, ⟨by simpa [setV] using h.tasks.1, by simpa [setV] using h.tasks.2⟩, ⟨?_, ?_⟩, ⟨by simpa [setV] using h.phases.1, by simpa [setV] using h.phases.2⟩⟩, hkeep⟩
 · simp only [setV, if_pos]; rw [hq, h.lefts.1]; simp
 · simp only [setV, if_pos]; rw [hq, h.lefts.2]; simp
theorem OfA.row4 {w wr w4 : World} {s : Sy} {a b : Nat} {vs : Nat → Value} {cnt : Nat → Nat} {xs : Nat → List Value} {P : Nat → Prop} {fl : List (Int × Value)} (h : OfA w s a b wr vs cnt xs P fl) {q : Acc4} {g cap : Nat} {o : Obj} (hq : accsK s (b + 1) = accsK s b ++ [q])
 (hg : (wr.alloc o).grownBy w4 (vs 4).ownBlock) (hown : w4.ownsRow (w.heap.size + 2) 2 1 (.slice (some ⟨g, 0, none⟩) (cnt 4 + 1) cap) (cnt 4 + 1) (xs 4 ++ [.int .i64 q.2.2.2])) (hat : (vs 4).ownBlock = some g ∨ g = wr.heap.size + 1) :
 (w4.cell? ⟨w.heap.size + 1, 4, none⟩ = some (vs 4) ∧ w4.frozen? ⟨w.heap.size + 1, 4, none⟩ = false) ∧ (∃ vs' cnt' xs', OfA w s a (b + 1) (w4.setCell ⟨w.heap.size + 1, 4, none⟩ (.slice (some ⟨g, 0, none⟩) (cnt 4 + 1) cap)) vs' cnt' xs' P fl) := by
 obtain ⟨hcf, hS, hsame, hbel⟩ := h.st.step (i := 4) (by omega) hg hown hat; have hlt := h.st.lt; have hkeep : ∀ j, P j → (w4.setCell ⟨w.heap.size + 1, 4, none⟩ (.slice (some ⟨g, 0, none⟩) (cnt 4 + 1) cap)).heap[j]? = wr.heap[j]? := fun j hj => hsame j (h.st.free j hj).1 (h.st.free j hj).2.1 ((h.st.free j hj).2.2 4 (by omega)); refine ⟨hcf, ⟨_, _, _, hS, h.below.trans (hbel.mono (by omega)), (hsame _ (by omega) (by omega) (fun e => by have := ((h.st.row 4 (by omega)).lt _ e).1; omega)).trans h.zero, h.p0, ⟨by simpa [setV] using h.tags.1, by simpa [setV] using h.tags.2⟩, ⟨by simpa [setV] using h.forms.1, by simpa [setV] using h.forms.2.1, h.forms.2.2.same hbel.size hkeep (fun _ h => h)⟩, ⟨by simpa [setV] using h.tasks.1, by simpa [setV] using h.tasks.2⟩, ⟨by simpa [setV] using h.lefts.1, by simpa [setV] using h.lefts.2⟩, ⟨?_, ?_⟩⟩⟩
 · simp only [setV, if_pos]; rw [hq, h.phases.1]; simp
 · simp only [setV, if_pos]; rw [hq, h.phases.2]; simp
theorem accsK_len (s : Sy) (k : Nat) : (accsK s k).length ≤ k := by
 unfold accsK; rw [List.length_map]; exact Nat.le_trans (List.length_filter_le _ _) (by simp)
structure StateR (s : Sy) (H : Nat) (W : World) (vs : Nat → Value) : Prop where
 tags : W.ownsRow H 3 1 (vs 0) s.cores.length (tagsV s.cores)
 forms : ∃ (fl : List (Int × Value)) (P : Nat → Prop), W.ownsRow H 70 2 (vs 1) s.cores.length (flatF fl) ∧ FormsOk W P fl s.cores ∧ ∀ k, P k → H ≤ k
 tasks : W.ownsRow H 60 7 (vs 2) (listP s.ps).length (flatT ((listP s.ps).map (taskY s)))
 lefts : W.ownsRow H 2 1 (vs 3) (accsK s 16).length ((accsK s 16).map fun q => .int .i64 q.2.2.1)
 phases : W.ownsRow H 2 1 (vs 4) (accsK s 16).length ((accsK s 16).map fun q => .int .i64 q.2.2.2)
theorem OfA.done {w wr wf : World} {s : Sy} {vs : Nat → Value} {cnt : Nat → Nat} {xs : Nat → List Value} {P : Nat → Prop} {fl : List (Int × Value)} (h : OfA w s 16 16 wr vs cnt xs P fl) (hs : wr.heap.size ≤ wf.heap.size) (hb : ∀ k, k ≠ w.heap.size → wf.heap[k]? = wr.heap[k]?) : StateR s (w.heap.size + 2) wf vs := by
 have hrow : ∀ i, i < 5 → wf.ownsRow (w.heap.size + 2) (rty i) (rsz i) (vs i) (cnt i) (xs i) := fun i hi => ownsRow_same (h.st.row i hi) (fun k hk => hb k (by have := ((h.st.row i hi).lt k hk).1; omega)); have hfo : FormsOk wf P fl s.cores := h.forms.2.2.same hs (fun k hk => hb k (by have := h.p0 k hk; omega)) (fun _ h => h); have r0 := hrow 0 (by omega); rw [h.tags.1, h.tags.2] at r0; have r1 := hrow 1 (by omega); rw [h.forms.1, h.forms.2.1] at r1; have r2 := hrow 2 (by omega); rw [h.tasks.1, h.tasks.2] at r2; have r3 := hrow 3 (by omega); rw [h.lefts.1, h.lefts.2] at r3; have r4 := hrow 4 (by omega); rw [h.phases.1, h.phases.2] at r4; exact ⟨r0, ⟨fl, _, r1, hfo, h.p0⟩, r2, r3, r4⟩
end Go.Proofs.YtoiajjobecinpaaGreat

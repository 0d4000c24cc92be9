/- The seal: its rest, bytes cloned and compared. The seal: put and get; the version; a number read. The seal opened; the v -/
import Derived.Laws.BytesArg
import Derived.Shelf.Bytes.SlEqualAll
import Derived.Test.YtoiajjobecinpaaGreatTA12
set_option maxHeartbeats 4000000
namespace Go.Proofs.YtoiajjobecinpaaGreat
open Go.RowKit Go.Shelf Go.Lib Go.Proofs
set_option linter.unusedVariables false
set_option linter.unusedSimpArgs false
section
attribute [local go_sem] Oper.semAt_some
set_option maxRecDepth 100000 in
theorem sealof_any (a : Option Addr) (n c : Nat) (w : World) (h : BSl w a n) (hn : n ≤ 100000) :
 Calls Tryz.prog 226 #[.slice a n c] w fun e W' => ∃ x, e = .returned (.int .u32 x) ∧ Below w.heap.size w W' := by
 have H0 := lH h; clear h; go_enter Tryz.func226, Tryz.ntmps226; go_wp2_with fail
 go_loopw [3, 8] (fun s x wr => ∃ (k : Nat) (y : Int), k ≤ n ∧ x = .int .i64 k ∧ s = .int .u32 y ∧ Hid (Below w.heap.size w wr)) (fun _ x _ => n - (intOf x).toNat)
 case atStart => exact ⟨0, _, Nat.zero_le _, rfl, rfl, lH (Below.refl _ _)⟩
 case round =>
  obtain ⟨k, y, hk, rfl, rfl, HB⟩ := hrel; by_cases hkn : k < n
  · obtain ⟨g, i, x, rfl, hx0, hx1, hc⟩ := (H0.out.below HB.out).get k hkn; have hk1 : (k : Int) < (n : Int) := by omega
    have hk0 : 0 ≤ (k : Int) := by omega
    go_wp2_with fail
    go_loopw [3, 16] (fun s z w2 => ∃ (j : Nat) (y : Int), j ≤ 8 ∧ z = .int .i64 j ∧ s = .int .u32 y ∧ Hid (Below w.heap.size w w2)) (fun _ z _ => 8 - (intOf z).toNat)
    case atStart => exact ⟨0, _, Nat.zero_le _, rfl, rfl, HB⟩
    case round =>
     obtain ⟨j, y2, hj, rfl, rfl, HB2⟩ := hrel; by_cases hj8 : j < 8
     · have hj1 : (j : Int) < 8 := by omega
       have hj0 : 0 ≤ (j : Int) := by omega
       go_wp2_with fail
       go_roundw
       case rel => exact ⟨j + 1, _, hj8, by go_num, rfl, HB2⟩
       case measure => simp [intOf]; omega
     · obtain rfl : j = 8 := by omega
       go_wp2_with fail
       go_roundw
       case rel => exact ⟨k + 1, _, hkn, by go_num, rfl, HB2⟩
       case measure => simp [intOf]; omega
  · obtain rfl : k = n := by omega
    go_wp2_with fail
    go_ret
    exact ⟨⟨_, rfl⟩, HB.out⟩
theorem q257 : ∀ (w : World) (a : Option Addr) (n c n' c' : Nat), (binOp .eql 257 (.slice a n c) (.slice none n' c')).run Tryz.prog w = .ok (.bool a.isNone) w := fun w a n c n' c' => Lib.run_eql_slice_nil w _ _ a n c n' c' Tryz.underlying257
set_option maxRecDepth 100000 in
theorem bclone_any (a : Option Addr) (n c : Nat) (w : World) (h : BSl w a n) (hn : n ≤ 100000) :
 Calls Tryz.prog 227 #[.slice a n c] w fun e W' => ∃ v', e = .returned v' ∧ BRow W' w.heap.size v' n ∧ Below w.heap.size w W' := by
 have qT := q257; cases a with
 | none =>
  obtain rfl : n = 0 := by
   obtain ⟨xs, h1, h2, h3⟩ := h; rcases Nat.eq_zero_or_pos n with e | e
   · exact e
   · obtain ⟨g, i, e2, _⟩ := h3 e; cases e2
  go_enter Tryz.func227, Tryz.ntmps227; go_wp2
  go_ret
  exact ⟨_, rfl, BRow.nil _ _, Below.refl _ _⟩
 | some A =>
  obtain ⟨i0, hi, hz0, hz1, hz2⟩ := info_parts info5; obtain ⟨bs, hl, hbs, hc⟩ := h; have hown0 : (w.alloc (.cells #[] 5)).ownsRow w.heap.size 5 1 (.slice (some ⟨w.heap.size, 0, none⟩) 0 0) 0 [] :=
   ⟨rfl, .inr ⟨w.heap.size, 0, #[], rfl, Nat.le_refl _, by show (w.heap.push _)[w.heap.size]? = _; simp, Nat.le_refl _, by unfold maxLen; omega, rfl, rfl⟩⟩
  have HC : Hid (∀ j u, (bs.map (Value.int .u8))[j]? = some u → (w.alloc (.cells #[] 5)).cell? (A.add j) = some u) := by
   refine lH fun j u hu => ?_; have hj : j < n := by
    have := (List.getElem?_eq_some_iff.1 hu).1; simpa [hl] using this
   obtain ⟨g, i, e, hcc⟩ := hc (by omega); simp only [Option.some.injEq] at e; subst e; have e : (bs.map (Value.int .u8))[j]? = some (.int .u8 (bs.getD j 0)) := by simp [List.getD, show j < bs.length by omega]
   rw [e] at hu; rw [← hu, Addr.add_lit]; exact Lib.cell?_alloc_some _ (hcc j hj)
  have HBS := lH hbs; have HL := lH hl; clear hc hbs hl; go_enter Tryz.func227, Tryz.ntmps227; go_wp2_with (at_builtin; refine wpList_append_own _ rfl (.tmp 5) (.tmp 6) 257 rfl w.heap.size 5 i0 (.int .u8 0) 1 1 Tryz.underlying257 hi hz0 hz1 hz2 rfl (by decide) _ _ _ rfl hown0 A n c (bs.map (Value.int .u8)) rfl (by simp [HL.out]) HC.out (ints_oneCell .u8 bs) (by unfold maxLen; omega) (by omega) (by simp) ?_; intro v' w1 hown' hgrow hnil)
  have hb : Below w.heap.size w w1 := ((Below.refl _ _).alloc (Nat.le_refl _) _).grown hgrow (by simp) (fun k hk => Nat.le_of_eq (Option.some.inj hk)); go_wp2
  go_ret
  exact ⟨_, rfl, ⟨bs, by simpa using hown', HBS.out⟩, hb⟩
set_option maxRecDepth 100000 in
theorem sclone_any (a : Option Addr) (n c : Nat) (w : World) (h : BSl w a n) (hn : n ≤ 100000) :
 Calls Tryz.prog 229 #[.slice a n c] w fun e W' => ∃ v', e = .returned v' ∧ BRow W' w.heap.size v' n ∧ Below w.heap.size w W' := by
 have qT := q257; cases a with
 | none =>
  obtain rfl : n = 0 := by
   obtain ⟨xs, h1, h2, h3⟩ := h; rcases Nat.eq_zero_or_pos n with e | e
   · exact e
   · obtain ⟨g, i, e2, _⟩ := h3 e; cases e2
  go_enter Tryz.func229, Tryz.ntmps229; go_wp2
  go_ret
  exact ⟨_, rfl, BRow.nil _ _, Below.refl _ _⟩
 | some A =>
  obtain ⟨i0, hi, hz0, hz1, hz2⟩ := info_parts info5; obtain ⟨bs, hl, hbs, hc⟩ := h; have hown0 : (w.alloc (.cells #[] 5)).ownsRow w.heap.size 5 1 (.slice (some ⟨w.heap.size, 0, none⟩) 0 0) 0 [] :=
   ⟨rfl, .inr ⟨w.heap.size, 0, #[], rfl, Nat.le_refl _, by show (w.heap.push _)[w.heap.size]? = _; simp, Nat.le_refl _, by unfold maxLen; omega, rfl, rfl⟩⟩
  have HC : Hid (∀ j u, (bs.map (Value.int .u8))[j]? = some u → (w.alloc (.cells #[] 5)).cell? (A.add j) = some u) := by
   refine lH fun j u hu => ?_; have hj : j < n := by
    have := (List.getElem?_eq_some_iff.1 hu).1; simpa [hl] using this
   obtain ⟨g, i, e, hcc⟩ := hc (by omega); simp only [Option.some.injEq] at e; subst e; have e : (bs.map (Value.int .u8))[j]? = some (.int .u8 (bs.getD j 0)) := by simp [List.getD, show j < bs.length by omega]
   rw [e] at hu; rw [← hu, Addr.add_lit]; exact Lib.cell?_alloc_some _ (hcc j hj)
  have HBS := lH hbs; have HL := lH hl; clear hc hbs hl; go_enter Tryz.func229, Tryz.ntmps229; go_wp2_with (at_builtin; refine wpList_append_own _ rfl (.tmp 5) (.tmp 6) 257 rfl w.heap.size 5 i0 (.int .u8 0) 1 1 Tryz.underlying257 hi hz0 hz1 hz2 rfl (by decide) _ _ _ rfl hown0 A n c (bs.map (Value.int .u8)) rfl (by simp [HL.out]) HC.out (ints_oneCell .u8 bs) (by unfold maxLen; omega) (by omega) (by simp) ?_; intro v' w1 hown' hgrow hnil)
  have hb : Below w.heap.size w w1 := ((Below.refl _ _).alloc (Nat.le_refl _) _).grown hgrow (by simp) (fun k hk => Nat.le_of_eq (Option.some.inj hk)); go_wp2
  go_ret
  exact ⟨_, rfl, ⟨bs, by simpa using hown', HBS.out⟩, hb⟩
theorem conv_bytes (a : Option Addr) (n c : Nat) (w : World) (h : BSl w a n) : ∃ s, (convert 257 9 (.slice a n c)).run Tryz.prog w = .ok (.string s) w := by
 obtain ⟨xs, hl, hxs, hc⟩ := h; rcases Nat.eq_zero_or_pos n with e | e
 · subst e; exact ⟨_, run_convert_bytes_zero w 257 5 Tryz.underlying257 Tryz.underlying5 a c 9 Tryz.underlying9⟩
 · obtain ⟨g, i, rfl, hcc⟩ := hc e; exact ⟨_, run_convert_bytes_arg (P := Tryz.prog) w 257 5 Tryz.underlying257 Tryz.underlying5 g i n c xs hl hcc 9 Tryz.underlying9⟩
set_option maxRecDepth 100000 in
theorem bequal_any (a : Option Addr) (n c : Nat) (a' : Option Addr) (n' c' : Nat) (w : World) (h : BSl w a n) (h' : BSl w a' n') :
 Calls Tryz.prog 237 #[.slice a n c, .slice a' n' c'] w fun e W' => ∃ x, e = .returned (.bool x) ∧ W' = w := by
 obtain ⟨s, hs⟩ := conv_bytes a n c w h; obtain ⟨s', hs'⟩ := conv_bytes a' n' c' w h'; clear h h'; go_enter Tryz.func237, Tryz.ntmps237; go_wp2
 go_ret
 exact ⟨_, rfl, rfl⟩
end
section
attribute [local go_sem] Oper.semAt_some
set_option maxRecDepth 100000 in
theorem sealput_any (a : Option Addr) (n c : Nat) (w : World) (h : BSl w a n) (hn : n ≤ 50000) :
 Calls Tryz.prog 216 #[.slice a n c] w fun e W' => ∃ v', e = .returned v' ∧ BRow W' w.heap.size v' (n + 4) ∧ Below w.heap.size w W' := by
 obtain ⟨i0, hi, hz0, hz1, hz2⟩ := info_parts info5; have H0 := lH h; clear h; go_enter Tryz.func216, Tryz.ntmps216; go_wp2_with fail
 refine (sealof_any a n c _ H0.out (by omega)).mono ?_; rintro e w1 ⟨x, rfl, hb1⟩; have hz1' := hb1.size; go_wp2_with fail
 refine (bclone_any a n c _ (H0.out.below hb1) (by omega)).mono ?_; rintro e w2 ⟨v2, rfl, hrow2, hb2⟩; have hz2' := hb2.size; obtain ⟨bs, hrow, hbs⟩ := hrow2; have HB1 := lH hb1; have HB2 := lH hb2; have HBS := lH hbs; clear hb1 hb2 hbs; go_wp2_with (at_builtin; refine wpList_append_lies _ rfl _ _ 257 rfl w1.heap.size 5 i0 (.int .u8 0) 1 1 Tryz.underlying257 hi hz0 hz1 hz2 rfl (by decide) _ n _ rfl (hrow.alloc _) ⟨w2.heap.size, 0, none⟩ 4 4 [_, _, _, _] rfl rfl (World.news_of_block (heap_alloc_new w2 _)) (by simp [Value.oneCell']) (by omega) (by unfold maxLen; omega) (by omega) (by simp; omega) (w2.heap.size + 1) (by simp) ?_; intro g cap w4 hown4 hgrow4 hat4 hlt4)
 have HR4 : Hid (BRow w4 w1.heap.size (.slice (some ⟨g, 0, none⟩) (n + 4) cap) (n + 4)) := lH (BRow.snoc (m := 4) [_, _, _, _] HBS.out (by intro y hy; simp only [List.mem_cons, List.not_mem_nil, or_false] at hy; rcases hy with rfl | rfl | rfl | rfl <;> first | exact u8_of _ | omega) hown4); have HB4 : Hid (Below w.heap.size w w4) := lH (((HB1.out.trans (HB2.out.mono hz1')).alloc (by omega) _).grown hgrow4 (by simp; omega) (fun k hk => by have := (hrow.lt k hk).1; omega)); clear hown4 hgrow4 hat4 hlt4 hrow; go_wp2
 go_ret
 exact ⟨_, rfl, HR4.out.base hz1', HB4.out⟩
end
section
attribute [local go_sem] Oper.semAt_some
set_option maxRecDepth 100000 in
theorem sealget_any (a : Option Addr) (n c : Nat) (w : World) (h : BSl w a n) (hn : n ≤ 50000) (hc : n ≤ c) (hcm : c ≤ 9223372036854775807) :
 Calls Tryz.prog 234 #[.slice a n c] w fun e W' => ∃ v' m er, e = .returned (.tuple #[v', .int .i64 er]) ∧ m ≤ n ∧ BRow W' w.heap.size v' m ∧ Below w.heap.size w W' := by
 by_cases h4 : n < 4
 · have d4 : decide ((n : Int) - 4 < 0) = true := decide_eq_true (by omega); go_enter Tryz.func234, Tryz.ntmps234; go_wp2_with fail
   go_ret2
   exact ⟨_, 0, _, rfl, by omega, BRow.nil _ _, Below.refl _ _⟩
 · have d4 : decide ((n : Int) - 4 < 0) = false := decide_eq_false (by omega); obtain ⟨g, i, x, rfl, -⟩ := h.get 0 (by omega); have hd := h.head (n - 4) (by omega); have H0 := lH h; have h44 : 0 ≤ (n : Int) - 4 := by omega
   clear h; go_enter Tryz.func234, Tryz.ntmps234; go_wp2_with fail
   refine (sealput_any _ (n - 4) c _ hd (by omega)).mono ?_; rintro e w1 ⟨v1, rfl, hr1, hb1⟩; obtain ⟨a1, c1, rfl⟩ : ∃ a1 c1, v1 = .slice a1 (n - 4 + 4) c1 := by
    obtain ⟨bs, hr, -⟩ := hr1; rcases hr.2 with ⟨rfl, e0⟩ | ⟨g', cap, cur, rfl, _⟩
    · omega
    · exact ⟨_, _, rfl⟩
   have hs1 := hr1.toSl; have HB1 := lH hb1; clear hr1 hb1; go_wp2_with fail
   refine (bequal_any a1 _ c1 _ n c _ hs1 (H0.out.below HB1.out)).mono ?_; rintro e w2 ⟨x2, rfl, rfl⟩; cases x2 with
   | false =>
    go_wp2_with fail
    go_ret2
    exact ⟨_, 0, _, rfl, by omega, BRow.nil _ _, HB1.out⟩
   | true =>
    go_wp2_with fail
    refine (bclone_any _ (n - 4) c _ (hd.below HB1.out) (by omega)).mono ?_; rintro e w3 ⟨v3, rfl, hr3, hb3⟩; have HR3 := lH hr3; have HB3 := lH hb3; clear hr3 hb3; go_wp2_with fail
    go_ret2
    exact ⟨_, n - 4, _, rfl, by omega, HR3.out.base HB1.out.size, HB1.out.trans (HB3.out.mono HB1.out.size)⟩
def VerP (n : Nat) (w : World) (e : Ending) (W' : World) : Prop := ∃ (x : Int) (ok : Bool), e = .returned (.tuple #[.int .i64 x, .bool ok]) ∧ (ok = true → 3 ≤ n) ∧ Below w.heap.size w W'
set_option maxRecDepth 100000 in
theorem version_any (a : Option Addr) (n c : Nat) (w : World) (h : BSl w a n) (hn : n ≤ 50000) :
 Calls Tryz.prog 235 #[.slice a n c] w (VerP n w) := by
 by_cases h3 : n < 3
 · have d3 : decide ((n : Int) < 3) = true := decide_eq_true (by omega); go_enter Tryz.func235, Tryz.ntmps235; go_wp2_with fail
   go_ret2
   exact ⟨_, _, rfl, by simp, Below.refl _ _⟩
 · have d3 : decide ((n : Int) < 3) = false := decide_eq_false (by omega); obtain ⟨g, i, x, rfl, hx0, hx1, hc⟩ := h.get 0 (by omega); obtain ⟨g1, i1, x1, e1, hy0, hy1, hc1⟩ := h.get 1 (by omega); obtain ⟨g2, i2, x2, e2, hz0, hz1, hc2⟩ := h.get 2 (by omega); cases e1; cases e2; have h30 : ¬ (n : Int) < 3 := by omega
   have n0 : (0 : Int) < n := by omega
   have n1 : (1 : Int) < n := by omega
   have n2 : (2 : Int) < n := by omega
   rw [Nat.add_zero] at hc; clear h; go_enter Tryz.func235, Tryz.ntmps235; cases k0 : (x != 83) with
   | true =>
    go_wp2_with fail
    go_ret2
    exact ⟨_, _, rfl, by simp, Below.refl _ _⟩
   | false =>
    cases k1 : (x1 != 72) with
    | true =>
     go_wp2_with fail
     go_ret2
     exact ⟨_, _, rfl, by simp, Below.refl _ _⟩
    | false =>
     go_wp2_with fail
     go_ret2
     exact ⟨_, _, rfl, fun _ => by omega, Below.refl _ _⟩
end
section
attribute [local go_sem] Oper.semAt_some
theorem BRow.form2 {W : World} {B : Nat} {v : Value} {n : Nat} (h : BRow W B v n) : ∃ a c, v = .slice a n c ∧ n ≤ c ∧ c ≤ 9223372036854775807 := by
 obtain ⟨bs, h, -⟩ := h; rcases h.2 with ⟨rfl, rfl⟩ | ⟨g, cap, cur, rfl, h1, h2, h3, h4, _⟩
 · exact ⟨_, 0, rfl, Nat.le_refl _, by omega⟩
 · unfold maxLen at h4; exact ⟨_, cap, rfl, h3, by omega⟩
def OpenP (n : Nat) (w : World) (e : Ending) (W' : World) : Prop :=
 ∃ (a : Option Addr) (m c : Nat) (v er : Int), e = .returned (.tuple #[.slice a m c, .int .i64 v, .int .i64 er]) ∧ m ≤ n ∧ m ≤ c ∧ c ≤ 9223372036854775807 ∧ BSl W' a m ∧ Below w.heap.size w W'
set_option maxRecDepth 100000 in
theorem open_any (a : Option Addr) (n c : Nat) (w : World) (h : BSl w a n) (hn : n ≤ 50000) (hc : n ≤ c) (hcm : c ≤ 9223372036854775807) :
 Calls Tryz.prog 228 #[.slice a n c] w (OpenP n w) := by
 have hget := sealget_any a n c w h hn hc hcm; clear h; go_enter Tryz.func228, Tryz.ntmps228; go_wp2_with fail
 refine hget.mono ?_; rintro e w1 ⟨v1, m, er, rfl, hm, hr1, hb1⟩; obtain ⟨a1, c1, rfl, hc1, hc2⟩ := hr1.form2; have hs1 := hr1.toSl; have HS1 := lH hs1; have HB1 := lH hb1; clear hr1 hb1 hget; cases her : (er != 0) with
 | true =>
  go_wp2_with fail
  go_ret3
  exact ⟨_, 0, 0, _, _, rfl, by omega, by omega, by omega, BSl.none _ _, HB1.out⟩
 | false =>
  go_wp2_with fail
  refine (version_any a1 m c1 _ hs1 (by omega)).mono ?_; rintro e w2 ⟨x, ok, rfl, h3, hb2⟩; have HB2 := lH hb2; clear hs1 hb2; cases ok with
  | false =>
   go_wp2_with fail
   go_ret3
   exact ⟨_, 0, 0, _, _, rfl, by omega, by omega, by omega, BSl.none _ _, HB1.out.trans (HB2.out.mono HB1.out.size)⟩
  | true =>
   have h3q := h3 rfl; clear h3; have h3 := h3q; obtain ⟨g, i, x0, rfl, -⟩ := HS1.out.get 0 (by omega); have h33 : (3 : Int) ≤ m := by omega
   by_cases e3 : c1 = 3
   · subst e3; go_wp2_with fail
     go_ret3
     have e0 : m - 3 = 0 := by omega
     exact ⟨_, 0, 0, _, _, rfl, by omega, by omega, by omega, BSl.none _ _, HB1.out.trans (HB2.out.mono HB1.out.size)⟩
   · go_wp2_with fail
     go_ret3
     exact ⟨_, m - 3, c1 - 3, _, _, rfl, by omega, by omega, by omega, (HS1.out.tail 3 h3).below (HB2.out), HB1.out.trans (HB2.out.mono HB1.out.size)⟩
def ReadP (a0 : Option Addr) (n s c : Nat) (w : World) (e : Ending) (W' : World) : Prop :=
 ∃ (x : Int) (a : Option Addr), e = .returned (.tuple #[.int .i64 x, .slice a (n - s) (c - s)]) ∧ (∀ W0, BSl W0 a0 n → BSl W0 a (n - s)) ∧ Below w.heap.size w W'
set_option maxRecDepth 100000 in
theorem read_any (a : Option Addr) (n c s : Nat) (w : World) (h : BSl w a n) (hn : n ≤ 50000) (hc : n ≤ c) (hcm : c ≤ 9223372036854775807) (hs : s ≤ n) (hs1 : 1 ≤ s) :
 Calls Tryz.prog 230 #[.slice a n c, .int .i64 s] w (ReadP a n s c w) := by
 obtain ⟨g, i, x0, rfl, -⟩ := h.get 0 (by omega); have H0 := lH h; have hsn : (s : Int) ≤ n := by omega
 have hsc : (s : Int) ≤ c := by omega
 have hs0 : (0 : Int) ≤ s := by omega
 clear h; go_enter Tryz.func230, Tryz.ntmps230; go_wp2_with fail
 go_loopw [6, 13] (fun y x wr => ∃ (k : Nat) (z : Int), k ≤ s ∧ x = .int .i64 k ∧ y = .int .i64 z ∧ Hid (Below w.heap.size w wr)) (fun _ x _ => s - (intOf x).toNat)
 case atStart => exact ⟨0, _, Nat.zero_le _, rfl, rfl, lH (Below.refl _ _)⟩
 case round =>
  obtain ⟨k, z, hk, rfl, rfl, HB⟩ := hrel; by_cases hks : k < s
  · obtain ⟨g', i', x, e, hx0, hx1, hcx⟩ := (H0.out.below HB.out).get k (by omega); cases e; have hk1 : (k : Int) < (s : Int) := by omega
    have hk0 : 0 ≤ (k : Int) := by omega
    go_wp2_with fail
    go_roundw
    case rel => exact ⟨k + 1, _, hks, by go_num, rfl, HB⟩
    case measure => simp [intOf]; omega
  · obtain rfl : k = s := by omega
    by_cases e3 : c = k
    · subst e3; go_wp2_with fail
      go_quiet (fail)
      go_wp2
      go_ret2
      exact ⟨_, _, by rw [show n - c = 0 from by omega, show c - c = 0 from by omega]; rfl, fun W0 _ => by rw [show n - c = 0 from by omega]; exact BSl.none _ _, below_drewN HB.out _⟩
    · go_wp2_with fail
      go_quiet (fail)
      go_wp2
      go_ret2
      exact ⟨_, _, rfl, fun W0 h0 => h0.tail k hs, below_drewN HB.out _⟩
end
section
attribute [local go_sem] Oper.semAt_some
def CGoodP (tag cur : Int) (its : List It) (w : World) (e : Ending) (W' : World) : Prop := ∃ b : Bool, e = .returned (.bool b) ∧ (b = true ↔ (0 ≤ tag ∧ tag ≤ 2) ∧ GoodI cur its) ∧ Below w.heap.size w W'
set_option maxRecDepth 100000 in
theorem cgood_any (tag cur : Int) (v : Value) (its : List It) (W : World) (h : FSl W v its) (h64 : its.length ≤ 100000) :
 Calls Tryz.prog 214 #[.int .i64 tag, .agg #[.int .i64 cur, v]] W (CGoodP tag cur its W) := by
 have hgood := good_any cur v its _ (h.alloc (.cells #[.int .i64 cur, v] 70)) h64; obtain ⟨a, c, rfl⟩ := h.form; obtain ⟨n, hn⟩ : ∃ n, its.length = n := ⟨_, rfl⟩
 rw [hn] at hgood ⊢; clear h hn; by_cases h0 : 0 ≤ tag
 · by_cases h2 : tag ≤ 2
   · have d0 : decide (tag ≥ 0) = true := decide_eq_true h0; have d2 : decide (tag ≤ 2) = true := decide_eq_true h2; have HT := lH (And.intro h0 h2); clear h0 h2; go_enter Tryz.func214, Tryz.ntmps214; go_wp2_with fail
     refine hgood.mono ?_; rintro e w1 ⟨b, rfl, hb, hbl⟩; have HB := lH hb; have HBL := lH hbl; clear hb hbl; go_wp2
     go_ret
     exact ⟨b, rfl, by rw [HB.out]; exact ⟨fun h => ⟨HT.out, h⟩, fun h => h.2⟩, ((Below.refl _ _).alloc (Nat.le_refl _) _).trans (HBL.out.mono (by simp))⟩
   · have d0 : decide (tag ≥ 0) = true := decide_eq_true h0; have d2 : decide (tag ≤ 2) = false := decide_eq_false h2; have HT := lH h2; clear h0 h2; go_enter Tryz.func214, Tryz.ntmps214; go_wp2_with fail
     go_ret
     exact ⟨false, rfl, iff_of_false (by simp) (fun h => by have := HT.out; have := h.1.2; omega), (Below.refl _ _).alloc (Nat.le_refl _) _⟩
 · have d0 : decide (tag ≥ 0) = false := decide_eq_false h0; have HT := lH h0; clear h0; go_enter Tryz.func214, Tryz.ntmps214; go_wp2_with fail
   go_ret
   exact ⟨false, rfl, iff_of_false (by simp) (fun h => by have := HT.out; have := h.1.1; omega), (Below.refl _ _).alloc (Nat.le_refl _) _⟩
theorem brow_new (w : World) (bs : List Int) (hb : ∀ x ∈ bs, 0 ≤ x ∧ x ≤ 255) (hl : bs.length ≤ 1000) : BRow (w.alloc (.cells (bs.map (Value.int .u8)).toArray 5)) w.heap.size (.slice (some ⟨w.heap.size, 0, none⟩) bs.length bs.length) bs.length :=
 ⟨bs, ⟨by simp, .inr ⟨w.heap.size, bs.length, (bs.map (Value.int .u8)).toArray, rfl, Nat.le_refl _, heap_alloc_new _ _, Nat.le_refl _, by unfold maxLen; omega, by simp, by rw [Nat.mul_one]; exact List.take_of_length_le (by simp)⟩⟩, hb⟩
theorem Grew.cell {a b : World} {u v : Value} (h : Grew a b u v) {p : Addr} {x : Value} (hc : a.cell? p = some x) (hne : u.ownBlock ≠ some p.block) : b.cell? p = some x :=
 (World.cell?_of_block (a := p) (h.1.block _ (World.block_lt_of_cell? _ _ hc) (fun e => hne e))).trans hc
theorem Grew.size {a b : World} {u v : Value} (h : Grew a b u v) : a.heap.size ≤ b.heap.size := h.1.size
def CPutP (w : World) (e : Ending) (W' : World) : Prop := ∃ (v' : Value) (n : Nat) (er : Int), e = .returned (.tuple #[v', .int .i64 er]) ∧ BRow W' w.heap.size v' n ∧ n ≤ 1000 ∧ Below w.heap.size w W'
set_option maxRecDepth 100000 in
theorem cput_any (tag cur : Int) (v : Value) (its : List It) (W : World) (h : FSl W v its) (h64 : its.length ≤ 100000) :
 Calls Tryz.prog 203 #[.int .i64 tag, .agg #[.int .i64 cur, v]] W (CPutP W) := by
 obtain ⟨i0, hi, hz0, hz1, hz2⟩ := info_parts info5; have hgood := cgood_any tag cur v its _ (h.alloc (.cells #[.int .i64 cur, v] 70)) h64; obtain ⟨a, c, rfl⟩ := h.form; obtain ⟨n, hn⟩ : ∃ n, its.length = n := ⟨_, rfl⟩
 rw [hn] at hgood h h64 ⊢; have HF0 := lH h; have HN := lH hn; clear h hn; go_enter Tryz.func203, Tryz.ntmps203; go_wp2_with fail
 refine hgood.mono ?_; rintro e w1 ⟨b, rfl, hb, hbl⟩; have HB1 : Hid (Below (W.heap.size + 1) (W.alloc (.cells #[.int .i64 cur, .slice a n c] 70)) w1) := lH (hbl.mono (by simp)); have hz1' := hbl.size; simp only [World.size_alloc] at hz1'; have HWW : Hid (Below W.heap.size W (W.alloc (.cells #[.int .i64 cur, .slice a n c] 70))) := lH ((Below.refl _ W).alloc (Nat.le_refl _) _); have f0 : w1.cell? ⟨W.heap.size, 0, none⟩ = some (.int .i64 cur) := by
  rw [hbl.cell (p := ⟨W.heap.size, 0, none⟩) (by simp)]; simp only [World.cell?, heap_alloc_new]; rfl
 have f1 : w1.cell? ⟨W.heap.size, 1, none⟩ = some (.slice a n c) := by
  rw [hbl.cell (p := ⟨W.heap.size, 1, none⟩) (by simp)]; simp only [World.cell?, heap_alloc_new]; rfl
 have HGB := lH hb; clear hgood hb hbl; cases b with
 | false =>
  go_wp2_with fail
  go_ret2
  exact ⟨_, 0, _, rfl, BRow.nil _ _, by omega, HWW.out.trans (HB1.out.mono (by omega))⟩
 | true =>
  have hn64 : n ≤ 64 := by rw [← HN.out]; exact (HGB.out.1 rfl).2.1
  clear HGB; have f0' : ∀ o, (w1.alloc o).cell? ⟨W.heap.size, 0, none⟩ = some (.int .i64 cur) := fun o => c2a o f0; go_wp2_with fail
  refine (number_any w1.heap.size 4 4 _ _ _ (by simpa using brow_new w1 [83, 72, 3, tag % 256] (by intro x hx; simp only [List.mem_cons, List.not_mem_nil, or_false] at hx; rcases hx with rfl | rfl | rfl | rfl <;> omega) (by simp)) (by simp) (by omega) (by omega)).mono ?_; rintro e w2 ⟨v2, rfl, hr2, hg2⟩; have hg0 := Grew.cell (p := ⟨W.heap.size, 1, none⟩) hg2 (c2a _ f1) (by simp [Value.ownBlock]; omega); have hz2' := hg2.size; simp only [World.size_alloc] at hz2'; have HB2 : Hid (Below (W.heap.size + 1) (W.alloc (.cells #[.int .i64 cur, .slice a n c] 70)) w2) := lH ((HB1.out.alloc hz1' _).trans (hg2.below (by simp; omega) (by intro k hk; simp [Value.ownBlock] at hk; omega))); obtain ⟨bs2, hrow2, hbs2⟩ := hr2; have HBS2 := lH hbs2; clear f0' f0 f1 hg2 hbs2 HB1; go_wp2_with (at_builtin; refine wpList_append_lies _ rfl _ _ 257 rfl w1.heap.size 5 i0 (.int .u8 0) 1 1 Tryz.underlying257 hi hz0 hz1 hz2 rfl (by decide) _ 8 _ rfl (hrow2.alloc _) ⟨w2.heap.size, 0, none⟩ 1 1 [_] rfl rfl (World.news_of_block (heap_alloc_new w2 _)) (by simp [Value.oneCell']) (by omega) (by unfold maxLen; omega) (by omega) (by simp; omega) (w2.heap.size + 1) (by simp) ?_; intro g3 cap3 w3 hown3 hgrow3 hat3 hlt3; have hk3 := hgrow3.cell (c2a _ hg0) (fun e => by have := (hrow2.lt W.heap.size e.symm).1; omega))
  have hb3 := BRow.snoc (m := 1) [(n : Int)] HBS2.out (by intro x hx; simp at hx; subst hx; omega) hown3; have HB3 : Hid (Below (W.heap.size + 1) (W.alloc (.cells #[.int .i64 cur, .slice a n c] 70)) w3) := lH ((HB2.out.alloc (by omega) _).grown hgrow3 (by simp; omega) (fun k hk => by have := (hrow2.lt k hk).1; omega)); have hz3' : w1.heap.size ≤ w3.heap.size := by have := hgrow3.size; simp at this; omega
  clear hown3 hgrow3 hat3 hlt3 hk3 hg0 hrow2 HBS2 HB2; go_loopw [6, 30] (fun b x wr => ∃ k : Nat, k ≤ n ∧ x = .int .i64 k ∧ Hid (BRow wr w1.heap.size b (9 + 13 * k)) ∧ Hid (Below (W.heap.size + 1) (W.alloc (.cells #[.int .i64 cur, .slice a n c] 70)) wr) ∧ w1.heap.size ≤ wr.heap.size) (fun _ x _ => n - (intOf x).toNat)
  case atStart => exact ⟨0, Nat.zero_le _, rfl, lH hb3, HB3, hz3'⟩
  case round =>
   obtain ⟨k, hk, rfl, HR, HB, hzr⟩ := hrel; by_cases hkn : k < n
   · have hkl : k < its.length := by rw [HN.out]; exact hkn
     have HF : Hid (FSl wr (.slice a n c) its) := lH ((HF0.out.alloc _).same (by simp; omega) (fun j hj => HB.out.block j (by have := HF0.out.lt hj; omega))); obtain ⟨g, rfl, hg, c0, c1, c2⟩ := HF.out.cells k hkl; obtain ⟨⟨i, ww, lag⟩, hx⟩ : ∃ x, its[k]! = x := ⟨_, rfl⟩
     rw [hx] at c0 c1 c2; simp only at c0 c1 c2; have hk1 : (k : Int) < (n : Int) := by omega
     have hk0 : 0 ≤ (k : Int) := by omega
     have hX : ∀ j u, #[Value.int .i64 i, .int .i64 ww, .int .i64 lag][j]? = some u → (wr.alloc (.cells #[.int .i64 i, .int .i64 ww, .int .i64 lag] 77)).cell? ⟨wr.heap.size, j, none⟩ = some u := fun j u hu => by
      simp only [World.cell?, heap_alloc_new]; simpa using hu
     have hXo : ∀ j, u6.ownBlock = some j → j < wr.heap.size ∧ w1.heap.size ≤ j := fun j hj => ⟨(HR.out.lt hj).2, (HR.out.lt hj).1⟩
     have HX := lH hX; clear hx hX HF hb3 HB3 hz3'; go_wp2_with fail
     refine (number_any w1.heap.size (9 + 13 * k) 4 _ _ _ (HR.out.alloc _) (by simp; omega) (by omega) (by omega)).mono ?_; rintro e w4 ⟨v4, rfl, hr4, hg4⟩; have x1 := hg4.cell (HX.out 1 _ rfl) (fun e => by have := (hXo _ e).1; simp at this); have x2 := hg4.cell (HX.out 2 _ rfl) (fun e => by have := (hXo _ e).1; simp at this); have hz4 := hg4.size; simp only [World.size_alloc] at hz4; have HB4 : Hid (Below (W.heap.size + 1) (W.alloc (.cells #[.int .i64 cur, .slice (some ⟨g, 0, none⟩) n c] 70)) w4) := lH ((HB.out.alloc (by omega) _).trans (hg4.below (by simp; omega) (by intro j hj; have := (hXo j hj).2; omega))); have hO4 : ∀ j, v4.ownBlock = some j → j ≠ wr.heap.size := fun j hj => by
      rcases hg4.2 j hj with e | e
      · have := (hXo j e).1; omega
      · simp at e; omega
     obtain ⟨bs4, hrow4, hbs4⟩ := hr4; have HBS4 := lH hbs4; clear hg4 hbs4; go_wp2_with (at_builtin; refine wpList_append_lies _ rfl _ _ 257 rfl w1.heap.size 5 i0 (.int .u8 0) 1 1 Tryz.underlying257 hi hz0 hz1 hz2 rfl (by decide) _ (9 + 13 * k + 4) _ rfl (hrow4.alloc _) ⟨w4.heap.size, 0, none⟩ 1 1 [_] rfl rfl (World.news_of_block (heap_alloc_new w4 _)) (by simp [Value.oneCell']) (by omega) (by unfold maxLen; omega) (by omega) (by simp; omega) (w4.heap.size + 1) (by simp) ?_; intro g5 cap5 w5 hown5 hgrow5 hat5 hlt5; have y2 := hgrow5.cell (c2a _ x2) (fun e => hO4 _ e.symm rfl))
     have hr5 := BRow.snoc (m := 1) [_] HBS4.out (by intro x hx; simp only [List.mem_cons, List.not_mem_nil, or_false] at hx; subst hx; first | exact u8_of _ | omega) hown5; have hz5 : w4.heap.size + 1 ≤ w5.heap.size := by have := hgrow5.size; simpa using this
     have HB5 : Hid (Below (W.heap.size + 1) (W.alloc (.cells #[.int .i64 cur, .slice (some ⟨g, 0, none⟩) n c] 70)) w5) := lH ((HB4.out.alloc (by omega) _).grown hgrow5 (by simp; omega) (fun j hj => by have := (hrow4.lt j hj).1; omega)); clear hown5 hgrow5 hat5 hlt5 hrow4 HBS4 x1 x2; refine (number_any w1.heap.size (9 + 13 * k + 4 + 1) 8 _ _ _ hr5 (by omega) (by omega) (by omega)).mono ?_; rintro e w6 ⟨v6, rfl, hr6, hg6⟩; have hz6 := hg6.size; have HB6 : Hid (Below (W.heap.size + 1) (W.alloc (.cells #[.int .i64 cur, .slice (some ⟨g, 0, none⟩) n c] 70)) w6) := lH (HB5.out.trans (hg6.below (by omega) (by intro j hj; have := (hr5.lt hj).1; omega))); have HR6 : Hid (BRow w6 w1.heap.size v6 (9 + 13 * (k + 1))) := lH (by rw [show 9 + 13 * (k + 1) = 9 + 13 * k + 4 + 1 + 8 from by omega]; exact hr6); clear hr5 hr6 hg6; go_wp2_with fail
     go_roundw
     case rel => exact ⟨k + 1, hkn, by go_num, HR6, HB6, by omega⟩
     case measure => simp [intOf]; omega
   · obtain rfl : k = n := by omega
     obtain ⟨a6, c6, rfl, hc6, hcm6⟩ := HR.out.form2; have hs6 := HR.out.toSl; clear hb3 HB3 hz3'; go_wp2_with fail
     refine (sealput_any a6 (9 + 13 * k) c6 _ hs6 (by omega)).mono ?_; rintro e w7 ⟨v7, rfl, hr7, hb7⟩; have HR7 := lH hr7; have HB7 := lH hb7; clear hr7 hb7 hs6; go_wp2
     go_ret2
     exact ⟨_, 9 + 13 * k + 4, _, rfl, HR7.out.base (by omega), by omega, (HWW.out.trans (HB.out.mono (by omega))).trans (HB7.out.mono (by omega))⟩
end
section
attribute [local go_sem] Oper.semAt_some
set_option maxRecDepth 100000 in
theorem csize_any (n : Nat) (w : World) (hn : n ≤ 1000) : Calls Tryz.prog 232 #[.int .i64 n] w fun e W' => e = .returned (.int .i64 ((13 * n + 13 : Nat) : Int)) ∧ w = W' := by
 have h1 : (0 : Int) ≤ n := by omega
 have h2 : (n : Int) ≤ 1000 := by omega
 go_enter Tryz.func232, Tryz.ntmps232; go_wp2
 go_ret
 exact ⟨congrArg (fun x => Ending.returned (.int .i64 x)) (by push_cast; omega), rfl⟩
def RBox (W : World) (H : Nat) (x y : Value) : Prop := W.heap[H]? = some (.cells #[x, y] 70 (0, 0))
theorem RBox.below {W W' : World} {H B : Nat} {x y : Value} (h : RBox W H x y) (hb : Below B W W') (hH : H < B) : RBox W' H x y := (hb.block H hH).trans h
theorem RBox.lt {W : World} {H : Nat} {x y : Value} (h : RBox W H x y) : H < W.heap.size := (Array.getElem?_eq_some_iff.1 h).1
theorem RBox.alloc {W : World} {H : Nat} {x y : Value} (h : RBox W H x y) (o : Obj) : RBox (W.alloc o) H x y := (Below.heap_alloc _ _ _ h.lt).trans h
theorem RBox.cells {W : World} {H : Nat} {x y : Value} (h : RBox W H x y) : W.cell? ⟨H, 0, none⟩ = some x ∧ W.cell? ⟨H, 1, none⟩ = some y ∧ W.frozen? ⟨H, 0, none⟩ = false ∧ W.frozen? ⟨H, 1, none⟩ = false := by
 unfold RBox at h; refine ⟨by simp only [World.cell?, h]; rfl, by simp only [World.cell?, h]; rfl, by simp only [World.frozen?, h]; simp, by simp only [World.frozen?, h]; simp⟩
theorem RBox.set {W : World} {H : Nat} {x y : Value} (h : RBox W H x y) (x' y' : Value) :
 ((W.setCell ⟨H, 0, none⟩ x').setCell ⟨H, 1, none⟩ y').cell? ⟨H, 0, none⟩ = some x' ∧ ((W.setCell ⟨H, 0, none⟩ x').setCell ⟨H, 1, none⟩ y').cell? ⟨H, 1, none⟩ = some y' := by
 obtain ⟨c0, c1, -, -⟩ := h.cells; exact ⟨by rw [cell_setCell_ne _ (by simp)]; exact World.cell?_setCell_same _ _ _ c0, World.cell?_setCell_same _ _ _ (by rw [cell_setCell_ne _ (by simp)]; exact c1)⟩
theorem rbox_new (W : World) (x y : Value) : RBox (W.alloc (.cells #[x, y] 70)) W.heap.size x y := heap_alloc_new _ _
theorem sl_tail (W : World) (a : Option Addr) (n c k : Nat) (h : BSl W a n) (hk : k ≤ n) (hc : n ≤ c) :
 ∃ a', (∀ W0, BSl W0 a n → BSl W0 a' (n - k)) ∧ ∀ w, (Instr.slice 257 (.slice a n c) (some (.int .i64 k)) none none).run Tryz.prog w = .ok (.slice a' (n - k) (c - k)) w := by
 have hkn : (0 : Int) ≤ (k : Int) := by omega
 have hkn2 : (k : Int) ≤ (n : Int) := by omega
 have ht : Tryz.prog.underlying 257 = some (.slice 5) := Tryz.underlying257; have ht' : Tryz.prog.underlying 257 = some (.slice (Tryz.prog.elem 257)) := by simp [Program.elem, ht]
 have he : Tryz.prog.elem 257 = 5 := by simp [Program.elem, ht]
 have hrun : ∀ w, (Instr.slice 257 (.slice a n c) (some (.int .i64 k)) none none).run Tryz.prog w = .ok (.slice (if c = k then a else a.map (·.add k)) (n - k) (c - k)) w := fun w => by
  rw [run_slice_l w 257 _ _ _ ht' .i64 _ hkn hkn2, he, Tryz.sizeOf5]; simp [Result.andThen, sliced]
 refine ⟨_, ?_, hrun⟩; by_cases e : n - k = 0
 · intro W0 _; rw [e]; exact BSl.none _ _
 · obtain ⟨g, i, x, rfl, -⟩ := h.get 0 (by omega); rw [if_neg (by omega)]; intro W0 h0; have := h0.tail k hk; show BSl W0 (some ((⟨g, i, none⟩ : Addr).add k)) (n - k); rw [Addr.add_lit]; exact this
theorem FormAt.same {W W' : World} {H B : Nat} {cur : Int} {v : Value} {its : List It} (h : FormAt W H B cur v its) (h0 : W'.heap[B]? = W.heap[B]?) (hb : ∀ k, v.ownBlock = some k → W'.heap[k]? = W.heap[k]?) : FormAt W' H B cur v its :=
 ⟨(World.cell?_of_block (a := ⟨B, 0, none⟩) h0).trans h.cur, (World.cell?_of_block (a := ⟨B, 1, none⟩) h0).trans h.sl, fun i => (World.frozen?_of_block (a := ⟨B, i, none⟩) h0).trans (h.live i), ownsRow_same h.row hb, h.ne⟩
theorem FormAt.below {W W' : World} {H B : Nat} {cur : Int} {v : Value} {its : List It} (h : FormAt W H B cur v its) (hb : Below W.heap.size W W') : FormAt W' H B cur v its :=
 h.same (hb.block B (World.block_lt_of_cell? W _ h.cur)) (fun k hk => hb.block k (h.row.lt k hk).2)
theorem formAt_new (W : World) (x : Int) : FormAt (W.alloc (.cells #[.int .i64 x, .slice none 0 0] 70)) (W.heap.size + 1) W.heap.size x (.slice none 0 0) [] := by
 have h := heap_alloc_new W (.cells #[.int .i64 x, .slice none 0 0] 70); exact ⟨by simp only [World.cell?, h]; rfl, by simp only [World.cell?, h]; rfl, fun i => by simp only [World.frozen?, h]; simp, World.ownsRow_nil .., by simp [Value.ownBlock]⟩
theorem FormAt.snoc {W w4 : World} {H B : Nat} {cur : Int} {v : Value} {its : List It} {o : Obj} {k g cap : Nat} {i ww lag : Int} (h : FormAt W H B cur v its) (hH : B < H) (hHW : H ≤ W.heap.size) (hk : its.length = k) (hg : (W.alloc o).grownBy w4 v.ownBlock)
 (hown : w4.ownsRow H 77 3 (.slice (some ⟨g, 0, none⟩) (k + 1) cap) (k + 1) (flatI its ++ [.int .i64 i, .int .i64 ww, .int .i64 lag])) :
 w4.cell? ⟨B, 1, none⟩ = some v ∧ w4.frozen? ⟨B, 1, none⟩ = false ∧ FormAt (w4.setCell ⟨B, 1, none⟩ (.slice (some ⟨g, 0, none⟩) (k + 1) cap)) H B cur (.slice (some ⟨g, 0, none⟩) (k + 1) cap) (its ++ [⟨i, ww, lag⟩]) := by
 have hlt : B < W.heap.size := by omega
 have hb : w4.heap[B]? = W.heap[B]? := (hg.block B (by simp; omega) (fun e => h.ne e.symm)).trans (Below.heap_alloc _ _ _ hlt)
 have hgB : H ≤ g := (hown.lt g rfl).1; have c1 := (World.cell?_of_block (a := ⟨B, 1, none⟩) hb).trans h.sl; refine ⟨c1, (World.frozen?_of_block (a := ⟨B, 1, none⟩) hb).trans (h.live 1), ?_, World.cell?_setCell_same _ _ _ c1, fun j => ?_, ?_, by intro e; simp [Value.ownBlock] at e; omega⟩
 · rw [cell_setCell_ne _ (by simp)]; exact (World.cell?_of_block (a := ⟨B, 0, none⟩) hb).trans h.cur
 · rw [World.frozen?_setCell]; exact (World.frozen?_of_block (a := ⟨B, j, none⟩) hb).trans (h.live j)
 · refine ownsRow_same (W := w4) ?_ (fun j hj => Below.heap_setCell _ _ _ _ (by simp [Value.ownBlock] at hj; subst hj; simp; omega)); rw [flatI_append, List.length_append, hk]; simpa [flatI, It.cells] using hown
def lenB : Value → Nat | .slice _ n _ => n | _ => 0
def GetP (w : World) (e : Ending) (W' : World) : Prop :=
 ∃ (tag cur : Int) (v : Value) (its : List It) (er : Int), e = .returned (.tuple #[.int .i64 tag, .agg #[.int .i64 cur, v], .int .i64 er]) ∧ its.length ≤ 255 ∧ W'.ownsRow w.heap.size 77 3 v its.length (flatI its) ∧ Below w.heap.size w W'
set_option maxRecDepth 100000 in
theorem cget_any (a : Option Addr) (n c : Nat) (w : World) (h : BSl w a n) (hn : n ≤ 50000) (hc : n ≤ c) (hcm : c ≤ 9223372036854775807) :
 Calls Tryz.prog 218 #[.slice a n c] w (GetP w) := by
 obtain ⟨j0, hj, hj0, hj1, hj2⟩ := info_parts info77; have hopen := open_any a n c _ (h.alloc (.cells #[.int .i64 0, .slice none 0 0] 70)) hn hc hcm; have HW0 : Hid (Below w.heap.size w (w.alloc (.cells #[.int .i64 0, .slice none 0 0] 70))) := lH ((Below.refl _ w).alloc (Nat.le_refl _) _); clear h; go_enter Tryz.func218, Tryz.ntmps218; go_wp2_with fail
 refine hopen.mono ?_; rintro e w1 ⟨a1, m, c1, vv, er, rfl, hm, hmc, hcm1, hs1, hb1⟩; have hR : RBox w1 w.heap.size (.int .i64 0) (.slice none 0 0) := (rbox_new w _ _).below hb1 (by simp); have HB1 : Hid (Below (w.heap.size + 1) (w.alloc (.cells #[.int .i64 0, .slice none 0 0] 70)) w1) := lH (hb1.mono (by simp)); obtain ⟨r0, r1, r2, r3⟩ := hR.cells; obtain ⟨g0, g1⟩ := hR.set (.int .i64 0) (.slice none 0 0); have HG0 := lH g0; have HG1 := lH g1; have HRB := lH hR; have HS1 := lH hs1; have HB1w : Hid (Below w.heap.size w ((w1.setCell ⟨w.heap.size, 0, none⟩ (.int .i64 0)).setCell ⟨w.heap.size, 1, none⟩ (.slice none 0 0))) := lH (((HW0.out.trans (HB1.out.mono (by omega))).setCell (by simp) _).setCell (by simp) _); have hz1 := HB1.out.size; simp only [World.size_alloc] at hz1; clear hb1 hR g0 g1 hs1 hopen; cases her : (er != 0) with
 | true =>
  go_wp2_with fail
  exact bodyPost_ret (v := .tuple #[.int .i64 0, .agg #[.int .i64 0, .slice none 0 0], .int .i64 er]) (by simp [results, Tryz.results218, go_sem, HG0.out, HG1.out]) rfl ⟨_, _, _, [], _, rfl, by simp, World.ownsRow_nil .., HB1w.out⟩
 | false =>
  cases hvv : (vv != 3) with
  | true =>
   go_wp2_with fail
   exact bodyPost_ret (v := .tuple #[.int .i64 0, .agg #[.int .i64 0, .slice none 0 0], .int .i64 10]) (by simp [results, Tryz.results218, go_sem, HG0.out, HG1.out]) rfl ⟨_, _, _, [], _, rfl, by simp, World.ownsRow_nil .., HB1w.out⟩
  | false =>
   by_cases h6 : m < 6
   · have d6 : decide ((m : Int) < 6) = true := decide_eq_true (by omega); go_wp2_with fail
     exact bodyPost_ret (v := .tuple #[.int .i64 0, .agg #[.int .i64 0, .slice none 0 0], .int .i64 8]) (by simp [results, Tryz.results218, go_sem, HG0.out, HG1.out]) rfl ⟨_, _, _, [], _, rfl, by simp, World.ownsRow_nil .., HB1w.out⟩
   · have d6 : decide ((m : Int) < 6) = false := decide_eq_false (by omega); obtain ⟨g, i, x5, rfl, hx0, hx1, hx5⟩ := HS1.out.get 5 (by omega); obtain ⟨N, rfl⟩ : ∃ N : Nat, x5 = N := ⟨x5.toNat, by omega⟩
     have h5m : (5 : Int) < m := by omega
     have hsz := csize_any N w1 (by omega); go_wp2_with fail
     refine hsz.mono ?_; rintro e w2 ⟨rfl, rfl⟩; cases hmm : ((m : Int) != ((13 * N + 13 : Nat) : Int) - 3 - 4) with
     | true =>
      go_wp2_with fail
      exact bodyPost_ret (v := .tuple #[.int .i64 0, .agg #[.int .i64 0, .slice none 0 0], .int .i64 8]) (by simp [results, Tryz.results218, go_sem, HG0.out, HG1.out]) rfl ⟨_, _, _, [], _, rfl, by simp, World.ownsRow_nil .., HB1w.out⟩
     | false =>
      have hm6 : m = 13 * N + 6 := by simp at hmm; omega
      obtain ⟨g', i', x00, e, -, -, hx00⟩ := HS1.out.get 0 (by omega); cases e; rw [Nat.add_zero] at hx00; subst hm6; have hs2 : BSl w1 (some ⟨g, i + 1, none⟩) (13 * N + 5) := HS1.out.tail 1 (by omega); have hmm2 : (((13 * N + 6 : Nat) : Int) != 13 * (N : Int) + 13 - 3 - 4) = false := by rw [← hmm]; push_cast; rfl
      clear hx5 hmm; go_wp2_with fail
      refine (read_any (some ⟨g, i + 1, none⟩) (13 * N + 5) (c1 - 1) 4 _ hs2 (by omega) (by omega) (by omega) (by omega) (by omega)).mono ?_; rintro e w3 ⟨cu, a3, rfl, hs3, hb3⟩; replace hs3 := hs3 w3 (hs2.below hb3); rw [show 13 * N + 5 - 4 = 13 * N + 1 from by omega] at hs3 ⊢; obtain ⟨c3, hc3⟩ : ∃ c3, c1 - 1 - 4 = c3 := ⟨_, rfl⟩
      rw [hc3]; obtain ⟨a4, hs4, hsl4⟩ := sl_tail w3 a3 (13 * N + 1) c3 1 hs3 (by omega) (by omega); replace hs4 := hs4 w3 hs3; rw [show 13 * N + 1 - 1 = 13 * N from by omega] at hs4 hsl4; rw [show ((1 : Nat) : Int) = 1 from rfl] at hsl4; have hz3 := hb3.size; have HS4 := lH hs4; have HR3 : Hid (RBox w3 w.heap.size (.int .i64 0) (.slice none 0 0)) := lH (HRB.out.below hb3 HRB.out.lt); have HB3 : Hid (Below (w.heap.size + 1) (w.alloc (.cells #[.int .i64 0, .slice none 0 0] 70)) w3) := lH (HB1.out.trans (hb3.mono hz1)); have hc3b : 13 * N + 1 ≤ c3 ∧ c3 ≤ 9223372036854775807 := by omega
      clear hs2 hs3 hb3 hs4 HS1 HG0 HG1 HRB HB1w r0 r1 r2 r3 hsz hx00 hc3; go_wp2_with fail
      have hF0 := fun x => formAt_new w3 x; go_loopw [0] (fun b wr => ∃ (k : Nat) (its : List It) (a' : Option Addr) (c' : Nat) (v : Value) (cu2 : Int), k ≤ N ∧ b = .slice a' (13 * (N - k)) c' ∧ 13 * (N - k) ≤ c' ∧ c' ≤ 9223372036854775807 ∧ its.length = k ∧ Hid (BSl w3 a' (13 * (N - k))) ∧ Hid (FormAt wr (w3.heap.size + 1) w3.heap.size cu2 v its) ∧ Hid (Below w3.heap.size w3 wr) ∧ w3.heap.size + 1 ≤ wr.heap.size) (fun b _ => lenB b)
      case atStart => exact ⟨0, [], _, _, _, _, Nat.zero_le _, rfl, by omega, by omega, rfl, HS4, lH (hF0 _), lH ((Below.refl _ _).alloc (Nat.le_refl _) _), by simp⟩
      case round =>
       obtain ⟨k, its, a', c', v, cu2, hk, rfl, hc1', hc2', hik, HS, HF, HB, hzr⟩ := hrel; have HIK := lH hik; clear hik; by_cases hkN : k < N
       · obtain ⟨q, hq⟩ : ∃ q, N - k = q + 1 := ⟨N - k - 1, by omega⟩
         have HQ := lH hq; rw [hq] at HS hc1' ⊢; have hq0 : (0 : Int) < ((13 * (q + 1) : Nat) : Int) := by omega
         have hqN : q < N := by omega
         clear hq; go_wp2_with fail
         refine (read_any a' (13 * (q + 1)) c' 4 _ (HS.out.below HB.out) (by omega) (by omega) (by omega) (by omega) (by omega)).mono ?_; rintro e w4 ⟨y1, a4', rfl, hs4, hb4⟩; replace hs4 := hs4 w3 HS.out; rw [show 13 * (q + 1) - 4 = 13 * q + 9 from by omega] at hs4 ⊢; obtain ⟨c4, hc4⟩ : ∃ c4, c' - 4 = c4 := ⟨_, rfl⟩
         rw [hc4]; have hz4 := hb4.size; have HB4 := lH hb4; have hc4b : 13 * q + 9 ≤ c4 ∧ c4 ≤ 9223372036854775807 := by omega
         clear hc4 hb4; go_wp2_with fail
         refine (read_any a4' (13 * q + 9) c4 1 _ (hs4.below (HB.out.trans (HB4.out.mono (by omega)))) (by omega) (by omega) (by omega) (by omega) (by omega)).mono ?_; rintro e w5 ⟨y2, a5', rfl, hs5, hb5⟩; replace hs5 := hs5 w3 hs4; rw [show 13 * q + 9 - 1 = 13 * q + 8 from by omega] at hs5 ⊢; obtain ⟨c5, hc5⟩ : ∃ c5, c4 - 1 = c5 := ⟨_, rfl⟩
         rw [hc5]; have hz5 := hb5.size; have HB5 := lH hb5; have hc5b : 13 * q + 8 ≤ c5 ∧ c5 ≤ 9223372036854775807 := by omega
         clear hc5 hb5 hs4; go_wp2_with fail
         refine (read_any a5' (13 * q + 8) c5 8 _ (hs5.below ((HB.out.trans (HB4.out.mono (by omega))).trans (HB5.out.mono (by omega)))) (by omega) (by omega) (by omega) (by omega) (by omega)).mono ?_; rintro e w6 ⟨y3, a6', rfl, hs6, hb6⟩; replace hs6 := hs6 w3 hs5; rw [show 13 * q + 8 - 8 = 13 * q from by omega] at hs6 ⊢; obtain ⟨c6, hc6⟩ : ∃ c6, c5 - 8 = c6 := ⟨_, rfl⟩
         rw [hc6]; have hz6 := hb6.size; have HB6 : Hid (Below wr.heap.size wr w6) := lH ((HB4.out.trans (HB5.out.mono hz4)).trans (hb6.mono (by omega))); have hc6b : 13 * q ≤ c6 ∧ c6 ≤ 9223372036854775807 := by omega
         have hF6 := HF.out.below HB6.out; have HF6 := lH hF6; have HS6 := lH hs6; have e1 := hF6.sl; have hrow := hF6.row; rw [HIK.out] at hrow; clear hc6 hb6 hs5 hs6 hF6 hF0; go_wp2_with (at_builtin; refine wpList_append_lies _ rfl _ _ 68 rfl (w3.heap.size + 1) 77 j0 (.agg #[.int .i64 0, .int .i64 0, .int .i64 0]) 3 24 Tryz.underlying68 hj hj0 hj1 hj2 rfl (by decide) _ k _ rfl (hrow.alloc _) ⟨w6.heap.size, 0, none⟩ 1 1 [_, _, _] rfl rfl (World.news_of_block (heap_alloc_new w6 _)) (by simp [Value.oneCell']) (by omega) (by unfold maxLen; omega) (by omega) (by simp; omega) (w6.heap.size + 1) (by simp) ?_; intro g7 cap7 w7 hown7 hgrow7 hat7 hlt7; obtain ⟨k1, k2, hF7⟩ := FormAt.snoc HF6.out (by omega) (by omega) HIK.out hgrow7 hown7)
         have hz7 : w6.heap.size + 1 ≤ w7.heap.size := by have := hgrow7.size; simpa using this
         have HB7 : Hid (Below w3.heap.size w3 (w7.setCell ⟨w3.heap.size, 1, none⟩ (.slice (some ⟨g7, 0, none⟩) (k + 1) cap7))) := lH ((((HB.out.trans (HB6.out.mono (by omega))).alloc (by omega) _).grown hgrow7 (by simp; omega) (fun j hj => by have := (hrow.lt j hj).1; omega)).setCell (by simp) _); have HF7 := lH hF7; clear hown7 hgrow7 hat7 hlt7 hF7 hrow k1 k2 e1; go_roundw
         case rel => exact ⟨k + 1, its ++ [⟨y1, y2, y3⟩], _, _, _, _, hkN, by rw [show N - (k + 1) = q from by have := HQ.out; omega], by rw [show N - (k + 1) = q from by have := HQ.out; omega]; omega, by omega, by simp [HIK.out], by rw [show N - (k + 1) = q from by have := HQ.out; omega]; exact HS6, HF7, HB7, by simp; omega⟩
         case measure => simp [lenB]
       · obtain rfl : k = N := by omega
         have hk0 : ¬ (0 : Int) < ((13 * (k - k) : Nat) : Int) := by simp
         have hF := HF.out; obtain ⟨fa, fc, hvf⟩ : ∃ fa fc, v = .slice fa its.length fc := by
          rcases hF.row.2 with ⟨e, h0⟩ | ⟨g', cap, cur', e, _⟩
          · exact ⟨none, 0, by rw [e, h0]⟩
          · exact ⟨_, _, e⟩
         have hfsl : FSl wr v its := FSl.of hF.row; have e0 := hF.cur; have e1 := hF.sl; have hcg := fun tag => cgood_any tag cu2 v its wr hfsl (by rw [HIK.out]; omega); have hFl : w3.heap.size < wr.heap.size := by omega
         have HROW := lH hF.row; have hbw : Below (w.heap.size + 1) (w.alloc (.cells #[.int .i64 0, .slice none 0 0] 70)) wr := HB3.out.trans (HB.out.mono (by omega))
         have HRW : Hid (RBox wr w.heap.size (.int .i64 0) (.slice none 0 0)) := lH (HR3.out.below HB.out (by omega)); have HBW := lH hbw; have hl255 : its.length ≤ 255 := by rw [HIK.out]; omega
         subst hvf; rw [show 13 * (k - k) = 0 from by simp]; clear hF hF0 hbw hk0 hfsl hsl4 HS HF HS4; go_wp2_with fail
         refine (hcg _).mono ?_; rintro e w8 ⟨b, rfl, -, hb8⟩; have hz8 := hb8.size; have HR8 : Hid (RBox w8 w.heap.size (.int .i64 0) (.slice none 0 0)) := lH (HRW.out.below hb8 HRW.out.lt); have k0 := (hb8.cell (p := ⟨w3.heap.size, 0, none⟩) hFl).trans e0; have k1 := (hb8.cell (p := ⟨w3.heap.size, 1, none⟩) hFl).trans e1; have HBW8 : Hid (Below w.heap.size w w8) := lH (HW0.out.trans ((HBW.out.trans (hb8.mono (by omega))).mono (by omega))); have HROW8 : Hid (w8.ownsRow (w3.heap.size + 1) 77 3 (.slice fa its.length fc) its.length (flatI its)) := lH (ownsRow_same HROW.out (fun j hj => hb8.block j (HROW.out.lt j hj).2)); obtain ⟨r0, r1, r2, r3⟩ := HR8.out.cells; clear e0 e1 hb8 hcg HROW HRW HBW; cases b with
         | false =>
          obtain ⟨g0, g1⟩ := HR8.out.set (.int .i64 0) (.slice none 0 0); have HG0 := lH g0; have HG1 := lH g1; clear g0 g1; go_wp2_with fail
          exact bodyPost_ret (v := .tuple #[.int .i64 0, .agg #[.int .i64 0, .slice none 0 0], .int .i64 11]) (by simp [results, Tryz.results218, go_sem, HG0.out, HG1.out]) rfl ⟨_, _, _, [], _, rfl, by simp, World.ownsRow_nil .., (HBW8.out.setCell (by simp) _).setCell (by simp) _⟩
         | true =>
          obtain ⟨g0, g1⟩ := HR8.out.set (.int .i64 cu2) (.slice fa its.length fc); have HG0 := lH g0; have HG1 := lH g1; clear g0 g1; go_wp2_with fail
          have hrowF : ((w8.setCell ⟨w.heap.size, 0, none⟩ (.int .i64 cu2)).setCell ⟨w.heap.size, 1, none⟩ (.slice fa its.length fc)).ownsRow w.heap.size 77 3 (.slice fa its.length fc) its.length (flatI its) :=
           ownsRow_base (ownsRow_same HROW8.out (fun j hj => by have := (HROW8.out.lt j hj).1; rw [Below.heap_setCell _ _ _ _ (by simp; omega), Below.heap_setCell _ _ _ _ (by simp; omega)])) (by omega)
          have HROWF := lH hrowF; clear hrowF; go_region
          all_goals (go_wp2_with fail; exact bodyPost_ret (v := .tuple #[.int .i64 (wrap64 x00), .agg #[.int .i64 cu2, .slice fa its.length fc], .int .i64 0]) (by simp [results, Tryz.results218, go_sem, HG0.out, HG1.out]) rfl ⟨_, _, _, its, _, rfl, hl255, HROWF.out, ((HBW8.out.setCell (by simp) _).setCell (by simp) _).drew⟩)
end
end Go.Proofs.YtoiajjobecinpaaGreat

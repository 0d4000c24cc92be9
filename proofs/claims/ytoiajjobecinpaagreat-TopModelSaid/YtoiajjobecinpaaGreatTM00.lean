/- A fact, hidden from simp. -/
import Derived.Lib.Hide
namespace Go.Proofs.YtoiajjobecinpaaGreat
theorem lH {p : Prop} (h : p) : RowKit.Hid p := h
abbrev I (x : Int) : Go.Value := .int .i64 x
end Go.Proofs.YtoiajjobecinpaaGreat

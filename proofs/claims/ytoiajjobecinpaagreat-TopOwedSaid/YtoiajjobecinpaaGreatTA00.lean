/- A fact, hidden from simp. -/
import Derived.Lib.Hide
namespace Go.Proofs.YtoiajjobecinpaaGreat
theorem lH {p : Prop} (h : p) : RowKit.Hid p := h
end Go.Proofs.YtoiajjobecinpaaGreat

/- Package wide: are two numbers one ('==' of arrays of four words)? -/
import Derived.Test.YtackdgbcmeafhaaGreatWideG
import Derived.Laws.StructEq
import Derived.Laws.Cover2
namespace Go.Proofs.YtackdgbcmeafhaaGreat
open Go.RowKit Go.Maps Go.Shelf

set_option maxRecDepth 100000 in
set_option maxHeartbeats 1000000 in
theorem run_eqW (a b c d e f g h : Int) (w : World) : (Op.equalIn 10000 116 (V4 a b c d) (V4 e f g h)).run Tryz.prog w = .ok (decide (a = e ∧ b = f ∧ c = g ∧ d = h)) w := by
  have u3 := Tryz.underlying22
  have a3 := Tryz.isAgg22
  have z3 := Tryz.sizeOf22
  unfold V4
  rw [show (10000 : Nat) = 9999 + 1 from rfl, Op.equalIn]
  simp only [Sem.run_bind, run_underlying Tryz.underlying116, Result.andThen_ok]
  simp only [Std.Legacy.Range.forIn_eq_forIn_range', Std.Legacy.Range.size, Nat.sub_zero, Nat.add_sub_cancel, Nat.div_one, List.range'_succ, List.range'_zero, List.forIn_cons, List.forIn_nil]
  go_simp
  by_cases h1 : a = e <;> by_cases h2 : b = f <;> by_cases h3 : c = g <;> by_cases h4 : d = h <;> simp [h1, h2, h3, h4]
theorem n4_zero {a b c d : Int} (ha : Wd a) (hb : Wd b) (hc : Wd c) (hd : Wd d) : (a = 0 ∧ b = 0 ∧ c = 0 ∧ d = 0) ↔ n4 a b c d = 0 := by
  have := ha.1; have := hb.1; have := hc.1; have := hd.1
  unfold n4; omega
theorem n4_inj {a b c d e f g h : Int} (ha : Wd a) (hb : Wd b) (hc : Wd c) (hd : Wd d) (he : Wd e) (hf : Wd f) (hg : Wd g) (hh : Wd h) : (a = e ∧ b = f ∧ c = g ∧ d = h) ↔ n4 a b c d = n4 e f g h := by
  have := ha.1; have := hb.1; have := hc.1; have := hd.1; have := ha.2; have := hb.2; have := hc.2; have := hd.2
  have := he.1; have := hf.1; have := hg.1; have := hh.1; have := he.2; have := hf.2; have := hg.2; have := hh.2
  unfold n4; omega
end Go.Proofs.YtackdgbcmeafhaaGreat

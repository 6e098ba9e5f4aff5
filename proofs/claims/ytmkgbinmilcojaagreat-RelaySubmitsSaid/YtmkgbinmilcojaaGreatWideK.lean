/- Package wide: Div, as numbers. -/
import Derived.Test.YtmkgbinmilcojaaGreatWideI
namespace Go.Proofs.YtmkgbinmilcojaaGreat
open Go.RowKit Go.Maps Go.Shelf

theorem wide_Div (N M : Nat) (hN : N < TOP) (hM : M < TOP) (h : M ≠ 0) (w : World) :
    Calls Tryz.prog 98 #[wv N, wv M] w fun e w' => e = .returned (.tuple #[wv (N / M), wv (N % M), .int .i64 0]) ∧ Chg [] w w' := by
  obtain ⟨a0, a1, a2, a3, ha0, ha1, ha2, ha3, hNe, hwv⟩ := words N hN
  obtain ⟨b0, b1, b2, b3, hb0, hb1, hb2, hb3, hMe, hwv2⟩ := words M hM
  rw [hwv, hwv2]
  exact wide_DivW a0 a1 a2 a3 b0 b1 b2 b3 N M w ha0 ha1 ha2 ha3 hb0 hb1 hb2 hb3 hNe hMe h
end Go.Proofs.YtmkgbinmilcojaaGreat

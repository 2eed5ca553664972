/-
What fold.Name comes to. (This session's own text.)
-/
import Derived.Test.YtlfiapleboklcaaDoorFoldSpec
set_option linter.unusedVariables false
set_option linter.unusedSimpArgs false
namespace Go.GV.YtlfiapleboklcaaDoor
open Go.Proofs
theorem name_none {s : List UInt8} (h : 58 ∉ s) : fold_Name.f (mkS s) = some (mkS [], mkS [], mkS [], false, ()) := by
  rw [fold_Name.f_eq, show (⟨#[58]⟩ : ByteArray) = mkS [58] from rfl, cut_none (by simpa [B_mk] using h)]
  rfl
theorem name_some1 {a v : List UInt8} (h : 58 ∉ a) (h2 : 59 ∉ a) (hs : a.length + v.length < 4611686018427387904) : fold_Name.f (mkS (a ++ 58 :: v)) = some (mkS a, mkS [], mkS v, true, ()) := by
  rw [fold_Name.f_eq, show (⟨#[58]⟩ : ByteArray) = mkS [58] from rfl, cut_some (by omega) h]
  simp only [Option.bind_some, Bool.not_true, cond_false]
  rw [show (⟨#[59]⟩ : ByteArray) = mkS [59] from rfl, cut_none (by simpa [B_mk] using h2)]
  rfl
theorem name_some2 {n p v : List UInt8} (h : 58 ∉ n) (h2 : 59 ∉ n) (h3 : 58 ∉ p) (hs : n.length + p.length + v.length < 4611686018427387904) : fold_Name.f (mkS (n ++ 59 :: (p ++ 58 :: v))) = some (mkS n, mkS p, mkS v, true, ()) := by
  have h4 : 58 ∉ n ++ 59 :: p := by simp [h, h3]
  rw [show n ++ 59 :: (p ++ 58 :: v) = (n ++ 59 :: p) ++ 58 :: v by simp, fold_Name.f_eq, show (⟨#[58]⟩ : ByteArray) = mkS [58] from rfl, cut_some (by simp; omega) h4]
  simp only [Option.bind_some, Bool.not_true, cond_false]
  rw [show (⟨#[59]⟩ : ByteArray) = mkS [59] from rfl, cut_some (by omega) h2]
  rfl
end Go.GV.YtlfiapleboklcaaDoor

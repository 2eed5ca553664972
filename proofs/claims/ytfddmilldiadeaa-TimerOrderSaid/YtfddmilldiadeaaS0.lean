/-
GV: the sorts of Go's library at this program: the shelf's contracts laid here (printed by this session's program).
-/
import Derived.Test.YtfddmilldiadeaaGvSort
import Derived.Test.YtfddmilldiadeaaProg
import Derived.KernelRfl
import Derived.Shelf.SlSortCmp.NoneTotal
set_option linter.unusedVariables false
set_option linter.unusedSimpArgs false
namespace Go.GV.Ytfddmilldiadeaa
open Go.Proofs Go.Sort
set_option maxRecDepth 1000000
def sort32_ren : Go.Shelf.Ren := ⟨fun | 6 => 32 | 15 => 41 | 14 => 40 | 28 => 51 | 29 => 52 | 20 => 43 | 21 => 44 | 22 => 45 | 23 => 46 | 24 => 47 | 25 => 48 | 26 => 49 | 27 => 50 | 46 => 53 | 47 => 54 | 48 => 55 | 49 => 56 | 50 => 57 | 57 => 58 | n => n, fun | 22 => 44 | 24 => 38 | 25 => 65 | 3 => 3 | 39 => 78 | 0 => 0 | 53 => 90 | 55 => 92 | 4 => 4 | 46 => 83 | 45 => 82 | 50 => 87 | 5 => 5 | 9 => 9 | 66 => 93 | 70 => 97 | 76 => 99 | 77 => 100 | n => n, fun | n => n⟩
theorem sort32 : Go.Proofs.SlLaysF0.n6 Try.prog sort32_ren where
  mixed := by kernel_rfl
  f6 := ⟨Try.f32.name, by kernel_rfl, Try.func32.trans (congrArg some (by kernel_rfl))⟩
  f14 := ⟨Try.f40.name, by kernel_rfl, Try.func40.trans (congrArg some (by kernel_rfl))⟩
  f15 := Try.func41.trans (congrArg some (by kernel_rfl))
  f20 := ⟨Try.f43.name, by kernel_rfl, Try.func43.trans (congrArg some (by kernel_rfl))⟩
  f21 := ⟨Try.f44.name, by kernel_rfl, Try.func44.trans (congrArg some (by kernel_rfl))⟩
  f22 := ⟨Try.f45.name, by kernel_rfl, Try.func45.trans (congrArg some (by kernel_rfl))⟩
  f23 := ⟨Try.f46.name, by kernel_rfl, Try.func46.trans (congrArg some (by kernel_rfl))⟩
  f24 := ⟨Try.f47.name, by kernel_rfl, Try.func47.trans (congrArg some (by kernel_rfl))⟩
  f25 := ⟨Try.f48.name, by kernel_rfl, Try.func48.trans (congrArg some (by kernel_rfl))⟩
  f26 := ⟨Try.f49.name, by kernel_rfl, Try.func49.trans (congrArg some (by kernel_rfl))⟩
  f27 := ⟨Try.f50.name, by kernel_rfl, Try.func50.trans (congrArg some (by kernel_rfl))⟩
  f28 := Try.func51.trans (congrArg some (by kernel_rfl))
  f29 := Try.func52.trans (congrArg some (by kernel_rfl))
  f46 := ⟨Try.f53.name, by kernel_rfl, Try.func53.trans (congrArg some (by kernel_rfl))⟩
  f47 := Try.func54.trans (congrArg some (by kernel_rfl))
  f48 := Try.func55.trans (congrArg some (by kernel_rfl))
  f49 := ⟨Try.f56.name, by kernel_rfl, Try.func56.trans (congrArg some (by kernel_rfl))⟩
  f50 := ⟨Try.f57.name, by kernel_rfl, Try.func57.trans (congrArg some (by kernel_rfl))⟩
  f57 := ⟨Try.f58.name, by kernel_rfl, Try.func58.trans (congrArg some (by kernel_rfl))⟩
  t0 := Try.underlying0
  a0 := Try.isAgg0
  z0 := Try.sizeOf0
  v0 := Try.zeroValue0
  t3 := Try.underlying3
  a3 := Try.isAgg3
  z3 := Try.sizeOf3
  v3 := Try.zeroValue3
  t4 := Try.underlying4
  a4 := Try.isAgg4
  z4 := Try.sizeOf4
  v4 := Try.zeroValue4
  t5 := Try.underlying5
  a5 := Try.isAgg5
  z5 := Try.sizeOf5
  v5 := Try.zeroValue5
  t9 := Try.underlying9
  a9 := Try.isAgg9
  z9 := Try.sizeOf9
  v9 := Try.zeroValue9
  t22 := Try.underlying44
  a22 := Try.isAgg44
  z22 := Try.sizeOf44
  v22 := Try.zeroValue44
  t25 := Try.underlying65
  a25 := Try.isAgg65
  z25 := Try.sizeOf65
  v25 := Try.zeroValue65
  t39 := Try.underlying78
  a39 := Try.isAgg78
  z39 := Try.sizeOf78
  v39 := Try.zeroValue78
  t45 := Try.underlying82
  a45 := Try.isAgg82
  z45 := Try.sizeOf82
  v45 := Try.zeroValue82
  t46 := Try.underlying83
  a46 := Try.isAgg83
  z46 := Try.sizeOf83
  v46 := Try.zeroValue83
  t50 := Try.underlying87
  a50 := Try.isAgg87
  z50 := Try.sizeOf87
  v50 := Try.zeroValue87
  t53 := Try.underlying90
  a53 := Try.isAgg90
  z53 := Try.sizeOf90
  v53 := Try.zeroValue90
  t55 := Try.underlying92
  a55 := Try.isAgg92
  z55 := Try.sizeOf92
  v55 := Try.zeroValue92
  t66 := Try.underlying93
  a66 := Try.isAgg93
  z66 := Try.sizeOf93
  v66 := Try.zeroValue93
  t70 := Try.underlying97
  a70 := Try.isAgg97
  z70 := Try.sizeOf97
  v70 := Try.zeroValue97
  t76 := Try.underlying99
  a76 := Try.isAgg99
  z76 := Try.sizeOf99
  v76 := Try.zeroValue99
  t77 := Try.underlying100
  a77 := Try.isAgg100
  z77 := Try.sizeOf100
  v77 := Try.zeroValue100
theorem cmp33 (a0 a1 b0 b1 : Int) (W : World) : Calls Try.prog 33 #[.agg #[.int .i64 a0, .int .i64 a1], .agg #[.int .i64 b0, .int .i64 b1]] W fun e w' => e = .returned (.int .i64 (lexCmp a0 a1 b0 b1)) ∧ ∃ q os', w' = grow (W.drewN q) os' := by
  unfold lexCmp loCmp
  by_cases h0 : a0 < b0
  · rw [decide_eq_true h0]
    go_enter Try.func33, Try.ntmps33
    go_wp2
    go_ret
    exact ⟨rfl, 0, _, by rw [alloc_eq_grow, alloc_eq_grow, grow_grow]; rfl⟩
  rw [decide_eq_false h0]
  by_cases h1 : a0 > b0
  · rw [decide_eq_true h1]
    go_enter Try.func33, Try.ntmps33
    go_wp2
    go_ret
    exact ⟨rfl, 0, _, by rw [alloc_eq_grow, alloc_eq_grow, grow_grow]; rfl⟩
  rw [decide_eq_false h1]
  by_cases h2 : a1 < b1
  · rw [decide_eq_true h2]
    go_enter Try.func33, Try.ntmps33
    go_wp2
    go_ret
    exact ⟨rfl, 0, _, by rw [alloc_eq_grow, alloc_eq_grow, grow_grow]; rfl⟩
  rw [decide_eq_false h2]
  by_cases h3 : a1 > b1
  · rw [decide_eq_true h3]
    go_enter Try.func33, Try.ntmps33
    go_wp2
    go_ret
    exact ⟨rfl, 0, _, by rw [alloc_eq_grow, alloc_eq_grow, grow_grow]; rfl⟩
  rw [decide_eq_false h3]
  go_enter Try.func33, Try.ntmps33
  go_wp2
  go_ret
  exact ⟨rfl, 0, _, by rw [alloc_eq_grow, alloc_eq_grow, grow_grow]; rfl⟩
def cf33 (x y : Int × Int × Unit) : Int := (fun x y => lexCmp x.1 x.2.1 y.1 y.2.1) x y
theorem swo33 : SWO (ltOf cf33) := swo_lex (fun x : Int × Int × Unit => x.1) (fun x : Int × Int × Unit => x.2.1)
theorem hs100010 (w : World) (g cap : Nat) (d : Array ((.st (.cons (.int .i64) (.cons (.int .i64) .nil))) : Ty).D) (hH : @HoldsK _ ⟨((.st (.cons (.int .i64) (.cons (.int .i64) .nil))) : Ty).z⟩ ((.st (.cons (.int .i64) (.cons (.int .i64) .nil))) : Ty).enc ((.st (.cons (.int .i64) (.cons (.int .i64) .nil))) : Ty).sz w g 0 d) (hb : g < w.heap.size) (hsz : d.size < 4611686018427387904) :
    Calls Try.prog 32 #[.slice (some ⟨g, 0, none⟩) d.size cap, .func (.func 33) #[] #[]] w fun e w' => e = .returned (.tuple #[]) ∧ ∃ n os, w' = @sortWorldK _ ⟨((.st (.cons (.int .i64) (.cons (.int .i64) .nil))) : Ty).z⟩ ((.st (.cons (.int .i64) (.cons (.int .i64) .nil))) : Ty).enc ((.st (.cons (.int .i64) (.cons (.int .i64) .nil))) : Ty).sz w g 0 n (@pdq _ ⟨((.st (.cons (.int .i64) (.cons (.int .i64) .nil))) : Ty).z⟩ (ltOf cf33) d 0 d.size (Lib.bitLen d.size) true true) os := by
  letI : Inhabited ((.st (.cons (.int .i64) (.cons (.int .i64) .nil))) : Ty).D := ⟨((.st (.cons (.int .i64) (.cons (.int .i64) .nil))) : Ty).z⟩
  have he := enters_of Try.func33 (by kernel_rfl) rfl
  have hc : CmpLays Try.prog 33 #[] ((.st (.cons (.int .i64) (.cons (.int .i64) .nil))) : Ty).enc ((.st (.cons (.int .i64) (.cons (.int .i64) .nil))) : Ty).sz cf33 g 0 d.size w := fun _ _ _ _ x y => cmp33 x.1 x.2.1 y.1 y.2.1 _
  exact AnyQ.slices_SortFunc_eq sort32 ((.st (.cons (.int .i64) (.cons (.int .i64) .nil))) : Ty).sz Try.isAgg38 Try.sizeOf38 ((.st (.cons (.int .i64) (.cons (.int .i64) .nil))) : Ty).enc (fun _ => Ty.enc_len) (fun _ => Ty.enc_one) cf33 swo33 33 #[] g 0 cap d w he hc hH hb hsz
theorem hn100010 (w : World) : Calls Try.prog 32 #[.slice none 0 0, .func (.func 33) #[] #[]] w fun e w' => e = .returned (.tuple #[]) ∧ w' = w :=
  AnyF.slices_SortFunc_none sort32 none 0 (.func (.func 33) #[] #[]) w
theorem ss100010 : ∀ y r, (sortFuncD 32 38 (.st (.cons (.int .i64) (.cons (.int .i64) .nil))) 33 cf33).sem y = some r → FnOK Try.prog (fun _ => False) (fun _ => True) (sortFuncD 32 38 (.st (.cons (.int .i64) (.cons (.int .i64) .nil))) 33 cf33) y r :=
  sortFunc_ok (c := Try.f32.body.getD .skip) Try.func32 (by kernel_rfl) (by kernel_rfl) rfl swo33 hs100010 hn100010
end Go.GV.Ytfddmilldiadeaa

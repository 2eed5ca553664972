/-
GV: the sorts of Go's library at this program: the shelf's contracts laid here (printed by this session's program).
-/
import Derived.Test.YtpffinebjiopaaaGvSort
import Derived.Test.YtpffinebjiopaaaProg
import Derived.KernelRfl
import Derived.Shelf.SlSortCmp.NoneTotal
import Derived.Shelf.SortM.Plain
import Derived.Shelf.SortM.SortNone
set_option linter.unusedVariables false
set_option linter.unusedSimpArgs false
namespace Go.GV.Ytpffinebjiopaaa
open Go.Proofs Go.Sort
set_option maxRecDepth 1000000
def sort33_ren : Go.Shelf.Ren := ⟨fun | 6 => 33 | 15 => 49 | 14 => 48 | 28 => 64 | 29 => 65 | 20 => 56 | 21 => 57 | 22 => 58 | 23 => 59 | 24 => 60 | 25 => 61 | 26 => 62 | 27 => 63 | 46 => 85 | 47 => 86 | 48 => 87 | 49 => 88 | 50 => 89 | 57 => 97 | n => n, fun | 22 => 22 | 24 => 28 | 25 => 61 | 3 => 3 | 39 => 76 | 0 => 0 | 53 => 91 | 55 => 93 | 4 => 4 | 46 => 84 | 45 => 83 | 50 => 88 | 5 => 5 | 9 => 9 | 66 => 107 | 70 => 111 | 76 => 117 | 77 => 118 | n => n, fun | n => n⟩
theorem sort33 : Go.Proofs.SlLaysF0.n6 Try.prog sort33_ren where
  mixed := by kernel_rfl
  f6 := ⟨Try.f33.name, by kernel_rfl, Try.func33.trans (congrArg some (by kernel_rfl))⟩
  f14 := ⟨Try.f48.name, by kernel_rfl, Try.func48.trans (congrArg some (by kernel_rfl))⟩
  f15 := Try.func49.trans (congrArg some (by kernel_rfl))
  f20 := ⟨Try.f56.name, by kernel_rfl, Try.func56.trans (congrArg some (by kernel_rfl))⟩
  f21 := ⟨Try.f57.name, by kernel_rfl, Try.func57.trans (congrArg some (by kernel_rfl))⟩
  f22 := ⟨Try.f58.name, by kernel_rfl, Try.func58.trans (congrArg some (by kernel_rfl))⟩
  f23 := ⟨Try.f59.name, by kernel_rfl, Try.func59.trans (congrArg some (by kernel_rfl))⟩
  f24 := ⟨Try.f60.name, by kernel_rfl, Try.func60.trans (congrArg some (by kernel_rfl))⟩
  f25 := ⟨Try.f61.name, by kernel_rfl, Try.func61.trans (congrArg some (by kernel_rfl))⟩
  f26 := ⟨Try.f62.name, by kernel_rfl, Try.func62.trans (congrArg some (by kernel_rfl))⟩
  f27 := ⟨Try.f63.name, by kernel_rfl, Try.func63.trans (congrArg some (by kernel_rfl))⟩
  f28 := Try.func64.trans (congrArg some (by kernel_rfl))
  f29 := Try.func65.trans (congrArg some (by kernel_rfl))
  f46 := ⟨Try.f85.name, by kernel_rfl, Try.func85.trans (congrArg some (by kernel_rfl))⟩
  f47 := Try.func86.trans (congrArg some (by kernel_rfl))
  f48 := Try.func87.trans (congrArg some (by kernel_rfl))
  f49 := ⟨Try.f88.name, by kernel_rfl, Try.func88.trans (congrArg some (by kernel_rfl))⟩
  f50 := ⟨Try.f89.name, by kernel_rfl, Try.func89.trans (congrArg some (by kernel_rfl))⟩
  f57 := ⟨Try.f97.name, by kernel_rfl, Try.func97.trans (congrArg some (by kernel_rfl))⟩
  t0 := Try.underlying0
  a0 := Try.isAgg0
  z0 := Try.sizeOf0
  v0 := Try.zeroValue0
  t3 := Try.underlying3
  a3 := Try.isAgg3
  z3 := Try.sizeOf3
  v3 := Try.zeroValue3
  t4 := Try.underlying4
  a4 := Try.isAgg4
  z4 := Try.sizeOf4
  v4 := Try.zeroValue4
  t5 := Try.underlying5
  a5 := Try.isAgg5
  z5 := Try.sizeOf5
  v5 := Try.zeroValue5
  t9 := Try.underlying9
  a9 := Try.isAgg9
  z9 := Try.sizeOf9
  v9 := Try.zeroValue9
  t22 := Try.underlying22
  a22 := Try.isAgg22
  z22 := Try.sizeOf22
  v22 := Try.zeroValue22
  t25 := Try.underlying61
  a25 := Try.isAgg61
  z25 := Try.sizeOf61
  v25 := Try.zeroValue61
  t39 := Try.underlying76
  a39 := Try.isAgg76
  z39 := Try.sizeOf76
  v39 := Try.zeroValue76
  t45 := Try.underlying83
  a45 := Try.isAgg83
  z45 := Try.sizeOf83
  v45 := Try.zeroValue83
  t46 := Try.underlying84
  a46 := Try.isAgg84
  z46 := Try.sizeOf84
  v46 := Try.zeroValue84
  t50 := Try.underlying88
  a50 := Try.isAgg88
  z50 := Try.sizeOf88
  v50 := Try.zeroValue88
  t53 := Try.underlying91
  a53 := Try.isAgg91
  z53 := Try.sizeOf91
  v53 := Try.zeroValue91
  t55 := Try.underlying93
  a55 := Try.isAgg93
  z55 := Try.sizeOf93
  v55 := Try.zeroValue93
  t66 := Try.underlying107
  a66 := Try.isAgg107
  z66 := Try.sizeOf107
  v66 := Try.zeroValue107
  t70 := Try.underlying111
  a70 := Try.isAgg111
  z70 := Try.sizeOf111
  v70 := Try.zeroValue111
  t76 := Try.underlying117
  a76 := Try.isAgg117
  z76 := Try.sizeOf117
  v76 := Try.zeroValue117
  t77 := Try.underlying118
  a77 := Try.isAgg118
  z77 := Try.sizeOf118
  v77 := Try.zeroValue118
theorem cmp34 (a0 a1 b0 b1 : Int) (W : World) : Calls Try.prog 34 #[.agg #[.int .i64 a0, .int .i64 a1], .agg #[.int .i64 b0, .int .i64 b1]] W fun e w' => e = .returned (.int .i64 (loCmp a0 b0)) ∧ ∃ q os', w' = grow (W.drewN q) os' := by
  unfold loCmp
  by_cases h0 : a0 < b0
  · rw [decide_eq_true h0]
    go_enter Try.func34, Try.ntmps34
    go_wp2
    go_ret
    exact ⟨rfl, 0, _, by rw [alloc_eq_grow, alloc_eq_grow, grow_grow]; rfl⟩
  rw [decide_eq_false h0]
  by_cases h1 : a0 > b0
  · rw [decide_eq_true h1]
    go_enter Try.func34, Try.ntmps34
    go_wp2
    go_ret
    exact ⟨rfl, 0, _, by rw [alloc_eq_grow, alloc_eq_grow, grow_grow]; rfl⟩
  rw [decide_eq_false h1]
  go_enter Try.func34, Try.ntmps34
  go_wp2
  go_ret
  exact ⟨rfl, 0, _, by rw [alloc_eq_grow, alloc_eq_grow, grow_grow]; rfl⟩
def cf34 (x y : Int × Int × Unit) : Int := (fun x y => loCmp x.1 y.1) x y
theorem swo34 : SWO (ltOf cf34) := swo_lo (fun x : Int × Int × Unit => x.1)
theorem hs100000 (w : World) (g cap : Nat) (d : Array ((.st (.cons (.int .i64) (.cons (.int .i64) .nil))) : Ty).D) (hH : @HoldsK _ ⟨((.st (.cons (.int .i64) (.cons (.int .i64) .nil))) : Ty).z⟩ ((.st (.cons (.int .i64) (.cons (.int .i64) .nil))) : Ty).enc ((.st (.cons (.int .i64) (.cons (.int .i64) .nil))) : Ty).sz w g 0 d) (hb : g < w.heap.size) (hsz : d.size < 4611686018427387904) :
    Calls Try.prog 33 #[.slice (some ⟨g, 0, none⟩) d.size cap, .func (.func 34) #[] #[]] w fun e w' => e = .returned (.tuple #[]) ∧ ∃ n os, w' = @sortWorldK _ ⟨((.st (.cons (.int .i64) (.cons (.int .i64) .nil))) : Ty).z⟩ ((.st (.cons (.int .i64) (.cons (.int .i64) .nil))) : Ty).enc ((.st (.cons (.int .i64) (.cons (.int .i64) .nil))) : Ty).sz w g 0 n (@pdq _ ⟨((.st (.cons (.int .i64) (.cons (.int .i64) .nil))) : Ty).z⟩ (ltOf cf34) d 0 d.size (Lib.bitLen d.size) true true) os := by
  letI : Inhabited ((.st (.cons (.int .i64) (.cons (.int .i64) .nil))) : Ty).D := ⟨((.st (.cons (.int .i64) (.cons (.int .i64) .nil))) : Ty).z⟩
  have he := enters_of Try.func34 (by kernel_rfl) rfl
  have hc : CmpLays Try.prog 34 #[] ((.st (.cons (.int .i64) (.cons (.int .i64) .nil))) : Ty).enc ((.st (.cons (.int .i64) (.cons (.int .i64) .nil))) : Ty).sz cf34 g 0 d.size w := fun _ _ _ _ x y => cmp34 x.1 x.2.1 y.1 y.2.1 _
  exact AnyQ.slices_SortFunc_eq sort33 ((.st (.cons (.int .i64) (.cons (.int .i64) .nil))) : Ty).sz Try.isAgg28 Try.sizeOf28 ((.st (.cons (.int .i64) (.cons (.int .i64) .nil))) : Ty).enc (fun _ => Ty.enc_len) (fun _ => Ty.enc_one) cf34 swo34 34 #[] g 0 cap d w he hc hH hb hsz
theorem hn100000 (w : World) : Calls Try.prog 33 #[.slice none 0 0, .func (.func 34) #[] #[]] w fun e w' => e = .returned (.tuple #[]) ∧ w' = w :=
  AnyF.slices_SortFunc_none sort33 none 0 (.func (.func 34) #[] #[]) w
theorem ss100000 : ∀ y r, (sortFuncD 33 28 (.st (.cons (.int .i64) (.cons (.int .i64) .nil))) 34 cf34).sem y = some r → FnOK Try.prog (fun _ => False) (fun _ => True) (sortFuncD 33 28 (.st (.cons (.int .i64) (.cons (.int .i64) .nil))) 34 cf34) y r :=
  sortFunc_ok (c := Try.f33.body.getD .skip) Try.func33 (by kernel_rfl) (by kernel_rfl) rfl swo34 hs100000 hn100000
def sort40_ren : Go.Shelf.Ren := ⟨fun | 6 => 40 | 15 => 49 | 14 => 54 | 28 => 64 | 29 => 65 | 20 => 77 | 21 => 78 | 22 => 79 | 23 => 80 | 24 => 81 | 25 => 82 | 26 => 83 | 27 => 84 | 46 => 94 | 47 => 86 | 48 => 87 | 49 => 95 | 50 => 96 | 57 => 99 | n => n, fun | 22 => 33 | 24 => 36 | 25 => 69 | 3 => 3 | 39 => 76 | 0 => 0 | 53 => 91 | 55 => 93 | 4 => 4 | 46 => 84 | 45 => 83 | 50 => 88 | 5 => 5 | 9 => 9 | 66 => 107 | 70 => 111 | 76 => 117 | 77 => 118 | n => n, fun | n => n⟩
theorem sort40 : Go.Proofs.SlLaysF0.n6 Try.prog sort40_ren where
  mixed := by kernel_rfl
  f6 := ⟨Try.f40.name, by kernel_rfl, Try.func40.trans (congrArg some (by kernel_rfl))⟩
  f14 := ⟨Try.f54.name, by kernel_rfl, Try.func54.trans (congrArg some (by kernel_rfl))⟩
  f15 := Try.func49.trans (congrArg some (by kernel_rfl))
  f20 := ⟨Try.f77.name, by kernel_rfl, Try.func77.trans (congrArg some (by kernel_rfl))⟩
  f21 := ⟨Try.f78.name, by kernel_rfl, Try.func78.trans (congrArg some (by kernel_rfl))⟩
  f22 := ⟨Try.f79.name, by kernel_rfl, Try.func79.trans (congrArg some (by kernel_rfl))⟩
  f23 := ⟨Try.f80.name, by kernel_rfl, Try.func80.trans (congrArg some (by kernel_rfl))⟩
  f24 := ⟨Try.f81.name, by kernel_rfl, Try.func81.trans (congrArg some (by kernel_rfl))⟩
  f25 := ⟨Try.f82.name, by kernel_rfl, Try.func82.trans (congrArg some (by kernel_rfl))⟩
  f26 := ⟨Try.f83.name, by kernel_rfl, Try.func83.trans (congrArg some (by kernel_rfl))⟩
  f27 := ⟨Try.f84.name, by kernel_rfl, Try.func84.trans (congrArg some (by kernel_rfl))⟩
  f28 := Try.func64.trans (congrArg some (by kernel_rfl))
  f29 := Try.func65.trans (congrArg some (by kernel_rfl))
  f46 := ⟨Try.f94.name, by kernel_rfl, Try.func94.trans (congrArg some (by kernel_rfl))⟩
  f47 := Try.func86.trans (congrArg some (by kernel_rfl))
  f48 := Try.func87.trans (congrArg some (by kernel_rfl))
  f49 := ⟨Try.f95.name, by kernel_rfl, Try.func95.trans (congrArg some (by kernel_rfl))⟩
  f50 := ⟨Try.f96.name, by kernel_rfl, Try.func96.trans (congrArg some (by kernel_rfl))⟩
  f57 := ⟨Try.f99.name, by kernel_rfl, Try.func99.trans (congrArg some (by kernel_rfl))⟩
  t0 := Try.underlying0
  a0 := Try.isAgg0
  z0 := Try.sizeOf0
  v0 := Try.zeroValue0
  t3 := Try.underlying3
  a3 := Try.isAgg3
  z3 := Try.sizeOf3
  v3 := Try.zeroValue3
  t4 := Try.underlying4
  a4 := Try.isAgg4
  z4 := Try.sizeOf4
  v4 := Try.zeroValue4
  t5 := Try.underlying5
  a5 := Try.isAgg5
  z5 := Try.sizeOf5
  v5 := Try.zeroValue5
  t9 := Try.underlying9
  a9 := Try.isAgg9
  z9 := Try.sizeOf9
  v9 := Try.zeroValue9
  t22 := Try.underlying33
  a22 := Try.isAgg33
  z22 := Try.sizeOf33
  v22 := Try.zeroValue33
  t25 := Try.underlying69
  a25 := Try.isAgg69
  z25 := Try.sizeOf69
  v25 := Try.zeroValue69
  t39 := Try.underlying76
  a39 := Try.isAgg76
  z39 := Try.sizeOf76
  v39 := Try.zeroValue76
  t45 := Try.underlying83
  a45 := Try.isAgg83
  z45 := Try.sizeOf83
  v45 := Try.zeroValue83
  t46 := Try.underlying84
  a46 := Try.isAgg84
  z46 := Try.sizeOf84
  v46 := Try.zeroValue84
  t50 := Try.underlying88
  a50 := Try.isAgg88
  z50 := Try.sizeOf88
  v50 := Try.zeroValue88
  t53 := Try.underlying91
  a53 := Try.isAgg91
  z53 := Try.sizeOf91
  v53 := Try.zeroValue91
  t55 := Try.underlying93
  a55 := Try.isAgg93
  z55 := Try.sizeOf93
  v55 := Try.zeroValue93
  t66 := Try.underlying107
  a66 := Try.isAgg107
  z66 := Try.sizeOf107
  v66 := Try.zeroValue107
  t70 := Try.underlying111
  a70 := Try.isAgg111
  z70 := Try.sizeOf111
  v70 := Try.zeroValue111
  t76 := Try.underlying117
  a76 := Try.isAgg117
  z76 := Try.sizeOf117
  v76 := Try.zeroValue117
  t77 := Try.underlying118
  a77 := Try.isAgg118
  z77 := Try.sizeOf118
  v77 := Try.zeroValue118
theorem cmp41 (a0 a1 a2 b0 b1 b2 : Int) (W : World) : Calls Try.prog 41 #[.agg #[.int .i64 a0, .int .i64 a1, .int .i64 a2], .agg #[.int .i64 b0, .int .i64 b1, .int .i64 b2]] W fun e w' => e = .returned (.int .i64 (loCmp a0 b0)) ∧ ∃ q os', w' = grow (W.drewN q) os' := by
  have hc := fun W => cmp34 a0 a1 b0 b1 W
  go_enter Try.func41, Try.ntmps41
  go_wp2_with (go_at_call 34; refine (hc _).mono ?_; rintro e w' ⟨rfl, q, os', rfl⟩)
  go_ret
  exact ⟨rfl, q, _, by rw [alloc_eq_grow, alloc_eq_grow, grow_grow]; exact grow_grow (W.drewN q) _ os'⟩
def cf41 (x y : (Int × Int × Unit) × Int × Unit) : Int := (fun x y => loCmp x.1.1 y.1.1) x y
theorem swo41 : SWO (ltOf cf41) := swo_lo (fun x : (Int × Int × Unit) × Int × Unit => x.1.1)
theorem hs100005 (w : World) (g cap : Nat) (d : Array ((.st (.cons (.st (.cons (.int .i64) (.cons (.int .i64) .nil))) (.cons (.int .i64) .nil))) : Ty).D) (hH : @HoldsK _ ⟨((.st (.cons (.st (.cons (.int .i64) (.cons (.int .i64) .nil))) (.cons (.int .i64) .nil))) : Ty).z⟩ ((.st (.cons (.st (.cons (.int .i64) (.cons (.int .i64) .nil))) (.cons (.int .i64) .nil))) : Ty).enc ((.st (.cons (.st (.cons (.int .i64) (.cons (.int .i64) .nil))) (.cons (.int .i64) .nil))) : Ty).sz w g 0 d) (hb : g < w.heap.size) (hsz : d.size < 4611686018427387904) :
    Calls Try.prog 40 #[.slice (some ⟨g, 0, none⟩) d.size cap, .func (.func 41) #[] #[]] w fun e w' => e = .returned (.tuple #[]) ∧ ∃ n os, w' = @sortWorldK _ ⟨((.st (.cons (.st (.cons (.int .i64) (.cons (.int .i64) .nil))) (.cons (.int .i64) .nil))) : Ty).z⟩ ((.st (.cons (.st (.cons (.int .i64) (.cons (.int .i64) .nil))) (.cons (.int .i64) .nil))) : Ty).enc ((.st (.cons (.st (.cons (.int .i64) (.cons (.int .i64) .nil))) (.cons (.int .i64) .nil))) : Ty).sz w g 0 n (@pdq _ ⟨((.st (.cons (.st (.cons (.int .i64) (.cons (.int .i64) .nil))) (.cons (.int .i64) .nil))) : Ty).z⟩ (ltOf cf41) d 0 d.size (Lib.bitLen d.size) true true) os := by
  letI : Inhabited ((.st (.cons (.st (.cons (.int .i64) (.cons (.int .i64) .nil))) (.cons (.int .i64) .nil))) : Ty).D := ⟨((.st (.cons (.st (.cons (.int .i64) (.cons (.int .i64) .nil))) (.cons (.int .i64) .nil))) : Ty).z⟩
  have he := enters_of Try.func41 (by kernel_rfl) rfl
  have hc : CmpLays Try.prog 41 #[] ((.st (.cons (.st (.cons (.int .i64) (.cons (.int .i64) .nil))) (.cons (.int .i64) .nil))) : Ty).enc ((.st (.cons (.st (.cons (.int .i64) (.cons (.int .i64) .nil))) (.cons (.int .i64) .nil))) : Ty).sz cf41 g 0 d.size w := fun _ _ _ _ x y => cmp41 x.1.1 x.1.2.1 x.2.1 y.1.1 y.1.2.1 y.2.1 _
  exact AnyQ.slices_SortFunc_eq sort40 ((.st (.cons (.st (.cons (.int .i64) (.cons (.int .i64) .nil))) (.cons (.int .i64) .nil))) : Ty).sz Try.isAgg36 Try.sizeOf36 ((.st (.cons (.st (.cons (.int .i64) (.cons (.int .i64) .nil))) (.cons (.int .i64) .nil))) : Ty).enc (fun _ => Ty.enc_len) (fun _ => Ty.enc_one) cf41 swo41 41 #[] g 0 cap d w he hc hH hb hsz
theorem hn100005 (w : World) : Calls Try.prog 40 #[.slice none 0 0, .func (.func 41) #[] #[]] w fun e w' => e = .returned (.tuple #[]) ∧ w' = w :=
  AnyF.slices_SortFunc_none sort40 none 0 (.func (.func 41) #[] #[]) w
theorem ss100005 : ∀ y r, (sortFuncD 40 36 (.st (.cons (.st (.cons (.int .i64) (.cons (.int .i64) .nil))) (.cons (.int .i64) .nil))) 41 cf41).sem y = some r → FnOK Try.prog (fun _ => False) (fun _ => True) (sortFuncD 40 36 (.st (.cons (.st (.cons (.int .i64) (.cons (.int .i64) .nil))) (.cons (.int .i64) .nil))) 41 cf41) y r :=
  sortFunc_ok (c := Try.f40.body.getD .skip) Try.func40 (by kernel_rfl) (by kernel_rfl) rfl swo41 hs100005 hn100005
def sort37_ren : Go.Shelf.Ren := ⟨fun | 5 => 37 | 8 => 49 | 7 => 51 | 19 => 64 | 20 => 65 | 10 => 68 | 11 => 69 | 12 => 70 | 13 => 71 | 14 => 72 | 15 => 73 | 16 => 74 | 17 => 75 | 18 => 76 | 30 => 90 | 31 => 86 | 32 => 87 | 33 => 91 | 34 => 92 | 35 => 93 | 40 => 98 | n => n, fun | 23 => 43 | 25 => 3 | 3 => 3 | 32 => 76 | 22 => 43 | 0 => 0 | 44 => 91 | 46 => 93 | 4 => 4 | 36 => 84 | 35 => 83 | 41 => 88 | 5 => 5 | 9 => 9 | 53 => 107 | 57 => 111 | 63 => 117 | 64 => 118 | n => n, fun | n => n⟩
theorem sort37 : Go.Proofs.SlLaysM.n5 Try.prog sort37_ren where
  mixed := by kernel_rfl
  f5 := ⟨Try.f37.name, by kernel_rfl, Try.func37.trans (congrArg some (by kernel_rfl))⟩
  f7 := ⟨Try.f51.name, by kernel_rfl, Try.func51.trans (congrArg some (by kernel_rfl))⟩
  f8 := Try.func49.trans (congrArg some (by kernel_rfl))
  f10 := ⟨Try.f68.name, by kernel_rfl, Try.func68.trans (congrArg some (by kernel_rfl))⟩
  f11 := ⟨Try.f69.name, by kernel_rfl, Try.func69.trans (congrArg some (by kernel_rfl))⟩
  f12 := ⟨Try.f70.name, by kernel_rfl, Try.func70.trans (congrArg some (by kernel_rfl))⟩
  f13 := ⟨Try.f71.name, by kernel_rfl, Try.func71.trans (congrArg some (by kernel_rfl))⟩
  f14 := ⟨Try.f72.name, by kernel_rfl, Try.func72.trans (congrArg some (by kernel_rfl))⟩
  f15 := ⟨Try.f73.name, by kernel_rfl, Try.func73.trans (congrArg some (by kernel_rfl))⟩
  f16 := ⟨Try.f74.name, by kernel_rfl, Try.func74.trans (congrArg some (by kernel_rfl))⟩
  f17 := ⟨Try.f75.name, by kernel_rfl, Try.func75.trans (congrArg some (by kernel_rfl))⟩
  f18 := ⟨Try.f76.name, by kernel_rfl, Try.func76.trans (congrArg some (by kernel_rfl))⟩
  f19 := Try.func64.trans (congrArg some (by kernel_rfl))
  f20 := Try.func65.trans (congrArg some (by kernel_rfl))
  f30 := ⟨Try.f90.name, by kernel_rfl, Try.func90.trans (congrArg some (by kernel_rfl))⟩
  f31 := Try.func86.trans (congrArg some (by kernel_rfl))
  f32 := Try.func87.trans (congrArg some (by kernel_rfl))
  f33 := ⟨Try.f91.name, by kernel_rfl, Try.func91.trans (congrArg some (by kernel_rfl))⟩
  f34 := ⟨Try.f92.name, by kernel_rfl, Try.func92.trans (congrArg some (by kernel_rfl))⟩
  f35 := ⟨Try.f93.name, by kernel_rfl, Try.func93.trans (congrArg some (by kernel_rfl))⟩
  f40 := ⟨Try.f98.name, by kernel_rfl, Try.func98.trans (congrArg some (by kernel_rfl))⟩
  t0 := Try.underlying0
  a0 := Try.isAgg0
  z0 := Try.sizeOf0
  v0 := Try.zeroValue0
  t3 := Try.underlying3
  a3 := Try.isAgg3
  z3 := Try.sizeOf3
  v3 := Try.zeroValue3
  t4 := Try.underlying4
  a4 := Try.isAgg4
  z4 := Try.sizeOf4
  v4 := Try.zeroValue4
  t5 := Try.underlying5
  a5 := Try.isAgg5
  z5 := Try.sizeOf5
  v5 := Try.zeroValue5
  t9 := Try.underlying9
  a9 := Try.isAgg9
  z9 := Try.sizeOf9
  v9 := Try.zeroValue9
  t22 := Try.underlying43
  a22 := Try.isAgg43
  z22 := Try.sizeOf43
  v22 := Try.zeroValue43
  t23 := Try.underlying43
  a23 := Try.isAgg43
  z23 := Try.sizeOf43
  v23 := Try.zeroValue43
  t25 := Try.underlying3
  a25 := Try.isAgg3
  z25 := Try.sizeOf3
  v25 := Try.zeroValue3
  t32 := Try.underlying76
  a32 := Try.isAgg76
  z32 := Try.sizeOf76
  v32 := Try.zeroValue76
  t35 := Try.underlying83
  a35 := Try.isAgg83
  z35 := Try.sizeOf83
  v35 := Try.zeroValue83
  t36 := Try.underlying84
  a36 := Try.isAgg84
  z36 := Try.sizeOf84
  v36 := Try.zeroValue84
  t41 := Try.underlying88
  a41 := Try.isAgg88
  z41 := Try.sizeOf88
  v41 := Try.zeroValue88
  t44 := Try.underlying91
  a44 := Try.isAgg91
  z44 := Try.sizeOf91
  v44 := Try.zeroValue91
  t46 := Try.underlying93
  a46 := Try.isAgg93
  z46 := Try.sizeOf93
  v46 := Try.zeroValue93
  t53 := Try.underlying107
  a53 := Try.isAgg107
  z53 := Try.sizeOf107
  v53 := Try.zeroValue107
  t57 := Try.underlying111
  a57 := Try.isAgg111
  z57 := Try.sizeOf111
  v57 := Try.zeroValue111
  t63 := Try.underlying117
  a63 := Try.isAgg117
  z63 := Try.sizeOf117
  v63 := Try.zeroValue117
  t64 := Try.underlying118
  a64 := Try.isAgg118
  z64 := Try.sizeOf118
  v64 := Try.zeroValue118
theorem ss37 : ∀ y r, (sortIntD 37 3).sem y = some r → FnOK Try.prog (fun _ => False) (fun _ => True) (sortIntD 37 3) y r :=
  sortInt_ok (c := Try.f37.body.getD .skip) Try.func37 (by kernel_rfl) (by kernel_rfl)
    (fun w g cap zs hH hb hsz => AnyM.slices_Sort_int sort37 g 0 cap zs w hH hb hsz)
    (fun w => AnyM.slices_Sort_int_none sort37 none 0 w)
end Go.GV.Ytpffinebjiopaaa

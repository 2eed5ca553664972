/-
Part of the words that the laws of this seat are proved with: no statement of its own, no conditions.
-/
import Derived.Test.YtaeejbmbkejjiaaGreatDoorZ7
import Derived.Shelf.Strconv.AtoiAll
import Derived.Shelf.Strconv.Itoa3
import Derived.Test.YtaeejbmbkejjiaaGreatDoorProg
import Derived.KernelRfl
import Derived.Shelf.SlSortCmp.NoneTotal
import Derived.Shelf.SortM.Plain
import Derived.Shelf.SortM.SortNone
set_option linter.unusedVariables false
set_option linter.unusedSimpArgs false
namespace Go.GV.YtaeejbmbkejjiaaGreatDoor
open Go.Proofs Go.Sort
set_option maxRecDepth 1000000
abbrev GB : Nat → Prop := Its 5 3 4
abbrev G : World → Prop := Facts Tryz.prog 3 4
theorem gtab : Tryz.prog.globalNamed "internal/strconv.uint64pow10" = some 5 := by kernel_rfl
theorem stab : Stable GB G := facts_stable gtab
def str85_ren : Go.Shelf.Ren := ⟨fun | 172 => 85 | 244 => 119 | 245 => 120 | 247 => 137 | 279 => 138 | 280 => 139 | 281 => 140 | 282 => 141 | 287 => 163 | 316 => 164 | 171 => 86 | 205 => 165 | 321 => 178 | 322 => 179 | 243 => 121 | 246 => 142 | 283 => 166 | 284 => 167 | 285 => 168 | 286 => 169 | 129 => 153 | 317 => 180 | 318 => 181 | 319 => 182 | 320 => 183 | 337 => 186 | 338 => 187 | n => n, fun | 9 => 9 | 3 => 3 | 75 => 104 | 76 => 105 | 4 => 4 | 5 => 5 | 167 => 138 | 37 => 139 | 0 => 0 | 85 => 140 | 2 => 2 | 168 => 142 | 53 => 156 | 175 => 166 | 46 => 117 | 210 => 170 | 127 => 186 | 145 => 189 | 143 => 187 | 21 => 21 | 171 => 172 | 173 => 174 | 212 => 191 | 51 => 135 | 20 => 20 | 213 => 192 | 232 => 196 | 233 => 197 | 80 => 198 | n => n, fun | 15 => 3 | 16 => 4 | 17 => 5 | 18 => 6 | 19 => 7 | n => n⟩
theorem str85 : Go.Proofs.LaysC.n172 Tryz.prog str85_ren where
 mixed := by kernel_rfl
 f129 := Tryz.func153.trans (congrArg some (by kernel_rfl))
 f171 := Tryz.func86.trans (congrArg some (by kernel_rfl))
 f172 := Tryz.func85.trans (congrArg some (by kernel_rfl))
 f205 := Tryz.func165.trans (congrArg some (by kernel_rfl))
 f243 := Tryz.func121.trans (congrArg some (by kernel_rfl))
 f244 := Tryz.func119.trans (congrArg some (by kernel_rfl))
 f245 := Tryz.func120.trans (congrArg some (by kernel_rfl))
 f246 := Tryz.func142.trans (congrArg some (by kernel_rfl))
 f247 := Tryz.func137.trans (congrArg some (by kernel_rfl))
 f279 := Tryz.func138.trans (congrArg some (by kernel_rfl))
 f280 := Tryz.func139.trans (congrArg some (by kernel_rfl))
 f281 := Tryz.func140.trans (congrArg some (by kernel_rfl))
 f282 := Tryz.func141.trans (congrArg some (by kernel_rfl))
 f283 := Tryz.func166.trans (congrArg some (by kernel_rfl))
 f284 := Tryz.func167.trans (congrArg some (by kernel_rfl))
 f285 := Tryz.func168.trans (congrArg some (by kernel_rfl))
 f286 := Tryz.func169.trans (congrArg some (by kernel_rfl))
 f287 := Tryz.func163.trans (congrArg some (by kernel_rfl))
 f316 := Tryz.func164.trans (congrArg some (by kernel_rfl))
 f317 := Tryz.func180.trans (congrArg some (by kernel_rfl))
 f318 := Tryz.func181.trans (congrArg some (by kernel_rfl))
 f319 := Tryz.func182.trans (congrArg some (by kernel_rfl))
 f320 := Tryz.func183.trans (congrArg some (by kernel_rfl))
 f321 := Tryz.func178.trans (congrArg some (by kernel_rfl))
 f322 := Tryz.func179.trans (congrArg some (by kernel_rfl))
 f337 := Tryz.func186.trans (congrArg some (by kernel_rfl))
 f338 := Tryz.func187.trans (congrArg some (by kernel_rfl))
 t0 := Tryz.underlying0
 a0 := Tryz.isAgg0
 z0 := Tryz.sizeOf0
 v0 := Tryz.zeroValue0
 t2 := Tryz.underlying2
 a2 := Tryz.isAgg2
 z2 := Tryz.sizeOf2
 v2 := Tryz.zeroValue2
 t3 := Tryz.underlying3
 a3 := Tryz.isAgg3
 z3 := Tryz.sizeOf3
 v3 := Tryz.zeroValue3
 t4 := Tryz.underlying4
 a4 := Tryz.isAgg4
 z4 := Tryz.sizeOf4
 v4 := Tryz.zeroValue4
 t5 := Tryz.underlying5
 a5 := Tryz.isAgg5
 z5 := Tryz.sizeOf5
 v5 := Tryz.zeroValue5
 t9 := Tryz.underlying9
 a9 := Tryz.isAgg9
 z9 := Tryz.sizeOf9
 v9 := Tryz.zeroValue9
 t20 := Tryz.underlying20
 a20 := Tryz.isAgg20
 z20 := Tryz.sizeOf20
 v20 := Tryz.zeroValue20
 t21 := Tryz.underlying21
 a21 := Tryz.isAgg21
 z21 := Tryz.sizeOf21
 v21 := Tryz.zeroValue21
 t37 := Tryz.underlying139
 a37 := Tryz.isAgg139
 z37 := Tryz.sizeOf139
 v37 := Tryz.zeroValue139
 t46 := Tryz.underlying117
 a46 := Tryz.isAgg117
 z46 := Tryz.sizeOf117
 v46 := Tryz.zeroValue117
 t51 := Tryz.underlying135
 a51 := Tryz.isAgg135
 z51 := Tryz.sizeOf135
 v51 := Tryz.zeroValue135
 t53 := Tryz.underlying156
 a53 := Tryz.isAgg156
 z53 := Tryz.sizeOf156
 v53 := Tryz.zeroValue156
 t75 := Tryz.underlying104
 a75 := Tryz.isAgg104
 z75 := Tryz.sizeOf104
 v75 := Tryz.zeroValue104
 t76 := Tryz.underlying105
 a76 := Tryz.isAgg105
 z76 := Tryz.sizeOf105
 v76 := Tryz.zeroValue105
 t85 := Tryz.underlying140
 a85 := Tryz.isAgg140
 z85 := Tryz.sizeOf140
 v85 := Tryz.zeroValue140
 t127 := Tryz.underlying186
 a127 := Tryz.isAgg186
 z127 := Tryz.sizeOf186
 v127 := Tryz.zeroValue186
 t143 := Tryz.underlying187
 a143 := Tryz.isAgg187
 z143 := Tryz.sizeOf187
 v143 := Tryz.zeroValue187
 t145 := Tryz.underlying189
 a145 := Tryz.isAgg189
 z145 := Tryz.sizeOf189
 v145 := Tryz.zeroValue189
 t167 := Tryz.underlying138
 a167 := Tryz.isAgg138
 z167 := Tryz.sizeOf138
 v167 := Tryz.zeroValue138
 t168 := Tryz.underlying142
 a168 := Tryz.isAgg142
 z168 := Tryz.sizeOf142
 v168 := Tryz.zeroValue142
 t171 := Tryz.underlying172
 a171 := Tryz.isAgg172
 z171 := Tryz.sizeOf172
 v171 := Tryz.zeroValue172
 t173 := Tryz.underlying174
 a173 := Tryz.isAgg174
 z173 := Tryz.sizeOf174
 v173 := Tryz.zeroValue174
 t175 := Tryz.underlying166
 a175 := Tryz.isAgg166
 z175 := Tryz.sizeOf166
 v175 := Tryz.zeroValue166
 t210 := Tryz.underlying170
 a210 := Tryz.isAgg170
 z210 := Tryz.sizeOf170
 v210 := Tryz.zeroValue170
 t212 := Tryz.underlying191
 a212 := Tryz.isAgg191
 z212 := Tryz.sizeOf191
 v212 := Tryz.zeroValue191
 t213 := Tryz.underlying192
 a213 := Tryz.isAgg192
 z213 := Tryz.sizeOf192
 t232 := Tryz.underlying196
 a232 := Tryz.isAgg196
 z232 := Tryz.sizeOf196
 v232 := Tryz.zeroValue196
 t233 := Tryz.underlying197
 a233 := Tryz.isAgg197
 z233 := Tryz.sizeOf197
 v233 := Tryz.zeroValue197
 g15 := by kernel_rfl
 g16 := by kernel_rfl
 g17 := by kernel_rfl
 g18 := by kernel_rfl
 g19 := by kernel_rfl
 t80 := Tryz.underlying198
 a80 := Tryz.isAgg198
 z80 := Tryz.sizeOf198
 v80 := Tryz.zeroValue198
 i0 := by kernel_rfl
 i2 := by kernel_rfl
 i3 := by kernel_rfl
 i4 := by kernel_rfl
 i5 := by kernel_rfl
 i9 := by kernel_rfl
 i20 := by kernel_rfl
 i21 := by kernel_rfl
 i37 := by kernel_rfl
 i46 := by kernel_rfl
 i51 := by kernel_rfl
 i53 := by kernel_rfl
 i75 := by kernel_rfl
 i76 := by kernel_rfl
 i80 := by kernel_rfl
 i85 := by kernel_rfl
 i127 := by kernel_rfl
 i143 := by kernel_rfl
 i145 := by kernel_rfl
 i167 := by kernel_rfl
 i168 := by kernel_rfl
 i171 := by kernel_rfl
 i173 := by kernel_rfl
 i175 := by kernel_rfl
 i210 := by kernel_rfl
 i212 := by kernel_rfl
 i232 := by kernel_rfl
 i233 := by kernel_rfl
 m15 := by kernel_rfl
 m16 := by kernel_rfl
 m17 := by kernel_rfl
 m18 := by kernel_rfl
 m19 := by kernel_rfl
 c0 := by kernel_rfl
 c2 := by kernel_rfl
 c3 := by kernel_rfl
 c4 := by kernel_rfl
 c5 := by kernel_rfl
 c9 := by kernel_rfl
 c20 := by kernel_rfl
 c21 := by kernel_rfl
 c37 := by kernel_rfl
 c46 := by kernel_rfl
 c51 := by kernel_rfl
 c53 := by kernel_rfl
 c75 := by kernel_rfl
 c76 := by kernel_rfl
 c80 := by kernel_rfl
 c85 := by kernel_rfl
 c127 := by kernel_rfl
 c143 := by kernel_rfl
 c145 := by kernel_rfl
 c167 := by kernel_rfl
 c168 := by kernel_rfl
 c171 := by kernel_rfl
 c173 := by kernel_rfl
 c175 := by kernel_rfl
 c210 := by kernel_rfl
 c212 := by kernel_rfl
 c213 := by kernel_rfl
 c232 := by kernel_rfl
 c233 := by kernel_rfl
theorem ss85 : ∀ y r, (atoiD 85).sem y = some r → FnOK Tryz.prog GB G (atoiD 85) y r :=
 atoi_ok (c := Tryz.f85.body.getD .skip) Tryz.func85 (by kernel_rfl) (by kernel_rfl)
  (fun w s v hm h => (Any.strconv_Atoi_ok str85 s hm v h w).mono fun e w' q => ⟨q.1, by
   rcases q.2 with rfl | ⟨t, rfl⟩
   ·exact Go.RowKit.Below.refl _ _
   ·exact Lib.bytesWorld_below _ _ _⟩)
  (fun w s hg hl n1 n2 => by
   obtain ⟨ev, h1, h2⟩ := hg.syn
   refine (Any.strconv_Atoi_syntax str85 s hl ?_ ev w h1 h2).mono fun e w' q => by obtain ⟨N, rfl, _, _, hb⟩ := q; exact ⟨⟨_, _, rfl⟩, hb⟩
   cases hA : Lib.atoiAll s.data.toList with
   | ok v => exact absurd hA (n1 v)
   | range => exact absurd hA n2
   | _ => rfl)
  (fun w s hg hl h => by
   obtain ⟨ev, h1, h2⟩ := hg.rng
   exact (Any.strconv_Atoi_range str85 s hl h ev w h1 h2).mono fun e w' q => by obtain ⟨N, rfl, _, _, hb⟩ := q; exact ⟨⟨_, _, rfl⟩, hb⟩)
def str86_ren : Go.Shelf.Ren := ⟨fun | 171 => 86 | 243 => 121 | 246 => 142 | 283 => 166 | 284 => 167 | 285 => 168 | 286 => 169 | 129 => 153 | 317 => 180 | 318 => 181 | 319 => 182 | 320 => 183 | 337 => 186 | 338 => 187 | n => n, fun | 3 => 3 | 9 => 9 | 2 => 2 | 4 => 4 | 171 => 172 | 0 => 0 | 53 => 156 | 37 => 139 | 5 => 5 | 173 => 174 | 212 => 191 | 51 => 135 | 20 => 20 | 213 => 192 | 46 => 117 | 232 => 196 | 233 => 197 | n => n, fun | 17 => 5 | 18 => 6 | 19 => 7 | n => n⟩
theorem str86 : Go.Proofs.LaysM.n171 Tryz.prog str86_ren where
 mixed := by kernel_rfl
 f129 := Tryz.func153.trans (congrArg some (by kernel_rfl))
 f171 := Tryz.func86.trans (congrArg some (by kernel_rfl))
 f243 := Tryz.func121.trans (congrArg some (by kernel_rfl))
 f246 := Tryz.func142.trans (congrArg some (by kernel_rfl))
 f283 := Tryz.func166.trans (congrArg some (by kernel_rfl))
 f284 := Tryz.func167.trans (congrArg some (by kernel_rfl))
 f285 := Tryz.func168.trans (congrArg some (by kernel_rfl))
 f286 := Tryz.func169.trans (congrArg some (by kernel_rfl))
 f317 := Tryz.func180.trans (congrArg some (by kernel_rfl))
 f318 := Tryz.func181.trans (congrArg some (by kernel_rfl))
 f319 := Tryz.func182.trans (congrArg some (by kernel_rfl))
 f320 := Tryz.func183.trans (congrArg some (by kernel_rfl))
 f337 := Tryz.func186.trans (congrArg some (by kernel_rfl))
 f338 := Tryz.func187.trans (congrArg some (by kernel_rfl))
 t0 := Tryz.underlying0
 a0 := Tryz.isAgg0
 z0 := Tryz.sizeOf0
 v0 := Tryz.zeroValue0
 t2 := Tryz.underlying2
 a2 := Tryz.isAgg2
 z2 := Tryz.sizeOf2
 v2 := Tryz.zeroValue2
 t3 := Tryz.underlying3
 a3 := Tryz.isAgg3
 z3 := Tryz.sizeOf3
 v3 := Tryz.zeroValue3
 t4 := Tryz.underlying4
 a4 := Tryz.isAgg4
 z4 := Tryz.sizeOf4
 v4 := Tryz.zeroValue4
 t5 := Tryz.underlying5
 a5 := Tryz.isAgg5
 z5 := Tryz.sizeOf5
 v5 := Tryz.zeroValue5
 t9 := Tryz.underlying9
 a9 := Tryz.isAgg9
 z9 := Tryz.sizeOf9
 v9 := Tryz.zeroValue9
 t20 := Tryz.underlying20
 a20 := Tryz.isAgg20
 z20 := Tryz.sizeOf20
 v20 := Tryz.zeroValue20
 t37 := Tryz.underlying139
 a37 := Tryz.isAgg139
 z37 := Tryz.sizeOf139
 v37 := Tryz.zeroValue139
 t46 := Tryz.underlying117
 a46 := Tryz.isAgg117
 z46 := Tryz.sizeOf117
 v46 := Tryz.zeroValue117
 t51 := Tryz.underlying135
 a51 := Tryz.isAgg135
 z51 := Tryz.sizeOf135
 v51 := Tryz.zeroValue135
 t53 := Tryz.underlying156
 a53 := Tryz.isAgg156
 z53 := Tryz.sizeOf156
 v53 := Tryz.zeroValue156
 t171 := Tryz.underlying172
 a171 := Tryz.isAgg172
 z171 := Tryz.sizeOf172
 v171 := Tryz.zeroValue172
 t173 := Tryz.underlying174
 a173 := Tryz.isAgg174
 z173 := Tryz.sizeOf174
 v173 := Tryz.zeroValue174
 t212 := Tryz.underlying191
 a212 := Tryz.isAgg191
 z212 := Tryz.sizeOf191
 v212 := Tryz.zeroValue191
 t213 := Tryz.underlying192
 a213 := Tryz.isAgg192
 z213 := Tryz.sizeOf192
 t232 := Tryz.underlying196
 a232 := Tryz.isAgg196
 z232 := Tryz.sizeOf196
 v232 := Tryz.zeroValue196
 t233 := Tryz.underlying197
 a233 := Tryz.isAgg197
 z233 := Tryz.sizeOf197
 v233 := Tryz.zeroValue197
 g17 := by kernel_rfl
 g18 := by kernel_rfl
 g19 := by kernel_rfl
 i0 := by kernel_rfl
 i2 := by kernel_rfl
 i3 := by kernel_rfl
 i4 := by kernel_rfl
 i5 := by kernel_rfl
 i9 := by kernel_rfl
 i20 := by kernel_rfl
 i37 := by kernel_rfl
 i46 := by kernel_rfl
 i51 := by kernel_rfl
 i53 := by kernel_rfl
 i171 := by kernel_rfl
 i173 := by kernel_rfl
 i212 := by kernel_rfl
 i232 := by kernel_rfl
 i233 := by kernel_rfl
 m17 := by kernel_rfl
 m18 := by kernel_rfl
 m19 := by kernel_rfl
theorem ss86 : ∀ y r, (itoaD 86).sem y = some r → FnOK Tryz.prog GB G (itoaD 86) y r :=
 itoa_ok (c := Tryz.f86.body.getD .skip) Tryz.func86 (by kernel_rfl) (by kernel_rfl) fun w m hg h0 h1 => (Any.strconv_Itoa str86 m h0 h1 w hg.tab).mono fun e w' h => ⟨h.1, by obtain ⟨k, os, rfl⟩ := h.2; exact below_gd w k os⟩
def sort89_ren : Go.Shelf.Ren := ⟨fun | 6 => 89 | 15 => 124 | 14 => 123 | 28 => 152 | 29 => 153 | 20 => 144 | 21 => 145 | 22 => 146 | 23 => 147 | 24 => 148 | 25 => 149 | 26 => 150 | 27 => 151 | 46 => 170 | 47 => 171 | 48 => 172 | 49 => 173 | 50 => 174 | 57 => 184 | n => n, fun | 22 => 23 | 24 => 93 | 25 => 94 | 3 => 3 | 39 => 117 | 0 => 0 | 53 => 135 | 55 => 156 | 4 => 4 | 46 => 149 | 45 => 148 | 50 => 37 | 5 => 5 | 9 => 9 | 66 => 176 | 70 => 180 | 76 => 193 | 77 => 72 | n => n, fun | n => n⟩
theorem sort89 : Go.Proofs.SlLaysF0.n6 Tryz.prog sort89_ren where
 mixed := by kernel_rfl
 f6 := ⟨Tryz.f89.name, by kernel_rfl, Tryz.func89.trans (congrArg some (by kernel_rfl))⟩
 f14 := ⟨Tryz.f123.name, by kernel_rfl, Tryz.func123.trans (congrArg some (by kernel_rfl))⟩
 f15 := Tryz.func124.trans (congrArg some (by kernel_rfl))
 f20 := ⟨Tryz.f144.name, by kernel_rfl, Tryz.func144.trans (congrArg some (by kernel_rfl))⟩
 f21 := ⟨Tryz.f145.name, by kernel_rfl, Tryz.func145.trans (congrArg some (by kernel_rfl))⟩
 f22 := ⟨Tryz.f146.name, by kernel_rfl, Tryz.func146.trans (congrArg some (by kernel_rfl))⟩
 f23 := ⟨Tryz.f147.name, by kernel_rfl, Tryz.func147.trans (congrArg some (by kernel_rfl))⟩
 f24 := ⟨Tryz.f148.name, by kernel_rfl, Tryz.func148.trans (congrArg some (by kernel_rfl))⟩
 f25 := ⟨Tryz.f149.name, by kernel_rfl, Tryz.func149.trans (congrArg some (by kernel_rfl))⟩
 f26 := ⟨Tryz.f150.name, by kernel_rfl, Tryz.func150.trans (congrArg some (by kernel_rfl))⟩
 f27 := ⟨Tryz.f151.name, by kernel_rfl, Tryz.func151.trans (congrArg some (by kernel_rfl))⟩
 f28 := Tryz.func152.trans (congrArg some (by kernel_rfl))
 f29 := Tryz.func153.trans (congrArg some (by kernel_rfl))
 f46 := ⟨Tryz.f170.name, by kernel_rfl, Tryz.func170.trans (congrArg some (by kernel_rfl))⟩
 f47 := Tryz.func171.trans (congrArg some (by kernel_rfl))
 f48 := Tryz.func172.trans (congrArg some (by kernel_rfl))
 f49 := ⟨Tryz.f173.name, by kernel_rfl, Tryz.func173.trans (congrArg some (by kernel_rfl))⟩
 f50 := ⟨Tryz.f174.name, by kernel_rfl, Tryz.func174.trans (congrArg some (by kernel_rfl))⟩
 f57 := ⟨Tryz.f184.name, by kernel_rfl, Tryz.func184.trans (congrArg some (by kernel_rfl))⟩
 t0 := Tryz.underlying0
 a0 := Tryz.isAgg0
 z0 := Tryz.sizeOf0
 v0 := Tryz.zeroValue0
 t3 := Tryz.underlying3
 a3 := Tryz.isAgg3
 z3 := Tryz.sizeOf3
 v3 := Tryz.zeroValue3
 t4 := Tryz.underlying4
 a4 := Tryz.isAgg4
 z4 := Tryz.sizeOf4
 v4 := Tryz.zeroValue4
 t5 := Tryz.underlying5
 a5 := Tryz.isAgg5
 z5 := Tryz.sizeOf5
 v5 := Tryz.zeroValue5
 t9 := Tryz.underlying9
 a9 := Tryz.isAgg9
 z9 := Tryz.sizeOf9
 v9 := Tryz.zeroValue9
 t22 := Tryz.underlying23
 a22 := Tryz.isAgg23
 z22 := Tryz.sizeOf23
 v22 := Tryz.zeroValue23
 t25 := Tryz.underlying94
 a25 := Tryz.isAgg94
 z25 := Tryz.sizeOf94
 v25 := Tryz.zeroValue94
 t39 := Tryz.underlying117
 a39 := Tryz.isAgg117
 z39 := Tryz.sizeOf117
 v39 := Tryz.zeroValue117
 t45 := Tryz.underlying148
 a45 := Tryz.isAgg148
 z45 := Tryz.sizeOf148
 v45 := Tryz.zeroValue148
 t46 := Tryz.underlying149
 a46 := Tryz.isAgg149
 z46 := Tryz.sizeOf149
 v46 := Tryz.zeroValue149
 t50 := Tryz.underlying37
 a50 := Tryz.isAgg37
 z50 := Tryz.sizeOf37
 v50 := Tryz.zeroValue37
 t53 := Tryz.underlying135
 a53 := Tryz.isAgg135
 z53 := Tryz.sizeOf135
 v53 := Tryz.zeroValue135
 t55 := Tryz.underlying156
 a55 := Tryz.isAgg156
 z55 := Tryz.sizeOf156
 v55 := Tryz.zeroValue156
 t66 := Tryz.underlying176
 a66 := Tryz.isAgg176
 z66 := Tryz.sizeOf176
 v66 := Tryz.zeroValue176
 t70 := Tryz.underlying180
 a70 := Tryz.isAgg180
 z70 := Tryz.sizeOf180
 v70 := Tryz.zeroValue180
 t76 := Tryz.underlying193
 a76 := Tryz.isAgg193
 z76 := Tryz.sizeOf193
 v76 := Tryz.zeroValue193
 t77 := Tryz.underlying72
 a77 := Tryz.isAgg72
 z77 := Tryz.sizeOf72
 v77 := Tryz.zeroValue72
theorem cmp72 (a0 a1 b0 b1 : Int) (h0 : small a0 = true) (h1 : small a1 = true) (h2 : small b0 = true) (h3 : small b1 = true) (W : World) : Calls Tryz.prog 72 #[.agg #[.int .i64 a0, .int .i64 a1], .agg #[.int .i64 b0, .int .i64 b1]] W fun e w' => e = .returned (.int .i64 (diffCmp a0 a1 b0 b1)) ∧ ∃ q os', w' = grow (W.drewN q) os' := by
 have g0 := small_ok h0
 have g1 := small_ok h1
 have g2 := small_ok h2
 have g3 := small_ok h3
 have w0 : IntKind.i64.wrap (a0 - b0) = a0 - b0 := Go.IntWalk.i64_in _ ⟨by omega, by omega⟩
 have w1 : IntKind.i64.wrap (a1 - b1) = a1 - b1 := Go.IntWalk.i64_in _ ⟨by omega, by omega⟩
 unfold diffCmp
 by_cases h : a0 = b0
 ·rw [decide_eq_true h]
  go_enter Tryz.func72, Tryz.ntmps72
  go_wp2
  go_ret
  exact ⟨by first | rfl | (rw [w1]; rfl) | (simp only [w1]; rfl), 0, _, by rw [alloc_eq_grow, alloc_eq_grow, grow_grow]; rfl⟩
 rw [decide_eq_false h]
 go_enter Tryz.func72, Tryz.ntmps72
 go_wp2
 go_ret
 exact ⟨by first | rfl | (rw [w0]; rfl) | (simp only [w0]; rfl), 0, _, by rw [alloc_eq_grow, alloc_eq_grow, grow_grow]; rfl⟩
def okf72 (p : Int × Int × Unit) : Bool := small p.1 && small p.2.1
def cf72 (x y : Int × Int × Unit) : Int := (fun x y => diffCmp x.1 x.2.1 y.1 y.2.1) x y
theorem swo72 : SWO (ltOf fun a b : {p : ((.st (.cons (.int .i64) (.cons (.int .i64) .nil))) : Ty).D // okf72 p = true} => cf72 a.1 b.1) := swo_diff (fun x : {p : ((.st (.cons (.int .i64) (.cons (.int .i64) .nil))) : Ty).D // okf72 p = true} => x.1.1) (fun x : {p : ((.st (.cons (.int .i64) (.cons (.int .i64) .nil))) : Ty).D // okf72 p = true} => x.1.2.1)
def zf72 : {p : ((.st (.cons (.int .i64) (.cons (.int .i64) .nil))) : Ty).D // okf72 p = true} := ⟨((.st (.cons (.int .i64) (.cons (.int .i64) .nil))) : Ty).z, by kernel_rfl⟩
theorem hs100001 (w : World) (g cap : Nat) (d : Array {p : ((.st (.cons (.int .i64) (.cons (.int .i64) .nil))) : Ty).D // okf72 p = true}) (hH : @HoldsK _ ⟨zf72⟩ (fun p : {p : ((.st (.cons (.int .i64) (.cons (.int .i64) .nil))) : Ty).D // okf72 p = true} => ((.st (.cons (.int .i64) (.cons (.int .i64) .nil))) : Ty).enc p.1) ((.st (.cons (.int .i64) (.cons (.int .i64) .nil))) : Ty).sz w g 0 d) (hb : g < w.heap.size) (hsz : d.size < 4611686018427387904) :
  Calls Tryz.prog 89 #[.slice (some ⟨g, 0, none⟩) d.size cap, .func (.func 72) #[] #[]] w fun e w' => e = .returned (.tuple #[]) ∧ ∃ n os, w' = @sortWorldK _ ⟨zf72⟩ (fun p : {p : ((.st (.cons (.int .i64) (.cons (.int .i64) .nil))) : Ty).D // okf72 p = true} => ((.st (.cons (.int .i64) (.cons (.int .i64) .nil))) : Ty).enc p.1) ((.st (.cons (.int .i64) (.cons (.int .i64) .nil))) : Ty).sz w g 0 n (@pdq _ ⟨zf72⟩ (ltOf fun a b => cf72 a.1 b.1) d 0 d.size (Lib.bitLen d.size) true true) os := by
 letI : Inhabited {p : ((.st (.cons (.int .i64) (.cons (.int .i64) .nil))) : Ty).D // okf72 p = true} := ⟨zf72⟩
 have he := enters_of Tryz.func72 (by kernel_rfl) rfl
 have hc : CmpLays Tryz.prog 72 #[] (fun p : {p : ((.st (.cons (.int .i64) (.cons (.int .i64) .nil))) : Ty).D // okf72 p = true} => ((.st (.cons (.int .i64) (.cons (.int .i64) .nil))) : Ty).enc p.1) ((.st (.cons (.int .i64) (.cons (.int .i64) .nil))) : Ty).sz (fun a b => cf72 a.1 b.1) g 0 d.size w := fun _ _ _ _ x y => cmp72 x.1.1 x.1.2.1 y.1.1 y.1.2.1 (Bool.and_eq_true_iff.1 x.2).1 (Bool.and_eq_true_iff.1 x.2).2 (Bool.and_eq_true_iff.1 y.2).1 (Bool.and_eq_true_iff.1 y.2).2 _
 exact AnyQ.slices_SortFunc_eq sort89 ((.st (.cons (.int .i64) (.cons (.int .i64) .nil))) : Ty).sz Tryz.isAgg93 Tryz.sizeOf93 (fun p : {p : ((.st (.cons (.int .i64) (.cons (.int .i64) .nil))) : Ty).D // okf72 p = true} => ((.st (.cons (.int .i64) (.cons (.int .i64) .nil))) : Ty).enc p.1) (fun _ => Ty.enc_len) (fun _ => Ty.enc_one) (fun a b => cf72 a.1 b.1) swo72 72 #[] g 0 cap d w he hc hH hb hsz
theorem hn100001 (w : World) : Calls Tryz.prog 89 #[.slice none 0 0, .func (.func 72) #[] #[]] w fun e w' => e = .returned (.tuple #[]) ∧ w' = w :=
 AnyF.slices_SortFunc_none sort89 none 0 (.func (.func 72) #[] #[]) w
theorem ss100001 : ∀ y r, (sortGD 89 93 (.st (.cons (.int .i64) (.cons (.int .i64) .nil))) 72 (sortB okf72 zf72 cf72)).sem y = some r → FnOK Tryz.prog GB G (sortGD 89 93 (.st (.cons (.int .i64) (.cons (.int .i64) .nil))) 72 (sortB okf72 zf72 cf72)) y r :=
 sortG_ok (c := Tryz.f89.body.getD .skip) Tryz.func89 (by kernel_rfl) (by kernel_rfl) rfl (fun _ _ h => (sortB_perm swo72 h).length_eq) (sortB_calls swo72 hs100001) hn100001
def sort91_ren : Go.Shelf.Ren := ⟨fun | 5 => 91 | 8 => 124 | 7 => 125 | 19 => 152 | 20 => 153 | 10 => 154 | 11 => 155 | 12 => 156 | 13 => 157 | 14 => 158 | 15 => 159 | 16 => 100 | 17 => 160 | 18 => 161 | 30 => 175 | 31 => 171 | 32 => 172 | 33 => 176 | 34 => 177 | 35 => 130 | 40 => 185 | n => n, fun | 23 => 22 | 25 => 3 | 3 => 3 | 32 => 117 | 22 => 22 | 0 => 0 | 44 => 135 | 46 => 156 | 4 => 4 | 36 => 149 | 35 => 148 | 41 => 37 | 5 => 5 | 9 => 9 | 53 => 176 | 57 => 180 | 63 => 193 | 64 => 72 | n => n, fun | n => n⟩
theorem sort91 : Go.Proofs.SlLaysM.n5 Tryz.prog sort91_ren where
 mixed := by kernel_rfl
 f5 := ⟨Tryz.f91.name, by kernel_rfl, Tryz.func91.trans (congrArg some (by kernel_rfl))⟩
 f7 := ⟨Tryz.f125.name, by kernel_rfl, Tryz.func125.trans (congrArg some (by kernel_rfl))⟩
 f8 := Tryz.func124.trans (congrArg some (by kernel_rfl))
 f10 := ⟨Tryz.f154.name, by kernel_rfl, Tryz.func154.trans (congrArg some (by kernel_rfl))⟩
 f11 := ⟨Tryz.f155.name, by kernel_rfl, Tryz.func155.trans (congrArg some (by kernel_rfl))⟩
 f12 := ⟨Tryz.f156.name, by kernel_rfl, Tryz.func156.trans (congrArg some (by kernel_rfl))⟩
 f13 := ⟨Tryz.f157.name, by kernel_rfl, Tryz.func157.trans (congrArg some (by kernel_rfl))⟩
 f14 := ⟨Tryz.f158.name, by kernel_rfl, Tryz.func158.trans (congrArg some (by kernel_rfl))⟩
 f15 := ⟨Tryz.f159.name, by kernel_rfl, Tryz.func159.trans (congrArg some (by kernel_rfl))⟩
 f16 := ⟨Tryz.f100.name, by kernel_rfl, Tryz.func100.trans (congrArg some (by kernel_rfl))⟩
 f17 := ⟨Tryz.f160.name, by kernel_rfl, Tryz.func160.trans (congrArg some (by kernel_rfl))⟩
 f18 := ⟨Tryz.f161.name, by kernel_rfl, Tryz.func161.trans (congrArg some (by kernel_rfl))⟩
 f19 := Tryz.func152.trans (congrArg some (by kernel_rfl))
 f20 := Tryz.func153.trans (congrArg some (by kernel_rfl))
 f30 := ⟨Tryz.f175.name, by kernel_rfl, Tryz.func175.trans (congrArg some (by kernel_rfl))⟩
 f31 := Tryz.func171.trans (congrArg some (by kernel_rfl))
 f32 := Tryz.func172.trans (congrArg some (by kernel_rfl))
 f33 := ⟨Tryz.f176.name, by kernel_rfl, Tryz.func176.trans (congrArg some (by kernel_rfl))⟩
 f34 := ⟨Tryz.f177.name, by kernel_rfl, Tryz.func177.trans (congrArg some (by kernel_rfl))⟩
 f35 := ⟨Tryz.f130.name, by kernel_rfl, Tryz.func130.trans (congrArg some (by kernel_rfl))⟩
 f40 := ⟨Tryz.f185.name, by kernel_rfl, Tryz.func185.trans (congrArg some (by kernel_rfl))⟩
 t0 := Tryz.underlying0
 a0 := Tryz.isAgg0
 z0 := Tryz.sizeOf0
 v0 := Tryz.zeroValue0
 t3 := Tryz.underlying3
 a3 := Tryz.isAgg3
 z3 := Tryz.sizeOf3
 v3 := Tryz.zeroValue3
 t4 := Tryz.underlying4
 a4 := Tryz.isAgg4
 z4 := Tryz.sizeOf4
 v4 := Tryz.zeroValue4
 t5 := Tryz.underlying5
 a5 := Tryz.isAgg5
 z5 := Tryz.sizeOf5
 v5 := Tryz.zeroValue5
 t9 := Tryz.underlying9
 a9 := Tryz.isAgg9
 z9 := Tryz.sizeOf9
 v9 := Tryz.zeroValue9
 t22 := Tryz.underlying22
 a22 := Tryz.isAgg22
 z22 := Tryz.sizeOf22
 v22 := Tryz.zeroValue22
 t23 := Tryz.underlying22
 a23 := Tryz.isAgg22
 z23 := Tryz.sizeOf22
 v23 := Tryz.zeroValue22
 t25 := Tryz.underlying3
 a25 := Tryz.isAgg3
 z25 := Tryz.sizeOf3
 v25 := Tryz.zeroValue3
 t32 := Tryz.underlying117
 a32 := Tryz.isAgg117
 z32 := Tryz.sizeOf117
 v32 := Tryz.zeroValue117
 t35 := Tryz.underlying148
 a35 := Tryz.isAgg148
 z35 := Tryz.sizeOf148
 v35 := Tryz.zeroValue148
 t36 := Tryz.underlying149
 a36 := Tryz.isAgg149
 z36 := Tryz.sizeOf149
 v36 := Tryz.zeroValue149
 t41 := Tryz.underlying37
 a41 := Tryz.isAgg37
 z41 := Tryz.sizeOf37
 v41 := Tryz.zeroValue37
 t44 := Tryz.underlying135
 a44 := Tryz.isAgg135
 z44 := Tryz.sizeOf135
 v44 := Tryz.zeroValue135
 t46 := Tryz.underlying156
 a46 := Tryz.isAgg156
 z46 := Tryz.sizeOf156
 v46 := Tryz.zeroValue156
 t53 := Tryz.underlying176
 a53 := Tryz.isAgg176
 z53 := Tryz.sizeOf176
 v53 := Tryz.zeroValue176
 t57 := Tryz.underlying180
 a57 := Tryz.isAgg180
 z57 := Tryz.sizeOf180
 v57 := Tryz.zeroValue180
 t63 := Tryz.underlying193
 a63 := Tryz.isAgg193
 z63 := Tryz.sizeOf193
 v63 := Tryz.zeroValue193
 t64 := Tryz.underlying72
 a64 := Tryz.isAgg72
 z64 := Tryz.sizeOf72
 v64 := Tryz.zeroValue72
theorem ss91 : ∀ y r, (sortIntD 91 3).sem y = some r → FnOK Tryz.prog GB G (sortIntD 91 3) y r :=
 sortInt_ok (c := Tryz.f91.body.getD .skip) Tryz.func91 (by kernel_rfl) (by kernel_rfl)
  (fun w g cap zs hH hb hsz => AnyM.slices_Sort_int sort91 g 0 cap zs w hH hb hsz)
  (fun w => AnyM.slices_Sort_int_none sort91 none 0 w)
end Go.GV.YtaeejbmbkejjiaaGreatDoor

/-
Part of the words that the laws of this seat are proved with: no statement of its own, no conditions.
-/
import Derived.Test.YtkkfgajlnpcpcaaGreatDoorZ6
import Derived.Shelf.Strconv.AtoiAll
import Derived.Shelf.Strconv.Itoa3
import Derived.Shelf.Strings.OnBuilder
import Derived.Shelf.Strings.Repeat
import Derived.Test.YtkkfgajlnpcpcaaGreatDoorProg
import Derived.KernelRfl
import Derived.Shelf.SlSortCmp.NoneTotal
import Derived.Shelf.SortM.Plain
import Derived.Shelf.SortM.SortNone
set_option linter.unusedVariables false
set_option linter.unusedSimpArgs false
namespace Go.GV.YtkkfgajlnpcpcaaGreatDoor
open Go.Proofs Go.Sort
set_option maxRecDepth 1000000
abbrev GB : Nat → Prop := Its 1 4 5
abbrev G : World → Prop := Facts Tryz.prog 4 5
theorem gtab : Tryz.prog.globalNamed "internal/strconv.uint64pow10" = some 1 := by kernel_rfl
theorem stab : Stable GB G := facts_stable gtab
def str41_ren : Go.Shelf.Ren := ⟨fun | 171 => 41 | 243 => 71 | 246 => 103 | 283 => 129 | 284 => 130 | 285 => 131 | 286 => 132 | 129 => 153 | 317 => 168 | 318 => 169 | 319 => 170 | 320 => 171 | 337 => 185 | 338 => 186 | n => n, fun | 3 => 3 | 9 => 9 | 2 => 2 | 4 => 4 | 171 => 121 | 0 => 0 | 53 => 122 | 37 => 54 | 5 => 5 | 173 => 125 | 212 => 158 | 51 => 127 | 20 => 20 | 213 => 159 | 46 => 110 | 232 => 185 | 233 => 186 | n => n, fun | 17 => 1 | 18 => 6 | 19 => 7 | n => n⟩
theorem str41 : Go.Proofs.LaysM.n171 Tryz.prog str41_ren where
 mixed := by kernel_rfl
 f129 := Tryz.func153.trans (congrArg some (by kernel_rfl))
 f171 := Tryz.func41.trans (congrArg some (by kernel_rfl))
 f243 := Tryz.func71.trans (congrArg some (by kernel_rfl))
 f246 := Tryz.func103.trans (congrArg some (by kernel_rfl))
 f283 := Tryz.func129.trans (congrArg some (by kernel_rfl))
 f284 := Tryz.func130.trans (congrArg some (by kernel_rfl))
 f285 := Tryz.func131.trans (congrArg some (by kernel_rfl))
 f286 := Tryz.func132.trans (congrArg some (by kernel_rfl))
 f317 := Tryz.func168.trans (congrArg some (by kernel_rfl))
 f318 := Tryz.func169.trans (congrArg some (by kernel_rfl))
 f319 := Tryz.func170.trans (congrArg some (by kernel_rfl))
 f320 := Tryz.func171.trans (congrArg some (by kernel_rfl))
 f337 := Tryz.func185.trans (congrArg some (by kernel_rfl))
 f338 := Tryz.func186.trans (congrArg some (by kernel_rfl))
 t0 := Tryz.underlying0
 a0 := Tryz.isAgg0
 z0 := Tryz.sizeOf0
 v0 := Tryz.zeroValue0
 t2 := Tryz.underlying2
 a2 := Tryz.isAgg2
 z2 := Tryz.sizeOf2
 v2 := Tryz.zeroValue2
 t3 := Tryz.underlying3
 a3 := Tryz.isAgg3
 z3 := Tryz.sizeOf3
 v3 := Tryz.zeroValue3
 t4 := Tryz.underlying4
 a4 := Tryz.isAgg4
 z4 := Tryz.sizeOf4
 v4 := Tryz.zeroValue4
 t5 := Tryz.underlying5
 a5 := Tryz.isAgg5
 z5 := Tryz.sizeOf5
 v5 := Tryz.zeroValue5
 t9 := Tryz.underlying9
 a9 := Tryz.isAgg9
 z9 := Tryz.sizeOf9
 v9 := Tryz.zeroValue9
 t20 := Tryz.underlying20
 a20 := Tryz.isAgg20
 z20 := Tryz.sizeOf20
 v20 := Tryz.zeroValue20
 t37 := Tryz.underlying54
 a37 := Tryz.isAgg54
 z37 := Tryz.sizeOf54
 v37 := Tryz.zeroValue54
 t46 := Tryz.underlying110
 a46 := Tryz.isAgg110
 z46 := Tryz.sizeOf110
 v46 := Tryz.zeroValue110
 t51 := Tryz.underlying127
 a51 := Tryz.isAgg127
 z51 := Tryz.sizeOf127
 v51 := Tryz.zeroValue127
 t53 := Tryz.underlying122
 a53 := Tryz.isAgg122
 z53 := Tryz.sizeOf122
 v53 := Tryz.zeroValue122
 t171 := Tryz.underlying121
 a171 := Tryz.isAgg121
 z171 := Tryz.sizeOf121
 v171 := Tryz.zeroValue121
 t173 := Tryz.underlying125
 a173 := Tryz.isAgg125
 z173 := Tryz.sizeOf125
 v173 := Tryz.zeroValue125
 t212 := Tryz.underlying158
 a212 := Tryz.isAgg158
 z212 := Tryz.sizeOf158
 v212 := Tryz.zeroValue158
 t213 := Tryz.underlying159
 a213 := Tryz.isAgg159
 z213 := Tryz.sizeOf159
 t232 := Tryz.underlying185
 a232 := Tryz.isAgg185
 z232 := Tryz.sizeOf185
 v232 := Tryz.zeroValue185
 t233 := Tryz.underlying186
 a233 := Tryz.isAgg186
 z233 := Tryz.sizeOf186
 v233 := Tryz.zeroValue186
 g17 := by kernel_rfl
 g18 := by kernel_rfl
 g19 := by kernel_rfl
 i0 := by kernel_rfl
 i2 := by kernel_rfl
 i3 := by kernel_rfl
 i4 := by kernel_rfl
 i5 := by kernel_rfl
 i9 := by kernel_rfl
 i20 := by kernel_rfl
 i37 := by kernel_rfl
 i46 := by kernel_rfl
 i51 := by kernel_rfl
 i53 := by kernel_rfl
 i171 := by kernel_rfl
 i173 := by kernel_rfl
 i212 := by kernel_rfl
 i232 := by kernel_rfl
 i233 := by kernel_rfl
 m17 := by kernel_rfl
 m18 := by kernel_rfl
 m19 := by kernel_rfl
theorem ss41 : ∀ y r, (itoaD 41).sem y = some r → FnOK Tryz.prog GB G (itoaD 41) y r :=
 itoa_ok (c := Tryz.f41.body.getD .skip) Tryz.func41 (by kernel_rfl) (by kernel_rfl) fun w m hg h0 h1 => (Any.strconv_Itoa str41 m h0 h1 w hg.tab).mono fun e w' h => ⟨h.1, by obtain ⟨k, os, rfl⟩ := h.2; exact below_gd w k os⟩
def str83_ren : Go.Shelf.Ren := ⟨fun | 172 => 83 | 244 => 115 | 245 => 116 | 247 => 137 | 279 => 138 | 280 => 139 | 281 => 140 | 282 => 141 | 287 => 172 | 316 => 173 | 171 => 41 | 205 => 174 | 321 => 187 | 322 => 188 | 243 => 71 | 246 => 103 | 283 => 129 | 284 => 130 | 285 => 131 | 286 => 132 | 129 => 153 | 317 => 168 | 318 => 169 | 319 => 170 | 320 => 171 | 337 => 185 | 338 => 186 | n => n, fun | 9 => 9 | 3 => 3 | 75 => 85 | 76 => 86 | 4 => 4 | 5 => 5 | 167 => 130 | 37 => 54 | 0 => 0 | 85 => 131 | 2 => 2 | 168 => 133 | 53 => 122 | 175 => 164 | 46 => 110 | 210 => 168 | 127 => 116 | 145 => 181 | 143 => 179 | 21 => 21 | 171 => 121 | 173 => 125 | 212 => 158 | 51 => 127 | 20 => 20 | 213 => 159 | 232 => 185 | 233 => 186 | 80 => 101 | n => n, fun | 15 => 4 | 16 => 5 | 17 => 1 | 18 => 6 | 19 => 7 | n => n⟩
theorem str83 : Go.Proofs.LaysC.n172 Tryz.prog str83_ren where
 mixed := by kernel_rfl
 f129 := Tryz.func153.trans (congrArg some (by kernel_rfl))
 f171 := Tryz.func41.trans (congrArg some (by kernel_rfl))
 f172 := Tryz.func83.trans (congrArg some (by kernel_rfl))
 f205 := Tryz.func174.trans (congrArg some (by kernel_rfl))
 f243 := Tryz.func71.trans (congrArg some (by kernel_rfl))
 f244 := Tryz.func115.trans (congrArg some (by kernel_rfl))
 f245 := Tryz.func116.trans (congrArg some (by kernel_rfl))
 f246 := Tryz.func103.trans (congrArg some (by kernel_rfl))
 f247 := Tryz.func137.trans (congrArg some (by kernel_rfl))
 f279 := Tryz.func138.trans (congrArg some (by kernel_rfl))
 f280 := Tryz.func139.trans (congrArg some (by kernel_rfl))
 f281 := Tryz.func140.trans (congrArg some (by kernel_rfl))
 f282 := Tryz.func141.trans (congrArg some (by kernel_rfl))
 f283 := Tryz.func129.trans (congrArg some (by kernel_rfl))
 f284 := Tryz.func130.trans (congrArg some (by kernel_rfl))
 f285 := Tryz.func131.trans (congrArg some (by kernel_rfl))
 f286 := Tryz.func132.trans (congrArg some (by kernel_rfl))
 f287 := Tryz.func172.trans (congrArg some (by kernel_rfl))
 f316 := Tryz.func173.trans (congrArg some (by kernel_rfl))
 f317 := Tryz.func168.trans (congrArg some (by kernel_rfl))
 f318 := Tryz.func169.trans (congrArg some (by kernel_rfl))
 f319 := Tryz.func170.trans (congrArg some (by kernel_rfl))
 f320 := Tryz.func171.trans (congrArg some (by kernel_rfl))
 f321 := Tryz.func187.trans (congrArg some (by kernel_rfl))
 f322 := Tryz.func188.trans (congrArg some (by kernel_rfl))
 f337 := Tryz.func185.trans (congrArg some (by kernel_rfl))
 f338 := Tryz.func186.trans (congrArg some (by kernel_rfl))
 t0 := Tryz.underlying0
 a0 := Tryz.isAgg0
 z0 := Tryz.sizeOf0
 v0 := Tryz.zeroValue0
 t2 := Tryz.underlying2
 a2 := Tryz.isAgg2
 z2 := Tryz.sizeOf2
 v2 := Tryz.zeroValue2
 t3 := Tryz.underlying3
 a3 := Tryz.isAgg3
 z3 := Tryz.sizeOf3
 v3 := Tryz.zeroValue3
 t4 := Tryz.underlying4
 a4 := Tryz.isAgg4
 z4 := Tryz.sizeOf4
 v4 := Tryz.zeroValue4
 t5 := Tryz.underlying5
 a5 := Tryz.isAgg5
 z5 := Tryz.sizeOf5
 v5 := Tryz.zeroValue5
 t9 := Tryz.underlying9
 a9 := Tryz.isAgg9
 z9 := Tryz.sizeOf9
 v9 := Tryz.zeroValue9
 t20 := Tryz.underlying20
 a20 := Tryz.isAgg20
 z20 := Tryz.sizeOf20
 v20 := Tryz.zeroValue20
 t21 := Tryz.underlying21
 a21 := Tryz.isAgg21
 z21 := Tryz.sizeOf21
 v21 := Tryz.zeroValue21
 t37 := Tryz.underlying54
 a37 := Tryz.isAgg54
 z37 := Tryz.sizeOf54
 v37 := Tryz.zeroValue54
 t46 := Tryz.underlying110
 a46 := Tryz.isAgg110
 z46 := Tryz.sizeOf110
 v46 := Tryz.zeroValue110
 t51 := Tryz.underlying127
 a51 := Tryz.isAgg127
 z51 := Tryz.sizeOf127
 v51 := Tryz.zeroValue127
 t53 := Tryz.underlying122
 a53 := Tryz.isAgg122
 z53 := Tryz.sizeOf122
 v53 := Tryz.zeroValue122
 t75 := Tryz.underlying85
 a75 := Tryz.isAgg85
 z75 := Tryz.sizeOf85
 v75 := Tryz.zeroValue85
 t76 := Tryz.underlying86
 a76 := Tryz.isAgg86
 z76 := Tryz.sizeOf86
 v76 := Tryz.zeroValue86
 t85 := Tryz.underlying131
 a85 := Tryz.isAgg131
 z85 := Tryz.sizeOf131
 v85 := Tryz.zeroValue131
 t127 := Tryz.underlying116
 a127 := Tryz.isAgg116
 z127 := Tryz.sizeOf116
 v127 := Tryz.zeroValue116
 t143 := Tryz.underlying179
 a143 := Tryz.isAgg179
 z143 := Tryz.sizeOf179
 v143 := Tryz.zeroValue179
 t145 := Tryz.underlying181
 a145 := Tryz.isAgg181
 z145 := Tryz.sizeOf181
 v145 := Tryz.zeroValue181
 t167 := Tryz.underlying130
 a167 := Tryz.isAgg130
 z167 := Tryz.sizeOf130
 v167 := Tryz.zeroValue130
 t168 := Tryz.underlying133
 a168 := Tryz.isAgg133
 z168 := Tryz.sizeOf133
 v168 := Tryz.zeroValue133
 t171 := Tryz.underlying121
 a171 := Tryz.isAgg121
 z171 := Tryz.sizeOf121
 v171 := Tryz.zeroValue121
 t173 := Tryz.underlying125
 a173 := Tryz.isAgg125
 z173 := Tryz.sizeOf125
 v173 := Tryz.zeroValue125
 t175 := Tryz.underlying164
 a175 := Tryz.isAgg164
 z175 := Tryz.sizeOf164
 v175 := Tryz.zeroValue164
 t210 := Tryz.underlying168
 a210 := Tryz.isAgg168
 z210 := Tryz.sizeOf168
 v210 := Tryz.zeroValue168
 t212 := Tryz.underlying158
 a212 := Tryz.isAgg158
 z212 := Tryz.sizeOf158
 v212 := Tryz.zeroValue158
 t213 := Tryz.underlying159
 a213 := Tryz.isAgg159
 z213 := Tryz.sizeOf159
 t232 := Tryz.underlying185
 a232 := Tryz.isAgg185
 z232 := Tryz.sizeOf185
 v232 := Tryz.zeroValue185
 t233 := Tryz.underlying186
 a233 := Tryz.isAgg186
 z233 := Tryz.sizeOf186
 v233 := Tryz.zeroValue186
 g15 := by kernel_rfl
 g16 := by kernel_rfl
 g17 := by kernel_rfl
 g18 := by kernel_rfl
 g19 := by kernel_rfl
 t80 := Tryz.underlying101
 a80 := Tryz.isAgg101
 z80 := Tryz.sizeOf101
 v80 := Tryz.zeroValue101
 i0 := by kernel_rfl
 i2 := by kernel_rfl
 i3 := by kernel_rfl
 i4 := by kernel_rfl
 i5 := by kernel_rfl
 i9 := by kernel_rfl
 i20 := by kernel_rfl
 i21 := by kernel_rfl
 i37 := by kernel_rfl
 i46 := by kernel_rfl
 i51 := by kernel_rfl
 i53 := by kernel_rfl
 i75 := by kernel_rfl
 i76 := by kernel_rfl
 i80 := by kernel_rfl
 i85 := by kernel_rfl
 i127 := by kernel_rfl
 i143 := by kernel_rfl
 i145 := by kernel_rfl
 i167 := by kernel_rfl
 i168 := by kernel_rfl
 i171 := by kernel_rfl
 i173 := by kernel_rfl
 i175 := by kernel_rfl
 i210 := by kernel_rfl
 i212 := by kernel_rfl
 i232 := by kernel_rfl
 i233 := by kernel_rfl
 m15 := by kernel_rfl
 m16 := by kernel_rfl
 m17 := by kernel_rfl
 m18 := by kernel_rfl
 m19 := by kernel_rfl
 c0 := by kernel_rfl
 c2 := by kernel_rfl
 c3 := by kernel_rfl
 c4 := by kernel_rfl
 c5 := by kernel_rfl
 c9 := by kernel_rfl
 c20 := by kernel_rfl
 c21 := by kernel_rfl
 c37 := by kernel_rfl
 c46 := by kernel_rfl
 c51 := by kernel_rfl
 c53 := by kernel_rfl
 c75 := by kernel_rfl
 c76 := by kernel_rfl
 c80 := by kernel_rfl
 c85 := by kernel_rfl
 c127 := by kernel_rfl
 c143 := by kernel_rfl
 c145 := by kernel_rfl
 c167 := by kernel_rfl
 c168 := by kernel_rfl
 c171 := by kernel_rfl
 c173 := by kernel_rfl
 c175 := by kernel_rfl
 c210 := by kernel_rfl
 c212 := by kernel_rfl
 c213 := by kernel_rfl
 c232 := by kernel_rfl
 c233 := by kernel_rfl
theorem ss83 : ∀ y r, (atoiD 83).sem y = some r → FnOK Tryz.prog GB G (atoiD 83) y r :=
 atoi_ok (c := Tryz.f83.body.getD .skip) Tryz.func83 (by kernel_rfl) (by kernel_rfl)
  (fun w s v hm h => (Any.strconv_Atoi_ok str83 s hm v h w).mono fun e w' q => ⟨q.1, by
   rcases q.2 with rfl | ⟨t, rfl⟩
   ·exact Go.RowKit.Below.refl _ _
   ·exact Lib.bytesWorld_below _ _ _⟩)
  (fun w s hg hl n1 n2 => by
   obtain ⟨ev, h1, h2⟩ := hg.syn
   refine (Any.strconv_Atoi_syntax str83 s hl ?_ ev w h1 h2).mono fun e w' q => by obtain ⟨N, rfl, _, _, hb⟩ := q; exact ⟨⟨_, _, rfl⟩, hb⟩
   cases hA : Lib.atoiAll s.data.toList with
   | ok v => exact absurd hA (n1 v)
   | range => exact absurd hA n2
   | _ => rfl)
  (fun w s hg hl h => by
   obtain ⟨ev, h1, h2⟩ := hg.rng
   exact (Any.strconv_Atoi_range str83 s hl h ev w h1 h2).mono fun e w' q => by obtain ⟨N, rfl, _, _, hb⟩ := q; exact ⟨⟨_, _, rfl⟩, hb⟩)
def str102_ren : Go.Shelf.Ren := ⟨fun | 105 => 102 | 212 => 126 | 99 => 127 | 165 => 96 | 166 => 97 | 170 => 128 | 169 => 98 | 263 => 166 | 264 => 167 | 206 => 142 | 240 => 123 | 241 => 124 | 276 => 164 | 277 => 165 | n => n, fun | 9 => 9 | 3 => 3 | 4 => 4 | 20 => 20 | 0 => 0 | 46 => 110 | 109 => 117 | 5 => 5 | 72 => 99 | 76 => 86 | 51 => 127 | 146 => 128 | 53 => 122 | 148 => 155 | 70 => 97 | 37 => 54 | 75 => 85 | 127 => 116 | 164 => 151 | 80 => 101 | n => n, fun | n => n⟩
theorem str102 : Go.Proofs.Lays.n105 Tryz.prog str102_ren where
 mixed := by kernel_rfl
 f99 := Tryz.func127.trans (congrArg some (by kernel_rfl))
 f105 := Tryz.func102.trans (congrArg some (by kernel_rfl))
 f165 := Tryz.func96.trans (congrArg some (by kernel_rfl))
 f166 := Tryz.func97.trans (congrArg some (by kernel_rfl))
 f169 := Tryz.func98.trans (congrArg some (by kernel_rfl))
 f170 := Tryz.func128.trans (congrArg some (by kernel_rfl))
 f206 := Tryz.func142.trans (congrArg some (by kernel_rfl))
 f212 := Tryz.func126.trans (congrArg some (by kernel_rfl))
 f240 := Tryz.func123.trans (congrArg some (by kernel_rfl))
 f241 := Tryz.func124.trans (congrArg some (by kernel_rfl))
 f263 := Tryz.func166.trans (congrArg some (by kernel_rfl))
 f264 := Tryz.func167.trans (congrArg some (by kernel_rfl))
 f276 := Tryz.func164.trans (congrArg some (by kernel_rfl))
 f277 := Tryz.func165.trans (congrArg some (by kernel_rfl))
 t0 := Tryz.underlying0
 a0 := Tryz.isAgg0
 z0 := Tryz.sizeOf0
 v0 := Tryz.zeroValue0
 t3 := Tryz.underlying3
 a3 := Tryz.isAgg3
 z3 := Tryz.sizeOf3
 v3 := Tryz.zeroValue3
 t4 := Tryz.underlying4
 a4 := Tryz.isAgg4
 z4 := Tryz.sizeOf4
 v4 := Tryz.zeroValue4
 t5 := Tryz.underlying5
 a5 := Tryz.isAgg5
 z5 := Tryz.sizeOf5
 v5 := Tryz.zeroValue5
 t9 := Tryz.underlying9
 a9 := Tryz.isAgg9
 z9 := Tryz.sizeOf9
 v9 := Tryz.zeroValue9
 t20 := Tryz.underlying20
 a20 := Tryz.isAgg20
 z20 := Tryz.sizeOf20
 v20 := Tryz.zeroValue20
 t37 := Tryz.underlying54
 a37 := Tryz.isAgg54
 z37 := Tryz.sizeOf54
 v37 := Tryz.zeroValue54
 t46 := Tryz.underlying110
 a46 := Tryz.isAgg110
 z46 := Tryz.sizeOf110
 v46 := Tryz.zeroValue110
 t51 := Tryz.underlying127
 a51 := Tryz.isAgg127
 z51 := Tryz.sizeOf127
 v51 := Tryz.zeroValue127
 t53 := Tryz.underlying122
 a53 := Tryz.isAgg122
 z53 := Tryz.sizeOf122
 v53 := Tryz.zeroValue122
 t70 := Tryz.underlying97
 a70 := Tryz.isAgg97
 z70 := Tryz.sizeOf97
 v70 := Tryz.zeroValue97
 t72 := Tryz.underlying99
 a72 := Tryz.isAgg99
 z72 := Tryz.sizeOf99
 v72 := Tryz.zeroValue99
 t75 := Tryz.underlying85
 a75 := Tryz.isAgg85
 z75 := Tryz.sizeOf85
 v75 := Tryz.zeroValue85
 t76 := Tryz.underlying86
 a76 := Tryz.isAgg86
 z76 := Tryz.sizeOf86
 v76 := Tryz.zeroValue86
 t109 := Tryz.underlying117
 a109 := Tryz.isAgg117
 z109 := Tryz.sizeOf117
 v109 := Tryz.zeroValue117
 t127 := Tryz.underlying116
 a127 := Tryz.isAgg116
 z127 := Tryz.sizeOf116
 v127 := Tryz.zeroValue116
 t146 := Tryz.underlying128
 a146 := Tryz.isAgg128
 z146 := Tryz.sizeOf128
 v146 := Tryz.zeroValue128
 t148 := Tryz.underlying155
 a148 := Tryz.isAgg155
 z148 := Tryz.sizeOf155
 v148 := Tryz.zeroValue155
 t164 := Tryz.underlying151
 a164 := Tryz.isAgg151
 z164 := Tryz.sizeOf151
 v164 := Tryz.zeroValue151
theorem str102X : Builder.Extra Tryz.prog str102_ren where
 sizeBuilder := by kernel_rfl
 liesBuilder := by kernel_rfl
 t5 := Tryz.underlying5
 a5 := Tryz.isAgg5
 z5 := Tryz.sizeOf5
 v5 := Tryz.zeroValue5
 infoByte := by kernel_rfl
 cellsByte := by kernel_rfl
 sizeByte := by kernel_rfl
 neB5 := by decide
theorem ss102 : ∀ y r, (repeatD 102).sem y = some r → FnOK Tryz.prog GB G (repeatD 102) y r :=
 repeat_ok (c := Tryz.f102.body.getD .skip) Tryz.func102 (by kernel_rfl) (by kernel_rfl) fun w s m hm h0 h1 => by
  by_cases c2 : 2 ≤ m
  ·exact Any.strings_Repeat_main str102 str102X s m w c2 (by omega) (Nat.le_trans (Nat.mul_le_mul h1 hm) (by decide)) h0
  ·have : m = 0 ∨ m = 1 := by omega
   rcases this with rfl | rfl
   ·exact (Any.strings_Repeat_zero str102 s w).mono fun e w' q => ⟨q.1, q.2 ▸ Go.RowKit.Below.refl _ _⟩
   ·refine (Any.strings_Repeat_one str102 s w).mono fun e w' q => ⟨?_, q.2 ▸ Go.RowKit.Below.refl _ _⟩
    rw [q.1, Lib.repeatL_one]
def str67_ren : Go.Shelf.Ren := ⟨fun | 156 => 67 | 165 => 96 | 166 => 97 | 169 => 98 | 240 => 123 | 241 => 124 | 276 => 164 | 277 => 165 | n => n, fun | 31 => 36 | 9 => 9 | 3 => 3 | 4 => 4 | 0 => 0 | 20 => 20 | 72 => 99 | 76 => 86 | 70 => 97 | 37 => 54 | 75 => 85 | 127 => 116 | 164 => 151 | 5 => 5 | 80 => 101 | n => n, fun | n => n⟩
theorem str67 : Go.Proofs.Lays.n156 Tryz.prog str67_ren where
 mixed := by kernel_rfl
 f156 := Tryz.func67.trans (congrArg some (by kernel_rfl))
 f165 := Tryz.func96.trans (congrArg some (by kernel_rfl))
 f166 := Tryz.func97.trans (congrArg some (by kernel_rfl))
 f169 := Tryz.func98.trans (congrArg some (by kernel_rfl))
 f240 := Tryz.func123.trans (congrArg some (by kernel_rfl))
 f241 := Tryz.func124.trans (congrArg some (by kernel_rfl))
 f276 := Tryz.func164.trans (congrArg some (by kernel_rfl))
 f277 := Tryz.func165.trans (congrArg some (by kernel_rfl))
 t0 := Tryz.underlying0
 a0 := Tryz.isAgg0
 z0 := Tryz.sizeOf0
 v0 := Tryz.zeroValue0
 t3 := Tryz.underlying3
 a3 := Tryz.isAgg3
 z3 := Tryz.sizeOf3
 v3 := Tryz.zeroValue3
 t4 := Tryz.underlying4
 a4 := Tryz.isAgg4
 z4 := Tryz.sizeOf4
 v4 := Tryz.zeroValue4
 t9 := Tryz.underlying9
 a9 := Tryz.isAgg9
 z9 := Tryz.sizeOf9
 v9 := Tryz.zeroValue9
 t20 := Tryz.underlying20
 a20 := Tryz.isAgg20
 z20 := Tryz.sizeOf20
 v20 := Tryz.zeroValue20
 t31 := Tryz.underlying36
 a31 := Tryz.isAgg36
 z31 := Tryz.sizeOf36
 v31 := Tryz.zeroValue36
 t37 := Tryz.underlying54
 a37 := Tryz.isAgg54
 z37 := Tryz.sizeOf54
 v37 := Tryz.zeroValue54
 t70 := Tryz.underlying97
 a70 := Tryz.isAgg97
 z70 := Tryz.sizeOf97
 v70 := Tryz.zeroValue97
 t72 := Tryz.underlying99
 a72 := Tryz.isAgg99
 z72 := Tryz.sizeOf99
 v72 := Tryz.zeroValue99
 t75 := Tryz.underlying85
 a75 := Tryz.isAgg85
 z75 := Tryz.sizeOf85
 v75 := Tryz.zeroValue85
 t76 := Tryz.underlying86
 a76 := Tryz.isAgg86
 z76 := Tryz.sizeOf86
 v76 := Tryz.zeroValue86
 t127 := Tryz.underlying116
 a127 := Tryz.isAgg116
 z127 := Tryz.sizeOf116
 v127 := Tryz.zeroValue116
 t164 := Tryz.underlying151
 a164 := Tryz.isAgg151
 z164 := Tryz.sizeOf151
 v164 := Tryz.zeroValue151
theorem str67X : Builder.Extra Tryz.prog str67_ren where
 sizeBuilder := by kernel_rfl
 liesBuilder := by kernel_rfl
 t5 := Tryz.underlying5
 a5 := Tryz.isAgg5
 z5 := Tryz.sizeOf5
 v5 := Tryz.zeroValue5
 infoByte := by kernel_rfl
 cellsByte := by kernel_rfl
 sizeByte := by kernel_rfl
 neB5 := by decide
theorem ss67 : ∀ y r, (joinD 67 9).sem y = some r → FnOK Tryz.prog GB G (joinD 67 9) y r :=
 join_ok (c := Tryz.f67.body.getD .skip) Tryz.func67 (by kernel_rfl) (by kernel_rfl)
  (fun w a c sep => Any.strings_Join_none str67 str67X a c sep w)
  (fun w bk o c xs sep hc hb h1 h2 h3 => Any.strings_Join str67 str67X bk o c xs sep w hc hb h1 h2 h3)
def sort88_ren : Go.Shelf.Ren := ⟨fun | 6 => 88 | 15 => 120 | 14 => 119 | 28 => 152 | 29 => 153 | 20 => 144 | 21 => 145 | 22 => 146 | 23 => 147 | 24 => 148 | 25 => 149 | 26 => 150 | 27 => 151 | 46 => 176 | 47 => 177 | 48 => 178 | 49 => 179 | 50 => 180 | 57 => 189 | n => n, fun | 22 => 24 | 24 => 44 | 25 => 93 | 3 => 3 | 39 => 110 | 0 => 0 | 53 => 127 | 55 => 122 | 4 => 4 | 46 => 139 | 45 => 138 | 50 => 66 | 5 => 5 | 9 => 9 | 66 => 170 | 70 => 174 | 76 => 182 | 77 => 77 | n => n, fun | n => n⟩
theorem sort88 : Go.Proofs.SlLaysF0.n6 Tryz.prog sort88_ren where
 mixed := by kernel_rfl
 f6 := ⟨Tryz.f88.name, by kernel_rfl, Tryz.func88.trans (congrArg some (by kernel_rfl))⟩
 f14 := ⟨Tryz.f119.name, by kernel_rfl, Tryz.func119.trans (congrArg some (by kernel_rfl))⟩
 f15 := Tryz.func120.trans (congrArg some (by kernel_rfl))
 f20 := ⟨Tryz.f144.name, by kernel_rfl, Tryz.func144.trans (congrArg some (by kernel_rfl))⟩
 f21 := ⟨Tryz.f145.name, by kernel_rfl, Tryz.func145.trans (congrArg some (by kernel_rfl))⟩
 f22 := ⟨Tryz.f146.name, by kernel_rfl, Tryz.func146.trans (congrArg some (by kernel_rfl))⟩
 f23 := ⟨Tryz.f147.name, by kernel_rfl, Tryz.func147.trans (congrArg some (by kernel_rfl))⟩
 f24 := ⟨Tryz.f148.name, by kernel_rfl, Tryz.func148.trans (congrArg some (by kernel_rfl))⟩
 f25 := ⟨Tryz.f149.name, by kernel_rfl, Tryz.func149.trans (congrArg some (by kernel_rfl))⟩
 f26 := ⟨Tryz.f150.name, by kernel_rfl, Tryz.func150.trans (congrArg some (by kernel_rfl))⟩
 f27 := ⟨Tryz.f151.name, by kernel_rfl, Tryz.func151.trans (congrArg some (by kernel_rfl))⟩
 f28 := Tryz.func152.trans (congrArg some (by kernel_rfl))
 f29 := Tryz.func153.trans (congrArg some (by kernel_rfl))
 f46 := ⟨Tryz.f176.name, by kernel_rfl, Tryz.func176.trans (congrArg some (by kernel_rfl))⟩
 f47 := Tryz.func177.trans (congrArg some (by kernel_rfl))
 f48 := Tryz.func178.trans (congrArg some (by kernel_rfl))
 f49 := ⟨Tryz.f179.name, by kernel_rfl, Tryz.func179.trans (congrArg some (by kernel_rfl))⟩
 f50 := ⟨Tryz.f180.name, by kernel_rfl, Tryz.func180.trans (congrArg some (by kernel_rfl))⟩
 f57 := ⟨Tryz.f189.name, by kernel_rfl, Tryz.func189.trans (congrArg some (by kernel_rfl))⟩
 t0 := Tryz.underlying0
 a0 := Tryz.isAgg0
 z0 := Tryz.sizeOf0
 v0 := Tryz.zeroValue0
 t3 := Tryz.underlying3
 a3 := Tryz.isAgg3
 z3 := Tryz.sizeOf3
 v3 := Tryz.zeroValue3
 t4 := Tryz.underlying4
 a4 := Tryz.isAgg4
 z4 := Tryz.sizeOf4
 v4 := Tryz.zeroValue4
 t5 := Tryz.underlying5
 a5 := Tryz.isAgg5
 z5 := Tryz.sizeOf5
 v5 := Tryz.zeroValue5
 t9 := Tryz.underlying9
 a9 := Tryz.isAgg9
 z9 := Tryz.sizeOf9
 v9 := Tryz.zeroValue9
 t22 := Tryz.underlying24
 a22 := Tryz.isAgg24
 z22 := Tryz.sizeOf24
 v22 := Tryz.zeroValue24
 t25 := Tryz.underlying93
 a25 := Tryz.isAgg93
 z25 := Tryz.sizeOf93
 v25 := Tryz.zeroValue93
 t39 := Tryz.underlying110
 a39 := Tryz.isAgg110
 z39 := Tryz.sizeOf110
 v39 := Tryz.zeroValue110
 t45 := Tryz.underlying138
 a45 := Tryz.isAgg138
 z45 := Tryz.sizeOf138
 v45 := Tryz.zeroValue138
 t46 := Tryz.underlying139
 a46 := Tryz.isAgg139
 z46 := Tryz.sizeOf139
 v46 := Tryz.zeroValue139
 t50 := Tryz.underlying66
 a50 := Tryz.isAgg66
 z50 := Tryz.sizeOf66
 v50 := Tryz.zeroValue66
 t53 := Tryz.underlying127
 a53 := Tryz.isAgg127
 z53 := Tryz.sizeOf127
 v53 := Tryz.zeroValue127
 t55 := Tryz.underlying122
 a55 := Tryz.isAgg122
 z55 := Tryz.sizeOf122
 v55 := Tryz.zeroValue122
 t66 := Tryz.underlying170
 a66 := Tryz.isAgg170
 z66 := Tryz.sizeOf170
 v66 := Tryz.zeroValue170
 t70 := Tryz.underlying174
 a70 := Tryz.isAgg174
 z70 := Tryz.sizeOf174
 v70 := Tryz.zeroValue174
 t76 := Tryz.underlying182
 a76 := Tryz.isAgg182
 z76 := Tryz.sizeOf182
 v76 := Tryz.zeroValue182
 t77 := Tryz.underlying77
 a77 := Tryz.isAgg77
 z77 := Tryz.sizeOf77
 v77 := Tryz.zeroValue77
theorem cmp89 (a0 a1 b0 b1 : Int) (h0 : small a0 = true) (h1 : small a1 = true) (h2 : small b0 = true) (h3 : small b1 = true) (W : World) : Calls Tryz.prog 89 #[.agg #[.int .i64 a0, .int .i64 a1], .agg #[.int .i64 b0, .int .i64 b1]] W fun e w' => e = .returned (.int .i64 (diffCmp a0 a1 b0 b1)) ∧ ∃ q os', w' = grow (W.drewN q) os' := by
 have g0 := small_ok h0
 have g1 := small_ok h1
 have g2 := small_ok h2
 have g3 := small_ok h3
 have w0 : IntKind.i64.wrap (a0 - b0) = a0 - b0 := Go.IntWalk.i64_in _ ⟨by omega, by omega⟩
 have w1 : IntKind.i64.wrap (a1 - b1) = a1 - b1 := Go.IntWalk.i64_in _ ⟨by omega, by omega⟩
 unfold diffCmp
 by_cases h : a0 = b0
 ·rw [decide_eq_true h]
  go_enter Tryz.func89, Tryz.ntmps89
  go_wp2
  go_ret
  exact ⟨by first | rfl | (rw [w1]; rfl) | (simp only [w1]; rfl), 0, _, by rw [alloc_eq_grow, alloc_eq_grow, grow_grow]; rfl⟩
 rw [decide_eq_false h]
 go_enter Tryz.func89, Tryz.ntmps89
 go_wp2
 go_ret
 exact ⟨by first | rfl | (rw [w0]; rfl) | (simp only [w0]; rfl), 0, _, by rw [alloc_eq_grow, alloc_eq_grow, grow_grow]; rfl⟩
def okf89 (p : Int × Int × Unit) : Bool := small p.1 && small p.2.1
def cf89 (x y : Int × Int × Unit) : Int := (fun x y => diffCmp x.1 x.2.1 y.1 y.2.1) x y
theorem swo89 : SWO (ltOf fun a b : {p : ((.st (.cons (.int .i64) (.cons (.int .i64) .nil))) : Ty).D // okf89 p = true} => cf89 a.1 b.1) := swo_diff (fun x : {p : ((.st (.cons (.int .i64) (.cons (.int .i64) .nil))) : Ty).D // okf89 p = true} => x.1.1) (fun x : {p : ((.st (.cons (.int .i64) (.cons (.int .i64) .nil))) : Ty).D // okf89 p = true} => x.1.2.1)
def zf89 : {p : ((.st (.cons (.int .i64) (.cons (.int .i64) .nil))) : Ty).D // okf89 p = true} := ⟨((.st (.cons (.int .i64) (.cons (.int .i64) .nil))) : Ty).z, by kernel_rfl⟩
theorem hs100000 (w : World) (g cap : Nat) (d : Array {p : ((.st (.cons (.int .i64) (.cons (.int .i64) .nil))) : Ty).D // okf89 p = true}) (hH : @HoldsK _ ⟨zf89⟩ (fun p : {p : ((.st (.cons (.int .i64) (.cons (.int .i64) .nil))) : Ty).D // okf89 p = true} => ((.st (.cons (.int .i64) (.cons (.int .i64) .nil))) : Ty).enc p.1) ((.st (.cons (.int .i64) (.cons (.int .i64) .nil))) : Ty).sz w g 0 d) (hb : g < w.heap.size) (hsz : d.size < 4611686018427387904) :
  Calls Tryz.prog 88 #[.slice (some ⟨g, 0, none⟩) d.size cap, .func (.func 89) #[] #[]] w fun e w' => e = .returned (.tuple #[]) ∧ ∃ n os, w' = @sortWorldK _ ⟨zf89⟩ (fun p : {p : ((.st (.cons (.int .i64) (.cons (.int .i64) .nil))) : Ty).D // okf89 p = true} => ((.st (.cons (.int .i64) (.cons (.int .i64) .nil))) : Ty).enc p.1) ((.st (.cons (.int .i64) (.cons (.int .i64) .nil))) : Ty).sz w g 0 n (@pdq _ ⟨zf89⟩ (ltOf fun a b => cf89 a.1 b.1) d 0 d.size (Lib.bitLen d.size) true true) os := by
 letI : Inhabited {p : ((.st (.cons (.int .i64) (.cons (.int .i64) .nil))) : Ty).D // okf89 p = true} := ⟨zf89⟩
 have he := enters_of Tryz.func89 (by kernel_rfl) rfl
 have hc : CmpLays Tryz.prog 89 #[] (fun p : {p : ((.st (.cons (.int .i64) (.cons (.int .i64) .nil))) : Ty).D // okf89 p = true} => ((.st (.cons (.int .i64) (.cons (.int .i64) .nil))) : Ty).enc p.1) ((.st (.cons (.int .i64) (.cons (.int .i64) .nil))) : Ty).sz (fun a b => cf89 a.1 b.1) g 0 d.size w := fun _ _ _ _ x y => cmp89 x.1.1 x.1.2.1 y.1.1 y.1.2.1 (Bool.and_eq_true_iff.1 x.2).1 (Bool.and_eq_true_iff.1 x.2).2 (Bool.and_eq_true_iff.1 y.2).1 (Bool.and_eq_true_iff.1 y.2).2 _
 exact AnyQ.slices_SortFunc_eq sort88 ((.st (.cons (.int .i64) (.cons (.int .i64) .nil))) : Ty).sz Tryz.isAgg44 Tryz.sizeOf44 (fun p : {p : ((.st (.cons (.int .i64) (.cons (.int .i64) .nil))) : Ty).D // okf89 p = true} => ((.st (.cons (.int .i64) (.cons (.int .i64) .nil))) : Ty).enc p.1) (fun _ => Ty.enc_len) (fun _ => Ty.enc_one) (fun a b => cf89 a.1 b.1) swo89 89 #[] g 0 cap d w he hc hH hb hsz
theorem hn100000 (w : World) : Calls Tryz.prog 88 #[.slice none 0 0, .func (.func 89) #[] #[]] w fun e w' => e = .returned (.tuple #[]) ∧ w' = w :=
 AnyF.slices_SortFunc_none sort88 none 0 (.func (.func 89) #[] #[]) w
theorem ss100000 : ∀ y r, (sortGD 88 44 (.st (.cons (.int .i64) (.cons (.int .i64) .nil))) 89 (sortB okf89 zf89 cf89)).sem y = some r → FnOK Tryz.prog GB G (sortGD 88 44 (.st (.cons (.int .i64) (.cons (.int .i64) .nil))) 89 (sortB okf89 zf89 cf89)) y r :=
 sortG_ok (c := Tryz.f88.body.getD .skip) Tryz.func88 (by kernel_rfl) (by kernel_rfl) rfl (fun _ _ h => (sortB_perm swo89 h).length_eq) (sortB_calls swo89 hs100000) hn100000
def sort91_ren : Go.Shelf.Ren := ⟨fun | 5 => 91 | 8 => 120 | 7 => 121 | 19 => 152 | 20 => 153 | 10 => 154 | 11 => 155 | 12 => 156 | 13 => 157 | 14 => 158 | 15 => 159 | 16 => 160 | 17 => 161 | 18 => 162 | 30 => 181 | 31 => 177 | 32 => 178 | 33 => 182 | 34 => 183 | 35 => 184 | 40 => 190 | n => n, fun | 23 => 23 | 25 => 3 | 3 => 3 | 32 => 110 | 22 => 23 | 0 => 0 | 44 => 127 | 46 => 122 | 4 => 4 | 36 => 139 | 35 => 138 | 41 => 66 | 5 => 5 | 9 => 9 | 53 => 170 | 57 => 174 | 63 => 182 | 64 => 77 | n => n, fun | n => n⟩
theorem sort91 : Go.Proofs.SlLaysM.n5 Tryz.prog sort91_ren where
 mixed := by kernel_rfl
 f5 := ⟨Tryz.f91.name, by kernel_rfl, Tryz.func91.trans (congrArg some (by kernel_rfl))⟩
 f7 := ⟨Tryz.f121.name, by kernel_rfl, Tryz.func121.trans (congrArg some (by kernel_rfl))⟩
 f8 := Tryz.func120.trans (congrArg some (by kernel_rfl))
 f10 := ⟨Tryz.f154.name, by kernel_rfl, Tryz.func154.trans (congrArg some (by kernel_rfl))⟩
 f11 := ⟨Tryz.f155.name, by kernel_rfl, Tryz.func155.trans (congrArg some (by kernel_rfl))⟩
 f12 := ⟨Tryz.f156.name, by kernel_rfl, Tryz.func156.trans (congrArg some (by kernel_rfl))⟩
 f13 := ⟨Tryz.f157.name, by kernel_rfl, Tryz.func157.trans (congrArg some (by kernel_rfl))⟩
 f14 := ⟨Tryz.f158.name, by kernel_rfl, Tryz.func158.trans (congrArg some (by kernel_rfl))⟩
 f15 := ⟨Tryz.f159.name, by kernel_rfl, Tryz.func159.trans (congrArg some (by kernel_rfl))⟩
 f16 := ⟨Tryz.f160.name, by kernel_rfl, Tryz.func160.trans (congrArg some (by kernel_rfl))⟩
 f17 := ⟨Tryz.f161.name, by kernel_rfl, Tryz.func161.trans (congrArg some (by kernel_rfl))⟩
 f18 := ⟨Tryz.f162.name, by kernel_rfl, Tryz.func162.trans (congrArg some (by kernel_rfl))⟩
 f19 := Tryz.func152.trans (congrArg some (by kernel_rfl))
 f20 := Tryz.func153.trans (congrArg some (by kernel_rfl))
 f30 := ⟨Tryz.f181.name, by kernel_rfl, Tryz.func181.trans (congrArg some (by kernel_rfl))⟩
 f31 := Tryz.func177.trans (congrArg some (by kernel_rfl))
 f32 := Tryz.func178.trans (congrArg some (by kernel_rfl))
 f33 := ⟨Tryz.f182.name, by kernel_rfl, Tryz.func182.trans (congrArg some (by kernel_rfl))⟩
 f34 := ⟨Tryz.f183.name, by kernel_rfl, Tryz.func183.trans (congrArg some (by kernel_rfl))⟩
 f35 := ⟨Tryz.f184.name, by kernel_rfl, Tryz.func184.trans (congrArg some (by kernel_rfl))⟩
 f40 := ⟨Tryz.f190.name, by kernel_rfl, Tryz.func190.trans (congrArg some (by kernel_rfl))⟩
 t0 := Tryz.underlying0
 a0 := Tryz.isAgg0
 z0 := Tryz.sizeOf0
 v0 := Tryz.zeroValue0
 t3 := Tryz.underlying3
 a3 := Tryz.isAgg3
 z3 := Tryz.sizeOf3
 v3 := Tryz.zeroValue3
 t4 := Tryz.underlying4
 a4 := Tryz.isAgg4
 z4 := Tryz.sizeOf4
 v4 := Tryz.zeroValue4
 t5 := Tryz.underlying5
 a5 := Tryz.isAgg5
 z5 := Tryz.sizeOf5
 v5 := Tryz.zeroValue5
 t9 := Tryz.underlying9
 a9 := Tryz.isAgg9
 z9 := Tryz.sizeOf9
 v9 := Tryz.zeroValue9
 t22 := Tryz.underlying23
 a22 := Tryz.isAgg23
 z22 := Tryz.sizeOf23
 v22 := Tryz.zeroValue23
 t23 := Tryz.underlying23
 a23 := Tryz.isAgg23
 z23 := Tryz.sizeOf23
 v23 := Tryz.zeroValue23
 t25 := Tryz.underlying3
 a25 := Tryz.isAgg3
 z25 := Tryz.sizeOf3
 v25 := Tryz.zeroValue3
 t32 := Tryz.underlying110
 a32 := Tryz.isAgg110
 z32 := Tryz.sizeOf110
 v32 := Tryz.zeroValue110
 t35 := Tryz.underlying138
 a35 := Tryz.isAgg138
 z35 := Tryz.sizeOf138
 v35 := Tryz.zeroValue138
 t36 := Tryz.underlying139
 a36 := Tryz.isAgg139
 z36 := Tryz.sizeOf139
 v36 := Tryz.zeroValue139
 t41 := Tryz.underlying66
 a41 := Tryz.isAgg66
 z41 := Tryz.sizeOf66
 v41 := Tryz.zeroValue66
 t44 := Tryz.underlying127
 a44 := Tryz.isAgg127
 z44 := Tryz.sizeOf127
 v44 := Tryz.zeroValue127
 t46 := Tryz.underlying122
 a46 := Tryz.isAgg122
 z46 := Tryz.sizeOf122
 v46 := Tryz.zeroValue122
 t53 := Tryz.underlying170
 a53 := Tryz.isAgg170
 z53 := Tryz.sizeOf170
 v53 := Tryz.zeroValue170
 t57 := Tryz.underlying174
 a57 := Tryz.isAgg174
 z57 := Tryz.sizeOf174
 v57 := Tryz.zeroValue174
 t63 := Tryz.underlying182
 a63 := Tryz.isAgg182
 z63 := Tryz.sizeOf182
 v63 := Tryz.zeroValue182
 t64 := Tryz.underlying77
 a64 := Tryz.isAgg77
 z64 := Tryz.sizeOf77
 v64 := Tryz.zeroValue77
theorem ss91 : ∀ y r, (sortIntD 91 3).sem y = some r → FnOK Tryz.prog GB G (sortIntD 91 3) y r :=
 sortInt_ok (c := Tryz.f91.body.getD .skip) Tryz.func91 (by kernel_rfl) (by kernel_rfl)
  (fun w g cap zs hH hb hsz => AnyM.slices_Sort_int sort91 g 0 cap zs w hH hb hsz)
  (fun w => AnyM.slices_Sort_int_none sort91 none 0 w)
end Go.GV.YtkkfgajlnpcpcaaGreatDoor

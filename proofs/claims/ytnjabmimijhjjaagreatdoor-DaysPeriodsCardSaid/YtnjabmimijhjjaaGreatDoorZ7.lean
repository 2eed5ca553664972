/-
Part of the words that the laws of this seat are proved with: no statement of its own, no conditions.
-/
import Derived.Test.YtnjabmimijhjjaaGreatDoorZ6
import Derived.Shelf.Strconv.AtoiAll
import Derived.Shelf.Strconv.Itoa3
import Derived.Test.YtnjabmimijhjjaaGreatDoorProg
import Derived.KernelRfl
import Derived.Shelf.SlSortCmp.NoneTotal
import Derived.Shelf.SortM.Plain
import Derived.Shelf.SortM.SortNone
set_option linter.unusedVariables false
set_option linter.unusedSimpArgs false
namespace Go.GV.YtnjabmimijhjjaaGreatDoor
open Go.Proofs Go.Sort
set_option maxRecDepth 1000000
abbrev GB : Nat → Prop := Its 5 3 4
abbrev G : World → Prop := Facts Tryz.prog 3 4
theorem gtab : Tryz.prog.globalNamed "internal/strconv.uint64pow10" = some 5 := by kernel_rfl
theorem stab : Stable GB G := facts_stable gtab
def str104_ren : Go.Shelf.Ren := ⟨fun | 172 => 104 | 244 => 122 | 245 => 123 | 247 => 133 | 279 => 134 | 280 => 135 | 281 => 136 | 282 => 137 | 287 => 160 | 316 => 161 | 171 => 105 | 205 => 162 | 321 => 176 | 322 => 177 | 243 => 124 | 246 => 138 | 283 => 163 | 284 => 164 | 285 => 165 | 286 => 166 | 129 => 149 | 317 => 178 | 318 => 179 | 319 => 180 | 320 => 181 | 337 => 184 | 338 => 185 | n => n, fun | 9 => 9 | 3 => 3 | 75 => 105 | 76 => 106 | 4 => 4 | 5 => 5 | 167 => 127 | 37 => 128 | 0 => 0 | 85 => 129 | 2 => 2 | 168 => 131 | 53 => 145 | 175 => 155 | 46 => 119 | 210 => 159 | 127 => 175 | 145 => 178 | 143 => 176 | 21 => 21 | 171 => 161 | 173 => 163 | 212 => 180 | 51 => 124 | 20 => 20 | 213 => 181 | 232 => 185 | 233 => 186 | 80 => 187 | n => n, fun | 15 => 3 | 16 => 4 | 17 => 5 | 18 => 6 | 19 => 7 | n => n⟩
theorem str104 : Go.Proofs.LaysC.n172 Tryz.prog str104_ren where
 mixed := by kernel_rfl
 f129 := Tryz.func149.trans (congrArg some (by kernel_rfl))
 f171 := Tryz.func105.trans (congrArg some (by kernel_rfl))
 f172 := Tryz.func104.trans (congrArg some (by kernel_rfl))
 f205 := Tryz.func162.trans (congrArg some (by kernel_rfl))
 f243 := Tryz.func124.trans (congrArg some (by kernel_rfl))
 f244 := Tryz.func122.trans (congrArg some (by kernel_rfl))
 f245 := Tryz.func123.trans (congrArg some (by kernel_rfl))
 f246 := Tryz.func138.trans (congrArg some (by kernel_rfl))
 f247 := Tryz.func133.trans (congrArg some (by kernel_rfl))
 f279 := Tryz.func134.trans (congrArg some (by kernel_rfl))
 f280 := Tryz.func135.trans (congrArg some (by kernel_rfl))
 f281 := Tryz.func136.trans (congrArg some (by kernel_rfl))
 f282 := Tryz.func137.trans (congrArg some (by kernel_rfl))
 f283 := Tryz.func163.trans (congrArg some (by kernel_rfl))
 f284 := Tryz.func164.trans (congrArg some (by kernel_rfl))
 f285 := Tryz.func165.trans (congrArg some (by kernel_rfl))
 f286 := Tryz.func166.trans (congrArg some (by kernel_rfl))
 f287 := Tryz.func160.trans (congrArg some (by kernel_rfl))
 f316 := Tryz.func161.trans (congrArg some (by kernel_rfl))
 f317 := Tryz.func178.trans (congrArg some (by kernel_rfl))
 f318 := Tryz.func179.trans (congrArg some (by kernel_rfl))
 f319 := Tryz.func180.trans (congrArg some (by kernel_rfl))
 f320 := Tryz.func181.trans (congrArg some (by kernel_rfl))
 f321 := Tryz.func176.trans (congrArg some (by kernel_rfl))
 f322 := Tryz.func177.trans (congrArg some (by kernel_rfl))
 f337 := Tryz.func184.trans (congrArg some (by kernel_rfl))
 f338 := Tryz.func185.trans (congrArg some (by kernel_rfl))
 t0 := Tryz.underlying0
 a0 := Tryz.isAgg0
 z0 := Tryz.sizeOf0
 v0 := Tryz.zeroValue0
 t2 := Tryz.underlying2
 a2 := Tryz.isAgg2
 z2 := Tryz.sizeOf2
 v2 := Tryz.zeroValue2
 t3 := Tryz.underlying3
 a3 := Tryz.isAgg3
 z3 := Tryz.sizeOf3
 v3 := Tryz.zeroValue3
 t4 := Tryz.underlying4
 a4 := Tryz.isAgg4
 z4 := Tryz.sizeOf4
 v4 := Tryz.zeroValue4
 t5 := Tryz.underlying5
 a5 := Tryz.isAgg5
 z5 := Tryz.sizeOf5
 v5 := Tryz.zeroValue5
 t9 := Tryz.underlying9
 a9 := Tryz.isAgg9
 z9 := Tryz.sizeOf9
 v9 := Tryz.zeroValue9
 t20 := Tryz.underlying20
 a20 := Tryz.isAgg20
 z20 := Tryz.sizeOf20
 v20 := Tryz.zeroValue20
 t21 := Tryz.underlying21
 a21 := Tryz.isAgg21
 z21 := Tryz.sizeOf21
 v21 := Tryz.zeroValue21
 t37 := Tryz.underlying128
 a37 := Tryz.isAgg128
 z37 := Tryz.sizeOf128
 v37 := Tryz.zeroValue128
 t46 := Tryz.underlying119
 a46 := Tryz.isAgg119
 z46 := Tryz.sizeOf119
 v46 := Tryz.zeroValue119
 t51 := Tryz.underlying124
 a51 := Tryz.isAgg124
 z51 := Tryz.sizeOf124
 v51 := Tryz.zeroValue124
 t53 := Tryz.underlying145
 a53 := Tryz.isAgg145
 z53 := Tryz.sizeOf145
 v53 := Tryz.zeroValue145
 t75 := Tryz.underlying105
 a75 := Tryz.isAgg105
 z75 := Tryz.sizeOf105
 v75 := Tryz.zeroValue105
 t76 := Tryz.underlying106
 a76 := Tryz.isAgg106
 z76 := Tryz.sizeOf106
 v76 := Tryz.zeroValue106
 t85 := Tryz.underlying129
 a85 := Tryz.isAgg129
 z85 := Tryz.sizeOf129
 v85 := Tryz.zeroValue129
 t127 := Tryz.underlying175
 a127 := Tryz.isAgg175
 z127 := Tryz.sizeOf175
 v127 := Tryz.zeroValue175
 t143 := Tryz.underlying176
 a143 := Tryz.isAgg176
 z143 := Tryz.sizeOf176
 v143 := Tryz.zeroValue176
 t145 := Tryz.underlying178
 a145 := Tryz.isAgg178
 z145 := Tryz.sizeOf178
 v145 := Tryz.zeroValue178
 t167 := Tryz.underlying127
 a167 := Tryz.isAgg127
 z167 := Tryz.sizeOf127
 v167 := Tryz.zeroValue127
 t168 := Tryz.underlying131
 a168 := Tryz.isAgg131
 z168 := Tryz.sizeOf131
 v168 := Tryz.zeroValue131
 t171 := Tryz.underlying161
 a171 := Tryz.isAgg161
 z171 := Tryz.sizeOf161
 v171 := Tryz.zeroValue161
 t173 := Tryz.underlying163
 a173 := Tryz.isAgg163
 z173 := Tryz.sizeOf163
 v173 := Tryz.zeroValue163
 t175 := Tryz.underlying155
 a175 := Tryz.isAgg155
 z175 := Tryz.sizeOf155
 v175 := Tryz.zeroValue155
 t210 := Tryz.underlying159
 a210 := Tryz.isAgg159
 z210 := Tryz.sizeOf159
 v210 := Tryz.zeroValue159
 t212 := Tryz.underlying180
 a212 := Tryz.isAgg180
 z212 := Tryz.sizeOf180
 v212 := Tryz.zeroValue180
 t213 := Tryz.underlying181
 a213 := Tryz.isAgg181
 z213 := Tryz.sizeOf181
 t232 := Tryz.underlying185
 a232 := Tryz.isAgg185
 z232 := Tryz.sizeOf185
 v232 := Tryz.zeroValue185
 t233 := Tryz.underlying186
 a233 := Tryz.isAgg186
 z233 := Tryz.sizeOf186
 v233 := Tryz.zeroValue186
 g15 := by kernel_rfl
 g16 := by kernel_rfl
 g17 := by kernel_rfl
 g18 := by kernel_rfl
 g19 := by kernel_rfl
 t80 := Tryz.underlying187
 a80 := Tryz.isAgg187
 z80 := Tryz.sizeOf187
 v80 := Tryz.zeroValue187
 i0 := by kernel_rfl
 i2 := by kernel_rfl
 i3 := by kernel_rfl
 i4 := by kernel_rfl
 i5 := by kernel_rfl
 i9 := by kernel_rfl
 i20 := by kernel_rfl
 i21 := by kernel_rfl
 i37 := by kernel_rfl
 i46 := by kernel_rfl
 i51 := by kernel_rfl
 i53 := by kernel_rfl
 i75 := by kernel_rfl
 i76 := by kernel_rfl
 i80 := by kernel_rfl
 i85 := by kernel_rfl
 i127 := by kernel_rfl
 i143 := by kernel_rfl
 i145 := by kernel_rfl
 i167 := by kernel_rfl
 i168 := by kernel_rfl
 i171 := by kernel_rfl
 i173 := by kernel_rfl
 i175 := by kernel_rfl
 i210 := by kernel_rfl
 i212 := by kernel_rfl
 i232 := by kernel_rfl
 i233 := by kernel_rfl
 m15 := by kernel_rfl
 m16 := by kernel_rfl
 m17 := by kernel_rfl
 m18 := by kernel_rfl
 m19 := by kernel_rfl
 c0 := by kernel_rfl
 c2 := by kernel_rfl
 c3 := by kernel_rfl
 c4 := by kernel_rfl
 c5 := by kernel_rfl
 c9 := by kernel_rfl
 c20 := by kernel_rfl
 c21 := by kernel_rfl
 c37 := by kernel_rfl
 c46 := by kernel_rfl
 c51 := by kernel_rfl
 c53 := by kernel_rfl
 c75 := by kernel_rfl
 c76 := by kernel_rfl
 c80 := by kernel_rfl
 c85 := by kernel_rfl
 c127 := by kernel_rfl
 c143 := by kernel_rfl
 c145 := by kernel_rfl
 c167 := by kernel_rfl
 c168 := by kernel_rfl
 c171 := by kernel_rfl
 c173 := by kernel_rfl
 c175 := by kernel_rfl
 c210 := by kernel_rfl
 c212 := by kernel_rfl
 c213 := by kernel_rfl
 c232 := by kernel_rfl
 c233 := by kernel_rfl
theorem ss104 : ∀ y r, (atoiD 104).sem y = some r → FnOK Tryz.prog GB G (atoiD 104) y r :=
 atoi_ok (c := Tryz.f104.body.getD .skip) Tryz.func104 (by kernel_rfl) (by kernel_rfl)
  (fun w s v hm h => (Any.strconv_Atoi_ok str104 s hm v h w).mono fun e w' q => ⟨q.1, by
   rcases q.2 with rfl | ⟨t, rfl⟩
   ·exact Go.RowKit.Below.refl _ _
   ·exact Lib.bytesWorld_below _ _ _⟩)
  (fun w s hg hl n1 n2 => by
   obtain ⟨ev, h1, h2⟩ := hg.syn
   refine (Any.strconv_Atoi_syntax str104 s hl ?_ ev w h1 h2).mono fun e w' q => by obtain ⟨N, rfl, _, _, hb⟩ := q; exact ⟨⟨_, _, rfl⟩, hb⟩
   cases hA : Lib.atoiAll s.data.toList with
   | ok v => exact absurd hA (n1 v)
   | range => exact absurd hA n2
   | _ => rfl)
  (fun w s hg hl h => by
   obtain ⟨ev, h1, h2⟩ := hg.rng
   exact (Any.strconv_Atoi_range str104 s hl h ev w h1 h2).mono fun e w' q => by obtain ⟨N, rfl, _, _, hb⟩ := q; exact ⟨⟨_, _, rfl⟩, hb⟩)
def str105_ren : Go.Shelf.Ren := ⟨fun | 171 => 105 | 243 => 124 | 246 => 138 | 283 => 163 | 284 => 164 | 285 => 165 | 286 => 166 | 129 => 149 | 317 => 178 | 318 => 179 | 319 => 180 | 320 => 181 | 337 => 184 | 338 => 185 | n => n, fun | 3 => 3 | 9 => 9 | 2 => 2 | 4 => 4 | 171 => 161 | 0 => 0 | 53 => 145 | 37 => 128 | 5 => 5 | 173 => 163 | 212 => 180 | 51 => 124 | 20 => 20 | 213 => 181 | 46 => 119 | 232 => 185 | 233 => 186 | n => n, fun | 17 => 5 | 18 => 6 | 19 => 7 | n => n⟩
theorem str105 : Go.Proofs.LaysM.n171 Tryz.prog str105_ren where
 mixed := by kernel_rfl
 f129 := Tryz.func149.trans (congrArg some (by kernel_rfl))
 f171 := Tryz.func105.trans (congrArg some (by kernel_rfl))
 f243 := Tryz.func124.trans (congrArg some (by kernel_rfl))
 f246 := Tryz.func138.trans (congrArg some (by kernel_rfl))
 f283 := Tryz.func163.trans (congrArg some (by kernel_rfl))
 f284 := Tryz.func164.trans (congrArg some (by kernel_rfl))
 f285 := Tryz.func165.trans (congrArg some (by kernel_rfl))
 f286 := Tryz.func166.trans (congrArg some (by kernel_rfl))
 f317 := Tryz.func178.trans (congrArg some (by kernel_rfl))
 f318 := Tryz.func179.trans (congrArg some (by kernel_rfl))
 f319 := Tryz.func180.trans (congrArg some (by kernel_rfl))
 f320 := Tryz.func181.trans (congrArg some (by kernel_rfl))
 f337 := Tryz.func184.trans (congrArg some (by kernel_rfl))
 f338 := Tryz.func185.trans (congrArg some (by kernel_rfl))
 t0 := Tryz.underlying0
 a0 := Tryz.isAgg0
 z0 := Tryz.sizeOf0
 v0 := Tryz.zeroValue0
 t2 := Tryz.underlying2
 a2 := Tryz.isAgg2
 z2 := Tryz.sizeOf2
 v2 := Tryz.zeroValue2
 t3 := Tryz.underlying3
 a3 := Tryz.isAgg3
 z3 := Tryz.sizeOf3
 v3 := Tryz.zeroValue3
 t4 := Tryz.underlying4
 a4 := Tryz.isAgg4
 z4 := Tryz.sizeOf4
 v4 := Tryz.zeroValue4
 t5 := Tryz.underlying5
 a5 := Tryz.isAgg5
 z5 := Tryz.sizeOf5
 v5 := Tryz.zeroValue5
 t9 := Tryz.underlying9
 a9 := Tryz.isAgg9
 z9 := Tryz.sizeOf9
 v9 := Tryz.zeroValue9
 t20 := Tryz.underlying20
 a20 := Tryz.isAgg20
 z20 := Tryz.sizeOf20
 v20 := Tryz.zeroValue20
 t37 := Tryz.underlying128
 a37 := Tryz.isAgg128
 z37 := Tryz.sizeOf128
 v37 := Tryz.zeroValue128
 t46 := Tryz.underlying119
 a46 := Tryz.isAgg119
 z46 := Tryz.sizeOf119
 v46 := Tryz.zeroValue119
 t51 := Tryz.underlying124
 a51 := Tryz.isAgg124
 z51 := Tryz.sizeOf124
 v51 := Tryz.zeroValue124
 t53 := Tryz.underlying145
 a53 := Tryz.isAgg145
 z53 := Tryz.sizeOf145
 v53 := Tryz.zeroValue145
 t171 := Tryz.underlying161
 a171 := Tryz.isAgg161
 z171 := Tryz.sizeOf161
 v171 := Tryz.zeroValue161
 t173 := Tryz.underlying163
 a173 := Tryz.isAgg163
 z173 := Tryz.sizeOf163
 v173 := Tryz.zeroValue163
 t212 := Tryz.underlying180
 a212 := Tryz.isAgg180
 z212 := Tryz.sizeOf180
 v212 := Tryz.zeroValue180
 t213 := Tryz.underlying181
 a213 := Tryz.isAgg181
 z213 := Tryz.sizeOf181
 t232 := Tryz.underlying185
 a232 := Tryz.isAgg185
 z232 := Tryz.sizeOf185
 v232 := Tryz.zeroValue185
 t233 := Tryz.underlying186
 a233 := Tryz.isAgg186
 z233 := Tryz.sizeOf186
 v233 := Tryz.zeroValue186
 g17 := by kernel_rfl
 g18 := by kernel_rfl
 g19 := by kernel_rfl
 i0 := by kernel_rfl
 i2 := by kernel_rfl
 i3 := by kernel_rfl
 i4 := by kernel_rfl
 i5 := by kernel_rfl
 i9 := by kernel_rfl
 i20 := by kernel_rfl
 i37 := by kernel_rfl
 i46 := by kernel_rfl
 i51 := by kernel_rfl
 i53 := by kernel_rfl
 i171 := by kernel_rfl
 i173 := by kernel_rfl
 i212 := by kernel_rfl
 i232 := by kernel_rfl
 i233 := by kernel_rfl
 m17 := by kernel_rfl
 m18 := by kernel_rfl
 m19 := by kernel_rfl
theorem ss105 : ∀ y r, (itoaD 105).sem y = some r → FnOK Tryz.prog GB G (itoaD 105) y r :=
 itoa_ok (c := Tryz.f105.body.getD .skip) Tryz.func105 (by kernel_rfl) (by kernel_rfl) fun w m hg h0 h1 => (Any.strconv_Itoa str105 m h0 h1 w hg.tab).mono fun e w' h => ⟨h.1, by obtain ⟨k, os, rfl⟩ := h.2; exact below_gd w k os⟩
def sort109_ren : Go.Shelf.Ren := ⟨fun | 6 => 109 | 15 => 127 | 14 => 126 | 28 => 148 | 29 => 149 | 20 => 140 | 21 => 141 | 22 => 142 | 23 => 143 | 24 => 144 | 25 => 145 | 26 => 146 | 27 => 147 | 46 => 167 | 47 => 168 | 48 => 169 | 49 => 170 | 50 => 171 | 57 => 182 | n => n, fun | 22 => 23 | 24 => 44 | 25 => 98 | 3 => 3 | 39 => 119 | 0 => 0 | 53 => 124 | 55 => 145 | 4 => 4 | 46 => 138 | 45 => 137 | 50 => 51 | 5 => 5 | 9 => 9 | 66 => 165 | 70 => 169 | 76 => 182 | 77 => 34 | n => n, fun | n => n⟩
theorem sort109 : Go.Proofs.SlLaysF0.n6 Tryz.prog sort109_ren where
 mixed := by kernel_rfl
 f6 := ⟨Tryz.f109.name, by kernel_rfl, Tryz.func109.trans (congrArg some (by kernel_rfl))⟩
 f14 := ⟨Tryz.f126.name, by kernel_rfl, Tryz.func126.trans (congrArg some (by kernel_rfl))⟩
 f15 := Tryz.func127.trans (congrArg some (by kernel_rfl))
 f20 := ⟨Tryz.f140.name, by kernel_rfl, Tryz.func140.trans (congrArg some (by kernel_rfl))⟩
 f21 := ⟨Tryz.f141.name, by kernel_rfl, Tryz.func141.trans (congrArg some (by kernel_rfl))⟩
 f22 := ⟨Tryz.f142.name, by kernel_rfl, Tryz.func142.trans (congrArg some (by kernel_rfl))⟩
 f23 := ⟨Tryz.f143.name, by kernel_rfl, Tryz.func143.trans (congrArg some (by kernel_rfl))⟩
 f24 := ⟨Tryz.f144.name, by kernel_rfl, Tryz.func144.trans (congrArg some (by kernel_rfl))⟩
 f25 := ⟨Tryz.f145.name, by kernel_rfl, Tryz.func145.trans (congrArg some (by kernel_rfl))⟩
 f26 := ⟨Tryz.f146.name, by kernel_rfl, Tryz.func146.trans (congrArg some (by kernel_rfl))⟩
 f27 := ⟨Tryz.f147.name, by kernel_rfl, Tryz.func147.trans (congrArg some (by kernel_rfl))⟩
 f28 := Tryz.func148.trans (congrArg some (by kernel_rfl))
 f29 := Tryz.func149.trans (congrArg some (by kernel_rfl))
 f46 := ⟨Tryz.f167.name, by kernel_rfl, Tryz.func167.trans (congrArg some (by kernel_rfl))⟩
 f47 := Tryz.func168.trans (congrArg some (by kernel_rfl))
 f48 := Tryz.func169.trans (congrArg some (by kernel_rfl))
 f49 := ⟨Tryz.f170.name, by kernel_rfl, Tryz.func170.trans (congrArg some (by kernel_rfl))⟩
 f50 := ⟨Tryz.f171.name, by kernel_rfl, Tryz.func171.trans (congrArg some (by kernel_rfl))⟩
 f57 := ⟨Tryz.f182.name, by kernel_rfl, Tryz.func182.trans (congrArg some (by kernel_rfl))⟩
 t0 := Tryz.underlying0
 a0 := Tryz.isAgg0
 z0 := Tryz.sizeOf0
 v0 := Tryz.zeroValue0
 t3 := Tryz.underlying3
 a3 := Tryz.isAgg3
 z3 := Tryz.sizeOf3
 v3 := Tryz.zeroValue3
 t4 := Tryz.underlying4
 a4 := Tryz.isAgg4
 z4 := Tryz.sizeOf4
 v4 := Tryz.zeroValue4
 t5 := Tryz.underlying5
 a5 := Tryz.isAgg5
 z5 := Tryz.sizeOf5
 v5 := Tryz.zeroValue5
 t9 := Tryz.underlying9
 a9 := Tryz.isAgg9
 z9 := Tryz.sizeOf9
 v9 := Tryz.zeroValue9
 t22 := Tryz.underlying23
 a22 := Tryz.isAgg23
 z22 := Tryz.sizeOf23
 v22 := Tryz.zeroValue23
 t25 := Tryz.underlying98
 a25 := Tryz.isAgg98
 z25 := Tryz.sizeOf98
 v25 := Tryz.zeroValue98
 t39 := Tryz.underlying119
 a39 := Tryz.isAgg119
 z39 := Tryz.sizeOf119
 v39 := Tryz.zeroValue119
 t45 := Tryz.underlying137
 a45 := Tryz.isAgg137
 z45 := Tryz.sizeOf137
 v45 := Tryz.zeroValue137
 t46 := Tryz.underlying138
 a46 := Tryz.isAgg138
 z46 := Tryz.sizeOf138
 v46 := Tryz.zeroValue138
 t50 := Tryz.underlying51
 a50 := Tryz.isAgg51
 z50 := Tryz.sizeOf51
 v50 := Tryz.zeroValue51
 t53 := Tryz.underlying124
 a53 := Tryz.isAgg124
 z53 := Tryz.sizeOf124
 v53 := Tryz.zeroValue124
 t55 := Tryz.underlying145
 a55 := Tryz.isAgg145
 z55 := Tryz.sizeOf145
 v55 := Tryz.zeroValue145
 t66 := Tryz.underlying165
 a66 := Tryz.isAgg165
 z66 := Tryz.sizeOf165
 v66 := Tryz.zeroValue165
 t70 := Tryz.underlying169
 a70 := Tryz.isAgg169
 z70 := Tryz.sizeOf169
 v70 := Tryz.zeroValue169
 t76 := Tryz.underlying182
 a76 := Tryz.isAgg182
 z76 := Tryz.sizeOf182
 v76 := Tryz.zeroValue182
 t77 := Tryz.underlying34
 a77 := Tryz.isAgg34
 z77 := Tryz.sizeOf34
 v77 := Tryz.zeroValue34
theorem cmp86 (a0 a1 b0 b1 : Int) (h0 : small a0 = true) (h1 : small a1 = true) (h2 : small b0 = true) (h3 : small b1 = true) (W : World) : Calls Tryz.prog 86 #[.agg #[.int .i64 a0, .int .i64 a1], .agg #[.int .i64 b0, .int .i64 b1]] W fun e w' => e = .returned (.int .i64 (diffCmp a0 a1 b0 b1)) ∧ ∃ q os', w' = grow (W.drewN q) os' := by
 have g0 := small_ok h0
 have g1 := small_ok h1
 have g2 := small_ok h2
 have g3 := small_ok h3
 have w0 : IntKind.i64.wrap (a0 - b0) = a0 - b0 := Go.IntWalk.i64_in _ ⟨by omega, by omega⟩
 have w1 : IntKind.i64.wrap (a1 - b1) = a1 - b1 := Go.IntWalk.i64_in _ ⟨by omega, by omega⟩
 unfold diffCmp
 by_cases h : a0 = b0
 ·rw [decide_eq_true h]
  go_enter Tryz.func86, Tryz.ntmps86
  go_wp2
  go_ret
  exact ⟨by first | rfl | (rw [w1]; rfl) | (simp only [w1]; rfl), 0, _, by rw [alloc_eq_grow, alloc_eq_grow, grow_grow]; rfl⟩
 rw [decide_eq_false h]
 go_enter Tryz.func86, Tryz.ntmps86
 go_wp2
 go_ret
 exact ⟨by first | rfl | (rw [w0]; rfl) | (simp only [w0]; rfl), 0, _, by rw [alloc_eq_grow, alloc_eq_grow, grow_grow]; rfl⟩
def okf86 (p : Int × Int × Unit) : Bool := small p.1 && small p.2.1
def cf86 (x y : Int × Int × Unit) : Int := (fun x y => diffCmp x.1 x.2.1 y.1 y.2.1) x y
theorem swo86 : SWO (ltOf fun a b : {p : ((.st (.cons (.int .i64) (.cons (.int .i64) .nil))) : Ty).D // okf86 p = true} => cf86 a.1 b.1) := swo_diff (fun x : {p : ((.st (.cons (.int .i64) (.cons (.int .i64) .nil))) : Ty).D // okf86 p = true} => x.1.1) (fun x : {p : ((.st (.cons (.int .i64) (.cons (.int .i64) .nil))) : Ty).D // okf86 p = true} => x.1.2.1)
def zf86 : {p : ((.st (.cons (.int .i64) (.cons (.int .i64) .nil))) : Ty).D // okf86 p = true} := ⟨((.st (.cons (.int .i64) (.cons (.int .i64) .nil))) : Ty).z, by kernel_rfl⟩
theorem hs100000 (w : World) (g cap : Nat) (d : Array {p : ((.st (.cons (.int .i64) (.cons (.int .i64) .nil))) : Ty).D // okf86 p = true}) (hH : @HoldsK _ ⟨zf86⟩ (fun p : {p : ((.st (.cons (.int .i64) (.cons (.int .i64) .nil))) : Ty).D // okf86 p = true} => ((.st (.cons (.int .i64) (.cons (.int .i64) .nil))) : Ty).enc p.1) ((.st (.cons (.int .i64) (.cons (.int .i64) .nil))) : Ty).sz w g 0 d) (hb : g < w.heap.size) (hsz : d.size < 4611686018427387904) :
  Calls Tryz.prog 109 #[.slice (some ⟨g, 0, none⟩) d.size cap, .func (.func 86) #[] #[]] w fun e w' => e = .returned (.tuple #[]) ∧ ∃ n os, w' = @sortWorldK _ ⟨zf86⟩ (fun p : {p : ((.st (.cons (.int .i64) (.cons (.int .i64) .nil))) : Ty).D // okf86 p = true} => ((.st (.cons (.int .i64) (.cons (.int .i64) .nil))) : Ty).enc p.1) ((.st (.cons (.int .i64) (.cons (.int .i64) .nil))) : Ty).sz w g 0 n (@pdq _ ⟨zf86⟩ (ltOf fun a b => cf86 a.1 b.1) d 0 d.size (Lib.bitLen d.size) true true) os := by
 letI : Inhabited {p : ((.st (.cons (.int .i64) (.cons (.int .i64) .nil))) : Ty).D // okf86 p = true} := ⟨zf86⟩
 have he := enters_of Tryz.func86 (by kernel_rfl) rfl
 have hc : CmpLays Tryz.prog 86 #[] (fun p : {p : ((.st (.cons (.int .i64) (.cons (.int .i64) .nil))) : Ty).D // okf86 p = true} => ((.st (.cons (.int .i64) (.cons (.int .i64) .nil))) : Ty).enc p.1) ((.st (.cons (.int .i64) (.cons (.int .i64) .nil))) : Ty).sz (fun a b => cf86 a.1 b.1) g 0 d.size w := fun _ _ _ _ x y => cmp86 x.1.1 x.1.2.1 y.1.1 y.1.2.1 (Bool.and_eq_true_iff.1 x.2).1 (Bool.and_eq_true_iff.1 x.2).2 (Bool.and_eq_true_iff.1 y.2).1 (Bool.and_eq_true_iff.1 y.2).2 _
 exact AnyQ.slices_SortFunc_eq sort109 ((.st (.cons (.int .i64) (.cons (.int .i64) .nil))) : Ty).sz Tryz.isAgg44 Tryz.sizeOf44 (fun p : {p : ((.st (.cons (.int .i64) (.cons (.int .i64) .nil))) : Ty).D // okf86 p = true} => ((.st (.cons (.int .i64) (.cons (.int .i64) .nil))) : Ty).enc p.1) (fun _ => Ty.enc_len) (fun _ => Ty.enc_one) (fun a b => cf86 a.1 b.1) swo86 86 #[] g 0 cap d w he hc hH hb hsz
theorem hn100000 (w : World) : Calls Tryz.prog 109 #[.slice none 0 0, .func (.func 86) #[] #[]] w fun e w' => e = .returned (.tuple #[]) ∧ w' = w :=
 AnyF.slices_SortFunc_none sort109 none 0 (.func (.func 86) #[] #[]) w
theorem ss100000 : ∀ y r, (sortGD 109 44 (.st (.cons (.int .i64) (.cons (.int .i64) .nil))) 86 (sortB okf86 zf86 cf86)).sem y = some r → FnOK Tryz.prog GB G (sortGD 109 44 (.st (.cons (.int .i64) (.cons (.int .i64) .nil))) 86 (sortB okf86 zf86 cf86)) y r :=
 sortG_ok (c := Tryz.f109.body.getD .skip) Tryz.func109 (by kernel_rfl) (by kernel_rfl) rfl (fun _ _ h => (sortB_perm swo86 h).length_eq) (sortB_calls swo86 hs100000) hn100000
def sort111_ren : Go.Shelf.Ren := ⟨fun | 5 => 111 | 8 => 127 | 7 => 128 | 19 => 148 | 20 => 149 | 10 => 150 | 11 => 151 | 12 => 152 | 13 => 153 | 14 => 154 | 15 => 155 | 16 => 156 | 17 => 157 | 18 => 158 | 30 => 172 | 31 => 168 | 32 => 169 | 33 => 173 | 34 => 174 | 35 => 175 | 40 => 183 | n => n, fun | 23 => 22 | 25 => 3 | 3 => 3 | 32 => 119 | 22 => 22 | 0 => 0 | 44 => 124 | 46 => 145 | 4 => 4 | 36 => 138 | 35 => 137 | 41 => 51 | 5 => 5 | 9 => 9 | 53 => 165 | 57 => 169 | 63 => 182 | 64 => 34 | n => n, fun | n => n⟩
theorem sort111 : Go.Proofs.SlLaysM.n5 Tryz.prog sort111_ren where
 mixed := by kernel_rfl
 f5 := ⟨Tryz.f111.name, by kernel_rfl, Tryz.func111.trans (congrArg some (by kernel_rfl))⟩
 f7 := ⟨Tryz.f128.name, by kernel_rfl, Tryz.func128.trans (congrArg some (by kernel_rfl))⟩
 f8 := Tryz.func127.trans (congrArg some (by kernel_rfl))
 f10 := ⟨Tryz.f150.name, by kernel_rfl, Tryz.func150.trans (congrArg some (by kernel_rfl))⟩
 f11 := ⟨Tryz.f151.name, by kernel_rfl, Tryz.func151.trans (congrArg some (by kernel_rfl))⟩
 f12 := ⟨Tryz.f152.name, by kernel_rfl, Tryz.func152.trans (congrArg some (by kernel_rfl))⟩
 f13 := ⟨Tryz.f153.name, by kernel_rfl, Tryz.func153.trans (congrArg some (by kernel_rfl))⟩
 f14 := ⟨Tryz.f154.name, by kernel_rfl, Tryz.func154.trans (congrArg some (by kernel_rfl))⟩
 f15 := ⟨Tryz.f155.name, by kernel_rfl, Tryz.func155.trans (congrArg some (by kernel_rfl))⟩
 f16 := ⟨Tryz.f156.name, by kernel_rfl, Tryz.func156.trans (congrArg some (by kernel_rfl))⟩
 f17 := ⟨Tryz.f157.name, by kernel_rfl, Tryz.func157.trans (congrArg some (by kernel_rfl))⟩
 f18 := ⟨Tryz.f158.name, by kernel_rfl, Tryz.func158.trans (congrArg some (by kernel_rfl))⟩
 f19 := Tryz.func148.trans (congrArg some (by kernel_rfl))
 f20 := Tryz.func149.trans (congrArg some (by kernel_rfl))
 f30 := ⟨Tryz.f172.name, by kernel_rfl, Tryz.func172.trans (congrArg some (by kernel_rfl))⟩
 f31 := Tryz.func168.trans (congrArg some (by kernel_rfl))
 f32 := Tryz.func169.trans (congrArg some (by kernel_rfl))
 f33 := ⟨Tryz.f173.name, by kernel_rfl, Tryz.func173.trans (congrArg some (by kernel_rfl))⟩
 f34 := ⟨Tryz.f174.name, by kernel_rfl, Tryz.func174.trans (congrArg some (by kernel_rfl))⟩
 f35 := ⟨Tryz.f175.name, by kernel_rfl, Tryz.func175.trans (congrArg some (by kernel_rfl))⟩
 f40 := ⟨Tryz.f183.name, by kernel_rfl, Tryz.func183.trans (congrArg some (by kernel_rfl))⟩
 t0 := Tryz.underlying0
 a0 := Tryz.isAgg0
 z0 := Tryz.sizeOf0
 v0 := Tryz.zeroValue0
 t3 := Tryz.underlying3
 a3 := Tryz.isAgg3
 z3 := Tryz.sizeOf3
 v3 := Tryz.zeroValue3
 t4 := Tryz.underlying4
 a4 := Tryz.isAgg4
 z4 := Tryz.sizeOf4
 v4 := Tryz.zeroValue4
 t5 := Tryz.underlying5
 a5 := Tryz.isAgg5
 z5 := Tryz.sizeOf5
 v5 := Tryz.zeroValue5
 t9 := Tryz.underlying9
 a9 := Tryz.isAgg9
 z9 := Tryz.sizeOf9
 v9 := Tryz.zeroValue9
 t22 := Tryz.underlying22
 a22 := Tryz.isAgg22
 z22 := Tryz.sizeOf22
 v22 := Tryz.zeroValue22
 t23 := Tryz.underlying22
 a23 := Tryz.isAgg22
 z23 := Tryz.sizeOf22
 v23 := Tryz.zeroValue22
 t25 := Tryz.underlying3
 a25 := Tryz.isAgg3
 z25 := Tryz.sizeOf3
 v25 := Tryz.zeroValue3
 t32 := Tryz.underlying119
 a32 := Tryz.isAgg119
 z32 := Tryz.sizeOf119
 v32 := Tryz.zeroValue119
 t35 := Tryz.underlying137
 a35 := Tryz.isAgg137
 z35 := Tryz.sizeOf137
 v35 := Tryz.zeroValue137
 t36 := Tryz.underlying138
 a36 := Tryz.isAgg138
 z36 := Tryz.sizeOf138
 v36 := Tryz.zeroValue138
 t41 := Tryz.underlying51
 a41 := Tryz.isAgg51
 z41 := Tryz.sizeOf51
 v41 := Tryz.zeroValue51
 t44 := Tryz.underlying124
 a44 := Tryz.isAgg124
 z44 := Tryz.sizeOf124
 v44 := Tryz.zeroValue124
 t46 := Tryz.underlying145
 a46 := Tryz.isAgg145
 z46 := Tryz.sizeOf145
 v46 := Tryz.zeroValue145
 t53 := Tryz.underlying165
 a53 := Tryz.isAgg165
 z53 := Tryz.sizeOf165
 v53 := Tryz.zeroValue165
 t57 := Tryz.underlying169
 a57 := Tryz.isAgg169
 z57 := Tryz.sizeOf169
 v57 := Tryz.zeroValue169
 t63 := Tryz.underlying182
 a63 := Tryz.isAgg182
 z63 := Tryz.sizeOf182
 v63 := Tryz.zeroValue182
 t64 := Tryz.underlying34
 a64 := Tryz.isAgg34
 z64 := Tryz.sizeOf34
 v64 := Tryz.zeroValue34
theorem ss111 : ∀ y r, (sortIntD 111 3).sem y = some r → FnOK Tryz.prog GB G (sortIntD 111 3) y r :=
 sortInt_ok (c := Tryz.f111.body.getD .skip) Tryz.func111 (by kernel_rfl) (by kernel_rfl)
  (fun w g cap zs hH hb hsz => AnyM.slices_Sort_int sort111 g 0 cap zs w hH hb hsz)
  (fun w => AnyM.slices_Sort_int_none sort111 none 0 w)
end Go.GV.YtnjabmimijhjjaaGreatDoor

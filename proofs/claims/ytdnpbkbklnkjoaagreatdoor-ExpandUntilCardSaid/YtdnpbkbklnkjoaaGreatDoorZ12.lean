/-
Part of the words that the laws of this seat are proved with: no statement of its own, no conditions.
-/
import Derived.Test.YtdnpbkbklnkjoaaGreatDoorZ11
import Derived.Shelf.Strconv.AtoiAll
import Derived.Shelf.Strconv.Itoa3
import Derived.Test.YtdnpbkbklnkjoaaGreatDoorProg
import Derived.KernelRfl
import Derived.Shelf.SlSortCmp.NoneTotal
import Derived.Shelf.SortM.Plain
import Derived.Shelf.SortM.SortNone
set_option linter.unusedVariables false
set_option linter.unusedSimpArgs false
namespace Go.GV.YtdnpbkbklnkjoaaGreatDoor
open Go.Proofs Go.Sort
set_option maxRecDepth 1000000
abbrev GB : Nat → Prop := Its 5 3 4
abbrev G : World → Prop := Facts Tryz.prog 3 4
theorem gtab : Tryz.prog.globalNamed "internal/strconv.uint64pow10" = some 5 := by kernel_rfl
theorem stab : Stable GB G := facts_stable gtab
def str108_ren : Go.Shelf.Ren := ⟨fun | 172 => 108 | 244 => 150 | 245 => 151 | 247 => 176 | 279 => 177 | 280 => 178 | 281 => 179 | 282 => 180 | 287 => 206 | 316 => 207 | 171 => 109 | 205 => 208 | 321 => 223 | 322 => 224 | 243 => 152 | 246 => 181 | 283 => 209 | 284 => 210 | 285 => 211 | 286 => 212 | 129 => 192 | 317 => 225 | 318 => 226 | 319 => 227 | 320 => 228 | 337 => 231 | 338 => 232 | n => n, fun | 9 => 9 | 3 => 3 | 75 => 116 | 76 => 117 | 4 => 4 | 5 => 5 | 167 => 153 | 37 => 154 | 0 => 0 | 85 => 155 | 2 => 2 | 168 => 157 | 53 => 171 | 175 => 180 | 46 => 131 | 210 => 184 | 127 => 200 | 145 => 203 | 143 => 201 | 21 => 21 | 171 => 186 | 173 => 188 | 212 => 205 | 51 => 150 | 20 => 20 | 213 => 206 | 232 => 210 | 233 => 211 | 80 => 212 | n => n, fun | 15 => 3 | 16 => 4 | 17 => 5 | 18 => 6 | 19 => 7 | n => n⟩
theorem str108 : Go.Proofs.LaysC.n172 Tryz.prog str108_ren where
 mixed := by kernel_rfl
 f129 := Tryz.func192.trans (congrArg some (by kernel_rfl))
 f171 := Tryz.func109.trans (congrArg some (by kernel_rfl))
 f172 := Tryz.func108.trans (congrArg some (by kernel_rfl))
 f205 := Tryz.func208.trans (congrArg some (by kernel_rfl))
 f243 := Tryz.func152.trans (congrArg some (by kernel_rfl))
 f244 := Tryz.func150.trans (congrArg some (by kernel_rfl))
 f245 := Tryz.func151.trans (congrArg some (by kernel_rfl))
 f246 := Tryz.func181.trans (congrArg some (by kernel_rfl))
 f247 := Tryz.func176.trans (congrArg some (by kernel_rfl))
 f279 := Tryz.func177.trans (congrArg some (by kernel_rfl))
 f280 := Tryz.func178.trans (congrArg some (by kernel_rfl))
 f281 := Tryz.func179.trans (congrArg some (by kernel_rfl))
 f282 := Tryz.func180.trans (congrArg some (by kernel_rfl))
 f283 := Tryz.func209.trans (congrArg some (by kernel_rfl))
 f284 := Tryz.func210.trans (congrArg some (by kernel_rfl))
 f285 := Tryz.func211.trans (congrArg some (by kernel_rfl))
 f286 := Tryz.func212.trans (congrArg some (by kernel_rfl))
 f287 := Tryz.func206.trans (congrArg some (by kernel_rfl))
 f316 := Tryz.func207.trans (congrArg some (by kernel_rfl))
 f317 := Tryz.func225.trans (congrArg some (by kernel_rfl))
 f318 := Tryz.func226.trans (congrArg some (by kernel_rfl))
 f319 := Tryz.func227.trans (congrArg some (by kernel_rfl))
 f320 := Tryz.func228.trans (congrArg some (by kernel_rfl))
 f321 := Tryz.func223.trans (congrArg some (by kernel_rfl))
 f322 := Tryz.func224.trans (congrArg some (by kernel_rfl))
 f337 := Tryz.func231.trans (congrArg some (by kernel_rfl))
 f338 := Tryz.func232.trans (congrArg some (by kernel_rfl))
 t0 := Tryz.underlying0
 a0 := Tryz.isAgg0
 z0 := Tryz.sizeOf0
 v0 := Tryz.zeroValue0
 t2 := Tryz.underlying2
 a2 := Tryz.isAgg2
 z2 := Tryz.sizeOf2
 v2 := Tryz.zeroValue2
 t3 := Tryz.underlying3
 a3 := Tryz.isAgg3
 z3 := Tryz.sizeOf3
 v3 := Tryz.zeroValue3
 t4 := Tryz.underlying4
 a4 := Tryz.isAgg4
 z4 := Tryz.sizeOf4
 v4 := Tryz.zeroValue4
 t5 := Tryz.underlying5
 a5 := Tryz.isAgg5
 z5 := Tryz.sizeOf5
 v5 := Tryz.zeroValue5
 t9 := Tryz.underlying9
 a9 := Tryz.isAgg9
 z9 := Tryz.sizeOf9
 v9 := Tryz.zeroValue9
 t20 := Tryz.underlying20
 a20 := Tryz.isAgg20
 z20 := Tryz.sizeOf20
 v20 := Tryz.zeroValue20
 t21 := Tryz.underlying21
 a21 := Tryz.isAgg21
 z21 := Tryz.sizeOf21
 v21 := Tryz.zeroValue21
 t37 := Tryz.underlying154
 a37 := Tryz.isAgg154
 z37 := Tryz.sizeOf154
 v37 := Tryz.zeroValue154
 t46 := Tryz.underlying131
 a46 := Tryz.isAgg131
 z46 := Tryz.sizeOf131
 v46 := Tryz.zeroValue131
 t51 := Tryz.underlying150
 a51 := Tryz.isAgg150
 z51 := Tryz.sizeOf150
 v51 := Tryz.zeroValue150
 t53 := Tryz.underlying171
 a53 := Tryz.isAgg171
 z53 := Tryz.sizeOf171
 v53 := Tryz.zeroValue171
 t75 := Tryz.underlying116
 a75 := Tryz.isAgg116
 z75 := Tryz.sizeOf116
 v75 := Tryz.zeroValue116
 t76 := Tryz.underlying117
 a76 := Tryz.isAgg117
 z76 := Tryz.sizeOf117
 v76 := Tryz.zeroValue117
 t85 := Tryz.underlying155
 a85 := Tryz.isAgg155
 z85 := Tryz.sizeOf155
 v85 := Tryz.zeroValue155
 t127 := Tryz.underlying200
 a127 := Tryz.isAgg200
 z127 := Tryz.sizeOf200
 v127 := Tryz.zeroValue200
 t143 := Tryz.underlying201
 a143 := Tryz.isAgg201
 z143 := Tryz.sizeOf201
 v143 := Tryz.zeroValue201
 t145 := Tryz.underlying203
 a145 := Tryz.isAgg203
 z145 := Tryz.sizeOf203
 v145 := Tryz.zeroValue203
 t167 := Tryz.underlying153
 a167 := Tryz.isAgg153
 z167 := Tryz.sizeOf153
 v167 := Tryz.zeroValue153
 t168 := Tryz.underlying157
 a168 := Tryz.isAgg157
 z168 := Tryz.sizeOf157
 v168 := Tryz.zeroValue157
 t171 := Tryz.underlying186
 a171 := Tryz.isAgg186
 z171 := Tryz.sizeOf186
 v171 := Tryz.zeroValue186
 t173 := Tryz.underlying188
 a173 := Tryz.isAgg188
 z173 := Tryz.sizeOf188
 v173 := Tryz.zeroValue188
 t175 := Tryz.underlying180
 a175 := Tryz.isAgg180
 z175 := Tryz.sizeOf180
 v175 := Tryz.zeroValue180
 t210 := Tryz.underlying184
 a210 := Tryz.isAgg184
 z210 := Tryz.sizeOf184
 v210 := Tryz.zeroValue184
 t212 := Tryz.underlying205
 a212 := Tryz.isAgg205
 z212 := Tryz.sizeOf205
 v212 := Tryz.zeroValue205
 t213 := Tryz.underlying206
 a213 := Tryz.isAgg206
 z213 := Tryz.sizeOf206
 t232 := Tryz.underlying210
 a232 := Tryz.isAgg210
 z232 := Tryz.sizeOf210
 v232 := Tryz.zeroValue210
 t233 := Tryz.underlying211
 a233 := Tryz.isAgg211
 z233 := Tryz.sizeOf211
 v233 := Tryz.zeroValue211
 g15 := by kernel_rfl
 g16 := by kernel_rfl
 g17 := by kernel_rfl
 g18 := by kernel_rfl
 g19 := by kernel_rfl
 t80 := Tryz.underlying212
 a80 := Tryz.isAgg212
 z80 := Tryz.sizeOf212
 v80 := Tryz.zeroValue212
 i0 := by kernel_rfl
 i2 := by kernel_rfl
 i3 := by kernel_rfl
 i4 := by kernel_rfl
 i5 := by kernel_rfl
 i9 := by kernel_rfl
 i20 := by kernel_rfl
 i21 := by kernel_rfl
 i37 := by kernel_rfl
 i46 := by kernel_rfl
 i51 := by kernel_rfl
 i53 := by kernel_rfl
 i75 := by kernel_rfl
 i76 := by kernel_rfl
 i80 := by kernel_rfl
 i85 := by kernel_rfl
 i127 := by kernel_rfl
 i143 := by kernel_rfl
 i145 := by kernel_rfl
 i167 := by kernel_rfl
 i168 := by kernel_rfl
 i171 := by kernel_rfl
 i173 := by kernel_rfl
 i175 := by kernel_rfl
 i210 := by kernel_rfl
 i212 := by kernel_rfl
 i232 := by kernel_rfl
 i233 := by kernel_rfl
 m15 := by kernel_rfl
 m16 := by kernel_rfl
 m17 := by kernel_rfl
 m18 := by kernel_rfl
 m19 := by kernel_rfl
 c0 := by kernel_rfl
 c2 := by kernel_rfl
 c3 := by kernel_rfl
 c4 := by kernel_rfl
 c5 := by kernel_rfl
 c9 := by kernel_rfl
 c20 := by kernel_rfl
 c21 := by kernel_rfl
 c37 := by kernel_rfl
 c46 := by kernel_rfl
 c51 := by kernel_rfl
 c53 := by kernel_rfl
 c75 := by kernel_rfl
 c76 := by kernel_rfl
 c80 := by kernel_rfl
 c85 := by kernel_rfl
 c127 := by kernel_rfl
 c143 := by kernel_rfl
 c145 := by kernel_rfl
 c167 := by kernel_rfl
 c168 := by kernel_rfl
 c171 := by kernel_rfl
 c173 := by kernel_rfl
 c175 := by kernel_rfl
 c210 := by kernel_rfl
 c212 := by kernel_rfl
 c213 := by kernel_rfl
 c232 := by kernel_rfl
 c233 := by kernel_rfl
theorem ss108 : ∀ y r, (atoiD 108).sem y = some r → FnOK Tryz.prog GB G (atoiD 108) y r :=
 atoi_ok (c := Tryz.f108.body.getD .skip) Tryz.func108 (by kernel_rfl) (by kernel_rfl)
  (fun w s v hm h => (Any.strconv_Atoi_ok str108 s hm v h w).mono fun e w' q => ⟨q.1, by
   rcases q.2 with rfl | ⟨t, rfl⟩
   ·exact Go.RowKit.Below.refl _ _
   ·exact Lib.bytesWorld_below _ _ _⟩)
  (fun w s hg hl n1 n2 => by
   obtain ⟨ev, h1, h2⟩ := hg.syn
   refine (Any.strconv_Atoi_syntax str108 s hl ?_ ev w h1 h2).mono fun e w' q => by obtain ⟨N, rfl, _, _, hb⟩ := q; exact ⟨⟨_, _, rfl⟩, hb⟩
   cases hA : Lib.atoiAll s.data.toList with
   | ok v => exact absurd hA (n1 v)
   | range => exact absurd hA n2
   | _ => rfl)
  (fun w s hg hl h => by
   obtain ⟨ev, h1, h2⟩ := hg.rng
   exact (Any.strconv_Atoi_range str108 s hl h ev w h1 h2).mono fun e w' q => by obtain ⟨N, rfl, _, _, hb⟩ := q; exact ⟨⟨_, _, rfl⟩, hb⟩)
def str109_ren : Go.Shelf.Ren := ⟨fun | 171 => 109 | 243 => 152 | 246 => 181 | 283 => 209 | 284 => 210 | 285 => 211 | 286 => 212 | 129 => 192 | 317 => 225 | 318 => 226 | 319 => 227 | 320 => 228 | 337 => 231 | 338 => 232 | n => n, fun | 3 => 3 | 9 => 9 | 2 => 2 | 4 => 4 | 171 => 186 | 0 => 0 | 53 => 171 | 37 => 154 | 5 => 5 | 173 => 188 | 212 => 205 | 51 => 150 | 20 => 20 | 213 => 206 | 46 => 131 | 232 => 210 | 233 => 211 | n => n, fun | 17 => 5 | 18 => 6 | 19 => 7 | n => n⟩
theorem str109 : Go.Proofs.LaysM.n171 Tryz.prog str109_ren where
 mixed := by kernel_rfl
 f129 := Tryz.func192.trans (congrArg some (by kernel_rfl))
 f171 := Tryz.func109.trans (congrArg some (by kernel_rfl))
 f243 := Tryz.func152.trans (congrArg some (by kernel_rfl))
 f246 := Tryz.func181.trans (congrArg some (by kernel_rfl))
 f283 := Tryz.func209.trans (congrArg some (by kernel_rfl))
 f284 := Tryz.func210.trans (congrArg some (by kernel_rfl))
 f285 := Tryz.func211.trans (congrArg some (by kernel_rfl))
 f286 := Tryz.func212.trans (congrArg some (by kernel_rfl))
 f317 := Tryz.func225.trans (congrArg some (by kernel_rfl))
 f318 := Tryz.func226.trans (congrArg some (by kernel_rfl))
 f319 := Tryz.func227.trans (congrArg some (by kernel_rfl))
 f320 := Tryz.func228.trans (congrArg some (by kernel_rfl))
 f337 := Tryz.func231.trans (congrArg some (by kernel_rfl))
 f338 := Tryz.func232.trans (congrArg some (by kernel_rfl))
 t0 := Tryz.underlying0
 a0 := Tryz.isAgg0
 z0 := Tryz.sizeOf0
 v0 := Tryz.zeroValue0
 t2 := Tryz.underlying2
 a2 := Tryz.isAgg2
 z2 := Tryz.sizeOf2
 v2 := Tryz.zeroValue2
 t3 := Tryz.underlying3
 a3 := Tryz.isAgg3
 z3 := Tryz.sizeOf3
 v3 := Tryz.zeroValue3
 t4 := Tryz.underlying4
 a4 := Tryz.isAgg4
 z4 := Tryz.sizeOf4
 v4 := Tryz.zeroValue4
 t5 := Tryz.underlying5
 a5 := Tryz.isAgg5
 z5 := Tryz.sizeOf5
 v5 := Tryz.zeroValue5
 t9 := Tryz.underlying9
 a9 := Tryz.isAgg9
 z9 := Tryz.sizeOf9
 v9 := Tryz.zeroValue9
 t20 := Tryz.underlying20
 a20 := Tryz.isAgg20
 z20 := Tryz.sizeOf20
 v20 := Tryz.zeroValue20
 t37 := Tryz.underlying154
 a37 := Tryz.isAgg154
 z37 := Tryz.sizeOf154
 v37 := Tryz.zeroValue154
 t46 := Tryz.underlying131
 a46 := Tryz.isAgg131
 z46 := Tryz.sizeOf131
 v46 := Tryz.zeroValue131
 t51 := Tryz.underlying150
 a51 := Tryz.isAgg150
 z51 := Tryz.sizeOf150
 v51 := Tryz.zeroValue150
 t53 := Tryz.underlying171
 a53 := Tryz.isAgg171
 z53 := Tryz.sizeOf171
 v53 := Tryz.zeroValue171
 t171 := Tryz.underlying186
 a171 := Tryz.isAgg186
 z171 := Tryz.sizeOf186
 v171 := Tryz.zeroValue186
 t173 := Tryz.underlying188
 a173 := Tryz.isAgg188
 z173 := Tryz.sizeOf188
 v173 := Tryz.zeroValue188
 t212 := Tryz.underlying205
 a212 := Tryz.isAgg205
 z212 := Tryz.sizeOf205
 v212 := Tryz.zeroValue205
 t213 := Tryz.underlying206
 a213 := Tryz.isAgg206
 z213 := Tryz.sizeOf206
 t232 := Tryz.underlying210
 a232 := Tryz.isAgg210
 z232 := Tryz.sizeOf210
 v232 := Tryz.zeroValue210
 t233 := Tryz.underlying211
 a233 := Tryz.isAgg211
 z233 := Tryz.sizeOf211
 v233 := Tryz.zeroValue211
 g17 := by kernel_rfl
 g18 := by kernel_rfl
 g19 := by kernel_rfl
 i0 := by kernel_rfl
 i2 := by kernel_rfl
 i3 := by kernel_rfl
 i4 := by kernel_rfl
 i5 := by kernel_rfl
 i9 := by kernel_rfl
 i20 := by kernel_rfl
 i37 := by kernel_rfl
 i46 := by kernel_rfl
 i51 := by kernel_rfl
 i53 := by kernel_rfl
 i171 := by kernel_rfl
 i173 := by kernel_rfl
 i212 := by kernel_rfl
 i232 := by kernel_rfl
 i233 := by kernel_rfl
 m17 := by kernel_rfl
 m18 := by kernel_rfl
 m19 := by kernel_rfl
theorem ss109 : ∀ y r, (itoaD 109).sem y = some r → FnOK Tryz.prog GB G (itoaD 109) y r :=
 itoa_ok (c := Tryz.f109.body.getD .skip) Tryz.func109 (by kernel_rfl) (by kernel_rfl) fun w m hg h0 h1 => (Any.strconv_Itoa str109 m h0 h1 w hg.tab).mono fun e w' h => ⟨h.1, by obtain ⟨k, os, rfl⟩ := h.2; exact below_gd w k os⟩
def sort112_ren : Go.Shelf.Ren := ⟨fun | 6 => 112 | 15 => 155 | 14 => 154 | 28 => 191 | 29 => 192 | 20 => 183 | 21 => 184 | 22 => 185 | 23 => 186 | 24 => 187 | 25 => 188 | 26 => 189 | 27 => 190 | 46 => 213 | 47 => 214 | 48 => 215 | 49 => 216 | 50 => 217 | 57 => 229 | n => n, fun | 22 => 23 | 24 => 89 | 25 => 101 | 3 => 3 | 39 => 131 | 0 => 0 | 53 => 150 | 55 => 171 | 4 => 4 | 46 => 164 | 45 => 163 | 50 => 40 | 5 => 5 | 9 => 9 | 66 => 190 | 70 => 194 | 76 => 207 | 77 => 83 | n => n, fun | n => n⟩
theorem sort112 : Go.Proofs.SlLaysF0.n6 Tryz.prog sort112_ren where
 mixed := by kernel_rfl
 f6 := ⟨Tryz.f112.name, by kernel_rfl, Tryz.func112.trans (congrArg some (by kernel_rfl))⟩
 f14 := ⟨Tryz.f154.name, by kernel_rfl, Tryz.func154.trans (congrArg some (by kernel_rfl))⟩
 f15 := Tryz.func155.trans (congrArg some (by kernel_rfl))
 f20 := ⟨Tryz.f183.name, by kernel_rfl, Tryz.func183.trans (congrArg some (by kernel_rfl))⟩
 f21 := ⟨Tryz.f184.name, by kernel_rfl, Tryz.func184.trans (congrArg some (by kernel_rfl))⟩
 f22 := ⟨Tryz.f185.name, by kernel_rfl, Tryz.func185.trans (congrArg some (by kernel_rfl))⟩
 f23 := ⟨Tryz.f186.name, by kernel_rfl, Tryz.func186.trans (congrArg some (by kernel_rfl))⟩
 f24 := ⟨Tryz.f187.name, by kernel_rfl, Tryz.func187.trans (congrArg some (by kernel_rfl))⟩
 f25 := ⟨Tryz.f188.name, by kernel_rfl, Tryz.func188.trans (congrArg some (by kernel_rfl))⟩
 f26 := ⟨Tryz.f189.name, by kernel_rfl, Tryz.func189.trans (congrArg some (by kernel_rfl))⟩
 f27 := ⟨Tryz.f190.name, by kernel_rfl, Tryz.func190.trans (congrArg some (by kernel_rfl))⟩
 f28 := Tryz.func191.trans (congrArg some (by kernel_rfl))
 f29 := Tryz.func192.trans (congrArg some (by kernel_rfl))
 f46 := ⟨Tryz.f213.name, by kernel_rfl, Tryz.func213.trans (congrArg some (by kernel_rfl))⟩
 f47 := Tryz.func214.trans (congrArg some (by kernel_rfl))
 f48 := Tryz.func215.trans (congrArg some (by kernel_rfl))
 f49 := ⟨Tryz.f216.name, by kernel_rfl, Tryz.func216.trans (congrArg some (by kernel_rfl))⟩
 f50 := ⟨Tryz.f217.name, by kernel_rfl, Tryz.func217.trans (congrArg some (by kernel_rfl))⟩
 f57 := ⟨Tryz.f229.name, by kernel_rfl, Tryz.func229.trans (congrArg some (by kernel_rfl))⟩
 t0 := Tryz.underlying0
 a0 := Tryz.isAgg0
 z0 := Tryz.sizeOf0
 v0 := Tryz.zeroValue0
 t3 := Tryz.underlying3
 a3 := Tryz.isAgg3
 z3 := Tryz.sizeOf3
 v3 := Tryz.zeroValue3
 t4 := Tryz.underlying4
 a4 := Tryz.isAgg4
 z4 := Tryz.sizeOf4
 v4 := Tryz.zeroValue4
 t5 := Tryz.underlying5
 a5 := Tryz.isAgg5
 z5 := Tryz.sizeOf5
 v5 := Tryz.zeroValue5
 t9 := Tryz.underlying9
 a9 := Tryz.isAgg9
 z9 := Tryz.sizeOf9
 v9 := Tryz.zeroValue9
 t22 := Tryz.underlying23
 a22 := Tryz.isAgg23
 z22 := Tryz.sizeOf23
 v22 := Tryz.zeroValue23
 t25 := Tryz.underlying101
 a25 := Tryz.isAgg101
 z25 := Tryz.sizeOf101
 v25 := Tryz.zeroValue101
 t39 := Tryz.underlying131
 a39 := Tryz.isAgg131
 z39 := Tryz.sizeOf131
 v39 := Tryz.zeroValue131
 t45 := Tryz.underlying163
 a45 := Tryz.isAgg163
 z45 := Tryz.sizeOf163
 v45 := Tryz.zeroValue163
 t46 := Tryz.underlying164
 a46 := Tryz.isAgg164
 z46 := Tryz.sizeOf164
 v46 := Tryz.zeroValue164
 t50 := Tryz.underlying40
 a50 := Tryz.isAgg40
 z50 := Tryz.sizeOf40
 v50 := Tryz.zeroValue40
 t53 := Tryz.underlying150
 a53 := Tryz.isAgg150
 z53 := Tryz.sizeOf150
 v53 := Tryz.zeroValue150
 t55 := Tryz.underlying171
 a55 := Tryz.isAgg171
 z55 := Tryz.sizeOf171
 v55 := Tryz.zeroValue171
 t66 := Tryz.underlying190
 a66 := Tryz.isAgg190
 z66 := Tryz.sizeOf190
 v66 := Tryz.zeroValue190
 t70 := Tryz.underlying194
 a70 := Tryz.isAgg194
 z70 := Tryz.sizeOf194
 v70 := Tryz.zeroValue194
 t76 := Tryz.underlying207
 a76 := Tryz.isAgg207
 z76 := Tryz.sizeOf207
 v76 := Tryz.zeroValue207
 t77 := Tryz.underlying83
 a77 := Tryz.isAgg83
 z77 := Tryz.sizeOf83
 v77 := Tryz.zeroValue83
theorem cmp80 (a0 a1 b0 b1 : Int) (h0 : small a0 = true) (h1 : small a1 = true) (h2 : small b0 = true) (h3 : small b1 = true) (W : World) : Calls Tryz.prog 80 #[.agg #[.int .i64 a0, .int .i64 a1], .agg #[.int .i64 b0, .int .i64 b1]] W fun e w' => e = .returned (.int .i64 (diffCmp a0 a1 b0 b1)) ∧ ∃ q os', w' = grow (W.drewN q) os' := by
 have g0 := small_ok h0
 have g1 := small_ok h1
 have g2 := small_ok h2
 have g3 := small_ok h3
 have w0 : IntKind.i64.wrap (a0 - b0) = a0 - b0 := Go.IntWalk.i64_in _ ⟨by omega, by omega⟩
 have w1 : IntKind.i64.wrap (a1 - b1) = a1 - b1 := Go.IntWalk.i64_in _ ⟨by omega, by omega⟩
 unfold diffCmp
 by_cases h : a0 = b0
 ·rw [decide_eq_true h]
  go_enter Tryz.func80, Tryz.ntmps80
  go_wp2
  go_ret
  exact ⟨by first | rfl | (rw [w1]; rfl) | (simp only [w1]; rfl), 0, _, by rw [alloc_eq_grow, alloc_eq_grow, grow_grow]; rfl⟩
 rw [decide_eq_false h]
 go_enter Tryz.func80, Tryz.ntmps80
 go_wp2
 go_ret
 exact ⟨by first | rfl | (rw [w0]; rfl) | (simp only [w0]; rfl), 0, _, by rw [alloc_eq_grow, alloc_eq_grow, grow_grow]; rfl⟩
def okf80 (p : Int × Int × Unit) : Bool := small p.1 && small p.2.1
def cf80 (x y : Int × Int × Unit) : Int := (fun x y => diffCmp x.1 x.2.1 y.1 y.2.1) x y
theorem swo80 : SWO (ltOf fun a b : {p : ((.st (.cons (.int .i64) (.cons (.int .i64) .nil))) : Ty).D // okf80 p = true} => cf80 a.1 b.1) := swo_diff (fun x : {p : ((.st (.cons (.int .i64) (.cons (.int .i64) .nil))) : Ty).D // okf80 p = true} => x.1.1) (fun x : {p : ((.st (.cons (.int .i64) (.cons (.int .i64) .nil))) : Ty).D // okf80 p = true} => x.1.2.1)
def zf80 : {p : ((.st (.cons (.int .i64) (.cons (.int .i64) .nil))) : Ty).D // okf80 p = true} := ⟨((.st (.cons (.int .i64) (.cons (.int .i64) .nil))) : Ty).z, by kernel_rfl⟩
theorem hs100009 (w : World) (g cap : Nat) (d : Array {p : ((.st (.cons (.int .i64) (.cons (.int .i64) .nil))) : Ty).D // okf80 p = true}) (hH : @HoldsK _ ⟨zf80⟩ (fun p : {p : ((.st (.cons (.int .i64) (.cons (.int .i64) .nil))) : Ty).D // okf80 p = true} => ((.st (.cons (.int .i64) (.cons (.int .i64) .nil))) : Ty).enc p.1) ((.st (.cons (.int .i64) (.cons (.int .i64) .nil))) : Ty).sz w g 0 d) (hb : g < w.heap.size) (hsz : d.size < 4611686018427387904) :
  Calls Tryz.prog 112 #[.slice (some ⟨g, 0, none⟩) d.size cap, .func (.func 80) #[] #[]] w fun e w' => e = .returned (.tuple #[]) ∧ ∃ n os, w' = @sortWorldK _ ⟨zf80⟩ (fun p : {p : ((.st (.cons (.int .i64) (.cons (.int .i64) .nil))) : Ty).D // okf80 p = true} => ((.st (.cons (.int .i64) (.cons (.int .i64) .nil))) : Ty).enc p.1) ((.st (.cons (.int .i64) (.cons (.int .i64) .nil))) : Ty).sz w g 0 n (@pdq _ ⟨zf80⟩ (ltOf fun a b => cf80 a.1 b.1) d 0 d.size (Lib.bitLen d.size) true true) os := by
 letI : Inhabited {p : ((.st (.cons (.int .i64) (.cons (.int .i64) .nil))) : Ty).D // okf80 p = true} := ⟨zf80⟩
 have he := enters_of Tryz.func80 (by kernel_rfl) rfl
 have hc : CmpLays Tryz.prog 80 #[] (fun p : {p : ((.st (.cons (.int .i64) (.cons (.int .i64) .nil))) : Ty).D // okf80 p = true} => ((.st (.cons (.int .i64) (.cons (.int .i64) .nil))) : Ty).enc p.1) ((.st (.cons (.int .i64) (.cons (.int .i64) .nil))) : Ty).sz (fun a b => cf80 a.1 b.1) g 0 d.size w := fun _ _ _ _ x y => cmp80 x.1.1 x.1.2.1 y.1.1 y.1.2.1 (Bool.and_eq_true_iff.1 x.2).1 (Bool.and_eq_true_iff.1 x.2).2 (Bool.and_eq_true_iff.1 y.2).1 (Bool.and_eq_true_iff.1 y.2).2 _
 exact AnyQ.slices_SortFunc_eq sort112 ((.st (.cons (.int .i64) (.cons (.int .i64) .nil))) : Ty).sz Tryz.isAgg89 Tryz.sizeOf89 (fun p : {p : ((.st (.cons (.int .i64) (.cons (.int .i64) .nil))) : Ty).D // okf80 p = true} => ((.st (.cons (.int .i64) (.cons (.int .i64) .nil))) : Ty).enc p.1) (fun _ => Ty.enc_len) (fun _ => Ty.enc_one) (fun a b => cf80 a.1 b.1) swo80 80 #[] g 0 cap d w he hc hH hb hsz
theorem hn100009 (w : World) : Calls Tryz.prog 112 #[.slice none 0 0, .func (.func 80) #[] #[]] w fun e w' => e = .returned (.tuple #[]) ∧ w' = w :=
 AnyF.slices_SortFunc_none sort112 none 0 (.func (.func 80) #[] #[]) w
theorem ss100009 : ∀ y r, (sortGD 112 89 (.st (.cons (.int .i64) (.cons (.int .i64) .nil))) 80 (sortB okf80 zf80 cf80)).sem y = some r → FnOK Tryz.prog GB G (sortGD 112 89 (.st (.cons (.int .i64) (.cons (.int .i64) .nil))) 80 (sortB okf80 zf80 cf80)) y r :=
 sortG_ok (c := Tryz.f112.body.getD .skip) Tryz.func112 (by kernel_rfl) (by kernel_rfl) rfl (fun _ _ h => (sortB_perm swo80 h).length_eq) (sortB_calls swo80 hs100009) hn100009
def sort114_ren : Go.Shelf.Ren := ⟨fun | 5 => 114 | 8 => 155 | 7 => 156 | 19 => 191 | 20 => 192 | 10 => 193 | 11 => 194 | 12 => 195 | 13 => 196 | 14 => 197 | 15 => 198 | 16 => 125 | 17 => 199 | 18 => 200 | 30 => 218 | 31 => 214 | 32 => 215 | 33 => 219 | 34 => 220 | 35 => 166 | 40 => 230 | n => n, fun | 23 => 22 | 25 => 3 | 3 => 3 | 32 => 131 | 22 => 22 | 0 => 0 | 44 => 150 | 46 => 171 | 4 => 4 | 36 => 164 | 35 => 163 | 41 => 40 | 5 => 5 | 9 => 9 | 53 => 190 | 57 => 194 | 63 => 207 | 64 => 83 | n => n, fun | n => n⟩
theorem sort114 : Go.Proofs.SlLaysM.n5 Tryz.prog sort114_ren where
 mixed := by kernel_rfl
 f5 := ⟨Tryz.f114.name, by kernel_rfl, Tryz.func114.trans (congrArg some (by kernel_rfl))⟩
 f7 := ⟨Tryz.f156.name, by kernel_rfl, Tryz.func156.trans (congrArg some (by kernel_rfl))⟩
 f8 := Tryz.func155.trans (congrArg some (by kernel_rfl))
 f10 := ⟨Tryz.f193.name, by kernel_rfl, Tryz.func193.trans (congrArg some (by kernel_rfl))⟩
 f11 := ⟨Tryz.f194.name, by kernel_rfl, Tryz.func194.trans (congrArg some (by kernel_rfl))⟩
 f12 := ⟨Tryz.f195.name, by kernel_rfl, Tryz.func195.trans (congrArg some (by kernel_rfl))⟩
 f13 := ⟨Tryz.f196.name, by kernel_rfl, Tryz.func196.trans (congrArg some (by kernel_rfl))⟩
 f14 := ⟨Tryz.f197.name, by kernel_rfl, Tryz.func197.trans (congrArg some (by kernel_rfl))⟩
 f15 := ⟨Tryz.f198.name, by kernel_rfl, Tryz.func198.trans (congrArg some (by kernel_rfl))⟩
 f16 := ⟨Tryz.f125.name, by kernel_rfl, Tryz.func125.trans (congrArg some (by kernel_rfl))⟩
 f17 := ⟨Tryz.f199.name, by kernel_rfl, Tryz.func199.trans (congrArg some (by kernel_rfl))⟩
 f18 := ⟨Tryz.f200.name, by kernel_rfl, Tryz.func200.trans (congrArg some (by kernel_rfl))⟩
 f19 := Tryz.func191.trans (congrArg some (by kernel_rfl))
 f20 := Tryz.func192.trans (congrArg some (by kernel_rfl))
 f30 := ⟨Tryz.f218.name, by kernel_rfl, Tryz.func218.trans (congrArg some (by kernel_rfl))⟩
 f31 := Tryz.func214.trans (congrArg some (by kernel_rfl))
 f32 := Tryz.func215.trans (congrArg some (by kernel_rfl))
 f33 := ⟨Tryz.f219.name, by kernel_rfl, Tryz.func219.trans (congrArg some (by kernel_rfl))⟩
 f34 := ⟨Tryz.f220.name, by kernel_rfl, Tryz.func220.trans (congrArg some (by kernel_rfl))⟩
 f35 := ⟨Tryz.f166.name, by kernel_rfl, Tryz.func166.trans (congrArg some (by kernel_rfl))⟩
 f40 := ⟨Tryz.f230.name, by kernel_rfl, Tryz.func230.trans (congrArg some (by kernel_rfl))⟩
 t0 := Tryz.underlying0
 a0 := Tryz.isAgg0
 z0 := Tryz.sizeOf0
 v0 := Tryz.zeroValue0
 t3 := Tryz.underlying3
 a3 := Tryz.isAgg3
 z3 := Tryz.sizeOf3
 v3 := Tryz.zeroValue3
 t4 := Tryz.underlying4
 a4 := Tryz.isAgg4
 z4 := Tryz.sizeOf4
 v4 := Tryz.zeroValue4
 t5 := Tryz.underlying5
 a5 := Tryz.isAgg5
 z5 := Tryz.sizeOf5
 v5 := Tryz.zeroValue5
 t9 := Tryz.underlying9
 a9 := Tryz.isAgg9
 z9 := Tryz.sizeOf9
 v9 := Tryz.zeroValue9
 t22 := Tryz.underlying22
 a22 := Tryz.isAgg22
 z22 := Tryz.sizeOf22
 v22 := Tryz.zeroValue22
 t23 := Tryz.underlying22
 a23 := Tryz.isAgg22
 z23 := Tryz.sizeOf22
 v23 := Tryz.zeroValue22
 t25 := Tryz.underlying3
 a25 := Tryz.isAgg3
 z25 := Tryz.sizeOf3
 v25 := Tryz.zeroValue3
 t32 := Tryz.underlying131
 a32 := Tryz.isAgg131
 z32 := Tryz.sizeOf131
 v32 := Tryz.zeroValue131
 t35 := Tryz.underlying163
 a35 := Tryz.isAgg163
 z35 := Tryz.sizeOf163
 v35 := Tryz.zeroValue163
 t36 := Tryz.underlying164
 a36 := Tryz.isAgg164
 z36 := Tryz.sizeOf164
 v36 := Tryz.zeroValue164
 t41 := Tryz.underlying40
 a41 := Tryz.isAgg40
 z41 := Tryz.sizeOf40
 v41 := Tryz.zeroValue40
 t44 := Tryz.underlying150
 a44 := Tryz.isAgg150
 z44 := Tryz.sizeOf150
 v44 := Tryz.zeroValue150
 t46 := Tryz.underlying171
 a46 := Tryz.isAgg171
 z46 := Tryz.sizeOf171
 v46 := Tryz.zeroValue171
 t53 := Tryz.underlying190
 a53 := Tryz.isAgg190
 z53 := Tryz.sizeOf190
 v53 := Tryz.zeroValue190
 t57 := Tryz.underlying194
 a57 := Tryz.isAgg194
 z57 := Tryz.sizeOf194
 v57 := Tryz.zeroValue194
 t63 := Tryz.underlying207
 a63 := Tryz.isAgg207
 z63 := Tryz.sizeOf207
 v63 := Tryz.zeroValue207
 t64 := Tryz.underlying83
 a64 := Tryz.isAgg83
 z64 := Tryz.sizeOf83
 v64 := Tryz.zeroValue83
theorem ss114 : ∀ y r, (sortIntD 114 3).sem y = some r → FnOK Tryz.prog GB G (sortIntD 114 3) y r :=
 sortInt_ok (c := Tryz.f114.body.getD .skip) Tryz.func114 (by kernel_rfl) (by kernel_rfl)
  (fun w g cap zs hH hb hsz => AnyM.slices_Sort_int sort114 g 0 cap zs w hH hb hsz)
  (fun w => AnyM.slices_Sort_int_none sort114 none 0 w)
end Go.GV.YtdnpbkbklnkjoaaGreatDoor

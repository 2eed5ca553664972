/-
Part of the words that the laws of this seat are proved with: no statement of its own, no conditions.
-/
import Derived.Test.YtidgapgbnlcjgaaGreatDoorX9
import Derived.Shelf.Strconv.AtoiAll
import Derived.Shelf.Strconv.Itoa3
import Derived.Test.YtidgapgbnlcjgaaGreatDoorProg
import Derived.KernelRfl
import Derived.Shelf.SlSortCmp.NoneTotal
import Derived.Shelf.SortM.Plain
import Derived.Shelf.SortM.SortNone
set_option linter.unusedVariables false
set_option linter.unusedSimpArgs false
namespace Go.GV.YtidgapgbnlcjgaaGreatDoor
open Go.Proofs Go.Sort
set_option maxRecDepth 1000000
abbrev GB :Nat→Prop:=Its 0 4 5
abbrev G :World→Prop:=Facts Tryz.prog 4 5
theorem gtab :Tryz.prog.globalNamed "internal/strconv.uint64pow10" = some 0:=by kernel_rfl
theorem stab :jI GB G:=sA1 gtab
def hM1 :Go.Shelf.Ren:=⟨fun | 171=>77 | 243=>134 | 246=>202 | 283=>250 | 284=>251 | 285=>252 | 286=>253 | 129=>177 | 317=>290 | 318=>291 | 319=>292 | 320=>293 | 337=>321 | 338=>322 | n=>n,fun | 3=>3 | 9=>9 | 2=>2 | 4=>4 | 171=>228 | 0=>0 | 53=>175 | 37=>60 | 5=>5 | 173=>230 | 212=>257 | 51=>173 | 20=>20 | 213=>258 | 46=>124 | 232=>293 | 233=>294 | n=>n,fun | 17=>0 | 18=>6 | 19=>7 | n=>n⟩
theorem wX1 :Go.Proofs.LaysM.n171 Tryz.prog hM1 where
 mixed:=by kernel_rfl
 f129:=Tryz.func177.trans (congrArg some (by kernel_rfl))
 f171:=Tryz.func77.trans (congrArg some (by kernel_rfl))
 f243:=Tryz.func134.trans (congrArg some (by kernel_rfl))
 f246:=Tryz.func202.trans (congrArg some (by kernel_rfl))
 f283:=Tryz.func250.trans (congrArg some (by kernel_rfl))
 f284:=Tryz.func251.trans (congrArg some (by kernel_rfl))
 f285:=Tryz.func252.trans (congrArg some (by kernel_rfl))
 f286:=Tryz.func253.trans (congrArg some (by kernel_rfl))
 f317:=Tryz.func290.trans (congrArg some (by kernel_rfl))
 f318:=Tryz.func291.trans (congrArg some (by kernel_rfl))
 f319:=Tryz.func292.trans (congrArg some (by kernel_rfl))
 f320:=Tryz.func293.trans (congrArg some (by kernel_rfl))
 f337:=Tryz.func321.trans (congrArg some (by kernel_rfl))
 f338:=Tryz.func322.trans (congrArg some (by kernel_rfl))
 t0:=Tryz.underlying0
 a0:=Tryz.isAgg0
 z0:=Tryz.sizeOf0
 v0:=Tryz.zeroValue0
 t2:=Tryz.underlying2
 a2:=Tryz.isAgg2
 z2:=Tryz.sizeOf2
 v2:=Tryz.zeroValue2
 t3:=Tryz.underlying3
 a3:=Tryz.isAgg3
 z3:=Tryz.sizeOf3
 v3:=Tryz.zeroValue3
 t4:=Tryz.underlying4
 a4:=Tryz.isAgg4
 z4:=Tryz.sizeOf4
 v4:=Tryz.zeroValue4
 t5:=Tryz.underlying5
 a5:=Tryz.isAgg5
 z5:=Tryz.sizeOf5
 v5:=Tryz.zeroValue5
 t9:=Tryz.underlying9
 a9:=Tryz.isAgg9
 z9:=Tryz.sizeOf9
 v9:=Tryz.zeroValue9
 t20:=Tryz.underlying20
 a20:=Tryz.isAgg20
 z20:=Tryz.sizeOf20
 v20:=Tryz.zeroValue20
 t37:=Tryz.underlying60
 a37:=Tryz.isAgg60
 z37:=Tryz.sizeOf60
 v37:=Tryz.zeroValue60
 t46:=Tryz.underlying124
 a46:=Tryz.isAgg124
 z46:=Tryz.sizeOf124
 v46:=Tryz.zeroValue124
 t51:=Tryz.underlying173
 a51:=Tryz.isAgg173
 z51:=Tryz.sizeOf173
 v51:=Tryz.zeroValue173
 t53:=Tryz.underlying175
 a53:=Tryz.isAgg175
 z53:=Tryz.sizeOf175
 v53:=Tryz.zeroValue175
 t171:=Tryz.underlying228
 a171:=Tryz.isAgg228
 z171:=Tryz.sizeOf228
 v171:=Tryz.zeroValue228
 t173:=Tryz.underlying230
 a173:=Tryz.isAgg230
 z173:=Tryz.sizeOf230
 v173:=Tryz.zeroValue230
 t212:=Tryz.underlying257
 a212:=Tryz.isAgg257
 z212:=Tryz.sizeOf257
 v212:=Tryz.zeroValue257
 t213:=Tryz.underlying258
 a213:=Tryz.isAgg258
 z213:=Tryz.sizeOf258
 t232:=Tryz.underlying293
 a232:=Tryz.isAgg293
 z232:=Tryz.sizeOf293
 v232:=Tryz.zeroValue293
 t233:=Tryz.underlying294
 a233:=Tryz.isAgg294
 z233:=Tryz.sizeOf294
 v233:=Tryz.zeroValue294
 g17:=by kernel_rfl
 g18:=by kernel_rfl
 g19:=by kernel_rfl
 i0:=by kernel_rfl
 i2:=by kernel_rfl
 i3:=by kernel_rfl
 i4:=by kernel_rfl
 i5:=by kernel_rfl
 i9:=by kernel_rfl
 i20:=by kernel_rfl
 i37:=by kernel_rfl
 i46:=by kernel_rfl
 i51:=by kernel_rfl
 i53:=by kernel_rfl
 i171:=by kernel_rfl
 i173:=by kernel_rfl
 i212:=by kernel_rfl
 i232:=by kernel_rfl
 i233:=by kernel_rfl
 m17:=by kernel_rfl
 m18:=by kernel_rfl
 m19:=by kernel_rfl
theorem ss77 :∀y r,(dC1 77).sem y=some r→FnOK Tryz.prog GB G (dC1 77) y r:=
 pU1 (c:=Tryz.f77.body.getD .skip) Tryz.func77 (by kernel_rfl) (by kernel_rfl) fun w m hg h0 h1=>(Any.strconv_Itoa wX1 m h0 h1 w hg.tab).mono fun e w' h=>⟨h.1,by obtain⟨k,os,rfl⟩:=h.2;exact sO1 w k os⟩
def nH1 :Go.Shelf.Ren:=⟨fun | 172=>211 | 244=>261 | 245=>262 | 247=>301 | 279=>302 | 280=>303 | 281=>304 | 282=>305 | 287=>325 | 316=>326 | 171=>77 | 205=>327 | 321=>343 | 322=>344 | 243=>134 | 246=>202 | 283=>250 | 284=>251 | 285=>252 | 286=>253 | 129=>177 | 317=>290 | 318=>291 | 319=>292 | 320=>293 | 337=>321 | 338=>322 | n=>n,fun | 9=>9 | 3=>3 | 75=>195 | 76=>196 | 4=>4 | 5=>5 | 167=>262 | 37=>60 | 0=>0 | 85=>263 | 2=>2 | 168=>265 | 53=>175 | 175=>282 | 46=>124 | 210=>286 | 127=>232 | 145=>298 | 143=>296 | 21=>21 | 171=>228 | 173=>230 | 212=>257 | 51=>173 | 20=>20 | 213=>258 | 232=>293 | 233=>294 | 80=>198 | n=>n,fun | 15=>4 | 16=>5 | 17=>0 | 18=>6 | 19=>7 | n=>n⟩
theorem xK1 :Go.Proofs.LaysC.n172 Tryz.prog nH1 where
 mixed:=by kernel_rfl
 f129:=Tryz.func177.trans (congrArg some (by kernel_rfl))
 f171:=Tryz.func77.trans (congrArg some (by kernel_rfl))
 f172:=Tryz.func211.trans (congrArg some (by kernel_rfl))
 f205:=Tryz.func327.trans (congrArg some (by kernel_rfl))
 f243:=Tryz.func134.trans (congrArg some (by kernel_rfl))
 f244:=Tryz.func261.trans (congrArg some (by kernel_rfl))
 f245:=Tryz.func262.trans (congrArg some (by kernel_rfl))
 f246:=Tryz.func202.trans (congrArg some (by kernel_rfl))
 f247:=Tryz.func301.trans (congrArg some (by kernel_rfl))
 f279:=Tryz.func302.trans (congrArg some (by kernel_rfl))
 f280:=Tryz.func303.trans (congrArg some (by kernel_rfl))
 f281:=Tryz.func304.trans (congrArg some (by kernel_rfl))
 f282:=Tryz.func305.trans (congrArg some (by kernel_rfl))
 f283:=Tryz.func250.trans (congrArg some (by kernel_rfl))
 f284:=Tryz.func251.trans (congrArg some (by kernel_rfl))
 f285:=Tryz.func252.trans (congrArg some (by kernel_rfl))
 f286:=Tryz.func253.trans (congrArg some (by kernel_rfl))
 f287:=Tryz.func325.trans (congrArg some (by kernel_rfl))
 f316:=Tryz.func326.trans (congrArg some (by kernel_rfl))
 f317:=Tryz.func290.trans (congrArg some (by kernel_rfl))
 f318:=Tryz.func291.trans (congrArg some (by kernel_rfl))
 f319:=Tryz.func292.trans (congrArg some (by kernel_rfl))
 f320:=Tryz.func293.trans (congrArg some (by kernel_rfl))
 f321:=Tryz.func343.trans (congrArg some (by kernel_rfl))
 f322:=Tryz.func344.trans (congrArg some (by kernel_rfl))
 f337:=Tryz.func321.trans (congrArg some (by kernel_rfl))
 f338:=Tryz.func322.trans (congrArg some (by kernel_rfl))
 t0:=Tryz.underlying0
 a0:=Tryz.isAgg0
 z0:=Tryz.sizeOf0
 v0:=Tryz.zeroValue0
 t2:=Tryz.underlying2
 a2:=Tryz.isAgg2
 z2:=Tryz.sizeOf2
 v2:=Tryz.zeroValue2
 t3:=Tryz.underlying3
 a3:=Tryz.isAgg3
 z3:=Tryz.sizeOf3
 v3:=Tryz.zeroValue3
 t4:=Tryz.underlying4
 a4:=Tryz.isAgg4
 z4:=Tryz.sizeOf4
 v4:=Tryz.zeroValue4
 t5:=Tryz.underlying5
 a5:=Tryz.isAgg5
 z5:=Tryz.sizeOf5
 v5:=Tryz.zeroValue5
 t9:=Tryz.underlying9
 a9:=Tryz.isAgg9
 z9:=Tryz.sizeOf9
 v9:=Tryz.zeroValue9
 t20:=Tryz.underlying20
 a20:=Tryz.isAgg20
 z20:=Tryz.sizeOf20
 v20:=Tryz.zeroValue20
 t21:=Tryz.underlying21
 a21:=Tryz.isAgg21
 z21:=Tryz.sizeOf21
 v21:=Tryz.zeroValue21
 t37:=Tryz.underlying60
 a37:=Tryz.isAgg60
 z37:=Tryz.sizeOf60
 v37:=Tryz.zeroValue60
 t46:=Tryz.underlying124
 a46:=Tryz.isAgg124
 z46:=Tryz.sizeOf124
 v46:=Tryz.zeroValue124
 t51:=Tryz.underlying173
 a51:=Tryz.isAgg173
 z51:=Tryz.sizeOf173
 v51:=Tryz.zeroValue173
 t53:=Tryz.underlying175
 a53:=Tryz.isAgg175
 z53:=Tryz.sizeOf175
 v53:=Tryz.zeroValue175
 t75:=Tryz.underlying195
 a75:=Tryz.isAgg195
 z75:=Tryz.sizeOf195
 v75:=Tryz.zeroValue195
 t76:=Tryz.underlying196
 a76:=Tryz.isAgg196
 z76:=Tryz.sizeOf196
 v76:=Tryz.zeroValue196
 t85:=Tryz.underlying263
 a85:=Tryz.isAgg263
 z85:=Tryz.sizeOf263
 v85:=Tryz.zeroValue263
 t127:=Tryz.underlying232
 a127:=Tryz.isAgg232
 z127:=Tryz.sizeOf232
 v127:=Tryz.zeroValue232
 t143:=Tryz.underlying296
 a143:=Tryz.isAgg296
 z143:=Tryz.sizeOf296
 v143:=Tryz.zeroValue296
 t145:=Tryz.underlying298
 a145:=Tryz.isAgg298
 z145:=Tryz.sizeOf298
 v145:=Tryz.zeroValue298
 t167:=Tryz.underlying262
 a167:=Tryz.isAgg262
 z167:=Tryz.sizeOf262
 v167:=Tryz.zeroValue262
 t168:=Tryz.underlying265
 a168:=Tryz.isAgg265
 z168:=Tryz.sizeOf265
 v168:=Tryz.zeroValue265
 t171:=Tryz.underlying228
 a171:=Tryz.isAgg228
 z171:=Tryz.sizeOf228
 v171:=Tryz.zeroValue228
 t173:=Tryz.underlying230
 a173:=Tryz.isAgg230
 z173:=Tryz.sizeOf230
 v173:=Tryz.zeroValue230
 t175:=Tryz.underlying282
 a175:=Tryz.isAgg282
 z175:=Tryz.sizeOf282
 v175:=Tryz.zeroValue282
 t210:=Tryz.underlying286
 a210:=Tryz.isAgg286
 z210:=Tryz.sizeOf286
 v210:=Tryz.zeroValue286
 t212:=Tryz.underlying257
 a212:=Tryz.isAgg257
 z212:=Tryz.sizeOf257
 v212:=Tryz.zeroValue257
 t213:=Tryz.underlying258
 a213:=Tryz.isAgg258
 z213:=Tryz.sizeOf258
 t232:=Tryz.underlying293
 a232:=Tryz.isAgg293
 z232:=Tryz.sizeOf293
 v232:=Tryz.zeroValue293
 t233:=Tryz.underlying294
 a233:=Tryz.isAgg294
 z233:=Tryz.sizeOf294
 v233:=Tryz.zeroValue294
 g15:=by kernel_rfl
 g16:=by kernel_rfl
 g17:=by kernel_rfl
 g18:=by kernel_rfl
 g19:=by kernel_rfl
 t80:=Tryz.underlying198
 a80:=Tryz.isAgg198
 z80:=Tryz.sizeOf198
 v80:=Tryz.zeroValue198
 i0:=by kernel_rfl
 i2:=by kernel_rfl
 i3:=by kernel_rfl
 i4:=by kernel_rfl
 i5:=by kernel_rfl
 i9:=by kernel_rfl
 i20:=by kernel_rfl
 i21:=by kernel_rfl
 i37:=by kernel_rfl
 i46:=by kernel_rfl
 i51:=by kernel_rfl
 i53:=by kernel_rfl
 i75:=by kernel_rfl
 i76:=by kernel_rfl
 i80:=by kernel_rfl
 i85:=by kernel_rfl
 i127:=by kernel_rfl
 i143:=by kernel_rfl
 i145:=by kernel_rfl
 i167:=by kernel_rfl
 i168:=by kernel_rfl
 i171:=by kernel_rfl
 i173:=by kernel_rfl
 i175:=by kernel_rfl
 i210:=by kernel_rfl
 i212:=by kernel_rfl
 i232:=by kernel_rfl
 i233:=by kernel_rfl
 m15:=by kernel_rfl
 m16:=by kernel_rfl
 m17:=by kernel_rfl
 m18:=by kernel_rfl
 m19:=by kernel_rfl
 c0:=by kernel_rfl
 c2:=by kernel_rfl
 c3:=by kernel_rfl
 c4:=by kernel_rfl
 c5:=by kernel_rfl
 c9:=by kernel_rfl
 c20:=by kernel_rfl
 c21:=by kernel_rfl
 c37:=by kernel_rfl
 c46:=by kernel_rfl
 c51:=by kernel_rfl
 c53:=by kernel_rfl
 c75:=by kernel_rfl
 c76:=by kernel_rfl
 c80:=by kernel_rfl
 c85:=by kernel_rfl
 c127:=by kernel_rfl
 c143:=by kernel_rfl
 c145:=by kernel_rfl
 c167:=by kernel_rfl
 c168:=by kernel_rfl
 c171:=by kernel_rfl
 c173:=by kernel_rfl
 c175:=by kernel_rfl
 c210:=by kernel_rfl
 c212:=by kernel_rfl
 c213:=by kernel_rfl
 c232:=by kernel_rfl
 c233:=by kernel_rfl
theorem iY1 :∀y r,(aA1 211).sem y=some r→FnOK Tryz.prog GB G (aA1 211) y r:=
 lT1 (c:=Tryz.f211.body.getD .skip) Tryz.func211 (by kernel_rfl) (by kernel_rfl)
  (fun w s v hm h=>(Any.strconv_Atoi_ok xK1 s hm v h w).mono fun e w' q=>⟨q.1,by
   rcases q.2 with rfl | ⟨t,rfl⟩
   ·exact Go.RowKit.Below.refl _ _
   ·exact Lib.bytesWorld_below _ _ _⟩)
  (fun w s hg hl n1 n2=>by
   obtain⟨ev,h1,h2⟩:=hg.syn;refine(Any.strconv_Atoi_syntax xK1 s hl ?_ ev w h1 h2).mono fun e w' q=>by obtain⟨N,rfl,_,_,hb⟩:=q;exact⟨⟨_,_,rfl⟩,hb⟩
   cases hA:Lib.atoiAll s.data.toList with
   | ok v=>exact absurd hA (n1 v)
   | range=>exact absurd hA n2
   | _=>rfl)
  (fun w s hg hl h=>by
   obtain⟨ev,h1,h2⟩:=hg.rng
   exact(Any.strconv_Atoi_range xK1 s hl h ev w h1 h2).mono fun e w' q=>by obtain⟨N,rfl,_,_,hb⟩:=q;exact⟨⟨_,_,rfl⟩,hb⟩)
def vG1 :Go.Shelf.Ren:=⟨fun | 5=>49 | 8=>106 | 7=>105 | 19=>176 | 20=>177 | 10=>168 | 11=>169 | 12=>170 | 13=>171 | 14=>172 | 15=>173 | 16=>108 | 17=>174 | 18=>175 | 30=>227 | 31=>228 | 32=>229 | 33=>230 | 34=>231 | 35=>178 | 40=>279 | n=>n,fun | 23=>22 | 25=>3 | 3=>3 | 32=>124 | 22=>22 | 0=>0 | 44=>173 | 46=>175 | 4=>4 | 36=>167 | 35=>166 | 41=>83 | 5=>5 | 9=>9 | 53=>214 | 57=>218 | 63=>245 | 64=>139 | n=>n,fun | n=>n⟩
theorem nR1 :Go.Proofs.SlLaysM.n5 Tryz.prog vG1 where
 mixed:=by kernel_rfl
 f5:=⟨Tryz.f49.name,by kernel_rfl,Tryz.func49.trans (congrArg some (by kernel_rfl))⟩
 f7:=⟨Tryz.f105.name,by kernel_rfl,Tryz.func105.trans (congrArg some (by kernel_rfl))⟩
 f8:=Tryz.func106.trans (congrArg some (by kernel_rfl))
 f10:=⟨Tryz.f168.name,by kernel_rfl,Tryz.func168.trans (congrArg some (by kernel_rfl))⟩
 f11:=⟨Tryz.f169.name,by kernel_rfl,Tryz.func169.trans (congrArg some (by kernel_rfl))⟩
 f12:=⟨Tryz.f170.name,by kernel_rfl,Tryz.func170.trans (congrArg some (by kernel_rfl))⟩
 f13:=⟨Tryz.f171.name,by kernel_rfl,Tryz.func171.trans (congrArg some (by kernel_rfl))⟩
 f14:=⟨Tryz.f172.name,by kernel_rfl,Tryz.func172.trans (congrArg some (by kernel_rfl))⟩
 f15:=⟨Tryz.f173.name,by kernel_rfl,Tryz.func173.trans (congrArg some (by kernel_rfl))⟩
 f16:=⟨Tryz.f108.name,by kernel_rfl,Tryz.func108.trans (congrArg some (by kernel_rfl))⟩
 f17:=⟨Tryz.f174.name,by kernel_rfl,Tryz.func174.trans (congrArg some (by kernel_rfl))⟩
 f18:=⟨Tryz.f175.name,by kernel_rfl,Tryz.func175.trans (congrArg some (by kernel_rfl))⟩
 f19:=Tryz.func176.trans (congrArg some (by kernel_rfl))
 f20:=Tryz.func177.trans (congrArg some (by kernel_rfl))
 f30:=⟨Tryz.f227.name,by kernel_rfl,Tryz.func227.trans (congrArg some (by kernel_rfl))⟩
 f31:=Tryz.func228.trans (congrArg some (by kernel_rfl))
 f32:=Tryz.func229.trans (congrArg some (by kernel_rfl))
 f33:=⟨Tryz.f230.name,by kernel_rfl,Tryz.func230.trans (congrArg some (by kernel_rfl))⟩
 f34:=⟨Tryz.f231.name,by kernel_rfl,Tryz.func231.trans (congrArg some (by kernel_rfl))⟩
 f35:=⟨Tryz.f178.name,by kernel_rfl,Tryz.func178.trans (congrArg some (by kernel_rfl))⟩
 f40:=⟨Tryz.f279.name,by kernel_rfl,Tryz.func279.trans (congrArg some (by kernel_rfl))⟩
 t0:=Tryz.underlying0
 a0:=Tryz.isAgg0
 z0:=Tryz.sizeOf0
 v0:=Tryz.zeroValue0
 t3:=Tryz.underlying3
 a3:=Tryz.isAgg3
 z3:=Tryz.sizeOf3
 v3:=Tryz.zeroValue3
 t4:=Tryz.underlying4
 a4:=Tryz.isAgg4
 z4:=Tryz.sizeOf4
 v4:=Tryz.zeroValue4
 t5:=Tryz.underlying5
 a5:=Tryz.isAgg5
 z5:=Tryz.sizeOf5
 v5:=Tryz.zeroValue5
 t9:=Tryz.underlying9
 a9:=Tryz.isAgg9
 z9:=Tryz.sizeOf9
 v9:=Tryz.zeroValue9
 t22:=Tryz.underlying22
 a22:=Tryz.isAgg22
 z22:=Tryz.sizeOf22
 v22:=Tryz.zeroValue22
 t23:=Tryz.underlying22
 a23:=Tryz.isAgg22
 z23:=Tryz.sizeOf22
 v23:=Tryz.zeroValue22
 t25:=Tryz.underlying3
 a25:=Tryz.isAgg3
 z25:=Tryz.sizeOf3
 v25:=Tryz.zeroValue3
 t32:=Tryz.underlying124
 a32:=Tryz.isAgg124
 z32:=Tryz.sizeOf124
 v32:=Tryz.zeroValue124
 t35:=Tryz.underlying166
 a35:=Tryz.isAgg166
 z35:=Tryz.sizeOf166
 v35:=Tryz.zeroValue166
 t36:=Tryz.underlying167
 a36:=Tryz.isAgg167
 z36:=Tryz.sizeOf167
 v36:=Tryz.zeroValue167
 t41:=Tryz.underlying83
 a41:=Tryz.isAgg83
 z41:=Tryz.sizeOf83
 v41:=Tryz.zeroValue83
 t44:=Tryz.underlying173
 a44:=Tryz.isAgg173
 z44:=Tryz.sizeOf173
 v44:=Tryz.zeroValue173
 t46:=Tryz.underlying175
 a46:=Tryz.isAgg175
 z46:=Tryz.sizeOf175
 v46:=Tryz.zeroValue175
 t53:=Tryz.underlying214
 a53:=Tryz.isAgg214
 z53:=Tryz.sizeOf214
 v53:=Tryz.zeroValue214
 t57:=Tryz.underlying218
 a57:=Tryz.isAgg218
 z57:=Tryz.sizeOf218
 v57:=Tryz.zeroValue218
 t63:=Tryz.underlying245
 a63:=Tryz.isAgg245
 z63:=Tryz.sizeOf245
 v63:=Tryz.zeroValue245
 t64:=Tryz.underlying139
 a64:=Tryz.isAgg139
 z64:=Tryz.sizeOf139
 v64:=Tryz.zeroValue139
theorem ss49 :∀y r,(oH 49 3).sem y=some r→FnOK Tryz.prog GB G (oH 49 3) y r:=
 nG1 (c:=Tryz.f49.body.getD .skip) Tryz.func49 (by kernel_rfl) (by kernel_rfl)
  (fun w g cap zs hH hb hsz=>AnyM.slices_Sort_int nR1 g 0 cap zs w hH hb hsz)
  (fun w=>AnyM.slices_Sort_int_none nR1 none 0 w)
def tH1 :Go.Shelf.Ren:=⟨fun | 6=>58 | 15=>106 | 14=>116 | 28=>176 | 29=>177 | 20=>183 | 21=>184 | 22=>185 | 23=>186 | 24=>187 | 25=>188 | 26=>189 | 27=>190 | 46=>237 | 47=>228 | 48=>229 | 49=>238 | 50=>239 | 57=>286 | n=>n,fun | 22=>37 | 24=>50 | 25=>88 | 3=>3 | 39=>124 | 0=>0 | 53=>173 | 55=>175 | 4=>4 | 46=>167 | 45=>166 | 50=>83 | 5=>5 | 9=>9 | 66=>214 | 70=>218 | 76=>245 | 77=>139 | n=>n,fun | n=>n⟩
theorem yQ1 :Go.Proofs.SlLaysF0.n6 Tryz.prog tH1 where
 mixed:=by kernel_rfl
 f6:=⟨Tryz.f58.name,by kernel_rfl,Tryz.func58.trans (congrArg some (by kernel_rfl))⟩
 f14:=⟨Tryz.f116.name,by kernel_rfl,Tryz.func116.trans (congrArg some (by kernel_rfl))⟩
 f15:=Tryz.func106.trans (congrArg some (by kernel_rfl))
 f20:=⟨Tryz.f183.name,by kernel_rfl,Tryz.func183.trans (congrArg some (by kernel_rfl))⟩
 f21:=⟨Tryz.f184.name,by kernel_rfl,Tryz.func184.trans (congrArg some (by kernel_rfl))⟩
 f22:=⟨Tryz.f185.name,by kernel_rfl,Tryz.func185.trans (congrArg some (by kernel_rfl))⟩
 f23:=⟨Tryz.f186.name,by kernel_rfl,Tryz.func186.trans (congrArg some (by kernel_rfl))⟩
 f24:=⟨Tryz.f187.name,by kernel_rfl,Tryz.func187.trans (congrArg some (by kernel_rfl))⟩
 f25:=⟨Tryz.f188.name,by kernel_rfl,Tryz.func188.trans (congrArg some (by kernel_rfl))⟩
 f26:=⟨Tryz.f189.name,by kernel_rfl,Tryz.func189.trans (congrArg some (by kernel_rfl))⟩
 f27:=⟨Tryz.f190.name,by kernel_rfl,Tryz.func190.trans (congrArg some (by kernel_rfl))⟩
 f28:=Tryz.func176.trans (congrArg some (by kernel_rfl))
 f29:=Tryz.func177.trans (congrArg some (by kernel_rfl))
 f46:=⟨Tryz.f237.name,by kernel_rfl,Tryz.func237.trans (congrArg some (by kernel_rfl))⟩
 f47:=Tryz.func228.trans (congrArg some (by kernel_rfl))
 f48:=Tryz.func229.trans (congrArg some (by kernel_rfl))
 f49:=⟨Tryz.f238.name,by kernel_rfl,Tryz.func238.trans (congrArg some (by kernel_rfl))⟩
 f50:=⟨Tryz.f239.name,by kernel_rfl,Tryz.func239.trans (congrArg some (by kernel_rfl))⟩
 f57:=⟨Tryz.f286.name,by kernel_rfl,Tryz.func286.trans (congrArg some (by kernel_rfl))⟩
 t0:=Tryz.underlying0
 a0:=Tryz.isAgg0
 z0:=Tryz.sizeOf0
 v0:=Tryz.zeroValue0
 t3:=Tryz.underlying3
 a3:=Tryz.isAgg3
 z3:=Tryz.sizeOf3
 v3:=Tryz.zeroValue3
 t4:=Tryz.underlying4
 a4:=Tryz.isAgg4
 z4:=Tryz.sizeOf4
 v4:=Tryz.zeroValue4
 t5:=Tryz.underlying5
 a5:=Tryz.isAgg5
 z5:=Tryz.sizeOf5
 v5:=Tryz.zeroValue5
 t9:=Tryz.underlying9
 a9:=Tryz.isAgg9
 z9:=Tryz.sizeOf9
 v9:=Tryz.zeroValue9
 t22:=Tryz.underlying37
 a22:=Tryz.isAgg37
 z22:=Tryz.sizeOf37
 v22:=Tryz.zeroValue37
 t25:=Tryz.underlying88
 a25:=Tryz.isAgg88
 z25:=Tryz.sizeOf88
 v25:=Tryz.zeroValue88
 t39:=Tryz.underlying124
 a39:=Tryz.isAgg124
 z39:=Tryz.sizeOf124
 v39:=Tryz.zeroValue124
 t45:=Tryz.underlying166
 a45:=Tryz.isAgg166
 z45:=Tryz.sizeOf166
 v45:=Tryz.zeroValue166
 t46:=Tryz.underlying167
 a46:=Tryz.isAgg167
 z46:=Tryz.sizeOf167
 v46:=Tryz.zeroValue167
 t50:=Tryz.underlying83
 a50:=Tryz.isAgg83
 z50:=Tryz.sizeOf83
 v50:=Tryz.zeroValue83
 t53:=Tryz.underlying173
 a53:=Tryz.isAgg173
 z53:=Tryz.sizeOf173
 v53:=Tryz.zeroValue173
 t55:=Tryz.underlying175
 a55:=Tryz.isAgg175
 z55:=Tryz.sizeOf175
 v55:=Tryz.zeroValue175
 t66:=Tryz.underlying214
 a66:=Tryz.isAgg214
 z66:=Tryz.sizeOf214
 v66:=Tryz.zeroValue214
 t70:=Tryz.underlying218
 a70:=Tryz.isAgg218
 z70:=Tryz.sizeOf218
 v70:=Tryz.zeroValue218
 t76:=Tryz.underlying245
 a76:=Tryz.isAgg245
 z76:=Tryz.sizeOf245
 v76:=Tryz.zeroValue245
 t77:=Tryz.underlying139
 a77:=Tryz.isAgg139
 z77:=Tryz.sizeOf139
 v77:=Tryz.zeroValue139
theorem rX1 (a0 a1 b0 b1:Int) (h0:small a0=true) (h1:small a1=true) (h2:small b0=true) (h3:small b1=true) (W:World):Calls Tryz.prog 59 #[.agg #[.int .i64 a0,.int .i64 a1],.agg #[.int .i64 b0,.int .i64 b1]] W fun e w'=>e = .returned (.int .i64 (wR a0 b0)) ∧ ∃q os',w'=grow (W.drewN q) os':=by
 have g0:=oL h0;have g2:=oL h2;have w0:IntKind.i64.wrap (a0-b0)=a0-b0:=Go.IntWalk.i64_in _ ⟨by omega,by omega⟩;unfold wR
 go_enter Tryz.func59,Tryz.ntmps59
 go_wp2
 go_ret
 exact⟨by first | rfl | (rw[w0];rfl) | (simp only[w0];rfl),0,_,by rw[alloc_eq_grow,alloc_eq_grow,grow_grow];rfl⟩
def bM (p:Int×Int×Unit):Bool:=small p.1&&small p.2.1
def cf59 (x y:Int×Int×Unit):Int:=(fun x y=>wR x.1 y.1) x y
theorem lL1 :SWO (ltOf fun a b:{p:((.st (.cons (.int .i64) (.cons (.int .i64) .nil))):Ty).D // bM p=true}=>cf59 a.1 b.1):=zT1 (fun x:{p:((.st (.cons (.int .i64) (.cons (.int .i64) .nil))):Ty).D // bM p=true}=>x.1.1)
def zf59 :{p:((.st (.cons (.int .i64) (.cons (.int .i64) .nil))):Ty).D // bM p=true}:=⟨((.st (.cons (.int .i64) (.cons (.int .i64) .nil))):Ty).z,by kernel_rfl⟩
theorem kP1 (w:World) (g cap:Nat) (d:Array {p:((.st (.cons (.int .i64) (.cons (.int .i64) .nil))):Ty).D // bM p=true}) (hH:@HoldsK _ ⟨zf59⟩ (fun p:{p:((.st (.cons (.int .i64) (.cons (.int .i64) .nil))):Ty).D // bM p=true}=>((.st (.cons (.int .i64) (.cons (.int .i64) .nil))):Ty).enc p.1) ((.st (.cons (.int .i64) (.cons (.int .i64) .nil))):Ty).sz w g 0 d) (hb:g<w.heap.size) (hsz:d.size<4611686018427387904):
  Calls Tryz.prog 58 #[.slice (some ⟨g,0,none⟩) d.size cap,.func (.func 59) #[] #[]] w fun e w'=>e = .returned (.tuple #[]) ∧ ∃n os,w' = @sortWorldK _ ⟨zf59⟩ (fun p:{p:((.st (.cons (.int .i64) (.cons (.int .i64) .nil))):Ty).D // bM p=true}=>((.st (.cons (.int .i64) (.cons (.int .i64) .nil))):Ty).enc p.1) ((.st (.cons (.int .i64) (.cons (.int .i64) .nil))):Ty).sz w g 0 n (@pdq _ ⟨zf59⟩ (ltOf fun a b=>cf59 a.1 b.1) d 0 d.size (Lib.bitLen d.size) true true) os:=by
 letI:Inhabited {p:((.st (.cons (.int .i64) (.cons (.int .i64) .nil))):Ty).D // bM p=true}:=⟨zf59⟩
 have he:=enters_of Tryz.func59 (by kernel_rfl) rfl;have hc:CmpLays Tryz.prog 59 #[] (fun p:{p:((.st (.cons (.int .i64) (.cons (.int .i64) .nil))):Ty).D // bM p=true}=>((.st (.cons (.int .i64) (.cons (.int .i64) .nil))):Ty).enc p.1) ((.st (.cons (.int .i64) (.cons (.int .i64) .nil))):Ty).sz (fun a b=>cf59 a.1 b.1) g 0 d.size w:=fun _ _ _ _ x y=>rX1 x.1.1 x.1.2.1 y.1.1 y.1.2.1 (dC2.1 x.2).1 (dC2.1 x.2).2 (dC2.1 y.2).1 (dC2.1 y.2).2 _
 exact AnyQ.slices_SortFunc_eq yQ1 ((.st (.cons (.int .i64) (.cons (.int .i64) .nil))):Ty).sz Tryz.isAgg50 Tryz.sizeOf50 (fun p:{p:((.st (.cons (.int .i64) (.cons (.int .i64) .nil))):Ty).D // bM p=true}=>((.st (.cons (.int .i64) (.cons (.int .i64) .nil))):Ty).enc p.1) (fun _=>Ty.enc_len) (fun _=>Ty.enc_one) (fun a b=>cf59 a.1 b.1) lL1 59 #[] g 0 cap d w he hc hH hb hsz
theorem nN1 (w:World):Calls Tryz.prog 58 #[.slice none 0 0,.func (.func 59) #[] #[]] w fun e w'=>e = .returned (.tuple #[])∧w'=w:=
 AnyF.slices_SortFunc_none yQ1 none 0 (.func (.func 59) #[] #[]) w
theorem wN1 :∀y r,(nK 58 50 (.st (.cons (.int .i64) (.cons (.int .i64) .nil))) 59 (wN bM zf59 cf59)).sem y=some r→FnOK Tryz.prog GB G (nK 58 50 (.st (.cons (.int .i64) (.cons (.int .i64) .nil))) 59 (wN bM zf59 cf59)) y r:=
 hE1 (c:=Tryz.f58.body.getD .skip) Tryz.func58 (by kernel_rfl) (by kernel_rfl) rfl (fun _ _ h=>(jO lL1 h).length_eq) (uR lL1 kP1) nN1
def bC1 :Go.Shelf.Ren:=⟨fun | 6=>307 | 15=>106 | 14=>328 | 28=>176 | 29=>177 | 20=>345 | 21=>346 | 22=>347 | 23=>348 | 24=>349 | 25=>350 | 26=>351 | 27=>352 | 46=>358 | 47=>228 | 48=>229 | 49=>359 | 50=>360 | 57=>362 | n=>n,fun | 22=>23 | 24=>138 | 25=>224 | 3=>3 | 39=>124 | 0=>0 | 53=>173 | 55=>175 | 4=>4 | 46=>167 | 45=>166 | 50=>83 | 5=>5 | 9=>9 | 66=>214 | 70=>218 | 76=>245 | 77=>139 | n=>n,fun | n=>n⟩
theorem gM1 :Go.Proofs.SlLaysF0.n6 Tryz.prog bC1 where
 mixed:=by kernel_rfl
 f6:=⟨Tryz.f307.name,by kernel_rfl,Tryz.func307.trans (congrArg some (by kernel_rfl))⟩
 f14:=⟨Tryz.f328.name,by kernel_rfl,Tryz.func328.trans (congrArg some (by kernel_rfl))⟩
 f15:=Tryz.func106.trans (congrArg some (by kernel_rfl))
 f20:=⟨Tryz.f345.name,by kernel_rfl,Tryz.func345.trans (congrArg some (by kernel_rfl))⟩
 f21:=⟨Tryz.f346.name,by kernel_rfl,Tryz.func346.trans (congrArg some (by kernel_rfl))⟩
 f22:=⟨Tryz.f347.name,by kernel_rfl,Tryz.func347.trans (congrArg some (by kernel_rfl))⟩
 f23:=⟨Tryz.f348.name,by kernel_rfl,Tryz.func348.trans (congrArg some (by kernel_rfl))⟩
 f24:=⟨Tryz.f349.name,by kernel_rfl,Tryz.func349.trans (congrArg some (by kernel_rfl))⟩
 f25:=⟨Tryz.f350.name,by kernel_rfl,Tryz.func350.trans (congrArg some (by kernel_rfl))⟩
 f26:=⟨Tryz.f351.name,by kernel_rfl,Tryz.func351.trans (congrArg some (by kernel_rfl))⟩
 f27:=⟨Tryz.f352.name,by kernel_rfl,Tryz.func352.trans (congrArg some (by kernel_rfl))⟩
 f28:=Tryz.func176.trans (congrArg some (by kernel_rfl))
 f29:=Tryz.func177.trans (congrArg some (by kernel_rfl))
 f46:=⟨Tryz.f358.name,by kernel_rfl,Tryz.func358.trans (congrArg some (by kernel_rfl))⟩
 f47:=Tryz.func228.trans (congrArg some (by kernel_rfl))
 f48:=Tryz.func229.trans (congrArg some (by kernel_rfl))
 f49:=⟨Tryz.f359.name,by kernel_rfl,Tryz.func359.trans (congrArg some (by kernel_rfl))⟩
 f50:=⟨Tryz.f360.name,by kernel_rfl,Tryz.func360.trans (congrArg some (by kernel_rfl))⟩
 f57:=⟨Tryz.f362.name,by kernel_rfl,Tryz.func362.trans (congrArg some (by kernel_rfl))⟩
 t0:=Tryz.underlying0
 a0:=Tryz.isAgg0
 z0:=Tryz.sizeOf0
 v0:=Tryz.zeroValue0
 t3:=Tryz.underlying3
 a3:=Tryz.isAgg3
 z3:=Tryz.sizeOf3
 v3:=Tryz.zeroValue3
 t4:=Tryz.underlying4
 a4:=Tryz.isAgg4
 z4:=Tryz.sizeOf4
 v4:=Tryz.zeroValue4
 t5:=Tryz.underlying5
 a5:=Tryz.isAgg5
 z5:=Tryz.sizeOf5
 v5:=Tryz.zeroValue5
 t9:=Tryz.underlying9
 a9:=Tryz.isAgg9
 z9:=Tryz.sizeOf9
 v9:=Tryz.zeroValue9
 t22:=Tryz.underlying23
 a22:=Tryz.isAgg23
 z22:=Tryz.sizeOf23
 v22:=Tryz.zeroValue23
 t25:=Tryz.underlying224
 a25:=Tryz.isAgg224
 z25:=Tryz.sizeOf224
 v25:=Tryz.zeroValue224
 t39:=Tryz.underlying124
 a39:=Tryz.isAgg124
 z39:=Tryz.sizeOf124
 v39:=Tryz.zeroValue124
 t45:=Tryz.underlying166
 a45:=Tryz.isAgg166
 z45:=Tryz.sizeOf166
 v45:=Tryz.zeroValue166
 t46:=Tryz.underlying167
 a46:=Tryz.isAgg167
 z46:=Tryz.sizeOf167
 v46:=Tryz.zeroValue167
 t50:=Tryz.underlying83
 a50:=Tryz.isAgg83
 z50:=Tryz.sizeOf83
 v50:=Tryz.zeroValue83
 t53:=Tryz.underlying173
 a53:=Tryz.isAgg173
 z53:=Tryz.sizeOf173
 v53:=Tryz.zeroValue173
 t55:=Tryz.underlying175
 a55:=Tryz.isAgg175
 z55:=Tryz.sizeOf175
 v55:=Tryz.zeroValue175
 t66:=Tryz.underlying214
 a66:=Tryz.isAgg214
 z66:=Tryz.sizeOf214
 v66:=Tryz.zeroValue214
 t70:=Tryz.underlying218
 a70:=Tryz.isAgg218
 z70:=Tryz.sizeOf218
 v70:=Tryz.zeroValue218
 t76:=Tryz.underlying245
 a76:=Tryz.isAgg245
 z76:=Tryz.sizeOf245
 v76:=Tryz.zeroValue245
 t77:=Tryz.underlying139
 a77:=Tryz.isAgg139
 z77:=Tryz.sizeOf139
 v77:=Tryz.zeroValue139
theorem xW1 (a0 a1 b0 b1:Int) (h0:small a0=true) (h1:small a1=true) (h2:small b0=true) (h3:small b1=true) (W:World):Calls Tryz.prog 242 #[.agg #[.int .i64 a0,.int .i64 a1],.agg #[.int .i64 b0,.int .i64 b1]] W fun e w'=>e = .returned (.int .i64 (aP a0 a1 b0 b1)) ∧ ∃q os',w'=grow (W.drewN q) os':=by
 have g0:=oL h0;have g1:=oL h1;have g2:=oL h2;have g3:=oL h3;have w0:IntKind.i64.wrap (a0-b0)=a0-b0:=Go.IntWalk.i64_in _ ⟨by omega,by omega⟩;have w1:IntKind.i64.wrap (a1-b1)=a1-b1:=Go.IntWalk.i64_in _ ⟨by omega,by omega⟩;unfold aP;by_cases h:a0=b0
 ·rw[decide_eq_true h]
  go_enter Tryz.func242,Tryz.ntmps242
  go_wp2
  go_ret
  exact⟨by first | rfl | (rw[w1];rfl) | (simp only[w1];rfl),0,_,by rw[alloc_eq_grow,alloc_eq_grow,grow_grow];rfl⟩
 rw[decide_eq_false h]
 go_enter Tryz.func242,Tryz.ntmps242
 go_wp2
 go_ret
 exact⟨by first | rfl | (rw[w0];rfl) | (simp only[w0];rfl),0,_,by rw[alloc_eq_grow,alloc_eq_grow,grow_grow];rfl⟩
def iJ (p:Int×Int×Unit):Bool:=small p.1&&small p.2.1
def eC1 (x y:Int×Int×Unit):Int:=(fun x y=>aP x.1 x.2.1 y.1 y.2.1) x y
theorem aM1 :SWO (ltOf fun a b:{p:((.st (.cons (.int .i64) (.cons (.int .i64) .nil))):Ty).D // iJ p=true}=>eC1 a.1 b.1):=bP1 (fun x:{p:((.st (.cons (.int .i64) (.cons (.int .i64) .nil))):Ty).D // iJ p=true}=>x.1.1) (fun x:{p:((.st (.cons (.int .i64) (.cons (.int .i64) .nil))):Ty).D // iJ p=true}=>x.1.2.1)
def jC1 :{p:((.st (.cons (.int .i64) (.cons (.int .i64) .nil))):Ty).D // iJ p=true}:=⟨((.st (.cons (.int .i64) (.cons (.int .i64) .nil))):Ty).z,by kernel_rfl⟩
theorem eP1 (w:World) (g cap:Nat) (d:Array {p:((.st (.cons (.int .i64) (.cons (.int .i64) .nil))):Ty).D // iJ p=true}) (hH:@HoldsK _ ⟨jC1⟩ (fun p:{p:((.st (.cons (.int .i64) (.cons (.int .i64) .nil))):Ty).D // iJ p=true}=>((.st (.cons (.int .i64) (.cons (.int .i64) .nil))):Ty).enc p.1) ((.st (.cons (.int .i64) (.cons (.int .i64) .nil))):Ty).sz w g 0 d) (hb:g<w.heap.size) (hsz:d.size<4611686018427387904):
  Calls Tryz.prog 307 #[.slice (some ⟨g,0,none⟩) d.size cap,.func (.func 242) #[] #[]] w fun e w'=>e = .returned (.tuple #[]) ∧ ∃n os,w' = @sortWorldK _ ⟨jC1⟩ (fun p:{p:((.st (.cons (.int .i64) (.cons (.int .i64) .nil))):Ty).D // iJ p=true}=>((.st (.cons (.int .i64) (.cons (.int .i64) .nil))):Ty).enc p.1) ((.st (.cons (.int .i64) (.cons (.int .i64) .nil))):Ty).sz w g 0 n (@pdq _ ⟨jC1⟩ (ltOf fun a b=>eC1 a.1 b.1) d 0 d.size (Lib.bitLen d.size) true true) os:=by
 letI:Inhabited {p:((.st (.cons (.int .i64) (.cons (.int .i64) .nil))):Ty).D // iJ p=true}:=⟨jC1⟩
 have he:=enters_of Tryz.func242 (by kernel_rfl) rfl;have hc:CmpLays Tryz.prog 242 #[] (fun p:{p:((.st (.cons (.int .i64) (.cons (.int .i64) .nil))):Ty).D // iJ p=true}=>((.st (.cons (.int .i64) (.cons (.int .i64) .nil))):Ty).enc p.1) ((.st (.cons (.int .i64) (.cons (.int .i64) .nil))):Ty).sz (fun a b=>eC1 a.1 b.1) g 0 d.size w:=fun _ _ _ _ x y=>xW1 x.1.1 x.1.2.1 y.1.1 y.1.2.1 (dC2.1 x.2).1 (dC2.1 x.2).2 (dC2.1 y.2).1 (dC2.1 y.2).2 _
 exact AnyQ.slices_SortFunc_eq gM1 ((.st (.cons (.int .i64) (.cons (.int .i64) .nil))):Ty).sz Tryz.isAgg138 Tryz.sizeOf138 (fun p:{p:((.st (.cons (.int .i64) (.cons (.int .i64) .nil))):Ty).D // iJ p=true}=>((.st (.cons (.int .i64) (.cons (.int .i64) .nil))):Ty).enc p.1) (fun _=>Ty.enc_len) (fun _=>Ty.enc_one) (fun a b=>eC1 a.1 b.1) aM1 242 #[] g 0 cap d w he hc hH hb hsz
theorem tO1 (w:World):Calls Tryz.prog 307 #[.slice none 0 0,.func (.func 242) #[] #[]] w fun e w'=>e = .returned (.tuple #[])∧w'=w:=
 AnyF.slices_SortFunc_none gM1 none 0 (.func (.func 242) #[] #[]) w
theorem fP1 :∀y r,(nK 307 138 (.st (.cons (.int .i64) (.cons (.int .i64) .nil))) 242 (wN iJ jC1 eC1)).sem y=some r→FnOK Tryz.prog GB G (nK 307 138 (.st (.cons (.int .i64) (.cons (.int .i64) .nil))) 242 (wN iJ jC1 eC1)) y r:=
 hE1 (c:=Tryz.f307.body.getD .skip) Tryz.func307 (by kernel_rfl) (by kernel_rfl) rfl (fun _ _ h=>(jO aM1 h).length_eq) (uR aM1 eP1) tO1
end Go.GV.YtidgapgbnlcjgaaGreatDoor

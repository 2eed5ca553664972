/-
Part of the words that MeetSpans is proved with: no statement of its own, no conditions.
-/
import Derived.Test.YtegmfagkklekaaaGreatDoorFMeetSpansj
import Derived.Shelf.Strconv.AtoiAll
import Derived.Shelf.Strconv.Itoa3
import Derived.Test.YtegmfagkklekaaaGreatDoorProg
import Derived.KernelRfl
import Derived.Shelf.SlSortCmp.NoneTotal
import Derived.Shelf.SortM.Plain
import Derived.Shelf.SortM.SortNone
set_option linter.unusedVariables false
set_option linter.unusedSimpArgs false
namespace Go.GV.YtegmfagkklekaaaGreatDoor
open Go.Proofs Go.Sort
set_option maxRecDepth 1000000
abbrev GB :Nat→Prop:=Its 1 2 3
abbrev G :World→Prop:=Facts Tryz.prog 2 3
theorem gtab :Tryz.prog.globalNamed "internal/strconv.uint64pow10" = some 1:=by kernel_rfl
theorem stab :fL GB G:=iD1 gtab
def xN1 :Go.Shelf.Ren:=⟨fun | 171=>57 | 243=>125 | 246=>194 | 283=>254 | 284=>255 | 285=>256 | 286=>257 | 129=>219 | 317=>310 | 318=>311 | 319=>312 | 320=>313 | 337=>348 | 338=>349 | n=>n,fun | 3=>3 | 9=>9 | 2=>2 | 4=>4 | 171=>231 | 0=>0 | 53=>210 | 37=>74 | 5=>5 | 173=>233 | 212=>266 | 51=>208 | 20=>20 | 213=>267 | 46=>152 | 232=>302 | 233=>303 | n=>n,fun | 17=>1 | 18=>6 | 19=>7 | n=>n⟩
theorem eD2 :Go.Proofs.LaysM.n171 Tryz.prog xN1 where
 mixed:=by kernel_rfl
 f129:=Tryz.func219.trans (congrArg some (by kernel_rfl))
 f171:=Tryz.func57.trans (congrArg some (by kernel_rfl))
 f243:=Tryz.func125.trans (congrArg some (by kernel_rfl))
 f246:=Tryz.func194.trans (congrArg some (by kernel_rfl))
 f283:=Tryz.func254.trans (congrArg some (by kernel_rfl))
 f284:=Tryz.func255.trans (congrArg some (by kernel_rfl))
 f285:=Tryz.func256.trans (congrArg some (by kernel_rfl))
 f286:=Tryz.func257.trans (congrArg some (by kernel_rfl))
 f317:=Tryz.func310.trans (congrArg some (by kernel_rfl))
 f318:=Tryz.func311.trans (congrArg some (by kernel_rfl))
 f319:=Tryz.func312.trans (congrArg some (by kernel_rfl))
 f320:=Tryz.func313.trans (congrArg some (by kernel_rfl))
 f337:=Tryz.func348.trans (congrArg some (by kernel_rfl))
 f338:=Tryz.func349.trans (congrArg some (by kernel_rfl))
 t0:=Tryz.underlying0
 a0:=Tryz.isAgg0
 z0:=Tryz.sizeOf0
 v0:=Tryz.zeroValue0
 t2:=Tryz.underlying2
 a2:=Tryz.isAgg2
 z2:=Tryz.sizeOf2
 v2:=Tryz.zeroValue2
 t3:=Tryz.underlying3
 a3:=Tryz.isAgg3
 z3:=Tryz.sizeOf3
 v3:=Tryz.zeroValue3
 t4:=Tryz.underlying4
 a4:=Tryz.isAgg4
 z4:=Tryz.sizeOf4
 v4:=Tryz.zeroValue4
 t5:=Tryz.underlying5
 a5:=Tryz.isAgg5
 z5:=Tryz.sizeOf5
 v5:=Tryz.zeroValue5
 t9:=Tryz.underlying9
 a9:=Tryz.isAgg9
 z9:=Tryz.sizeOf9
 v9:=Tryz.zeroValue9
 t20:=Tryz.underlying20
 a20:=Tryz.isAgg20
 z20:=Tryz.sizeOf20
 v20:=Tryz.zeroValue20
 t37:=Tryz.underlying74
 a37:=Tryz.isAgg74
 z37:=Tryz.sizeOf74
 v37:=Tryz.zeroValue74
 t46:=Tryz.underlying152
 a46:=Tryz.isAgg152
 z46:=Tryz.sizeOf152
 v46:=Tryz.zeroValue152
 t51:=Tryz.underlying208
 a51:=Tryz.isAgg208
 z51:=Tryz.sizeOf208
 v51:=Tryz.zeroValue208
 t53:=Tryz.underlying210
 a53:=Tryz.isAgg210
 z53:=Tryz.sizeOf210
 v53:=Tryz.zeroValue210
 t171:=Tryz.underlying231
 a171:=Tryz.isAgg231
 z171:=Tryz.sizeOf231
 v171:=Tryz.zeroValue231
 t173:=Tryz.underlying233
 a173:=Tryz.isAgg233
 z173:=Tryz.sizeOf233
 v173:=Tryz.zeroValue233
 t212:=Tryz.underlying266
 a212:=Tryz.isAgg266
 z212:=Tryz.sizeOf266
 v212:=Tryz.zeroValue266
 t213:=Tryz.underlying267
 a213:=Tryz.isAgg267
 z213:=Tryz.sizeOf267
 t232:=Tryz.underlying302
 a232:=Tryz.isAgg302
 z232:=Tryz.sizeOf302
 v232:=Tryz.zeroValue302
 t233:=Tryz.underlying303
 a233:=Tryz.isAgg303
 z233:=Tryz.sizeOf303
 v233:=Tryz.zeroValue303
 g17:=by kernel_rfl
 g18:=by kernel_rfl
 g19:=by kernel_rfl
 i0:=by kernel_rfl
 i2:=by kernel_rfl
 i3:=by kernel_rfl
 i4:=by kernel_rfl
 i5:=by kernel_rfl
 i9:=by kernel_rfl
 i20:=by kernel_rfl
 i37:=by kernel_rfl
 i46:=by kernel_rfl
 i51:=by kernel_rfl
 i53:=by kernel_rfl
 i171:=by kernel_rfl
 i173:=by kernel_rfl
 i212:=by kernel_rfl
 i232:=by kernel_rfl
 i233:=by kernel_rfl
 m17:=by kernel_rfl
 m18:=by kernel_rfl
 m19:=by kernel_rfl
theorem ss57 :∀y r,(eF1 57).sem y=some r→FnOK Tryz.prog GB G (eF1 57) y r:=
 gZ1 (c:=Tryz.f57.body.getD .skip) Tryz.func57 (by kernel_rfl) (by kernel_rfl) fun w m hg h0 h1=>(Any.strconv_Itoa eD2 m h0 h1 w hg.tab).mono fun e w' h=>⟨h.1,by obtain⟨k,os,rfl⟩:=h.2;exact jT1 w k os⟩
def qK1 :Go.Shelf.Ren:=⟨fun | 172=>236 | 244=>292 | 245=>293 | 247=>332 | 279=>333 | 280=>334 | 281=>335 | 282=>336 | 287=>357 | 316=>358 | 171=>57 | 205=>359 | 321=>364 | 322=>365 | 243=>125 | 246=>194 | 283=>254 | 284=>255 | 285=>256 | 286=>257 | 129=>219 | 317=>310 | 318=>311 | 319=>312 | 320=>313 | 337=>348 | 338=>349 | n=>n,fun | 9=>9 | 3=>3 | 75=>185 | 76=>186 | 4=>4 | 5=>5 | 167=>277 | 37=>74 | 0=>0 | 85=>278 | 2=>2 | 168=>280 | 53=>210 | 175=>290 | 46=>152 | 210=>294 | 127=>227 | 145=>307 | 143=>305 | 21=>21 | 171=>231 | 173=>233 | 212=>266 | 51=>208 | 20=>20 | 213=>267 | 232=>302 | 233=>303 | 80=>188 | n=>n,fun | 15=>2 | 16=>3 | 17=>1 | 18=>6 | 19=>7 | n=>n⟩
theorem jN1 :Go.Proofs.LaysC.n172 Tryz.prog qK1 where
 mixed:=by kernel_rfl
 f129:=Tryz.func219.trans (congrArg some (by kernel_rfl))
 f171:=Tryz.func57.trans (congrArg some (by kernel_rfl))
 f172:=Tryz.func236.trans (congrArg some (by kernel_rfl))
 f205:=Tryz.func359.trans (congrArg some (by kernel_rfl))
 f243:=Tryz.func125.trans (congrArg some (by kernel_rfl))
 f244:=Tryz.func292.trans (congrArg some (by kernel_rfl))
 f245:=Tryz.func293.trans (congrArg some (by kernel_rfl))
 f246:=Tryz.func194.trans (congrArg some (by kernel_rfl))
 f247:=Tryz.func332.trans (congrArg some (by kernel_rfl))
 f279:=Tryz.func333.trans (congrArg some (by kernel_rfl))
 f280:=Tryz.func334.trans (congrArg some (by kernel_rfl))
 f281:=Tryz.func335.trans (congrArg some (by kernel_rfl))
 f282:=Tryz.func336.trans (congrArg some (by kernel_rfl))
 f283:=Tryz.func254.trans (congrArg some (by kernel_rfl))
 f284:=Tryz.func255.trans (congrArg some (by kernel_rfl))
 f285:=Tryz.func256.trans (congrArg some (by kernel_rfl))
 f286:=Tryz.func257.trans (congrArg some (by kernel_rfl))
 f287:=Tryz.func357.trans (congrArg some (by kernel_rfl))
 f316:=Tryz.func358.trans (congrArg some (by kernel_rfl))
 f317:=Tryz.func310.trans (congrArg some (by kernel_rfl))
 f318:=Tryz.func311.trans (congrArg some (by kernel_rfl))
 f319:=Tryz.func312.trans (congrArg some (by kernel_rfl))
 f320:=Tryz.func313.trans (congrArg some (by kernel_rfl))
 f321:=Tryz.func364.trans (congrArg some (by kernel_rfl))
 f322:=Tryz.func365.trans (congrArg some (by kernel_rfl))
 f337:=Tryz.func348.trans (congrArg some (by kernel_rfl))
 f338:=Tryz.func349.trans (congrArg some (by kernel_rfl))
 t0:=Tryz.underlying0
 a0:=Tryz.isAgg0
 z0:=Tryz.sizeOf0
 v0:=Tryz.zeroValue0
 t2:=Tryz.underlying2
 a2:=Tryz.isAgg2
 z2:=Tryz.sizeOf2
 v2:=Tryz.zeroValue2
 t3:=Tryz.underlying3
 a3:=Tryz.isAgg3
 z3:=Tryz.sizeOf3
 v3:=Tryz.zeroValue3
 t4:=Tryz.underlying4
 a4:=Tryz.isAgg4
 z4:=Tryz.sizeOf4
 v4:=Tryz.zeroValue4
 t5:=Tryz.underlying5
 a5:=Tryz.isAgg5
 z5:=Tryz.sizeOf5
 v5:=Tryz.zeroValue5
 t9:=Tryz.underlying9
 a9:=Tryz.isAgg9
 z9:=Tryz.sizeOf9
 v9:=Tryz.zeroValue9
 t20:=Tryz.underlying20
 a20:=Tryz.isAgg20
 z20:=Tryz.sizeOf20
 v20:=Tryz.zeroValue20
 t21:=Tryz.underlying21
 a21:=Tryz.isAgg21
 z21:=Tryz.sizeOf21
 v21:=Tryz.zeroValue21
 t37:=Tryz.underlying74
 a37:=Tryz.isAgg74
 z37:=Tryz.sizeOf74
 v37:=Tryz.zeroValue74
 t46:=Tryz.underlying152
 a46:=Tryz.isAgg152
 z46:=Tryz.sizeOf152
 v46:=Tryz.zeroValue152
 t51:=Tryz.underlying208
 a51:=Tryz.isAgg208
 z51:=Tryz.sizeOf208
 v51:=Tryz.zeroValue208
 t53:=Tryz.underlying210
 a53:=Tryz.isAgg210
 z53:=Tryz.sizeOf210
 v53:=Tryz.zeroValue210
 t75:=Tryz.underlying185
 a75:=Tryz.isAgg185
 z75:=Tryz.sizeOf185
 v75:=Tryz.zeroValue185
 t76:=Tryz.underlying186
 a76:=Tryz.isAgg186
 z76:=Tryz.sizeOf186
 v76:=Tryz.zeroValue186
 t85:=Tryz.underlying278
 a85:=Tryz.isAgg278
 z85:=Tryz.sizeOf278
 v85:=Tryz.zeroValue278
 t127:=Tryz.underlying227
 a127:=Tryz.isAgg227
 z127:=Tryz.sizeOf227
 v127:=Tryz.zeroValue227
 t143:=Tryz.underlying305
 a143:=Tryz.isAgg305
 z143:=Tryz.sizeOf305
 v143:=Tryz.zeroValue305
 t145:=Tryz.underlying307
 a145:=Tryz.isAgg307
 z145:=Tryz.sizeOf307
 v145:=Tryz.zeroValue307
 t167:=Tryz.underlying277
 a167:=Tryz.isAgg277
 z167:=Tryz.sizeOf277
 v167:=Tryz.zeroValue277
 t168:=Tryz.underlying280
 a168:=Tryz.isAgg280
 z168:=Tryz.sizeOf280
 v168:=Tryz.zeroValue280
 t171:=Tryz.underlying231
 a171:=Tryz.isAgg231
 z171:=Tryz.sizeOf231
 v171:=Tryz.zeroValue231
 t173:=Tryz.underlying233
 a173:=Tryz.isAgg233
 z173:=Tryz.sizeOf233
 v173:=Tryz.zeroValue233
 t175:=Tryz.underlying290
 a175:=Tryz.isAgg290
 z175:=Tryz.sizeOf290
 v175:=Tryz.zeroValue290
 t210:=Tryz.underlying294
 a210:=Tryz.isAgg294
 z210:=Tryz.sizeOf294
 v210:=Tryz.zeroValue294
 t212:=Tryz.underlying266
 a212:=Tryz.isAgg266
 z212:=Tryz.sizeOf266
 v212:=Tryz.zeroValue266
 t213:=Tryz.underlying267
 a213:=Tryz.isAgg267
 z213:=Tryz.sizeOf267
 t232:=Tryz.underlying302
 a232:=Tryz.isAgg302
 z232:=Tryz.sizeOf302
 v232:=Tryz.zeroValue302
 t233:=Tryz.underlying303
 a233:=Tryz.isAgg303
 z233:=Tryz.sizeOf303
 v233:=Tryz.zeroValue303
 g15:=by kernel_rfl
 g16:=by kernel_rfl
 g17:=by kernel_rfl
 g18:=by kernel_rfl
 g19:=by kernel_rfl
 t80:=Tryz.underlying188
 a80:=Tryz.isAgg188
 z80:=Tryz.sizeOf188
 v80:=Tryz.zeroValue188
 i0:=by kernel_rfl
 i2:=by kernel_rfl
 i3:=by kernel_rfl
 i4:=by kernel_rfl
 i5:=by kernel_rfl
 i9:=by kernel_rfl
 i20:=by kernel_rfl
 i21:=by kernel_rfl
 i37:=by kernel_rfl
 i46:=by kernel_rfl
 i51:=by kernel_rfl
 i53:=by kernel_rfl
 i75:=by kernel_rfl
 i76:=by kernel_rfl
 i80:=by kernel_rfl
 i85:=by kernel_rfl
 i127:=by kernel_rfl
 i143:=by kernel_rfl
 i145:=by kernel_rfl
 i167:=by kernel_rfl
 i168:=by kernel_rfl
 i171:=by kernel_rfl
 i173:=by kernel_rfl
 i175:=by kernel_rfl
 i210:=by kernel_rfl
 i212:=by kernel_rfl
 i232:=by kernel_rfl
 i233:=by kernel_rfl
 m15:=by kernel_rfl
 m16:=by kernel_rfl
 m17:=by kernel_rfl
 m18:=by kernel_rfl
 m19:=by kernel_rfl
 c0:=by kernel_rfl
 c2:=by kernel_rfl
 c3:=by kernel_rfl
 c4:=by kernel_rfl
 c5:=by kernel_rfl
 c9:=by kernel_rfl
 c20:=by kernel_rfl
 c21:=by kernel_rfl
 c37:=by kernel_rfl
 c46:=by kernel_rfl
 c51:=by kernel_rfl
 c53:=by kernel_rfl
 c75:=by kernel_rfl
 c76:=by kernel_rfl
 c80:=by kernel_rfl
 c85:=by kernel_rfl
 c127:=by kernel_rfl
 c143:=by kernel_rfl
 c145:=by kernel_rfl
 c167:=by kernel_rfl
 c168:=by kernel_rfl
 c171:=by kernel_rfl
 c173:=by kernel_rfl
 c175:=by kernel_rfl
 c210:=by kernel_rfl
 c212:=by kernel_rfl
 c213:=by kernel_rfl
 c232:=by kernel_rfl
 c233:=by kernel_rfl
theorem rD2 :∀y r,(oC1 236).sem y=some r→FnOK Tryz.prog GB G (oC1 236) y r:=
 kW1 (c:=Tryz.f236.body.getD .skip) Tryz.func236 (by kernel_rfl) (by kernel_rfl)
  (fun w s v hm h=>(Any.strconv_Atoi_ok jN1 s hm v h w).mono fun e w' q=>⟨q.1,by
   rcases q.2 with rfl | ⟨t,rfl⟩
   ·exact Go.RowKit.Below.refl _ _
   ·exact Lib.bytesWorld_below _ _ _⟩)
  (fun w s hg hl n1 n2=>by
   obtain⟨ev,h1,h2⟩:=hg.syn;refine(Any.strconv_Atoi_syntax jN1 s hl ?_ ev w h1 h2).mono fun e w' q=>by obtain⟨N,rfl,_,_,hb⟩:=q;exact⟨⟨_,_,rfl⟩,hb⟩
   cases hA:Lib.atoiAll s.data.toList with
   | ok v=>exact absurd hA (n1 v)
   | range=>exact absurd hA n2
   | _=>rfl)
  (fun w s hg hl h=>by
   obtain⟨ev,h1,h2⟩:=hg.rng
   exact(Any.strconv_Atoi_range jN1 s hl h ev w h1 h2).mono fun e w' q=>by obtain⟨N,rfl,_,_,hb⟩:=q;exact⟨⟨_,_,rfl⟩,hb⟩)
def mK1 :Go.Shelf.Ren:=⟨fun | 5=>77 | 8=>143 | 7=>142 | 19=>218 | 20=>219 | 10=>210 | 11=>211 | 12=>212 | 13=>213 | 14=>214 | 15=>215 | 16=>145 | 17=>216 | 18=>217 | 30=>278 | 31=>279 | 32=>280 | 33=>281 | 34=>282 | 35=>220 | 40=>329 | n=>n,fun | 23=>22 | 25=>3 | 3=>3 | 32=>152 | 22=>22 | 0=>0 | 44=>208 | 46=>210 | 4=>4 | 36=>202 | 35=>201 | 41=>41 | 5=>5 | 9=>9 | 53=>245 | 57=>249 | 63=>273 | 64=>136 | n=>n,fun | n=>n⟩
theorem kV1 :Go.Proofs.SlLaysM.n5 Tryz.prog mK1 where
 mixed:=by kernel_rfl
 f5:=⟨Tryz.f77.name,by kernel_rfl,Tryz.func77.trans (congrArg some (by kernel_rfl))⟩
 f7:=⟨Tryz.f142.name,by kernel_rfl,Tryz.func142.trans (congrArg some (by kernel_rfl))⟩
 f8:=Tryz.func143.trans (congrArg some (by kernel_rfl))
 f10:=⟨Tryz.f210.name,by kernel_rfl,Tryz.func210.trans (congrArg some (by kernel_rfl))⟩
 f11:=⟨Tryz.f211.name,by kernel_rfl,Tryz.func211.trans (congrArg some (by kernel_rfl))⟩
 f12:=⟨Tryz.f212.name,by kernel_rfl,Tryz.func212.trans (congrArg some (by kernel_rfl))⟩
 f13:=⟨Tryz.f213.name,by kernel_rfl,Tryz.func213.trans (congrArg some (by kernel_rfl))⟩
 f14:=⟨Tryz.f214.name,by kernel_rfl,Tryz.func214.trans (congrArg some (by kernel_rfl))⟩
 f15:=⟨Tryz.f215.name,by kernel_rfl,Tryz.func215.trans (congrArg some (by kernel_rfl))⟩
 f16:=⟨Tryz.f145.name,by kernel_rfl,Tryz.func145.trans (congrArg some (by kernel_rfl))⟩
 f17:=⟨Tryz.f216.name,by kernel_rfl,Tryz.func216.trans (congrArg some (by kernel_rfl))⟩
 f18:=⟨Tryz.f217.name,by kernel_rfl,Tryz.func217.trans (congrArg some (by kernel_rfl))⟩
 f19:=Tryz.func218.trans (congrArg some (by kernel_rfl))
 f20:=Tryz.func219.trans (congrArg some (by kernel_rfl))
 f30:=⟨Tryz.f278.name,by kernel_rfl,Tryz.func278.trans (congrArg some (by kernel_rfl))⟩
 f31:=Tryz.func279.trans (congrArg some (by kernel_rfl))
 f32:=Tryz.func280.trans (congrArg some (by kernel_rfl))
 f33:=⟨Tryz.f281.name,by kernel_rfl,Tryz.func281.trans (congrArg some (by kernel_rfl))⟩
 f34:=⟨Tryz.f282.name,by kernel_rfl,Tryz.func282.trans (congrArg some (by kernel_rfl))⟩
 f35:=⟨Tryz.f220.name,by kernel_rfl,Tryz.func220.trans (congrArg some (by kernel_rfl))⟩
 f40:=⟨Tryz.f329.name,by kernel_rfl,Tryz.func329.trans (congrArg some (by kernel_rfl))⟩
 t0:=Tryz.underlying0
 a0:=Tryz.isAgg0
 z0:=Tryz.sizeOf0
 v0:=Tryz.zeroValue0
 t3:=Tryz.underlying3
 a3:=Tryz.isAgg3
 z3:=Tryz.sizeOf3
 v3:=Tryz.zeroValue3
 t4:=Tryz.underlying4
 a4:=Tryz.isAgg4
 z4:=Tryz.sizeOf4
 v4:=Tryz.zeroValue4
 t5:=Tryz.underlying5
 a5:=Tryz.isAgg5
 z5:=Tryz.sizeOf5
 v5:=Tryz.zeroValue5
 t9:=Tryz.underlying9
 a9:=Tryz.isAgg9
 z9:=Tryz.sizeOf9
 v9:=Tryz.zeroValue9
 t22:=Tryz.underlying22
 a22:=Tryz.isAgg22
 z22:=Tryz.sizeOf22
 v22:=Tryz.zeroValue22
 t23:=Tryz.underlying22
 a23:=Tryz.isAgg22
 z23:=Tryz.sizeOf22
 v23:=Tryz.zeroValue22
 t25:=Tryz.underlying3
 a25:=Tryz.isAgg3
 z25:=Tryz.sizeOf3
 v25:=Tryz.zeroValue3
 t32:=Tryz.underlying152
 a32:=Tryz.isAgg152
 z32:=Tryz.sizeOf152
 v32:=Tryz.zeroValue152
 t35:=Tryz.underlying201
 a35:=Tryz.isAgg201
 z35:=Tryz.sizeOf201
 v35:=Tryz.zeroValue201
 t36:=Tryz.underlying202
 a36:=Tryz.isAgg202
 z36:=Tryz.sizeOf202
 v36:=Tryz.zeroValue202
 t41:=Tryz.underlying41
 a41:=Tryz.isAgg41
 z41:=Tryz.sizeOf41
 v41:=Tryz.zeroValue41
 t44:=Tryz.underlying208
 a44:=Tryz.isAgg208
 z44:=Tryz.sizeOf208
 v44:=Tryz.zeroValue208
 t46:=Tryz.underlying210
 a46:=Tryz.isAgg210
 z46:=Tryz.sizeOf210
 v46:=Tryz.zeroValue210
 t53:=Tryz.underlying245
 a53:=Tryz.isAgg245
 z53:=Tryz.sizeOf245
 v53:=Tryz.zeroValue245
 t57:=Tryz.underlying249
 a57:=Tryz.isAgg249
 z57:=Tryz.sizeOf249
 v57:=Tryz.zeroValue249
 t63:=Tryz.underlying273
 a63:=Tryz.isAgg273
 z63:=Tryz.sizeOf273
 v63:=Tryz.zeroValue273
 t64:=Tryz.underlying136
 a64:=Tryz.isAgg136
 z64:=Tryz.sizeOf136
 v64:=Tryz.zeroValue136
theorem ss77 :∀y r,(oK 77 3).sem y=some r→FnOK Tryz.prog GB G (oK 77 3) y r:=
 iK1 (c:=Tryz.f77.body.getD .skip) Tryz.func77 (by kernel_rfl) (by kernel_rfl)
  (fun w g cap zs hH hb hsz=>AnyM.slices_Sort_int kV1 g 0 cap zs w hH hb hsz)
  (fun w=>AnyM.slices_Sort_int_none kV1 none 0 w)
def xK1 :Go.Shelf.Ren:=⟨fun | 6=>85 | 15=>143 | 14=>150 | 28=>218 | 29=>219 | 20=>221 | 21=>222 | 22=>223 | 23=>224 | 24=>225 | 25=>226 | 26=>227 | 27=>228 | 46=>283 | 47=>279 | 48=>280 | 49=>284 | 50=>285 | 57=>330 | n=>n,fun | 22=>53 | 24=>68 | 25=>115 | 3=>3 | 39=>152 | 0=>0 | 53=>208 | 55=>210 | 4=>4 | 46=>202 | 45=>201 | 50=>41 | 5=>5 | 9=>9 | 66=>245 | 70=>249 | 76=>273 | 77=>136 | n=>n,fun | n=>n⟩
theorem cW1 :Go.Proofs.SlLaysF0.n6 Tryz.prog xK1 where
 mixed:=by kernel_rfl
 f6:=⟨Tryz.f85.name,by kernel_rfl,Tryz.func85.trans (congrArg some (by kernel_rfl))⟩
 f14:=⟨Tryz.f150.name,by kernel_rfl,Tryz.func150.trans (congrArg some (by kernel_rfl))⟩
 f15:=Tryz.func143.trans (congrArg some (by kernel_rfl))
 f20:=⟨Tryz.f221.name,by kernel_rfl,Tryz.func221.trans (congrArg some (by kernel_rfl))⟩
 f21:=⟨Tryz.f222.name,by kernel_rfl,Tryz.func222.trans (congrArg some (by kernel_rfl))⟩
 f22:=⟨Tryz.f223.name,by kernel_rfl,Tryz.func223.trans (congrArg some (by kernel_rfl))⟩
 f23:=⟨Tryz.f224.name,by kernel_rfl,Tryz.func224.trans (congrArg some (by kernel_rfl))⟩
 f24:=⟨Tryz.f225.name,by kernel_rfl,Tryz.func225.trans (congrArg some (by kernel_rfl))⟩
 f25:=⟨Tryz.f226.name,by kernel_rfl,Tryz.func226.trans (congrArg some (by kernel_rfl))⟩
 f26:=⟨Tryz.f227.name,by kernel_rfl,Tryz.func227.trans (congrArg some (by kernel_rfl))⟩
 f27:=⟨Tryz.f228.name,by kernel_rfl,Tryz.func228.trans (congrArg some (by kernel_rfl))⟩
 f28:=Tryz.func218.trans (congrArg some (by kernel_rfl))
 f29:=Tryz.func219.trans (congrArg some (by kernel_rfl))
 f46:=⟨Tryz.f283.name,by kernel_rfl,Tryz.func283.trans (congrArg some (by kernel_rfl))⟩
 f47:=Tryz.func279.trans (congrArg some (by kernel_rfl))
 f48:=Tryz.func280.trans (congrArg some (by kernel_rfl))
 f49:=⟨Tryz.f284.name,by kernel_rfl,Tryz.func284.trans (congrArg some (by kernel_rfl))⟩
 f50:=⟨Tryz.f285.name,by kernel_rfl,Tryz.func285.trans (congrArg some (by kernel_rfl))⟩
 f57:=⟨Tryz.f330.name,by kernel_rfl,Tryz.func330.trans (congrArg some (by kernel_rfl))⟩
 t0:=Tryz.underlying0
 a0:=Tryz.isAgg0
 z0:=Tryz.sizeOf0
 v0:=Tryz.zeroValue0
 t3:=Tryz.underlying3
 a3:=Tryz.isAgg3
 z3:=Tryz.sizeOf3
 v3:=Tryz.zeroValue3
 t4:=Tryz.underlying4
 a4:=Tryz.isAgg4
 z4:=Tryz.sizeOf4
 v4:=Tryz.zeroValue4
 t5:=Tryz.underlying5
 a5:=Tryz.isAgg5
 z5:=Tryz.sizeOf5
 v5:=Tryz.zeroValue5
 t9:=Tryz.underlying9
 a9:=Tryz.isAgg9
 z9:=Tryz.sizeOf9
 v9:=Tryz.zeroValue9
 t22:=Tryz.underlying53
 a22:=Tryz.isAgg53
 z22:=Tryz.sizeOf53
 v22:=Tryz.zeroValue53
 t25:=Tryz.underlying115
 a25:=Tryz.isAgg115
 z25:=Tryz.sizeOf115
 v25:=Tryz.zeroValue115
 t39:=Tryz.underlying152
 a39:=Tryz.isAgg152
 z39:=Tryz.sizeOf152
 v39:=Tryz.zeroValue152
 t45:=Tryz.underlying201
 a45:=Tryz.isAgg201
 z45:=Tryz.sizeOf201
 v45:=Tryz.zeroValue201
 t46:=Tryz.underlying202
 a46:=Tryz.isAgg202
 z46:=Tryz.sizeOf202
 v46:=Tryz.zeroValue202
 t50:=Tryz.underlying41
 a50:=Tryz.isAgg41
 z50:=Tryz.sizeOf41
 v50:=Tryz.zeroValue41
 t53:=Tryz.underlying208
 a53:=Tryz.isAgg208
 z53:=Tryz.sizeOf208
 v53:=Tryz.zeroValue208
 t55:=Tryz.underlying210
 a55:=Tryz.isAgg210
 z55:=Tryz.sizeOf210
 v55:=Tryz.zeroValue210
 t66:=Tryz.underlying245
 a66:=Tryz.isAgg245
 z66:=Tryz.sizeOf245
 v66:=Tryz.zeroValue245
 t70:=Tryz.underlying249
 a70:=Tryz.isAgg249
 z70:=Tryz.sizeOf249
 v70:=Tryz.zeroValue249
 t76:=Tryz.underlying273
 a76:=Tryz.isAgg273
 z76:=Tryz.sizeOf273
 v76:=Tryz.zeroValue273
 t77:=Tryz.underlying136
 a77:=Tryz.isAgg136
 z77:=Tryz.sizeOf136
 v77:=Tryz.zeroValue136
theorem gD2 (a0 a1 b0 b1:Int) (h0:small a0=true) (h1:small a1=true) (h2:small b0=true) (h3:small b1=true) (W:World):Calls Tryz.prog 86 #[.agg #[.int .i64 a0,.int .i64 a1],.agg #[.int .i64 b0,.int .i64 b1]] W fun e w'=>e = .returned (.int .i64 (qW a0 b0)) ∧ ∃q os',w'=grow (W.drewN q) os':=by
 have g0:=bO h0;have g2:=bO h2;have w0:IntKind.i64.wrap (a0-b0)=a0-b0:=Go.IntWalk.i64_in _ ⟨by omega,by omega⟩;unfold qW
 go_enter Tryz.func86,Tryz.ntmps86
 go_wp2
 go_ret
 exact⟨by first | rfl | (rw[w0];rfl) | (simp only[w0];rfl),0,_,by rw[alloc_eq_grow,alloc_eq_grow,grow_grow];rfl⟩
def tO (p:Int×Int×Unit):Bool:=small p.1&&small p.2.1
def cf86 (x y:Int×Int×Unit):Int:=(fun x y=>qW x.1 y.1) x y
theorem vM1 :SWO (ltOf fun a b:{p:((.st (.cons (.int .i64) (.cons (.int .i64) .nil))):Ty).D // tO p=true}=>cf86 a.1 b.1):=nX1 (fun x:{p:((.st (.cons (.int .i64) (.cons (.int .i64) .nil))):Ty).D // tO p=true}=>x.1.1)
def zf86 :{p:((.st (.cons (.int .i64) (.cons (.int .i64) .nil))):Ty).D // tO p=true}:=⟨((.st (.cons (.int .i64) (.cons (.int .i64) .nil))):Ty).z,by kernel_rfl⟩
theorem dS1 (w:World) (g cap:Nat) (d:Array {p:((.st (.cons (.int .i64) (.cons (.int .i64) .nil))):Ty).D // tO p=true}) (hH:@HoldsK _ ⟨zf86⟩ (fun p:{p:((.st (.cons (.int .i64) (.cons (.int .i64) .nil))):Ty).D // tO p=true}=>((.st (.cons (.int .i64) (.cons (.int .i64) .nil))):Ty).enc p.1) ((.st (.cons (.int .i64) (.cons (.int .i64) .nil))):Ty).sz w g 0 d) (hb:g<w.heap.size) (hsz:d.size<4611686018427387904):
  Calls Tryz.prog 85 #[.slice (some ⟨g,0,none⟩) d.size cap,.func (.func 86) #[] #[]] w fun e w'=>e = .returned (.tuple #[]) ∧ ∃n os,w' = @sortWorldK _ ⟨zf86⟩ (fun p:{p:((.st (.cons (.int .i64) (.cons (.int .i64) .nil))):Ty).D // tO p=true}=>((.st (.cons (.int .i64) (.cons (.int .i64) .nil))):Ty).enc p.1) ((.st (.cons (.int .i64) (.cons (.int .i64) .nil))):Ty).sz w g 0 n (@pdq _ ⟨zf86⟩ (ltOf fun a b=>cf86 a.1 b.1) d 0 d.size (Lib.bitLen d.size) true true) os:=by
 letI:Inhabited {p:((.st (.cons (.int .i64) (.cons (.int .i64) .nil))):Ty).D // tO p=true}:=⟨zf86⟩
 have he:=enters_of Tryz.func86 (by kernel_rfl) rfl;have hc:CmpLays Tryz.prog 86 #[] (fun p:{p:((.st (.cons (.int .i64) (.cons (.int .i64) .nil))):Ty).D // tO p=true}=>((.st (.cons (.int .i64) (.cons (.int .i64) .nil))):Ty).enc p.1) ((.st (.cons (.int .i64) (.cons (.int .i64) .nil))):Ty).sz (fun a b=>cf86 a.1 b.1) g 0 d.size w:=fun _ _ _ _ x y=>gD2 x.1.1 x.1.2.1 y.1.1 y.1.2.1 (gH2.1 x.2).1 (gH2.1 x.2).2 (gH2.1 y.2).1 (gH2.1 y.2).2 _
 exact AnyQ.slices_SortFunc_eq cW1 ((.st (.cons (.int .i64) (.cons (.int .i64) .nil))):Ty).sz Tryz.isAgg68 Tryz.sizeOf68 (fun p:{p:((.st (.cons (.int .i64) (.cons (.int .i64) .nil))):Ty).D // tO p=true}=>((.st (.cons (.int .i64) (.cons (.int .i64) .nil))):Ty).enc p.1) (fun _=>Ty.enc_len) (fun _=>Ty.enc_one) (fun a b=>cf86 a.1 b.1) vM1 86 #[] g 0 cap d w he hc hH hb hsz
theorem sR1 (w:World):Calls Tryz.prog 85 #[.slice none 0 0,.func (.func 86) #[] #[]] w fun e w'=>e = .returned (.tuple #[])∧w'=w:=
 AnyF.slices_SortFunc_none cW1 none 0 (.func (.func 86) #[] #[]) w
theorem rT1 :∀y r,(cN 85 68 (.st (.cons (.int .i64) (.cons (.int .i64) .nil))) 86 (nQ tO zf86 cf86)).sem y=some r→FnOK Tryz.prog GB G (cN 85 68 (.st (.cons (.int .i64) (.cons (.int .i64) .nil))) 86 (nQ tO zf86 cf86)) y r:=
 bH1 (c:=Tryz.f85.body.getD .skip) Tryz.func85 (by kernel_rfl) (by kernel_rfl) rfl (fun _ _ h=>(iR vM1 h).length_eq) (bV vM1 dS1) sR1
def nF1 :Go.Shelf.Ren:=⟨fun | 6=>247 | 15=>143 | 14=>305 | 28=>218 | 29=>219 | 20=>340 | 21=>341 | 22=>342 | 23=>343 | 24=>344 | 25=>345 | 26=>346 | 27=>347 | 46=>360 | 47=>279 | 48=>280 | 49=>361 | 50=>362 | 57=>366 | n=>n,fun | 22=>23 | 24=>30 | 25=>179 | 3=>3 | 39=>152 | 0=>0 | 53=>208 | 55=>210 | 4=>4 | 46=>202 | 45=>201 | 50=>41 | 5=>5 | 9=>9 | 66=>245 | 70=>249 | 76=>273 | 77=>136 | n=>n,fun | n=>n⟩
theorem zL1 :Go.Proofs.SlLaysF0.n6 Tryz.prog nF1 where
 mixed:=by kernel_rfl
 f6:=⟨Tryz.f247.name,by kernel_rfl,Tryz.func247.trans (congrArg some (by kernel_rfl))⟩
 f14:=⟨Tryz.f305.name,by kernel_rfl,Tryz.func305.trans (congrArg some (by kernel_rfl))⟩
 f15:=Tryz.func143.trans (congrArg some (by kernel_rfl))
 f20:=⟨Tryz.f340.name,by kernel_rfl,Tryz.func340.trans (congrArg some (by kernel_rfl))⟩
 f21:=⟨Tryz.f341.name,by kernel_rfl,Tryz.func341.trans (congrArg some (by kernel_rfl))⟩
 f22:=⟨Tryz.f342.name,by kernel_rfl,Tryz.func342.trans (congrArg some (by kernel_rfl))⟩
 f23:=⟨Tryz.f343.name,by kernel_rfl,Tryz.func343.trans (congrArg some (by kernel_rfl))⟩
 f24:=⟨Tryz.f344.name,by kernel_rfl,Tryz.func344.trans (congrArg some (by kernel_rfl))⟩
 f25:=⟨Tryz.f345.name,by kernel_rfl,Tryz.func345.trans (congrArg some (by kernel_rfl))⟩
 f26:=⟨Tryz.f346.name,by kernel_rfl,Tryz.func346.trans (congrArg some (by kernel_rfl))⟩
 f27:=⟨Tryz.f347.name,by kernel_rfl,Tryz.func347.trans (congrArg some (by kernel_rfl))⟩
 f28:=Tryz.func218.trans (congrArg some (by kernel_rfl))
 f29:=Tryz.func219.trans (congrArg some (by kernel_rfl))
 f46:=⟨Tryz.f360.name,by kernel_rfl,Tryz.func360.trans (congrArg some (by kernel_rfl))⟩
 f47:=Tryz.func279.trans (congrArg some (by kernel_rfl))
 f48:=Tryz.func280.trans (congrArg some (by kernel_rfl))
 f49:=⟨Tryz.f361.name,by kernel_rfl,Tryz.func361.trans (congrArg some (by kernel_rfl))⟩
 f50:=⟨Tryz.f362.name,by kernel_rfl,Tryz.func362.trans (congrArg some (by kernel_rfl))⟩
 f57:=⟨Tryz.f366.name,by kernel_rfl,Tryz.func366.trans (congrArg some (by kernel_rfl))⟩
 t0:=Tryz.underlying0
 a0:=Tryz.isAgg0
 z0:=Tryz.sizeOf0
 v0:=Tryz.zeroValue0
 t3:=Tryz.underlying3
 a3:=Tryz.isAgg3
 z3:=Tryz.sizeOf3
 v3:=Tryz.zeroValue3
 t4:=Tryz.underlying4
 a4:=Tryz.isAgg4
 z4:=Tryz.sizeOf4
 v4:=Tryz.zeroValue4
 t5:=Tryz.underlying5
 a5:=Tryz.isAgg5
 z5:=Tryz.sizeOf5
 v5:=Tryz.zeroValue5
 t9:=Tryz.underlying9
 a9:=Tryz.isAgg9
 z9:=Tryz.sizeOf9
 v9:=Tryz.zeroValue9
 t22:=Tryz.underlying23
 a22:=Tryz.isAgg23
 z22:=Tryz.sizeOf23
 v22:=Tryz.zeroValue23
 t25:=Tryz.underlying179
 a25:=Tryz.isAgg179
 z25:=Tryz.sizeOf179
 v25:=Tryz.zeroValue179
 t39:=Tryz.underlying152
 a39:=Tryz.isAgg152
 z39:=Tryz.sizeOf152
 v39:=Tryz.zeroValue152
 t45:=Tryz.underlying201
 a45:=Tryz.isAgg201
 z45:=Tryz.sizeOf201
 v45:=Tryz.zeroValue201
 t46:=Tryz.underlying202
 a46:=Tryz.isAgg202
 z46:=Tryz.sizeOf202
 v46:=Tryz.zeroValue202
 t50:=Tryz.underlying41
 a50:=Tryz.isAgg41
 z50:=Tryz.sizeOf41
 v50:=Tryz.zeroValue41
 t53:=Tryz.underlying208
 a53:=Tryz.isAgg208
 z53:=Tryz.sizeOf208
 v53:=Tryz.zeroValue208
 t55:=Tryz.underlying210
 a55:=Tryz.isAgg210
 z55:=Tryz.sizeOf210
 v55:=Tryz.zeroValue210
 t66:=Tryz.underlying245
 a66:=Tryz.isAgg245
 z66:=Tryz.sizeOf245
 v66:=Tryz.zeroValue245
 t70:=Tryz.underlying249
 a70:=Tryz.isAgg249
 z70:=Tryz.sizeOf249
 v70:=Tryz.zeroValue249
 t76:=Tryz.underlying273
 a76:=Tryz.isAgg273
 z76:=Tryz.sizeOf273
 v76:=Tryz.zeroValue273
 t77:=Tryz.underlying136
 a77:=Tryz.isAgg136
 z77:=Tryz.sizeOf136
 v77:=Tryz.zeroValue136
theorem lA2 (a0 a1 b0 b1:Int) (h0:small a0=true) (h1:small a1=true) (h2:small b0=true) (h3:small b1=true) (W:World):Calls Tryz.prog 186 #[.agg #[.int .i64 a0,.int .i64 a1],.agg #[.int .i64 b0,.int .i64 b1]] W fun e w'=>e = .returned (.int .i64 (kR a0 a1 b0 b1)) ∧ ∃q os',w'=grow (W.drewN q) os':=by
 have g0:=bO h0;have g1:=bO h1;have g2:=bO h2;have g3:=bO h3;have w0:IntKind.i64.wrap (a0-b0)=a0-b0:=Go.IntWalk.i64_in _ ⟨by omega,by omega⟩;have w1:IntKind.i64.wrap (a1-b1)=a1-b1:=Go.IntWalk.i64_in _ ⟨by omega,by omega⟩;unfold kR;by_cases h:a0=b0
 ·rw[decide_eq_true h]
  go_enter Tryz.func186,Tryz.ntmps186
  go_wp2
  go_ret
  exact⟨by first | rfl | (rw[w1];rfl) | (simp only[w1];rfl),0,_,by rw[alloc_eq_grow,alloc_eq_grow,grow_grow];rfl⟩
 rw[decide_eq_false h]
 go_enter Tryz.func186,Tryz.ntmps186
 go_wp2
 go_ret
 exact⟨by first | rfl | (rw[w0];rfl) | (simp only[w0];rfl),0,_,by rw[alloc_eq_grow,alloc_eq_grow,grow_grow];rfl⟩
def fM (p:Int×Int×Unit):Bool:=small p.1&&small p.2.1
def tE1 (x y:Int×Int×Unit):Int:=(fun x y=>kR x.1 x.2.1 y.1 y.2.1) x y
theorem xQ1 :SWO (ltOf fun a b:{p:((.st (.cons (.int .i64) (.cons (.int .i64) .nil))):Ty).D // fM p=true}=>tE1 a.1 b.1):=gT1 (fun x:{p:((.st (.cons (.int .i64) (.cons (.int .i64) .nil))):Ty).D // fM p=true}=>x.1.1) (fun x:{p:((.st (.cons (.int .i64) (.cons (.int .i64) .nil))):Ty).D // fM p=true}=>x.1.2.1)
def qF1 :{p:((.st (.cons (.int .i64) (.cons (.int .i64) .nil))):Ty).D // fM p=true}:=⟨((.st (.cons (.int .i64) (.cons (.int .i64) .nil))):Ty).z,by kernel_rfl⟩
theorem cT1 (w:World) (g cap:Nat) (d:Array {p:((.st (.cons (.int .i64) (.cons (.int .i64) .nil))):Ty).D // fM p=true}) (hH:@HoldsK _ ⟨qF1⟩ (fun p:{p:((.st (.cons (.int .i64) (.cons (.int .i64) .nil))):Ty).D // fM p=true}=>((.st (.cons (.int .i64) (.cons (.int .i64) .nil))):Ty).enc p.1) ((.st (.cons (.int .i64) (.cons (.int .i64) .nil))):Ty).sz w g 0 d) (hb:g<w.heap.size) (hsz:d.size<4611686018427387904):
  Calls Tryz.prog 247 #[.slice (some ⟨g,0,none⟩) d.size cap,.func (.func 186) #[] #[]] w fun e w'=>e = .returned (.tuple #[]) ∧ ∃n os,w' = @sortWorldK _ ⟨qF1⟩ (fun p:{p:((.st (.cons (.int .i64) (.cons (.int .i64) .nil))):Ty).D // fM p=true}=>((.st (.cons (.int .i64) (.cons (.int .i64) .nil))):Ty).enc p.1) ((.st (.cons (.int .i64) (.cons (.int .i64) .nil))):Ty).sz w g 0 n (@pdq _ ⟨qF1⟩ (ltOf fun a b=>tE1 a.1 b.1) d 0 d.size (Lib.bitLen d.size) true true) os:=by
 letI:Inhabited {p:((.st (.cons (.int .i64) (.cons (.int .i64) .nil))):Ty).D // fM p=true}:=⟨qF1⟩
 have he:=enters_of Tryz.func186 (by kernel_rfl) rfl;have hc:CmpLays Tryz.prog 186 #[] (fun p:{p:((.st (.cons (.int .i64) (.cons (.int .i64) .nil))):Ty).D // fM p=true}=>((.st (.cons (.int .i64) (.cons (.int .i64) .nil))):Ty).enc p.1) ((.st (.cons (.int .i64) (.cons (.int .i64) .nil))):Ty).sz (fun a b=>tE1 a.1 b.1) g 0 d.size w:=fun _ _ _ _ x y=>lA2 x.1.1 x.1.2.1 y.1.1 y.1.2.1 (gH2.1 x.2).1 (gH2.1 x.2).2 (gH2.1 y.2).1 (gH2.1 y.2).2 _
 exact AnyQ.slices_SortFunc_eq zL1 ((.st (.cons (.int .i64) (.cons (.int .i64) .nil))):Ty).sz Tryz.isAgg30 Tryz.sizeOf30 (fun p:{p:((.st (.cons (.int .i64) (.cons (.int .i64) .nil))):Ty).D // fM p=true}=>((.st (.cons (.int .i64) (.cons (.int .i64) .nil))):Ty).enc p.1) (fun _=>Ty.enc_len) (fun _=>Ty.enc_one) (fun a b=>tE1 a.1 b.1) xQ1 186 #[] g 0 cap d w he hc hH hb hsz
theorem uU1 (w:World):Calls Tryz.prog 247 #[.slice none 0 0,.func (.func 186) #[] #[]] w fun e w'=>e = .returned (.tuple #[])∧w'=w:=
 AnyF.slices_SortFunc_none zL1 none 0 (.func (.func 186) #[] #[]) w
theorem qS1 :∀y r,(cN 247 30 (.st (.cons (.int .i64) (.cons (.int .i64) .nil))) 186 (nQ fM qF1 tE1)).sem y=some r→FnOK Tryz.prog GB G (cN 247 30 (.st (.cons (.int .i64) (.cons (.int .i64) .nil))) 186 (nQ fM qF1 tE1)) y r:=
 bH1 (c:=Tryz.f247.body.getD .skip) Tryz.func247 (by kernel_rfl) (by kernel_rfl) rfl (fun _ _ h=>(iR xQ1 h).length_eq) (bV xQ1 cT1) uU1
end Go.GV.YtegmfagkklekaaaGreatDoor

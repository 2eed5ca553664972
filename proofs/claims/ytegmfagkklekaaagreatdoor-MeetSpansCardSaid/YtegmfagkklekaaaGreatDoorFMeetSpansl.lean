/-
Part of the words that MeetSpans is proved with: no statement of its own, no conditions.
-/
import Derived.Test.YtegmfagkklekaaaGreatDoorFMeetSpansk
import Derived.Test.YtegmfagkklekaaaGreatDoorProg
import Derived.KernelRfl
import Derived.Laws.Externs
import Derived.Shelf.RegionOpenPlain
import Derived.Deep.LoopGhost
import Derived.Lib.Walk
import Derived.Lib.SliceRun
set_option linter.unusedVariables false
set_option linter.unusedSimpArgs false
namespace Go.GV.YtegmfagkklekaaaGreatDoor
open Go.Proofs
abbrev ty0 :Ty:=.int .i64
abbrev ty1 :Ty:=.row 3 ty0
abbrev ty2 :Ty:=.st (.cons ty0 (.cons ty0 (.cons ty0 (.cons ty0 (.cons ty0 (.cons .bool (.cons ty1 (.cons ty1 (.cons ty1 (.cons ty1 (.cons (.row 30 (.st (.cons ty0 (.cons ty0 .nil)))) (.cons ty1 (.cons ty1 (.cons ty1 (.cons ty1 .nil)))))))))))))))
abbrev ty3 :Ty:=.st (.cons ty0 (.cons ty0 .nil))
abbrev ty4 :Ty:=.st (.cons ty0 (.cons ty0 (.cons ty0 (.cons ty0 (.cons ty0 .nil)))))
abbrev ty5 :Ty:=.st (.cons ty2 (.cons ty0 (.cons ty4 (.cons ty0 .nil))))
abbrev ty6 :Ty:=.st (.cons ty2 (.cons ty5 (.cons ty0 (.cons ty1 (.cons ty1 (.cons ty1 .nil))))))
abbrev ty7 :Ty:=.st (.cons ty0 (.cons ty0 (.cons ty0 (.cons .bool (.cons ty2 (.cons ty1 (.cons ty1 .nil)))))))
abbrev ty8 :Ty:=.st (.cons ty0 (.cons (.row 70 ty3) (.cons (.row 160 ty4) (.cons ty0 .nil))))
abbrev ty9 :Ty:=.st (.cons ty0 (.cons ty0 (.cons .bool (.cons (.int .u8) .nil))))
abbrev ty10 :Ty:=.st (.cons .str (.cons (.int .u64) .nil))
noncomputable section
abbrev U :Slot:=.lf .u
abbrev us (n:Nat):List Slot:=List.replicate n U
abbrev d97 :Type:=Int×Int×Int×Int×Int×Unit
abbrev d25 :Type:=Int×Int×Int×Int×Int×Bool×(List Int)×(List Int)×(List Int)×(List Int)×(List (Int×Int×Unit))×(List Int)×(List Int)×(List Int)×(List Int)×Unit
abbrev d46 :Type:=Int×Int×Int×Bool×d25×(List Int)×(List Int)×Unit
abbrev d101 :Type:=d25×(d25×Int×d97×Int×Unit)×Int×(List Int)×(List Int)×(List Int)×Unit
abbrev tz0 :Type:=Int×Int×Int×Bool×Int×Int×Int×Int×Int×Bool×(List Int)×(List Int)×(List Int)×(List Int)×(List (Int×Int×Unit))×(List Int)×(List Int)×(List Int)×(List Int)×(List Int)×(List Int)×Unit
abbrev tz1 :Type:=(Int×Unit)×(Int×Unit)×((((List Int)×Unit)×(Int×Unit)×Unit)×Unit)×Unit
abbrev tz2 :Type:=List (Int×Int×Unit)
abbrev tz3 :Type:=(((List Int)×Unit)×(Int×Unit)×Unit)×Unit
abbrev tz4 :Type:=Int×tz2×(List d97)×Int×Unit
abbrev tz5 :Type:=(List Int)×Int×Unit
abbrev tz6 :Type:=(Int×Int×Unit)×Bool×Unit
abbrev tz7 :Type:=Int×Int×Int×Int×Unit
abbrev tz8 :Type:=d46×Int×Int×Unit
abbrev tz10 :Type:=Int×Int×Int×Unit
abbrev tz11 :Type:=(List Int)×(tz0×(Int×Unit)×Unit)×Unit
abbrev tz12 :Type:=(List Int)×Unit×Unit
abbrev tz13 :Type:=(List Int)×Bool×Unit
abbrev tz14 :Type:=Bool×(Int×Unit)×(Int×Unit)×tz3×Unit
abbrev tz15 :Type:=d25×Int×Int×Unit
def c22 :FnD:=fD 22 (.cons (.val ty1) (.cons (.val ty1) .nil)) (.cons sB .nil) 26 [.tmp 4] Tryz.f22 (nx (nx (.two (nx (.two (.at_ 1 (aa [0,1,5]) .no) .no)) .no)))
def c63 :FnD:=fD 63 (.cons sI .nil) (.cons sB .nil) 9 [.tmp 2] Tryz.f63 .no
def c50 :FnD:=fD 50 (.cons (.val ty2) .nil) (.cons sB .nil) 54 [.tmp 2] Tryz.f50 (nx (.two (nx (.at_ 1 [(1,.as),(40,.as)] .no)) .no))
def c119 :FnD:=fD 119 (.cons (.val ty1) (.cons sI (.cons sI (.cons sB .nil)))) (.cons sB .nil) 51 [.tmp 8] Tryz.f119 (nx (.two (nx (.two (.at_ 1 (aa [0,1,2,3,11,12,13]) (nx (nx (.two (.two (nx (nx (.at_ 2 (aa [0,1,2,3,11,12,13,46]) .no))) .no) .no)))) .no)) .no))
def c186 :FnD:=fD 186 (.cons (.val ty3) (.cons (.val ty3) .nil)) (.cons sI .nil) 20 [.tmp 4] Tryz.f186 .no
def c120 :FnD:=fD 120 (.cons (.val ty2) .nil) (.cons sB .nil) 72 [.tmp 2] Tryz.f120 (nx (.two (nx (.two (.at_ 1 (aa [1,6,7,8]) (nx (nx (.two (.two (nx (.two (nx (.at_ 2 (aa [1,4,6,7,8,13]) (nx (nx (.at_ 3 (aa [1,6,7,8,47]) .no))))) .no)) .no) .no)))) .no)) .no))
def c51 :FnD:=fD 51 (.cons (.val ty2) .nil) (.cons sB .nil) 45 [.tmp 2] Tryz.f51 .no
def c11 :FnD:=fD 11 (.cons (.val ty2) .nil) (.cons sB .nil) 106 [.tmp 2] Tryz.f11 (nx (.two (nx (.at_ 1 [(1,.as),(11,.as)] .no)) (.two (.two (nx (.at_ 2 [(1,.as),(12,.as)] (nx (nx (.at_ 3 [(1,.as),(22,.as)] (nx (nx (.at_ 4 [(1,.as),(37,.as)] .no)))))))) .no) (.at_ 5 [(1,.as)] (nx (.two (nx (.at_ 6 [(1,.as),(85,.as)] .no)) (.at_ 7 [(1,.as)] .no)))))))
def b122 :Code:=Tryz.f122.body.getD .skip
def c122 :FnD:=fD 122 (.cons sI .nil) (.cons sI (.cons sI .nil)) 18 [.tmp 2,.tmp 3] Tryz.f122 .no
def c190 :FnD:=fD 190 (.cons sI .nil) (.cons sB .nil) 9 [.tmp 2] Tryz.f190 .no
def c191 :FnD:=fD 191 (.cons sI (.cons sI (.cons sI .nil))) (.cons sI .nil) 36 [.tmp 6] Tryz.f191 .no
def c251 :FnD:=fD 251 (.cons sI .nil) (.cons sB .nil) 16 [.tmp 2] Tryz.f251 .no
def c192 :FnD:=fD 192 (.cons sI (.cons sI .nil)) (.cons sI .nil) 23 [.tmp 4] Tryz.f192 (nx (.two (nx (.two (nx (.at_ 1 (aa [0,5,6]) (nx (nx (nx (nx (.at_ 2 [(15,.as)] .no))))))) .no)) .no))
def c123 :FnD:=fD 123 (.cons sI .nil) (.cons sI (.cons sI (.cons sI (.cons sI .nil)))) 56 [.tmp 2,.tmp 3,.tmp 4,.tmp 5] Tryz.f123 (nx (nx (nx (nx (.two (.two (.at_ 1 [(0,.as),(7,.as)] (.two (nx (.at_ 2 (aa [0,7,27]) .no)) .no)) .no) (.at_ 3 [(0,.as),(7,.as)] (.two (.two (.at_ 4 [(0,.as),(7,.as)] .no) .no) (nx (nx (.two (.two (.at_ 5 (aa [7,8,9]) .no) .no) .no))))))))))
def c290 :FnD:=fD 290 (.cons sI .nil) (.cons sI .nil) 8 [.tmp 2] Tryz.f290 .no
def c260 :FnD:=fD 260 (.cons sI .nil) (.cons (.val ty4) (.cons sB .nil)) 24 [.cell 2 97,.tmp 3] Tryz.f260 .no
def c197 :FnD:=fD 197 (.cons (.val ty2) (.cons sI .nil)) (.cons (.val ty5) (.cons sB .nil)) 34 [.cell 4 99,.tmp 5] Tryz.f197 (nx (.two (nx (.at_ 1 (aa [1,2,4,17]) .no)) .no))
def c76 :FnD:=aV 76 3 ty0
def c261 :FnD:=fD 261 (.cons (.val ty1) (.cons sB (.cons sI (.cons sI .nil)))) (.cons (.val ty1) .nil) 29 [.tmp 8] Tryz.f261 (nx (nx (nx (nx (.two (nx (.two (.at_ 1 [(9,.own 3 ty0),(19,.as),(20,.as)] .no) .no)) .no)))))
def c198 :FnD:=fD 198 (.cons (.val ty5) .nil) (.cons (.val ty1) (.cons (.val ty1) (.cons (.val ty1) .nil))) 36 [.tmp 2,.tmp 3,.tmp 4] Tryz.f198 .no
def c129 :FnD:=fD 129 (.cons (.val ty2) (.cons sI .nil)) (.cons (.val ty6) (.cons sB .nil)) 33 [.cell 4 101,.tmp 5] Tryz.f129 .no
def b65 :Code:=Tryz.f65.body.getD .skip
def c65 :FnD:=fD 65 (.cons (.val ty2) (.cons sI (.cons sI .nil))) (.cons (.val ty6) (.cons sB .nil)) 36 [.cell 6 101,.tmp 7] Tryz.f65 (nx (nx (.two (nx (.at_ 1 (aa [6,8,33]) .no)) .no)))
def c287 :FnD:=fD 287 (.cons sI .nil) (.cons sB .nil) 9 [.tmp 2] Tryz.f287 .no
def c258 :FnD:=fD 258 (.cons sI (.cons sI (.cons sI .nil))) (.cons sB .nil) 20 [.tmp 6] Tryz.f258 .no
def c195 :FnD:=fD 195 (.cons sI (.cons sI (.cons sI .nil))) (.cons sI (.cons sI .nil)) 17 [.tmp 6,.tmp 7] Tryz.f195 .no
def c270 :FnD:=fD 270 (.cons sI (.cons sI .nil)) (.cons sI (.cons sI .nil)) 10 [.tmp 4,.tmp 5] Tryz.f270 .no
def c316 :FnD:=fD 316 (.cons sI .nil) (.cons sI .nil) 5 [.tmp 2] Tryz.f316 .no
def c289 :FnD:=fD 289 (.cons sI .nil) (.cons sB .nil) 9 [.tmp 2] Tryz.f289 .no
def c363 :FnD:=fD 363 (.cons sI (.cons sI .nil)) (.cons sI .nil) 24 [.tmp 4] Tryz.f363 .no
def c351 :FnD:=fD 351 (.cons sI (.cons sI .nil)) (.cons sI (.cons sI (.cons sI .nil))) 50 [.tmp 4,.tmp 5,.tmp 6] Tryz.f351 (nx (nx (.two (nx (.at_ 1 (aa [0,1,7,24]) .no)) (nx (.at_ 2 (aa [0,1,7]) .no)))))
def c317 :FnD:=fD 317 (.cons (.val ty2) (.cons (.val ty4) .nil)) (.cons sI .nil) 24 [.tmp 4] Tryz.f317 .no
def c318 :FnD:=fD 318 (.cons sI (.cons sI .nil)) (.cons sI .nil) 35 [.tmp 4] Tryz.f318 (nx (nx (nx (nx (.at_ 1 [(1,.as),(5,.as)] .no)))))
def c269 :FnD:=fD 269 (.cons (.val ty2) (.cons (.val ty4) .nil)) (.cons sI (.cons sI .nil)) 42 [.tmp 4,.tmp 5] Tryz.f269 .no
def b205 :Code:=Tryz.f205.body.getD .skip
def c205 :FnD:=fD 205 (.cons (.val ty5) (.cons sI .nil)) (.cons sI (.cons sI .nil)) 70 [.tmp 4,.tmp 5] Tryz.f205 .no
def c352 :FnD:=fD 352 (.cons sI (.cons sI .nil)) (.cons sI .nil) 14 [.tmp 4] Tryz.f352 .no
def c353 :FnD:=fD 353 (.cons sI (.cons sI .nil)) (.cons sI .nil) 18 [.tmp 4] Tryz.f353 .no
def c319 :FnD:=fD 319 (.cons (.val ty2) (.cons sI .nil)) (.cons sI .nil) 53 [.tmp 4] Tryz.f319 .no
def c271 :FnD:=fD 271 (.cons (.val ty5) (.cons sI .nil)) (.cons sI .nil) 15 [.tmp 4] Tryz.f271 .no
def b206 :Code:=Tryz.f206.body.getD .skip
def c206 :FnD:=fD 206 (.cons (.val ty6) (.cons sI .nil)) (.cons sB .nil) 14 [.tmp 4] Tryz.f206 .no
def c354 :FnD:=fD 354 (.cons (.val ty1) (.cons sI .nil)) (.cons sI .nil) 19 [.tmp 4] Tryz.f354 (nx (.two (nx (.two (.at_ 1 (aa [0,1,7,8]) .no) .no)) .no))
def c322 :FnD:=fD 322 (.cons (.val ty1) (.cons sI .nil)) (.cons sB .nil) 9 [.tmp 4] Tryz.f322 .no
def c323 :FnD:=fD 323 (.cons sI .nil) (.cons sI (.cons sI (.cons sI .nil))) 25 [.tmp 2,.tmp 3,.tmp 4] Tryz.f323 .no
def c324 :FnD:=fD 324 (.cons (.val ty1) (.cons sI (.cons sI .nil))) (.cons sB .nil) 23 [.tmp 6] Tryz.f324 .no
def c325 :FnD:=fD 325 (.cons (.val ty2) (.cons (.val ty4) .nil)) (.cons sB .nil) 83 [.tmp 4] Tryz.f325 (nx (nx (nx (nx (.two (nx (.at_ 1 (aa [2,3,6,8,35]) .no)) (.at_ 2 (aa [2,3,6,8]) (nx (.two (nx (.two (.at_ 3 (aa [3,9,10,54,55,56]) (nx (nx (.two (.two (nx (nx (.at_ 4 (aa [3,9,10,54,55,56,81]) .no))) .no) .no)))) .no)) .no))))))))
def c326 :FnD:=fD 326 (.cons (.val ty5) (.cons (.val ty4) .nil)) (.cons sB .nil) 75 [.tmp 4] Tryz.f326 .no
def c355 :FnD:=fD 355 (.cons sI (.cons sI .nil)) (.cons sI (.cons sI .nil)) 23 [.tmp 4,.tmp 5] Tryz.f355 .no
def c327 :FnD:=fD 327 (.cons (.val ty2) (.cons (.val ty4) .nil)) (.cons sB .nil) 39 [.tmp 4] Tryz.f327 .no
def c276 :FnD:=fD 276 (.cons (.val ty5) (.cons sI .nil)) (.cons sB .nil) 77 [.tmp 4] Tryz.f276 (nx (nx (.two (nx (.at_ 1 (aa [1,2,5,32]) .no)) (.at_ 2 (aa [1,2,5]) .no))))
def b208 :Code:=Tryz.f208.body.getD .skip
def c208 :FnD:=fD 208 (.cons (.val ty6) (.cons sI .nil)) (.cons sB .nil) 9 [.tmp 4] Tryz.f208 .no
def c220 :FnD:=fD 220 (.cons sI .nil) (.cons sB .nil) 6 [.tmp 2] Tryz.f220 .no
def c145 :FnD:=fD 145 (.cons sI (.cons sI .nil)) (.cons sB .nil) 17 [.tmp 4] Tryz.f145 .no
def c146 :FnD:=fD 146 (.cons sI .nil) (.cons sB .nil) 6 [.tmp 2] Tryz.f146 .no
def c81 :FnD:=fD 81 (.cons (.val ty1) (.cons sI .nil)) (.cons sI (.cons sB .nil)) 54 [.tmp 4,.tmp 5] Tryz.f81 (nx (nx (nx (.two (.two (.at_ 1 (aa [0,1,6,7,8]) .no) .no) .no))))
def c320 :FnD:=fD 320 (.cons (.val ty6) (.cons sI (.cons (.val ty1) .nil))) (.cons sB .nil) 39 [.tmp 6] Tryz.f320 .no
def c272 :FnD:=fD 272 (.cons (.val ty6) (.cons (.val ty1) .nil)) (.cons (.val ty1) .nil) 30 [.tmp 4] Tryz.f272 (nx (nx (nx (.two (nx (.two (.at_ 1 (aa [1,2]++[(5,.own 3 ty0)]++aa [14,15,16]) .no) .no)) .no))))
def c321 :FnD:=fD 321 (.cons (.val ty6) (.cons sI .nil)) (.cons sI (.cons sI .nil)) 43 [.tmp 4,.tmp 5] Tryz.f321 .no
def c275 :FnD:=fD 275 (.cons sI .nil) (.cons sB .nil) 3 [.tmp 2] Tryz.f275 .no
def oM1 :Code:=Tryz.f274.body.getD .skip
def gB1 :FnD:=fD 274 (.cons (.val ty6) (.cons sI (.cons sI (.cons sI (.cons sI (.cons (.fn 275 .nil) .nil)))))) (.cons (.val ty1) .nil) 105 [.tmp 12] Tryz.f274 (nx (nx (.two (nx (.two (.at_ 1 (aa [1,2,3,4,5,6]++[(13,.own 3 ty0)]++aa [23,24,25]) (nx (nx (.two (.two (nx (.two (nx (.at_ 2 (aa [1,2,3,4,5,6]++[(13,.own 3 ty0)]++aa [15,23,24,25,39]) .no)) (nx (.two (.at_ 3 (aa [1,2,3,4,5,6]++[(13,.own 3 ty0)]++aa [15,23,24,25,41,42,43]) (nx (nx (.two (.two (nx (nx (.two (nx (.at_ 4 (aa [1,2,3,4,5,6]++[(13,.own 3 ty0)]++aa [15,18,23,24,25,41,42,43,60]) .no)) (nx (.two (.at_ 5 (aa [1,2,3,4,5,6]++[(13,.own 3 ty0)]++aa [15,18,23,24,25,41,42,43,62,63,64]) (nx (nx (.two (.two (nx (nx (.two (nx (.at_ 6 (aa [1,2,3,4,5,6]++[(13,.own 3 ty0)]++aa [15,18,21,23,24,25,41,42,43,62,63,64,91]) .no)) .no))) .no) .no)))) .no))))) .no) .no)))) .no)))) .no) .no)))) .no)) .no)))
def c273 :FnD:=fD 273 (.cons (.val ty6) (.cons sI (.cons sI .nil))) (.cons (.val ty1) .nil) 57 [.tmp 6] Tryz.f273 (nx (nx (nx (nx (nx (.two (nx (.two (.at_ 1 (aa [2,3]++[(7,.own 3 ty0)]++aa [8,9,11,12]) (.two (nx (.at_ 2 (aa [2,3]++[(7,.own 3 ty0)]++aa [8,9,11,12,39]) .no)) .no)) .no)) .no))))))
def lQ1 :FnD:=fD 130 (.cons sI (.cons (.box 22 (.cons (.own 3 ty0) .nil)) (.cons (.box 3 (.cons sI .nil)) .nil))) (.cons sB .nil) 13 [.tmp 4] Tryz.f130 .no
def eO1 :Code:=Tryz.f136.body.getD .skip
def xA1 :FnD:={ fid:=136,par:=(.cons (.val ty1) (.cons (.box 3 (.cons sI .nil)) (.cons (.box 3 (.cons sI .nil)) (.cons (.box 94 (.cons (.fn 130 (.cons (.box 22 (.cons (.own 3 ty0) .nil)) (.cons (.box 3 (.cons sI .nil)) .nil))) .nil)) .nil)))),res:=(.cons sB .nil),n:=29,rv:=[.tmp 5],body:=Tryz.f136.body,an:=(nx (.two (nx (.two (.at_ 1 (aa [1,2,3,8,9,10]) (nx (nx (.two (.two (nx (nx (.at_ 2 (aa [1,2,3,8,9,10,27]) .no))) .no) .no)))) .no)) .no)),idn:=true }
def gR1 :FnD:={ fid:=207,par:=(.cons (.val ty6) (.cons sI (.cons sI (.cons sI (.cons sI (.cons sI (.cons (.fn 136 (.cons (.box 3 (.cons sI .nil)) (.cons (.box 3 (.cons sI .nil)) (.cons (.box 94 (.cons (.fn 130 (.cons (.box 22 (.cons (.own 3 ty0) .nil)) (.cons (.box 3 (.cons sI .nil)) .nil))) .nil)) .nil)))) .nil))))))),res:=(.cons sB .nil),n:=63,rv:=[.tmp 14],body:=Tryz.f207.body,an:=(nx (nx (nx (nx (.two (nx (.two (.at_ 1 (aa [3,6,7,17,19]) (nx (.two (.two (nx (.at_ 2 (aa [3,6,7,17,19,62]) .no)) .no) .no))) .no)) .no))))),idn:=true }
def yM1 :FnD:={ fid:=137,par:=(.cons (.val ty6) (.cons sI (.cons sI (.cons (.fn 136 (.cons (.box 3 (.cons sI .nil)) (.cons (.box 3 (.cons sI .nil)) (.cons (.box 94 (.cons (.fn 130 (.cons (.box 22 (.cons (.own 3 ty0) .nil)) (.cons (.box 3 (.cons sI .nil)) .nil))) .nil)) .nil)))) .nil)))),res:=.nil,n:=39,rv:=[],body:=Tryz.f137.body,an:=(nx (nx (.two (.at_ 1 (aa [1,2,3,4,8]) (nx (.two (nx (.two (nx (.at_ 2 (aa [1,2,3,4,10,35]) .no)) .no)) .no))) .no))),idn:=true }
def c328 :FnD:=fD 328 (.cons (.val ty6) (.cons sI .nil)) (.cons (.val ty1) .nil) 56 [.tmp 4] Tryz.f328 (nx (nx (nx (.two (nx (.two (.at_ 1 [(1,.as),(2,.as),(5,.own 3 ty0),(6,.as),(7,.as)] (nx (.two (.two (nx (.at_ 2 (aa [1,2]++[(5,.own 3 ty0)]++aa [6,7,48]) .no)) .no) .no))) .no)) .no))))
def uQ1 :FnD:={ fid:=277,par:=(.cons (.val ty6) (.cons sI (.cons (.fn 136 (.cons (.box 3 (.cons sI .nil)) (.cons (.box 3 (.cons sI .nil)) (.cons (.box 94 (.cons (.fn 130 (.cons (.box 22 (.cons (.own 3 ty0) .nil)) (.cons (.box 3 (.cons sI .nil)) .nil))) .nil)) .nil)))) .nil))),res:=(.cons sB .nil),n:=58,rv:=[.tmp 6],body:=Tryz.f277.body,an:=(nx (.two (nx (.two (.at_ 1 (aa [1,2,3,14,15,16]) (nx (nx (.two (.two (nx (nx (nx (.two (.two (nx (nx (nx (.two (.two (nx (.two (.at_ 2 (aa [1,2,3,9,10,14,15,16,37,38,39]) .no) .no)) .no) .no)))) .no) (.at_ 3 (aa [1,2,3,10,14,15,16]) .no))))) .no) .no)))) .no)) .no)),idn:=true }
def nO1 :FnD:={ fid:=209,par:=(.cons (.val ty6) (.cons sI (.cons (.fn 136 (.cons (.box 3 (.cons sI .nil)) (.cons (.box 3 (.cons sI .nil)) (.cons (.box 94 (.cons (.fn 130 (.cons (.box 22 (.cons (.own 3 ty0) .nil)) (.cons (.box 3 (.cons sI .nil)) .nil))) .nil)) .nil)))) .nil))),res:=(.cons sB .nil),n:=71,rv:=[.tmp 6],body:=Tryz.f209.body,an:=(nx (.two (nx (.two (.at_ 1 (aa [1,2,3,16,17,18]) (nx (nx (.two (.two (nx (nx (nx (nx (nx (.two (nx (.two (.at_ 2 (aa [1,2,3,9]++[(10,.own 3 ty0)]++aa [16,17,18,40,41,42]) (nx (nx (.two (.two (nx (nx (.two (.at_ 3 (aa [1,2,3,9]++[(10,.own 3 ty0)]++aa [12,16,17,18,40,41,42,47,48,49]) .no) .no))) .no) .no)))) .no)) .no)))))) .no) .no)))) .no)) .no)),idn:=true }
def aR1 :FnD:={ fid:=138,par:=(.cons (.val ty6) (.cons sI (.cons sI (.cons (.fn 136 (.cons (.box 3 (.cons sI .nil)) (.cons (.box 3 (.cons sI .nil)) (.cons (.box 94 (.cons (.fn 130 (.cons (.box 22 (.cons (.own 3 ty0) .nil)) (.cons (.box 3 (.cons sI .nil)) .nil))) .nil)) .nil)))) .nil)))),res:=.nil,n:=40,rv:=[],body:=Tryz.f138.body,an:=(nx (nx (nx (nx (.two (.at_ 1 (aa [3,4,10,12]) (nx (.two (.two (nx (.at_ 2 (aa [3,4,10,12,39]) .no)) .no) .no))) .no))))),idn:=true }
def qQ1 :FnD:=fD 70 (.cons (.val ty6) (.cons sI (.cons sI (.cons (.fn 130 (.cons (.box 22 (.cons (.own 3 ty0) .nil)) (.cons (.box 3 (.cons sI .nil)) .nil))) .nil)))) .nil 37 [] Tryz.f70 (nx (nx (nx (.at_ 1 (aa [3,4,5,6,7]) .no))))
def c66 :FnD:=fD 66 (.cons (.val ty6) (.cons (.val ty2) (.cons sI (.cons sI (.cons sI .nil))))) (.cons (.val ty1) .nil) 25 [.tmp 10] Tryz.f66 (nx (nx (nx (.at_ 1 (aa [2,3,5,9]++[(11,.bown 3 ty0 0)]) .no))))
def c17 :FnD:=fD 17 (.cons (.val ty2) (.cons sI (.cons sI (.cons sI .nil)))) (.cons (.val ty1) (.cons sI .nil)) 42 [.tmp 8,.tmp 9] Tryz.f17 .no
def c60 :FnD:=fD 60 (.cons (.val ty1) (.cons (.val ty1) .nil)) (.cons sB .nil) 26 [.tmp 4] Tryz.f60 (nx (nx (.two (nx (.two (.at_ 1 (aa [0,1,12,13]) .no) .no)) .no)))
def c61 :FnD:=fD 61 (.cons (.val (.row 30 ty3)) (.cons (.val (.row 30 ty3)) .nil)) (.cons sB .nil) 26 [.tmp 4] Tryz.f61 (nx (nx (.two (nx (.two (.at_ 1 (aa [0,1,12,13]) .no) .no)) .no)))
def c14 :FnD:=fD 14 (.cons (.val ty2) (.cons (.val ty2) .nil)) (.cons sB .nil) 106 [.tmp 4] Tryz.f14 (nx (.two (nx (.at_ 1 (aa [2,3,44]) .no)) .no))
def c127 :FnD:=fD 127 (.cons sI (.cons sI (.cons sI (.cons sI (.cons sI (.cons sI .nil)))))) (.cons sI (.cons sI .nil)) 59 [.tmp 12,.tmp 13] Tryz.f127 (nx (nx (.two (nx (.at_ 1 (aa [3,4,5,14,48]) .no)) .no)))
def c84 :FnD:=fD 84 (.cons sI .nil) (.cons sI .nil) 11 [.tmp 2] Tryz.f84 .no
def c92 :FnD:=fD 92 (.cons sI .nil) (.cons sB .nil) 11 [.tmp 2] Tryz.f92 .no
def c93 :FnD:=fD 93 (.cons (.val ty1) .nil) (.cons sB .nil) 32 [.tmp 2] Tryz.f93 (nx (.two (nx (.two (.at_ 1 (aa [0,5,6,7]) (nx (nx (.two (.two (nx (nx (.at_ 2 (aa [0,5,6,7,27]) .no))) .no) .no)))) .no)) .no))
def b36 :Code:=Tryz.f36.body.getD .skip
def c36 :FnD:=fD 36 (.cons (.val ty7) .nil) (.cons sB .nil) 48 [.tmp 2] Tryz.f36 (nx (.two (nx (.at_ 1 [(1,.as),(38,.as)] .no)) .no))
def c77 :FnD:=oK 77 3
def c79 :FnD:=fD 79 (.cons (.mv 3 ty0) .nil) (.cons (.own 3 ty0) .nil) 61 [.tmp 2] Tryz.f79 (nx (.two (nx (.two (nx (.at_ 1 [(2,.own 3 ty0)] .no)) .no)) (.two (nx (.two (.at_ 2 [(0,.as),(3,.as)] (nx (.two (.two (nx (.two (nx (.two (nx (.two (.at_ 3 (aa [0,3,4,5]) .no) .no)) (nx (nx (.at_ 4 [(2,.own 3 ty0)] .no))))) .no)) .no) .no))) .no)) (nx (.at_ 5 [(2,.own 3 ty0)] .no)))))
def uP1 :FnD:=fD 80 (.cons sI (.cons (.box 46 (.cons sI (.cons sI (.cons sI (.cons sB (.cons sI (.cons sI (.cons sI (.cons sI (.cons sI (.cons sB (.cons (.val ty1) (.cons (.val ty1) (.cons (.val ty1) (.cons (.val ty1) (.cons (.val (.row 30 ty3)) (.cons (.val ty1) (.cons (.val ty1) (.cons (.val ty1) (.cons (.val ty1) (.cons (.val ty1) (.cons (.val ty1) .nil)))))))))))))))))))))) (.cons (.box 3 (.cons sI .nil)) .nil))) (.cons sB .nil) 20 [.tmp 4] Tryz.f80 .no
def uM1 :FnD:=fD 144 (.cons (.own 3 ty0) (.cons (.fn 80 (.cons (.box 46 (.cons sI (.cons sI (.cons sI (.cons sB (.cons sI (.cons sI (.cons sI (.cons sI (.cons sI (.cons sB (.cons (.val ty1) (.cons (.val ty1) (.cons (.val ty1) (.cons (.val ty1) (.cons (.val (.row 30 ty3)) (.cons (.val ty1) (.cons (.val ty1) (.cons (.val ty1) (.cons (.val ty1) (.cons (.val ty1) (.cons (.val ty1) .nil)))))))))))))))))))))) (.cons (.box 3 (.cons sI .nil)) .nil))) .nil)) (.cons sI .nil) 19 [.tmp 4] Tryz.f144 (nx (.two (nx (.two (.at_ 1 (aa [0,1,7,8]) .no) .no)) .no))
def hO1 :FnD:=fD 78 (.cons (.mv 3 ty0) (.cons (.fn 80 (.cons (.box 46 (.cons sI (.cons sI (.cons sI (.cons sB (.cons sI (.cons sI (.cons sI (.cons sI (.cons sI (.cons sB (.cons (.val ty1) (.cons (.val ty1) (.cons (.val ty1) (.cons (.val ty1) (.cons (.val (.row 30 ty3)) (.cons (.val ty1) (.cons (.val ty1) (.cons (.val ty1) (.cons (.val ty1) (.cons (.val ty1) (.cons (.val ty1) .nil)))))))))))))))))))))) (.cons (.box 3 (.cons sI .nil)) .nil))) .nil)) (.cons (.own 3 ty0) .nil) 42 [.tmp 4] Tryz.f78 (nx (nx (.two (nx (.two (nx (.at_ 1 [(4,.own 3 ty0)] .no)) .no)) (.two (nx (.two (.at_ 2 (aa [0,1,5,6]) .no) .no)) (nx (nx (.at_ 3 [(4,.own 3 ty0)] .no)))))))
def c29 :FnD:=fD 29 (.cons (.val ty7) (.cons sI .nil)) (.cons (.val ty1) (.cons sI .nil)) 45 [.tmp 4,.tmp 5] Tryz.f29 (nx (nx (nx (nx (.at_ 1 (aa [2,3,6]) .no)))))
def c147 :FnD:=fD 147 (.cons sI .nil) (.cons sB .nil) 9 [.tmp 2] Tryz.f147 .no
def c148 :FnD:=fD 148 (.cons (.val (.row 70 ty3)) .nil) (.cons sB .nil) 42 [.tmp 2] Tryz.f148 (nx (.two (nx (.two (.at_ 1 (aa [0,5,6,7]) (nx (nx (.two (.two (nx (nx (.at_ 2 (aa [0,5,6,7,37]) .no))) .no) .no)))) .no)) .no))
def c149 :FnD:=fD 149 (.cons (.val (.row 160 ty4)) .nil) (.cons sB .nil) 72 [.tmp 2] Tryz.f149 (nx (.two (nx (.two (.at_ 1 (aa [0,6,7,8]) (nx (nx (.two (.two (nx (nx (.at_ 2 (aa [0,6,7,8,55]) .no))) .no) .no)))) .no)) .no))
def b83 :Code:=Tryz.f83.body.getD .skip
def c83 :FnD:=fD 83 (.cons (.val ty8) .nil) (.cons sB .nil) 57 [.tmp 2] Tryz.f83 (nx (.two (nx (.at_ 1 [(1,.as),(15,.as)] .no)) (nx (nx (.two (nx (.at_ 2 (aa [1,3,39]) .no)) .no)))))
def c96 :FnD:=fD 96 (.cons (.val ty8) (.cons sI .nil)) (.cons sB .nil) 11 [.tmp 4] Tryz.f96 .no
def c157 :FnD:=aV 157 70 ty3
def c288 :FnD:=fD 288 (.cons sI .nil) (.cons sB .nil) 9 [.tmp 2] Tryz.f288 .no
def c232 :FnD:=fD 232 (.cons sI (.cons sI (.cons sI (.cons sI .nil)))) (.cons sI (.cons sI .nil)) 57 [.tmp 8,.tmp 9] Tryz.f232 (nx (.two (nx (.at_ 1 (aa [0,1,2,3,31]) .no)) (nx (.two (.two (.at_ 2 (aa [0,1,2,10]) (.two (nx (.at_ 3 (aa [0,1,2,10,53]) .no)) .no)) .no) .no))))
def c158 :FnD:=fD 158 (.cons (.val ty8) (.cons sI .nil)) (.cons (.val (.row 70 ty3)) .nil) 64 [.tmp 4] Tryz.f158 (nx (.two (nx (.at_ 1 (aa [1,2,25]) .no)) (nx (.two (nx (.two (.at_ 2 (aa [1]++[(5,.own 70 ty3)]++aa [27,28,29]) .no) .no)) .no))))
def c97 :FnD:=fD 97 (.cons (.val ty8) (.cons sI .nil)) (.cons (.val (.row 70 ty3)) .nil) 52 [.tmp 4] Tryz.f97 (nx (nx (nx (nx (nx (.two (nx (.two (.at_ 1 [(2,.as),(7,.as),(11,.own 70 ty3),(12,.as)] .no) .no)) .no))))))
def c40 :FnD:=fD 40 (.cons (.val ty8) (.cons sI .nil)) (.cons (.val ty3) (.cons sB .nil)) 28 [.cell 4 70,.tmp 5] Tryz.f40 (nx (nx (.two (nx (.two (.at_ 1 (aa [1,4,15,16,17]) .no) .no)) .no)))
def c94 :FnD:=fD 94 (.cons sI .nil) (.cons sB .nil) 23 [.tmp 2] Tryz.f94 .no
def c156 :FnD:=fD 156 (.cons (.val ty8) (.cons sI .nil)) (.cons (.val ty3) (.cons sB .nil)) 31 [.cell 4 70,.tmp 5] Tryz.f156 (nx (nx (nx (nx (.two (nx (.two (.at_ 1 (aa [1,4,6,7,17,18,19]) .no) .no)) .no)))))
def c95 :FnD:=fD 95 (.cons (.val ty8) (.cons sI .nil)) (.cons sI .nil) 22 [.tmp 4] Tryz.f95 .no
def b39 :Code:=Tryz.f39.body.getD .skip
def c39 :FnD:=fD 39 (.cons (.val ty8) (.cons sI .nil)) (.cons sI .nil) 54 [.tmp 4] Tryz.f39 (nx (.two (nx (.at_ 1 (aa [1,2,16]) .no)) (nx (nx (nx (.two (.two (nx (.at_ 2 (aa [1,6,7,28]) .no)) .no) .no))))))
def c87 :FnD:=fD 87 (.cons (.val (.row 68 ty3)) .nil) (.cons (.val (.row 68 ty3)) .nil) 48 [.tmp 2] Tryz.f87 (nx (nx (.two (nx (.two (.at_ 1 ([(3,.own 68 ty3)]++aa [7,8,9]) (nx (nx (.two (.two (nx (nx (nx (.at_ 2 ([(3,.own 68 ty3)]++aa [5,6,7,8,9,27]) .no)))) .no) .no)))) .no)) .no)))
def zQ :FnD:=cN 85 68 ty3 86 (nQ tO zf86 cf86)
def c31 :FnD:=fD 31 (.cons (.val ty7) (.cons (.val (.row 66 ty8)) (.cons sI .nil))) (.cons (.val (.row 68 ty3)) (.cons sI .nil)) 83 [.tmp 6,.tmp 7] Tryz.f31 (nx (.two (nx (.at_ 1 (aa [1,2,3,42]) .no)) (nx (nx (nx (.two (nx (.two (.at_ 2 (aa [1,2,3]++[(10,.own 68 ty3)]++aa [53,54,55]) .no) .no)) .no))))))
def c33 :FnD:=fD 33 (.cons (.val (.row 68 ty3)) (.cons (.val (.row 68 ty3)) .nil)) (.cons sB .nil) 41 [.tmp 4] Tryz.f33 (nx (nx (.two (nx (.two (.at_ 1 (aa [0,1,5]) (nx (.two (.two (nx (.at_ 2 (aa [0,1,5,40]) .no)) .no) .no))) .no)) .no)))
def c99 :FnD:=fD 99 (.cons sI .nil) (.cons sS .nil) 12 [.tmp 2] Tryz.f99 .no
def c168 :FnD:=fD 168 (.cons sS (.cons sS .nil)) (.cons sB .nil) 18 [.tmp 4] Tryz.f168 .no
def c109 :FnD:=fD 109 (.cons sS (.cons sS .nil)) (.cons sB .nil) 8 [.tmp 4] Tryz.f109 .no
def c298 :FnD:={ fid:=298,par:=(.cons sS .nil),res:=(.cons sI .nil),n:=10,rv:=[.tmp 2],body:=none,an:=.no }
def c299 :FnD:={ fid:=299,par:=(.cons sS .nil),res:=(.cons (.val (.int .i32)) (.cons sI .nil)),n:=19,rv:=[.tmp 2,.tmp 3],body:=none,an:=.no }
def c242 :FnD:=fD 242 (.cons sS (.cons sI .nil)) (.cons (.val (.row 9 .str)) .nil) 50 [.tmp 4] Tryz.f242 (nx (nx (nx (nx (.two (nx (.two (.at_ 1 (aa [0,1,6,7]) .no) .no)) .no)))))
def c338 :FnD:=fK 338
def c301 :FnD:=fD 301 (.cons sS (.cons (.val (.int .u8)) .nil)) (.cons sI .nil) 8 [.tmp 4] Tryz.f301 .no
def c245 :FnD:=fD 245 (.cons sS (.cons sS .nil)) (.cons sI .nil) 143 [.tmp 4] Tryz.f245 (nx (nx (nx (nx (nx (nx (nx (nx (.two (.two (.at_ 1 (aa [0,1,5,6,7,8,9,10]) .no) .no) .no)))))))))
def c244 :FnD:=fD 244 (.cons sS (.cons sS .nil)) (.cons sI .nil) 8 [.tmp 4] Tryz.f244 .no
def c300 :FnD:=rN 300
def c243 :FnD:=fD 243 (.cons sS (.cons sS .nil)) (.cons sI .nil) 34 [.tmp 4] Tryz.f243 (nx (nx (nx (nx (.two (.at_ 1 (aa [0,1,5]) .no) .no)))))
def c179 :FnD:=fD 179 (.cons sS (.cons sS (.cons sI (.cons sI .nil)))) (.cons (.val (.row 9 .str)) .nil) 66 [.tmp 8] Tryz.f179 (nx (nx (nx (nx (.at_ 1 (aa [0,1,2,3]) (nx (nx (nx (nx (.two (.two (.at_ 2 (aa [0,1,2,3,9,10]) .no) .no) .no))))))))))
def c115 :FnD:=fD 115 (.cons sS (.cons sS .nil)) (.cons (.val (.row 9 .str)) .nil) 8 [.tmp 4] Tryz.f115 .no
def c233 :FnD:=fD 233 (.cons (.val (.int .u8)) .nil) (.cons sB .nil) 9 [.tmp 2] Tryz.f233 .no
def c166 :FnD:=fD 166 (.cons (.val (.row 5 (.int .u8))) .nil) (.cons sI .nil) 51 [.tmp 2] Tryz.f166 (nx (.two (nx (.two (.at_ 1 (aa [0,6,7,8]) (nx (nx (.two (.two (nx (nx (.at_ 2 (aa [0,3,4,5,6,7,8]) (nx (.at_ 3 (aa [0,3,6,7,8,48]) .no))))) .no) .no)))) .no)) .no))
def c291 :FnD:=fD 291 (.cons sS (.cons sS .nil)) (.cons sB .nil) 21 [.tmp 4] Tryz.f291 .no
def c235 :FnD:=fD 235 (.cons sS (.cons sS .nil)) (.cons sS .nil) 16 [.tmp 4] Tryz.f235 .no
def c167 :FnD:=fD 167 (.cons sS (.cons sS .nil)) (.cons sS .nil) 8 [.tmp 4] Tryz.f167 .no
def b108 :Code:=Tryz.f108.body.getD .skip
def c108 :FnD:=fD 108 (.cons (.val (.row 5 (.int .u8))) .nil) (.cons (.val (.row 9 .str)) (.cons sI (.cons sI .nil))) 59 [.tmp 2,.tmp 3,.tmp 4] Tryz.f108 (nx (nx (nx (nx (nx (.at_ 1 [(6,.as)] (nx (.two (nx (.two (.at_ 2 ([(8,.own 9 .str)]++aa [33,34,35]) .no) .no)) .no))))))))
def c180 :FnD:=fD 180 (.cons sS (.cons sS .nil)) (.cons sS (.cons sS (.cons sB .nil))) 23 [.tmp 4,.tmp 5,.tmp 6] Tryz.f180 .no
def c116 :FnD:=fD 116 (.cons sS (.cons sS .nil)) (.cons sS (.cons sS (.cons sB .nil))) 13 [.tmp 4,.tmp 5,.tmp 6] Tryz.f116 .no
def c181 :FnD:=fD 181 (.cons (.val (.row 9 .str)) (.cons sS .nil)) (.cons sI .nil) 19 [.tmp 4] Tryz.f181 (nx (.two (nx (.two (.at_ 1 (aa [0,1,7,8]) .no) .no)) .no))
def c117 :FnD:=fD 117 (.cons (.val (.row 9 .str)) (.cons sS .nil)) (.cons sB .nil) 9 [.tmp 4] Tryz.f117 .no
def c52 :FnD:=fD 52 .nil (.cons (.val (.row 9 .str)) .nil) 2 [.tmp 0] Tryz.f52 .no
def c59 :FnD:=fD 59 .nil (.cons (.val (.row 9 .str)) .nil) 2 [.tmp 0] Tryz.f59 .no
def c126 :FnD:=fD 126 (.cons sS .nil) (.cons sI (.cons sB .nil)) 31 [.tmp 2,.tmp 3] Tryz.f126 (nx (nx (.two (nx (.two (.at_ 1 (aa [0,4,7,8]) (nx (nx (.two (.two (nx (.two (nx (.at_ 2 (aa [0,4,5,7,8,20]) .no)) .no)) .no) .no)))) .no)) .no)))
def b62 :Code:=Tryz.f62.body.getD .skip
def c62 :FnD:=fD 62 (.cons sS .nil) (.cons sI (.cons sI .nil)) 56 [.tmp 2,.tmp 3] Tryz.f62 (nx (.two (.two (nx (nx (nx (.at_ 1 [(0,.as),(12,.as)] .no)))) .no) (nx (nx (.two (nx (.at_ 2 (aa [4,6,38]) .no)) .no)))))
def c57 :FnD:=eF1 57
def c236 :FnD:=oC1 236
def c294 :FnD:=fD 294 (.cons sS (.cons sS .nil)) (.cons sS .nil) 13 [.tmp 4] Tryz.f294 .no
def c237 :FnD:=fD 237 (.cons sS (.cons sS .nil)) (.cons sS .nil) 8 [.tmp 4] Tryz.f237 .no
def c182 :FnD:=fD 182 (.cons sS .nil) (.cons sI (.cons sB .nil)) 26 [.tmp 2,.tmp 3] Tryz.f182 .no
def c246 :FnD:=fD 246 (.cons sS .nil) (.cons (.val ty3) (.cons sB .nil)) 47 [.cell 2 30,.tmp 3] Tryz.f246 .no
def c248 :FnD:=fD 248 (.cons (.mv 30 ty3) .nil) (.cons (.own 30 ty3) .nil) 61 [.tmp 2] Tryz.f248 (nx (.two (nx (.two (nx (.at_ 1 [(2,.own 30 ty3)] .no)) .no)) (.two (nx (.two (.at_ 2 [(0,.as),(3,.as)] (nx (.two (.two (nx (.two (nx (.two (nx (.two (.at_ 3 (aa [0,3,4,5]) .no) .no)) (nx (nx (.at_ 4 [(2,.own 30 ty3)] .no))))) .no)) .no) .no))) .no)) (nx (.at_ 5 [(2,.own 30 ty3)] .no)))))
def dA1 :FnD:=cN 247 30 ty3 186 (nQ fM qF1 tE1)
def c183 :FnD:=fD 183 (.cons sS .nil) (.cons (.val (.row 30 ty3)) (.cons sB .nil)) 35 [.tmp 2,.tmp 3] Tryz.f183 (nx (nx (.two (nx (.two (.at_ 1 ([(4,.own 30 ty3)]++aa [10,11,12]) .no) .no)) .no)))
def c185 :FnD:=fD 185 (.cons sS .nil) (.cons (.val ty1) (.cons sB .nil)) 35 [.tmp 2,.tmp 3] Tryz.f185 (nx (nx (.two (nx (.two (.at_ 1 ([(4,.own 3 ty0)]++aa [10,11,12]) .no) .no)) .no)))
def c118 :FnD:=fD 118 (.cons (.box 25 (.cons sI (.cons sI (.cons sI (.cons sI (.cons sI (.cons sB (.cons (.val ty1) (.cons (.val ty1) (.cons (.val ty1) (.cons (.val ty1) (.cons (.val (.row 30 ty3)) (.cons (.val ty1) (.cons (.val ty1) (.cons (.val ty1) (.cons (.val ty1) .nil)))))))))))))))) (.cons sS (.cons sS .nil))) (.cons sB .nil) 98 [.tmp 6] Tryz.f118 (nx (nx (.two (nx (.two (nx (nx (nx (nx (nx (nx (nx (nx (nx (nx (nx (nx (nx (.at_ 1 (aa [2,7,10]) .no)))))))))))))) .no)) .no)))
def b49 :Code:=Tryz.f49.body.getD .skip
def c49 :FnD:=fD 49 (.cons sS .nil) (.cons (.val ty2) (.cons sI (.cons sI .nil))) 62 [.cell 2 25,.tmp 3,.tmp 4] Tryz.f49 (nx (nx (nx (nx (.two (nx (.two (.at_ 1 (aa [2,5]++[(6,.own 9 .str)]++aa [18,19,20]) (nx (nx (.two (.two (nx (nx (.two (nx (.at_ 2 (aa [2,5]++[(6,.own 9 .str)]++aa [7,9,18,19,20,43]) .no)) .no))) .no) .no)))) .no)) .no)))))
def b169 :Code:=Tryz.f169.body.getD .skip
def c169 :FnD:=fD 169 (.cons sS .nil) (.cons sI (.cons sI (.cons sB .nil))) 51 [.tmp 2,.tmp 3,.tmp 4] Tryz.f169 .no
def c159 :FnD:=fD 159 (.cons sI (.cons sS .nil)) (.cons sS .nil) 11 [.tmp 4] Tryz.f159 .no
def c98 :FnD:=fD 98 (.cons sI .nil) (.cons sS (.cons sI .nil)) 49 [.tmp 2,.tmp 3] Tryz.f98 (nx (.two (nx (.at_ 1 [(0,.as),(12,.as)] .no)) .no))
def b170 :Code:=Tryz.f170.body.getD .skip
def c170 :FnD:=fD 170 (.cons sS .nil) (.cons sI (.cons sI .nil)) 80 [.tmp 2,.tmp 3] Tryz.f170 (nx (nx (nx (.two (nx (.two (.at_ 1 (aa [0,4,5,15,16]) (nx (nx (.two (.two (nx (nx (.two (nx (.two (nx (nx (nx (nx (nx (nx (nx (nx (nx (nx (nx (.at_ 2 (aa [0,4,5,6,15,16,32]) .no)))))))))))) .no)) (.at_ 3 (aa [0,4,5,6,7,15,16]) (nx (.two (nx (.at_ 4 (aa [0,4,6,7,8,15,16,58]) .no)) .no)))))) .no) .no)))) .no)) (.two (nx (nx (.at_ 5 [(4,.as),(78,.as)] .no))) .no)))))
def c171 :FnD:=fD 171 (.cons sS .nil) (.cons (.val ty1) (.cons sB .nil)) 47 [.tmp 2,.tmp 3] Tryz.f171 (nx (nx (.two (nx (.two (.at_ 1 ([(4,.own 3 ty0)]++aa [10,11,12]) (nx (nx (.two (.two (nx (nx (.two (nx (.at_ 2 ([(4,.own 3 ty0)]++aa [7,10,11,12,40]) .no)) (.at_ 3 ([(4,.own 3 ty0)]++aa [7,10,11,12]) .no)))) .no) .no)))) .no)) .no)))
def c110 :FnD:=fD 110 (.cons (.box 46 (.cons sI (.cons sI (.cons sI (.cons sB (.cons (.val ty2) (.cons (.val ty1) (.cons (.val ty1) .nil)))))))) (.cons sI (.cons sS .nil))) (.cons sB .nil) 73 [.tmp 6] Tryz.f110 .no
def c44 :FnD:=fD 44 (.cons (.val (.row 5 (.int .u8))) .nil) (.cons (.val ty7) (.cons sI (.cons sI .nil))) 83 [.cell 2 46,.tmp 3,.tmp 4] Tryz.f44 (nx (nx (nx (nx (nx (.two (nx (.two (.at_ 1 (aa [2,5,8,9,24,25,26]) (nx (nx (.two (.two (nx (nx (.two (.two (.at_ 2 (aa [2,5,8,10,11,12,24,25,26]) (.two (nx (.at_ 3 (aa [2,5,8,10,11,12,24,25,26,44]) .no)) .no)) .no) (.at_ 4 (aa [2,5,8,10,11,12,24,25,26]) (.two (nx (.at_ 5 (aa [2,5,8,10,12,24,25,26,65]) .no)) .no))))) .no) .no)))) .no)) .no))))))
def c24 :FnD:=fD 24 .nil (.cons sB .nil) 58 [.tmp 0] Tryz.f24 .no
def c10 :FnD:=fD 10 (.cons (.val ty2) .nil) (.cons sB .nil) 55 [.tmp 2] Tryz.f10 .no
def c25 :FnD:=fD 25 (.cons (.val ty7) .nil) (.cons sB .nil) 18 [.tmp 2] Tryz.f25 .no
def c73 :FnD:=fD 73 (.cons (.val ty8) .nil) (.cons sB .nil) 13 [.tmp 2] Tryz.f73 .no
def c26 :FnD:=fD 26 (.cons (.val (.row 66 ty8)) .nil) (.cons sB .nil) 23 [.tmp 2] Tryz.f26 (nx (.two (nx (.two (.at_ 1 [(0,.as),(3,.as)] (.two (nx (.at_ 2 (aa [0,3,11]) .no)) .no)) .no)) (.at_ 3 [(0,.as)] .no)))
def c75 :FnD:=fD 75 (.cons sI .nil) (.cons sB .nil) 9 [.tmp 2] Tryz.f75 .no
def c178 :FnD:=fD 178 (.cons (.val ty1) .nil) (.cons sB .nil) 20 [.tmp 2] Tryz.f178 (nx (.two (nx (.two (.at_ 1 [(0,.as),(3,.as)] .no) .no)) .no))
def c139 :FnD:=fD 139 (.cons (.val ty1) (.cons sI (.cons sI (.cons sB .nil)))) (.cons sB .nil) 48 [.tmp 8] Tryz.f139 (nx (.two (nx (.two (.at_ 1 (aa [0,1,2,3,9]) (nx (.two (.two (nx (.at_ 2 (aa [0,1,2,3,9,40]) .no)) .no) .no))) .no)) .no))
def c140 :FnD:=fD 140 (.cons (.val (.row 30 ty3)) .nil) (.cons sB .nil) 89 [.tmp 2] Tryz.f140 (nx (.two (nx (.two (.at_ 1 [(0,.as),(3,.as)] (nx (.two (.two (nx (.at_ 2 (aa [0,3,85]) .no)) .no) .no))) .no)) .no))
def c141 :FnD:=fD 141 (.cons (.val (.row 30 ty3)) .nil) (.cons sB .nil) 16 [.tmp 2] Tryz.f141 (nx (.two (nx (.two (.at_ 1 [(0,.as),(3,.as)] .no) .no)) .no))
def c74 :FnD:=fD 74 (.cons (.val ty2) .nil) (.cons sB .nil) 231 [.tmp 2] Tryz.f74 (nx (.two (nx (.at_ 1 [(1,.as),(41,.as)] .no)) (.two (nx (.at_ 2 [(1,.as),(64,.as)] .no)) (.at_ 3 [(1,.as)] (.two (nx (.at_ 4 [(1,.as),(116,.as)] .no)) (.two (nx (.at_ 5 [(1,.as),(152,.as)] .no)) (.at_ 6 [(1,.as)] (.two (nx (.at_ 7 [(1,.as),(171,.as)] .no)) (.at_ 8 [(1,.as)] (nx (.two (nx (.at_ 9 [(1,.as),(210,.as)] .no)) (.at_ 10 [(1,.as)] .no))))))))))))
def c67 :FnD:=fD 67 (.cons (.val ty2) (.cons sI .nil)) (.cons sB .nil) 11 [.tmp 4] Tryz.f67 .no
def c199 :FnD:=fD 199 (.cons sI (.cons sI .nil)) (.cons sI .nil) 16 [.tmp 4] Tryz.f199 .no
def c131 :FnD:=fD 131 (.cons sI .nil) (.cons sI (.cons sI .nil)) 16 [.tmp 2,.tmp 3] Tryz.f131 .no
def c38 :FnD:=fD 38 (.cons (.val ty1) .nil) (.cons (.val ty1) .nil) 6 [.tmp 2] Tryz.f38 .no
def c259 :FnD:=fD 259 (.cons sI .nil) (.cons (.val ty1) .nil) 15 [.tmp 2] Tryz.f259 (nx (nx (.two (nx (.two (.at_ 1 [(0,.as),(3,.own 3 ty0),(4,.as)] .no) .no)) .no)))
def c196 :FnD:=fD 196 (.cons (.val ty1) (.cons sB (.cons sI (.cons sI .nil)))) (.cons (.val ty1) .nil) 21 [.tmp 8] Tryz.f196 .no
def c128 :FnD:=fD 128 (.cons (.val ty2) (.cons sI .nil)) (.cons (.val ty1) (.cons (.val ty1) (.cons (.val ty1) .nil))) 43 [.tmp 4,.tmp 5,.tmp 6] Tryz.f128 .no
def c64 :FnD:=fD 64 (.cons (.val ty2) (.cons sI (.cons sI .nil))) (.cons sI .nil) 45 [.tmp 6] Tryz.f64 (nx (nx (nx (.two (nx (.at_ 1 (aa [2,10,37]) .no)) (.at_ 2 [(2,.as),(10,.as)] .no)))))
def c27 :FnD:=fD 27 (.cons (.val ty7) (.cons sI .nil)) (.cons sB .nil) 37 [.tmp 4] Tryz.f27 (nx (.two (nx (.at_ 1 (aa [1,2,24]) .no)) .no))
def c12 :FnD:=fD 12 (.cons (.val ty2) .nil) (.cons (.val ty2) .nil) 41 [.cell 2 25] Tryz.f12 .no
def c28 :FnD:=fD 28 (.cons (.val ty7) .nil) (.cons (.val ty7) .nil) 16 [.cell 2 46] Tryz.f28 .no
def c68 :FnD:=fD 68 (.cons sI (.cons sI .nil)) (.cons sB .nil) 14 [.tmp 4] Tryz.f68 .no
def c37 :FnD:=fD 37 (.cons (.val ty1) (.cons sI .nil)) (.cons sB .nil) 18 [.tmp 4] Tryz.f37 (nx (.two (nx (.two (.at_ 1 (aa [0,1,5]) .no) .no)) .no))
def c153 :FnD:=fD 153 (.cons sI .nil) (.cons sI .nil) 18 [.tmp 2] Tryz.f153 .no
def c263 :FnD:=fD 263 (.cons sI .nil) (.cons sB .nil) 16 [.tmp 2] Tryz.f263 .no
def c230 :FnD:=fD 230 (.cons sI (.cons sI .nil)) (.cons sI .nil) 23 [.tmp 4] Tryz.f230 (nx (.two (nx (.two (nx (.at_ 1 (aa [0,5,6]) (nx (nx (.at_ 2 (aa [0,5,14]) .no))))) .no)) .no))
def c234 :FnD:=fD 234 (.cons sI .nil) (.cons sB .nil) 11 [.tmp 2] Tryz.f234 .no
def c161 :FnD:=fD 161 (.cons sI .nil) (.cons sI (.cons sI (.cons sI (.cons sI .nil)))) 44 [.tmp 2,.tmp 3,.tmp 4,.tmp 5] Tryz.f161 (nx (nx (nx (.two (.two (.at_ 1 [(0,.as),(6,.as)] .no) .no) (nx (.two (.two (.at_ 2 (aa [6,7,8]) .no) .no) .no))))))
def c262 :FnD:=fD 262 (.cons sI .nil) (.cons sI (.cons sI (.cons sI .nil))) 26 [.tmp 2,.tmp 3,.tmp 4] Tryz.f262 .no
def c265 :FnD:=fD 265 (.cons (.val ty1) (.cons sI (.cons sI .nil))) (.cons sB .nil) 18 [.tmp 6] Tryz.f265 .no
def c267 :FnD:=fD 267 (.cons sI .nil) (.cons sI .nil) 7 [.tmp 2] Tryz.f267 .no
def c350 :FnD:=fD 350 (.cons sI (.cons sI .nil)) (.cons sI .nil) 13 [.tmp 4] Tryz.f350 .no
def c315 :FnD:=fD 315 (.cons sI (.cons sI .nil)) (.cons sI .nil) 10 [.tmp 4] Tryz.f315 .no
def c268 :FnD:=fD 268 (.cons sI (.cons sI .nil)) (.cons sI (.cons sI (.cons sI .nil))) 54 [.tmp 4,.tmp 5,.tmp 6] Tryz.f268 (nx (nx (.two (nx (.at_ 1 (aa [0,1,7,10,27]) .no)) (nx (.at_ 2 (aa [0,1,7,10]) .no)))))
def c314 :FnD:=fD 314 (.cons sI (.cons sI .nil)) (.cons sI (.cons sI .nil)) 29 [.tmp 4,.tmp 5] Tryz.f314 (nx (.two (nx (.at_ 1 (aa [0,1,19]) .no)) .no))
def c264 :FnD:=fD 264 (.cons (.val ty2) (.cons sI .nil)) (.cons sB .nil) 34 [.tmp 4] Tryz.f264 .no
def c266 :FnD:=fD 266 (.cons (.val ty2) (.cons sI .nil)) (.cons sB .nil) 87 [.tmp 4] Tryz.f266 (nx (nx (nx (.two (nx (.at_ 1 (aa [1,2,5,9,10,34]) .no)) (.at_ 2 (aa [1,2,9,10]) (nx (.two (nx (.two (.at_ 3 (aa [1,2,11,12,13]) (nx (.two (.two (nx (nx (.at_ 4 (aa [1,2,11,12,13,86]) .no))) .no) .no))) .no)) .no)))))))
def c200 :FnD:=fD 200 (.cons (.val ty2) (.cons sI (.cons sI .nil))) (.cons sB .nil) 167 [.tmp 6] Tryz.f200 (nx (nx (nx (nx (nx (nx (nx (.at_ 1 (aa [2,3,7,8,9,11,14,15,18,20]) (.two (nx (.at_ 2 (aa [2,3,8,9,11,14,15,113]) .no)) (.at_ 3 (aa [2,3,8,9,11,14,15]) (nx (nx (.two (.two (nx (.at_ 4 (aa [3,8,9,14,15,21,131]) .no)) .no) .no)))))))))))))
def c202 :FnD:=fD 202 (.cons (.val ty2) (.cons sI .nil)) (.cons sI .nil) 33 [.tmp 4] Tryz.f202 .no
def c203 :FnD:=fD 203 (.cons sI (.cons sI .nil)) (.cons sI .nil) 16 [.tmp 4] Tryz.f203 .no
def c133 :FnD:=fD 133 (.cons (.val ty2) (.cons sI .nil)) (.cons sI .nil) 56 [.tmp 4] Tryz.f133 .no
def c201 :FnD:=fD 201 (.cons (.val ty2) (.cons sI (.cons sI .nil))) (.cons sB .nil) 18 [.tmp 6] Tryz.f201 .no
def c132 :FnD:=fD 132 (.cons (.val ty2) (.cons sI (.cons sI (.cons sI .nil)))) (.cons (.val ty1) .nil) 116 [.tmp 8] Tryz.f132 (nx (nx (.two (nx (.at_ 1 (aa [1,2,3,4]++[(9,.own 3 ty0)]++aa [34]) .no)) (.at_ 2 (aa [1,2,3,4]++[(9,.own 3 ty0)]) (nx (.two (nx (.two (.at_ 3 (aa [1,2,3,4]++[(9,.own 3 ty0)]++aa [10,11,12,13]) (nx (.two (.two (nx (.two (.at_ 4 (aa [1,2,3,4]++[(9,.own 3 ty0)]++aa [10,11,12,13,14]) (nx (.two (.two (.two (nx (.at_ 5 (aa [1,2,3,4]++[(9,.own 3 ty0)]++aa [10,11,12,13,14,76]) .no)) (.at_ 6 (aa [1,2,3,4]++[(9,.own 3 ty0)]++aa [10,11,12,13,14]) (nx (.two (.at_ 7 (aa [1,2,3,4]++[(9,.own 3 ty0)]++aa [10,11,12,13,14,15]) (nx (.two (.two (nx (nx (.at_ 8 (aa [1,2,3,4]++[(9,.own 3 ty0)]++aa [10,11,12,13,14,15]) .no))) .no) .no))) .no)))) .no) .no))) .no)) .no) .no))) .no)) .no))))))
def c204 :FnD:=fD 204 (.cons (.val ty2) (.cons sI .nil)) (.cons sI (.cons sI .nil)) 62 [.tmp 4,.tmp 5] Tryz.f204 (nx (nx (nx (nx (nx (nx (.two (.two (.at_ 1 (aa [2,8,9,10]) (.two (nx (.at_ 2 (aa [2,8,9,10,42]) .no)) .no)) .no) (.at_ 3 (aa [2,8,9,10]) (.two (.two (.at_ 4 (aa [2,8,9,10]) (.two (nx (.at_ 5 (aa [2,8,9,10,57]) .no)) .no)) .no) .no)))))))))
def c134 :FnD:=fD 134 (.cons (.val ty2) (.cons sI (.cons sI (.cons sI .nil)))) (.cons (.val ty1) (.cons sI .nil)) 77 [.tmp 8,.tmp 9] Tryz.f134 (nx (.two (nx (.at_ 1 (aa [1,2,3,4,32]) .no)) (nx (nx (.two (nx (.two (.at_ 2 (aa [1,2,3,4]++[(10,.own 3 ty0)]++aa [12,13]) (nx (.two (.two (nx (.two (nx (.two (.at_ 3 (aa [1,2,3,4]++[(10,.own 3 ty0)]++aa [12,13,14,15]) .no) .no)) .no)) .no) .no))) .no)) .no)))))
def c135 :FnD:=fD 135 (.cons (.val ty2) (.cons (.val ty1) (.cons sI .nil))) (.cons sB .nil) 34 [.tmp 6] Tryz.f135 (nx (.two (nx (.two (.at_ 1 (aa [1,2,3,7]) .no) .no)) .no))
def c69 :FnD:=fD 69 (.cons (.val ty2) (.cons sI (.cons sI (.cons sI (.cons sI .nil))))) (.cons (.val ty1) .nil) 118 [.tmp 10] Tryz.f69 (nx (nx (nx (nx (.two (nx (.two (.at_ 1 (aa [1,2,3,4,5]++[(11,.own 3 ty0)]++aa [12,13,14,17]) (nx (.two (.two (nx (nx (.two (.at_ 2 (aa [1,2,3,4,5]++[(11,.own 3 ty0)]++aa [12,13,14,17,18,19]) (nx (.two (.two (nx (.two (nx (.at_ 3 (aa [1,2,3,4,5]++[(11,.own 3 ty0)]++aa [12,13,14,17,18,19,20,65]) .no)) (.at_ 4 (aa [1,2,3,4,5]++[(11,.own 3 ty0)]++aa [12,13,14,17,18,19,20]) (.two (nx (.two (.two (nx (nx (.at_ 5 (aa [1,2,3,4,5]++[(11,.own 3 ty0)]++aa [12,13,14,17,18,19,20,21,79]) .no))) (.at_ 6 (aa [1,2,3,4,5]++[(11,.own 3 ty0)]++aa [12,13,14,17,18,19,20]) .no)) .no)) (.at_ 7 (aa [1,2,3,4,5]++[(11,.own 3 ty0)]++aa [12,13,14,17,18,19,20]) (.two (nx (.at_ 8 (aa [1,2,3,4,5]++[(11,.own 3 ty0)]++aa [12,13,14,17,18,19,20,101]) .no)) (.at_ 9 (aa [1,2,3,4,5]++[(11,.own 3 ty0)]++aa [12,13,14,17,18,19,20]) (nx (nx (.at_ 10 (aa [1,2,3,4,5]++[(11,.own 3 ty0)]++aa [12,13,14,17,18,19]) .no)))))))))) .no) .no))) .no))) .no) .no))) .no)) .no)))))
def c18 :FnD:=fD 18 (.cons (.val ty2) (.cons sI (.cons sI (.cons sI .nil)))) (.cons (.val ty1) (.cons sI .nil)) 40 [.tmp 8,.tmp 9] Tryz.f18 (nx (.two (nx (.at_ 1 (aa [1,2,3,4,27]) .no)) .no))
def c72 :FnD:=fD 72 (.cons (.val (.row 30 ty3)) (.cons (.val (.row 30 ty3)) .nil)) (.cons sB .nil) 41 [.tmp 4] Tryz.f72 (nx (nx (.two (nx (.two (.at_ 1 (aa [0,1,5]) (nx (.two (.two (nx (.at_ 2 (aa [0,1,5,40]) .no)) .no) .no))) .no)) .no)))
def c23 :FnD:=fD 23 (.cons (.val ty2) (.cons (.val ty2) .nil)) (.cons sB .nil) 108 [.tmp 4] Tryz.f23 .no
def c229 :FnD:=fD 229 (.cons sI (.cons sI (.cons sI .nil))) (.cons sB .nil) 24 [.tmp 6] Tryz.f229 .no
def c151 :FnD:=fD 151 (.cons sI (.cons sI (.cons sI .nil))) (.cons sI (.cons sI .nil)) 31 [.tmp 6,.tmp 7] Tryz.f151 (nx (nx (nx (.two (nx (.two (.at_ 1 (aa [0,1,8,9]) .no) .no)) .no))))
def c88 :FnD:=fD 88 (.cons sI (.cons sI (.cons sI (.cons sI (.cons sI (.cons sI .nil)))))) (.cons sI (.cons sI .nil)) 59 [.tmp 12,.tmp 13] Tryz.f88 (nx (nx (.two (nx (.at_ 1 (aa [3,4,5,14,48]) .no)) .no)))
def c113 :FnD:=fD 113 (.cons sI .nil) (.cons sB .nil) 23 [.tmp 2] Tryz.f113 .no
def c114 :FnD:=fD 114 (.cons (.val ty1) .nil) (.cons sB .nil) 23 [.tmp 2] Tryz.f114 (nx (.two (nx (.two (.at_ 1 [(0,.as),(3,.as)] .no) .no)) .no))
def c47 :FnD:=fD 47 (.cons (.val ty7) .nil) (.cons sB .nil) 48 [.tmp 2] Tryz.f47 (nx (.two (nx (.at_ 1 [(1,.as),(38,.as)] .no)) .no))
def c82 :FnD:=fD 82 (.cons (.val ty1) (.cons (.val ty1) .nil)) (.cons (.val ty1) .nil) 77 [.tmp 4] Tryz.f82 (nx (nx (nx (.two (.two (.at_ 1 [(0,.as),(1,.as),(5,.own 3 ty0),(6,.as),(7,.as)] (.two (nx (.at_ 2 (aa [0,1]++[(5,.own 3 ty0)]++aa [6,7,17]) .no)) (.at_ 3 [(0,.as),(1,.as),(5,.own 3 ty0),(6,.as),(7,.as)] (.two (.two (nx (.at_ 4 (aa [0,1]++[(5,.own 3 ty0)]++aa [6,7,20]) (nx (nx (.at_ 5 (aa [0,1]++[(5,.own 3 ty0)]++aa [6,7,51]) .no))))) .no) .no)))) .no) .no))))
def c30 :FnD:=fD 30 (.cons (.val ty7) (.cons sI .nil)) (.cons (.val ty1) (.cons sI .nil)) 69 [.tmp 4,.tmp 5] Tryz.f30 (nx (nx (nx (nx (.at_ 1 (aa [1,2,6]) (nx (nx (.two (nx (.two (.at_ 2 (aa [1,2,6]++[(9,.own 3 ty0)]++aa [10]) (nx (.two (.two (nx (.at_ 3 (aa [1,2,6]++[(9,.own 3 ty0)]++aa [10,57]) .no)) .no) .no))) .no)) .no))))))))
def c152 :FnD:=fD 152 (.cons (.val ty4) .nil) (.cons sB .nil) 51 [.tmp 2] Tryz.f152 .no
def c89 :FnD:=fD 89 (.cons (.val ty8) .nil) (.cons sB .nil) 140 [.tmp 2] Tryz.f89 (nx (.two (nx (.at_ 1 [(1,.as),(20,.as)] .no)) (.two (nx (.two (.at_ 2 [(1,.as),(3,.as)] (nx (.two (.two (nx (nx (.at_ 3 (aa [1,3,63]) .no))) .no) .no))) .no)) (nx (.two (nx (.at_ 4 [(1,.as),(100,.as)] .no)) .no)))))
def c356 :FnD:=fD 356 (.cons sI (.cons sI (.cons sI (.cons sI .nil)))) (.cons sI (.cons sI .nil)) 65 [.tmp 8,.tmp 9] Tryz.f356 (nx (.two (nx (.at_ 1 (aa [0,1,2,3,34]) .no)) (nx (.two (nx (.two (.at_ 2 (aa [0,1,2,3,10,11,12]) (nx (.two (.two (nx (nx (nx (nx (nx (.at_ 3 (aa [0,1,2,3,10,11,12,62]) .no)))))) .no) .no))) .no)) .no))))
def c331 :FnD:=fD 331 (.cons (.val ty4) (.cons sI .nil)) (.cons sI .nil) 33 [.tmp 4] Tryz.f331 .no
def c286 :FnD:=fD 286 (.cons (.val ty8) (.cons sI .nil)) (.cons (.val (.row 70 ty3)) .nil) 72 [.tmp 4] Tryz.f286 (nx (nx (nx (nx (nx (.two (nx (.two (.at_ 1 [(2,.as),(5,.own 70 ty3),(8,.as),(12,.as)] (nx (.two (.two (nx (.two (.at_ 2 (aa [2]++[(5,.own 70 ty3)]++aa [8,12,13]) .no) .no)) .no) .no))) .no)) .no))))))
def c231 :FnD:=fD 231 (.cons (.val ty8) (.cons sI .nil)) (.cons (.val ty3) (.cons sB .nil)) 39 [.cell 4 70,.tmp 5] Tryz.f231 (nx (.two (nx (.at_ 1 (aa [1,2,4,15]) .no)) (nx (.two (nx (.two (.at_ 2 (aa [1,4,6,7]) .no) .no)) .no))))
def c154 :FnD:=fD 154 (.cons (.val ty8) (.cons sI .nil)) (.cons sI .nil) 26 [.tmp 4] Tryz.f154 .no
def c155 :FnD:=fD 155 (.cons (.val ty8) (.cons sI .nil)) (.cons sI .nil) 18 [.tmp 4] Tryz.f155 .no
def c90 :FnD:=fD 90 (.cons (.val ty8) (.cons sI .nil)) (.cons sI .nil) 60 [.tmp 4] Tryz.f90 (nx (.two (nx (.at_ 1 (aa [1,2,23]) .no)) (nx (nx (nx (.at_ 2 (aa [1,2,5,7,8]) .no))))))
def c91 :FnD:=fD 91 (.cons (.val (.row 68 ty3)) .nil) (.cons (.val (.row 68 ty3)) .nil) 108 [.tmp 2] Tryz.f91 (nx (nx (.two (nx (.two (.at_ 1 [(0,.as),(3,.own 68 ty3),(4,.as)] (nx (.two (.two (nx (nx (.two (.two (.at_ 2 [(0,.as),(3,.own 68 ty3),(4,.as),(5,.as)] (.two (nx (.at_ 3 (aa [0]++[(3,.own 68 ty3)]++aa [4,5,43]) .no)) .no)) .no) (.at_ 4 [(0,.as),(3,.own 68 ty3),(4,.as),(5,.as)] .no)))) .no) .no))) .no)) (nx (.two (nx (.two (.at_ 5 [(3,.own 68 ty3),(6,.own 68 ty3),(7,.as)] (nx (.two (.two (nx (nx (.at_ 6 ([(3,.own 68 ty3),(6,.own 68 ty3)]++aa [7,8,82]) .no))) .no) .no))) .no)) .no)))))
def c32 :FnD:=fD 32 (.cons (.val ty7) (.cons (.val (.row 66 ty8)) (.cons sI .nil))) (.cons (.val (.row 68 ty3)) (.cons sI .nil)) 95 [.tmp 6,.tmp 7] Tryz.f32 (nx (nx (nx (.two (nx (.at_ 1 (aa [1,2,3,53]) .no)) (nx (nx (nx (.two (nx (.two (.at_ 2 (aa [1,2,3,12,13]++[(14,.own 68 ty3)]++aa [15]) .no) .no)) .no))))))))
def c34 :FnD:=fD 34 (.cons (.val ty7) (.cons (.val ty7) .nil)) (.cons sB .nil) 52 [.tmp 4] Tryz.f34 .no
def b5 :Code:=Tryz.f5.body.getD .skip
def c5 :FnD:=lawD 5 (.cons (.val ty7) (.cons (.val (.row 66 ty8)) (.cons sI (.cons sI .nil)))) 95 [.tmp 8] Tryz.f5.body (nx (nx (.two (nx (.at_ 1 (aa [1,2,3,4,39]) .no)) .no)))
def E :Env:=⟨[(2,ty0),(3,ty0),(4,.bool),(5,(.int .u8)),(6,(.int .u8)),(7,ty9),(8,ty9),(9,.str),(10,.str),(11,.str),(12,(.int .u64)),(13,ty10),(14,ty10),(21,(.int .i32)),(22,ty1),(23,(.row 30 ty3)),(25,ty2),(30,ty3),(31,ty0),(46,ty7),(47,(.row 66 ty8)),(53,(.row 68 ty3)),(63,(.row 70 ty3)),(64,(.row 160 ty4)),(66,ty8),(68,ty3),(70,ty3),(74,(.row 5 (.int .u8))),(84,(.row 9 .str)),(97,ty4),(99,ty5),(101,ty6),(152,(.int .u64)),(160,ty4),(185,.err)],[(1,false),(94,false),(115,false),(118,false),(126,true),(133,true),(162,false),(177,true),(179,false)],[(22,c22),(63,c63),(50,c50),(119,c119),(186,c186),(120,c120),(51,c51),(11,c11),(122,c122),(190,c190),(191,c191),(251,c251),(192,c192),(123,c123),(290,c290),(260,c260),(197,c197),(76,c76),(261,c261),(198,c198),(129,c129),(65,c65),(287,c287),(258,c258),(195,c195),(270,c270),(316,c316),(289,c289),(363,c363),(351,c351),(317,c317),(318,c318),(269,c269),(205,c205),(352,c352),(353,c353),(319,c319),(271,c271),(206,c206),(354,c354),(322,c322),(323,c323),(324,c324),(325,c325),(326,c326),(355,c355),(327,c327),(276,c276),(208,c208),(220,c220),(145,c145),(146,c146),(81,c81),(320,c320),(272,c272),(321,c321),(275,c275),(100001,gB1),(273,c273),(100006,lQ1),(100005,xA1),(100004,gR1),(100003,yM1),(328,c328),(100009,uQ1),(100008,nO1),(100007,aR1),(100002,qQ1),(66,c66),(17,c17),(60,c60),(61,c61),(14,c14),(127,c127),(84,c84),(92,c92),(93,c93),(36,c36),(77,c77),(79,c79),(100012,uP1),(100011,uM1),(100010,hO1),(29,c29),(147,c147),(148,c148),(149,c149),(83,c83),(96,c96),(157,c157),(288,c288),(232,c232),(158,c158),(97,c97),(40,c40),(94,c94),(156,c156),(95,c95),(39,c39),(87,c87),(100013,zQ),(31,c31),(33,c33),(99,c99),(168,c168),(109,c109),(298,c298),(299,c299),(242,c242),(338,c338),(301,c301),(245,c245),(244,c244),(300,c300),(243,c243),(179,c179),(115,c115),(233,c233),(166,c166),(291,c291),(235,c235),(167,c167),(108,c108),(180,c180),(116,c116),(181,c181),(117,c117),(52,c52),(59,c59),(126,c126),(62,c62),(57,c57),(236,c236),(294,c294),(237,c237),(182,c182),(246,c246),(248,c248),(100000,dA1),(183,c183),(185,c185),(118,c118),(49,c49),(169,c169),(159,c159),(98,c98),(170,c170),(171,c171),(110,c110),(44,c44),(24,c24),(10,c10),(25,c25),(73,c73),(26,c26),(75,c75),(178,c178),(139,c139),(140,c140),(141,c141),(74,c74),(67,c67),(199,c199),(131,c131),(38,c38),(259,c259),(196,c196),(128,c128),(64,c64),(27,c27),(12,c12),(28,c28),(68,c68),(37,c37),(153,c153),(263,c263),(230,c230),(234,c234),(161,c161),(262,c262),(265,c265),(267,c267),(350,c350),(315,c315),(268,c268),(314,c314),(264,c264),(266,c266),(200,c200),(202,c202),(203,c203),(133,c133),(201,c201),(132,c132),(204,c204),(134,c134),(135,c135),(69,c69),(18,c18),(72,c72),(23,c23),(229,c229),(151,c151),(88,c88),(113,c113),(114,c114),(47,c47),(82,c82),(30,c30),(152,c152),(89,c89),(356,c356),(331,c331),(286,c286),(231,c231),(154,c154),(155,c155),(90,c90),(91,c91),(32,c32),(34,c34),(5,c5)],[],[30],[],[(184,[(⟨#[66,89,77,79,78,84,72]⟩,6),(⟨#[66,89,87,69,69,75,78,79]⟩,7),(⟨#[66,89,89,69,65,82,68,65,89]⟩,8),(⟨#[66,89,77,79,78,84,72,68,65,89]⟩,9),(⟨#[66,89,72,79,85,82]⟩,11),(⟨#[66,89,77,73,78,85,84,69]⟩,12),(⟨#[66,89,83,69,67,79,78,68]⟩,13),(⟨#[66,89,83,69,84,80,79,83]⟩,14)])],[(63,69,1),(84,62,1),(84,74,1)]⟩
set_option maxRecDepth 1000000
theorem vA2 :kF Tryz.prog E=true:=by kernel_rfl
theorem mix :Tryz.prog.follows .mixedOrders=true:=by kernel_rfl
theorem cn76 (w:World):Calls Tryz.prog 76 #[.slice none 0 0] w fun e w'=>e = .returned (.slice none 0 0)∧w'=w:=by
 have q:∀(w:World) (a:Option Addr) (n c n' c':Nat),(binOp .eql 22 (.slice a n c) (.slice none n' c')).run Tryz.prog w = .ok (.bool a.isNone) w:=fun w a n c n' c'=>Lib.run_eql_slice_nil w _ _ a n c n' c' Tryz.underlying22
 go_enter Tryz.func76,Tryz.ntmps76
 go_wp2
 go_ret
 exact⟨rfl,rfl⟩
theorem cs76 (w:World) (ad:Addr) (m cp:Nat) (news:List Value) (hl:news.length=m*(ty0:Ty).sz) (hm:m≤eD) (hc:∀j u,news[j]?=some u→w.cell? (ad.add j)=some u) (h1:∀u∈news,u.oneCell'=true):
  Calls Tryz.prog 76 #[.slice (some ad) m cp] w fun e w'=>∃v',e = .returned v'∧w'.ownsRow w.heap.size 3 (ty0:Ty).sz v' m news∧Go.RowKit.Below w.heap.size w w':=by
 obtain⟨i,hi,hi2⟩:=aG (P:=Tryz.prog) (t:=ty0) (T:=3) (by kernel_rfl);obtain⟨hisz,hby,zv,hzv,_,_,hzs⟩:=aF (w:=w) (Z:=fun _=>False) (fun _=>undef) hi2;have q:∀(w:World) (a:Option Addr) (n c n' c':Nat),(binOp .eql 22 (.slice a n c) (.slice none n' c')).run Tryz.prog w = .ok (.bool a.isNone) w:=fun w a n c n' c'=>Lib.run_eql_slice_nil w _ _ a n c n' c' Tryz.underlying22
 have hlim:m≤17179869184:=hm;have hbb:m*i.bytes≤140737488355328:=sG2 (Nat.mul_le_mul hlim hby) (by decide);have A:Aside (∀j u,news[j]?=some u→w.cell? (ad.add j)=some u):=hc;clear hc
 go_enter Tryz.func76,Tryz.ntmps76
 go_wp2_with (at_builtin;refine wpList_append_own _ rfl _ _ 22 rfl w.heap.size 3 i zv (ty0:Ty).sz i.bytes Tryz.underlying22 hi hzv hisz rfl hzs (by decide) _ _ _ rfl (World.ownsRow_made w #[] 0 (rE2 _) (kE2 _) (by simp)) ad m cp news rfl ?qc1 ?qc2 ?qc3 ?qc4 ?qc5 ?qc6 ?_)
 case qc1=>exact hl
 case qc2=>
  intro j u hj;exact Lib.cell?_alloc_some _ (A.out j u hj)
 case qc3=>exact h1
 case qc4=>rw[xG2];unfold maxLen;omega
 case qc5=>rw[xG2];exact hbb
 case qc6=>simp
 intro v' w1 hown hgrow hnil
 go_wp2
 go_ret
 refine⟨v',rfl,by simpa using hown,?_⟩;exact((Go.RowKit.Below.refl _ w).alloc (rE2 _) _).grown hgrow (by simp) (by intro k hk;simp[Value.ownBlock]at hk;omega)
theorem zC2 (w:World):Calls Tryz.prog 157 #[.slice none 0 0] w fun e w'=>e = .returned (.slice none 0 0)∧w'=w:=by
 have q:∀(w:World) (a:Option Addr) (n c n' c':Nat),(binOp .eql 63 (.slice a n c) (.slice none n' c')).run Tryz.prog w = .ok (.bool a.isNone) w:=fun w a n c n' c'=>Lib.run_eql_slice_nil w _ _ a n c n' c' Tryz.underlying63
 go_enter Tryz.func157,Tryz.ntmps157
 go_wp2
 go_ret
 exact⟨rfl,rfl⟩
theorem eC2 (w:World) (ad:Addr) (m cp:Nat) (news:List Value) (hl:news.length=m*(ty3:Ty).sz) (hm:m≤eD) (hc:∀j u,news[j]?=some u→w.cell? (ad.add j)=some u) (h1:∀u∈news,u.oneCell'=true):
  Calls Tryz.prog 157 #[.slice (some ad) m cp] w fun e w'=>∃v',e = .returned v'∧w'.ownsRow w.heap.size 70 (ty3:Ty).sz v' m news∧Go.RowKit.Below w.heap.size w w':=by
 obtain⟨i,hi,hi2⟩:=aG (P:=Tryz.prog) (t:=ty3) (T:=70) (by kernel_rfl);obtain⟨hisz,hby,zv,hzv,_,_,hzs⟩:=aF (w:=w) (Z:=fun _=>False) (fun _=>undef) hi2;have q:∀(w:World) (a:Option Addr) (n c n' c':Nat),(binOp .eql 63 (.slice a n c) (.slice none n' c')).run Tryz.prog w = .ok (.bool a.isNone) w:=fun w a n c n' c'=>Lib.run_eql_slice_nil w _ _ a n c n' c' Tryz.underlying63
 have hlim:m≤17179869184:=hm;have hbb:m*i.bytes≤140737488355328:=sG2 (Nat.mul_le_mul hlim hby) (by decide);have A:Aside (∀j u,news[j]?=some u→w.cell? (ad.add j)=some u):=hc;clear hc
 go_enter Tryz.func157,Tryz.ntmps157
 go_wp2_with (at_builtin;refine wpList_append_own _ rfl _ _ 63 rfl w.heap.size 70 i zv (ty3:Ty).sz i.bytes Tryz.underlying63 hi hzv hisz rfl hzs (by decide) _ _ _ rfl (World.ownsRow_made w #[] 0 (rE2 _) (kE2 _) (by simp)) ad m cp news rfl ?qc1 ?qc2 ?qc3 ?qc4 ?qc5 ?qc6 ?_)
 case qc1=>exact hl
 case qc2=>
  intro j u hj;exact Lib.cell?_alloc_some _ (A.out j u hj)
 case qc3=>exact h1
 case qc4=>rw[xG2];unfold maxLen;omega
 case qc5=>rw[xG2];exact hbb
 case qc6=>simp
 intro v' w1 hown hgrow hnil
 go_wp2
 go_ret
 refine⟨v',rfl,by simpa using hown,?_⟩;exact((Go.RowKit.Below.refl _ w).alloc (rE2 _) _).grown hgrow (by simp) (by intro k hk;simp[Value.ownBlock]at hk;omega)
theorem k5 :kC Tryz.prog c5 Tryz.f5:=kS Tryz.func5
theorem k34 :kC Tryz.prog c34 Tryz.f34:=kS Tryz.func34
theorem k32 :kC Tryz.prog c32 Tryz.f32:=kS Tryz.func32
theorem k91 :kC Tryz.prog c91 Tryz.f91:=kS Tryz.func91
theorem k90 :kC Tryz.prog c90 Tryz.f90:=kS Tryz.func90
theorem k155 :kC Tryz.prog c155 Tryz.f155:=kS Tryz.func155
theorem k154 :kC Tryz.prog c154 Tryz.f154:=kS Tryz.func154
theorem k231 :kC Tryz.prog c231 Tryz.f231:=kS Tryz.func231
theorem k286 :kC Tryz.prog c286 Tryz.f286:=kS Tryz.func286
theorem k331 :kC Tryz.prog c331 Tryz.f331:=kS Tryz.func331
theorem k356 :kC Tryz.prog c356 Tryz.f356:=kS Tryz.func356
theorem k89 :kC Tryz.prog c89 Tryz.f89:=kS Tryz.func89
theorem k152 :kC Tryz.prog c152 Tryz.f152:=kS Tryz.func152
theorem k30 :kC Tryz.prog c30 Tryz.f30:=kS Tryz.func30
theorem k82 :kC Tryz.prog c82 Tryz.f82:=kS Tryz.func82
theorem k47 :kC Tryz.prog c47 Tryz.f47:=kS Tryz.func47
theorem k114 :kC Tryz.prog c114 Tryz.f114:=kS Tryz.func114
theorem k113 :kC Tryz.prog c113 Tryz.f113:=kS Tryz.func113
theorem k88 :kC Tryz.prog c88 Tryz.f88:=kS Tryz.func88
theorem k151 :kC Tryz.prog c151 Tryz.f151:=kS Tryz.func151
theorem k229 :kC Tryz.prog c229 Tryz.f229:=kS Tryz.func229
theorem k23 :kC Tryz.prog c23 Tryz.f23:=kS Tryz.func23
theorem k72 :kC Tryz.prog c72 Tryz.f72:=kS Tryz.func72
theorem k18 :kC Tryz.prog c18 Tryz.f18:=kS Tryz.func18
theorem k69 :kC Tryz.prog c69 Tryz.f69:=kS Tryz.func69
theorem k135 :kC Tryz.prog c135 Tryz.f135:=kS Tryz.func135
theorem k134 :kC Tryz.prog c134 Tryz.f134:=kS Tryz.func134
theorem k204 :kC Tryz.prog c204 Tryz.f204:=kS Tryz.func204
theorem k132 :kC Tryz.prog c132 Tryz.f132:=kS Tryz.func132
theorem k201 :kC Tryz.prog c201 Tryz.f201:=kS Tryz.func201
theorem k133 :kC Tryz.prog c133 Tryz.f133:=kS Tryz.func133
theorem k203 :kC Tryz.prog c203 Tryz.f203:=kS Tryz.func203
theorem k202 :kC Tryz.prog c202 Tryz.f202:=kS Tryz.func202
theorem k200 :kC Tryz.prog c200 Tryz.f200:=kS Tryz.func200
theorem k266 :kC Tryz.prog c266 Tryz.f266:=kS Tryz.func266
theorem k264 :kC Tryz.prog c264 Tryz.f264:=kS Tryz.func264
theorem k314 :kC Tryz.prog c314 Tryz.f314:=kS Tryz.func314
theorem k268 :kC Tryz.prog c268 Tryz.f268:=kS Tryz.func268
theorem k315 :kC Tryz.prog c315 Tryz.f315:=kS Tryz.func315
theorem k350 :kC Tryz.prog c350 Tryz.f350:=kS Tryz.func350
theorem k267 :kC Tryz.prog c267 Tryz.f267:=kS Tryz.func267
theorem k265 :kC Tryz.prog c265 Tryz.f265:=kS Tryz.func265
theorem k262 :kC Tryz.prog c262 Tryz.f262:=kS Tryz.func262
theorem k161 :kC Tryz.prog c161 Tryz.f161:=kS Tryz.func161
theorem k234 :kC Tryz.prog c234 Tryz.f234:=kS Tryz.func234
theorem k230 :kC Tryz.prog c230 Tryz.f230:=kS Tryz.func230
theorem k263 :kC Tryz.prog c263 Tryz.f263:=kS Tryz.func263
theorem k153 :kC Tryz.prog c153 Tryz.f153:=kS Tryz.func153
theorem k37 :kC Tryz.prog c37 Tryz.f37:=kS Tryz.func37
theorem k68 :kC Tryz.prog c68 Tryz.f68:=kS Tryz.func68
theorem k28 :kC Tryz.prog c28 Tryz.f28:=kS Tryz.func28
theorem k12 :kC Tryz.prog c12 Tryz.f12:=kS Tryz.func12
theorem k27 :kC Tryz.prog c27 Tryz.f27:=kS Tryz.func27
theorem k64 :kC Tryz.prog c64 Tryz.f64:=kS Tryz.func64
theorem k128 :kC Tryz.prog c128 Tryz.f128:=kS Tryz.func128
theorem k196 :kC Tryz.prog c196 Tryz.f196:=kS Tryz.func196
theorem k259 :kC Tryz.prog c259 Tryz.f259:=kS Tryz.func259
theorem k38 :kC Tryz.prog c38 Tryz.f38:=kS Tryz.func38
theorem k131 :kC Tryz.prog c131 Tryz.f131:=kS Tryz.func131
theorem k199 :kC Tryz.prog c199 Tryz.f199:=kS Tryz.func199
theorem k67 :kC Tryz.prog c67 Tryz.f67:=kS Tryz.func67
theorem k74 :kC Tryz.prog c74 Tryz.f74:=kS Tryz.func74
theorem k141 :kC Tryz.prog c141 Tryz.f141:=kS Tryz.func141
theorem k140 :kC Tryz.prog c140 Tryz.f140:=kS Tryz.func140
theorem k139 :kC Tryz.prog c139 Tryz.f139:=kS Tryz.func139
theorem k178 :kC Tryz.prog c178 Tryz.f178:=kS Tryz.func178
theorem k75 :kC Tryz.prog c75 Tryz.f75:=kS Tryz.func75
theorem k26 :kC Tryz.prog c26 Tryz.f26:=kS Tryz.func26
theorem k73 :kC Tryz.prog c73 Tryz.f73:=kS Tryz.func73
theorem k25 :kC Tryz.prog c25 Tryz.f25:=kS Tryz.func25
theorem k10 :kC Tryz.prog c10 Tryz.f10:=kS Tryz.func10
theorem k24 :kC Tryz.prog c24 Tryz.f24:=kS Tryz.func24
theorem k44 :kC Tryz.prog c44 Tryz.f44:=kS Tryz.func44
theorem k110 :kC Tryz.prog c110 Tryz.f110:=kS Tryz.func110
theorem k171 :kC Tryz.prog c171 Tryz.f171:=kS Tryz.func171
theorem k170 :kC Tryz.prog c170 Tryz.f170:=kS Tryz.func170
theorem k98 :kC Tryz.prog c98 Tryz.f98:=kS Tryz.func98
theorem k159 :kC Tryz.prog c159 Tryz.f159:=kS Tryz.func159
theorem k169 :kC Tryz.prog c169 Tryz.f169:=kS Tryz.func169
theorem k49 :kC Tryz.prog c49 Tryz.f49:=kS Tryz.func49
theorem k118 :kC Tryz.prog c118 Tryz.f118:=kS Tryz.func118
theorem k185 :kC Tryz.prog c185 Tryz.f185:=kS Tryz.func185
theorem k183 :kC Tryz.prog c183 Tryz.f183:=kS Tryz.func183
theorem eX1 :∀y r,dA1.sem y=some r→FnOK Tryz.prog GB G dA1 y r:=qS1
theorem k248 :kC Tryz.prog c248 Tryz.f248:=kS Tryz.func248
theorem k246 :kC Tryz.prog c246 Tryz.f246:=kS Tryz.func246
theorem k182 :kC Tryz.prog c182 Tryz.f182:=kS Tryz.func182
theorem k237 :kC Tryz.prog c237 Tryz.f237:=kS Tryz.func237
theorem k294 :kC Tryz.prog c294 Tryz.f294:=kS Tryz.func294
theorem s236 :∀y r,c236.sem y=some r→FnOK Tryz.prog GB G c236 y r:=rD2
theorem s57 :∀y r,c57.sem y=some r→FnOK Tryz.prog GB G c57 y r:=ss57
theorem k62 :kC Tryz.prog c62 Tryz.f62:=kS Tryz.func62
theorem k126 :kC Tryz.prog c126 Tryz.f126:=kS Tryz.func126
theorem k59 :kC Tryz.prog c59 Tryz.f59:=kS Tryz.func59
theorem k52 :kC Tryz.prog c52 Tryz.f52:=kS Tryz.func52
theorem k117 :kC Tryz.prog c117 Tryz.f117:=kS Tryz.func117
theorem k181 :kC Tryz.prog c181 Tryz.f181:=kS Tryz.func181
theorem k116 :kC Tryz.prog c116 Tryz.f116:=kS Tryz.func116
theorem k180 :kC Tryz.prog c180 Tryz.f180:=kS Tryz.func180
theorem k108 :kC Tryz.prog c108 Tryz.f108:=kS Tryz.func108
theorem k167 :kC Tryz.prog c167 Tryz.f167:=kS Tryz.func167
theorem k235 :kC Tryz.prog c235 Tryz.f235:=kS Tryz.func235
theorem k291 :kC Tryz.prog c291 Tryz.f291:=kS Tryz.func291
theorem k166 :kC Tryz.prog c166 Tryz.f166:=kS Tryz.func166
theorem k233 :kC Tryz.prog c233 Tryz.f233:=kS Tryz.func233
theorem k115 :kC Tryz.prog c115 Tryz.f115:=kS Tryz.func115
theorem k179 :kC Tryz.prog c179 Tryz.f179:=kS Tryz.func179
theorem k243 :kC Tryz.prog c243 Tryz.f243:=kS Tryz.func243
theorem s300 :∀y r,c300.sem y=some r→FnOK Tryz.prog GB G c300 y r:=wW Tryz.func300 fun s c w=>by rw[run_callFunc_extern Tryz.func300 (by kernel_rfl) (by kernel_rfl) (by kernel_rfl) (e:=Extern.BytealgCount.count) (by kernel_rfl),Lib.run_countString];rfl
theorem k244 :kC Tryz.prog c244 Tryz.f244:=kS Tryz.func244
theorem k245 :kC Tryz.prog c245 Tryz.f245:=kS Tryz.func245
theorem k301 :kC Tryz.prog c301 Tryz.f301:=kS Tryz.func301
theorem s338 :∀y r,c338.sem y=some r→FnOK Tryz.prog GB G c338 y r:=jQ Tryz.func338 fun s c w=>by rw[run_callFunc_extern Tryz.func338 (by kernel_rfl) (by kernel_rfl) (by kernel_rfl) (e:=Extern.BytealgIndexByte.indexByte) (by kernel_rfl),Lib.run_indexByteString];rfl
theorem k242 :kC Tryz.prog c242 Tryz.f242:=kS Tryz.func242
theorem s299 :∀y r,c299.sem y=some r→FnOK Tryz.prog GB G c299 y r:=fun y r h=>by cases h
theorem s298 :∀y r,c298.sem y=some r→FnOK Tryz.prog GB G c298 y r:=fun y r h=>by cases h
theorem k109 :kC Tryz.prog c109 Tryz.f109:=kS Tryz.func109
theorem k168 :kC Tryz.prog c168 Tryz.f168:=kS Tryz.func168
theorem k99 :kC Tryz.prog c99 Tryz.f99:=kS Tryz.func99
theorem k33 :kC Tryz.prog c33 Tryz.f33:=kS Tryz.func33
theorem k31 :kC Tryz.prog c31 Tryz.f31:=kS Tryz.func31
theorem fZ1 :∀y r,zQ.sem y=some r→FnOK Tryz.prog GB G zQ y r:=rT1
theorem k87 :kC Tryz.prog c87 Tryz.f87:=kS Tryz.func87
theorem k39 :kC Tryz.prog c39 Tryz.f39:=kS Tryz.func39
theorem k95 :kC Tryz.prog c95 Tryz.f95:=kS Tryz.func95
theorem k156 :kC Tryz.prog c156 Tryz.f156:=kS Tryz.func156
theorem k94 :kC Tryz.prog c94 Tryz.f94:=kS Tryz.func94
theorem k40 :kC Tryz.prog c40 Tryz.f40:=kS Tryz.func40
theorem k97 :kC Tryz.prog c97 Tryz.f97:=kS Tryz.func97
theorem k158 :kC Tryz.prog c158 Tryz.f158:=kS Tryz.func158
theorem k232 :kC Tryz.prog c232 Tryz.f232:=kS Tryz.func232
theorem k288 :kC Tryz.prog c288 Tryz.f288:=kS Tryz.func288
theorem s157 :∀y r,c157.sem y=some r→FnOK Tryz.prog GB G c157 y r:=dJ1 (c:=Tryz.f157.body.getD .skip) Tryz.func157 (by kernel_rfl) (by kernel_rfl) eC2 zC2
theorem k96 :kC Tryz.prog c96 Tryz.f96:=kS Tryz.func96
theorem k83 :kC Tryz.prog c83 Tryz.f83:=kS Tryz.func83
theorem k149 :kC Tryz.prog c149 Tryz.f149:=kS Tryz.func149
theorem k148 :kC Tryz.prog c148 Tryz.f148:=kS Tryz.func148
theorem k147 :kC Tryz.prog c147 Tryz.f147:=kS Tryz.func147
theorem k29 :kC Tryz.prog c29 Tryz.f29:=kS Tryz.func29
theorem fO1 :kC Tryz.prog hO1 Tryz.f78:=kS Tryz.func78
theorem wM1 :kC Tryz.prog uM1 Tryz.f144:=kS Tryz.func144
theorem pN1 :kC Tryz.prog uP1 Tryz.f80:=kS Tryz.func80
theorem k79 :kC Tryz.prog c79 Tryz.f79:=kS Tryz.func79
theorem s77 :∀y r,c77.sem y=some r→FnOK Tryz.prog GB G c77 y r:=ss77
theorem k36 :kC Tryz.prog c36 Tryz.f36:=kS Tryz.func36
theorem k93 :kC Tryz.prog c93 Tryz.f93:=kS Tryz.func93
theorem k92 :kC Tryz.prog c92 Tryz.f92:=kS Tryz.func92
theorem k84 :kC Tryz.prog c84 Tryz.f84:=kS Tryz.func84
theorem k127 :kC Tryz.prog c127 Tryz.f127:=kS Tryz.func127
theorem k14 :kC Tryz.prog c14 Tryz.f14:=kS Tryz.func14
theorem k61 :kC Tryz.prog c61 Tryz.f61:=kS Tryz.func61
theorem k60 :kC Tryz.prog c60 Tryz.f60:=kS Tryz.func60
theorem k17 :kC Tryz.prog c17 Tryz.f17:=kS Tryz.func17
theorem k66 :kC Tryz.prog c66 Tryz.f66:=kS Tryz.func66
theorem sL1 :kC Tryz.prog qQ1 Tryz.f70:=kS Tryz.func70
theorem oQ1 :kC Tryz.prog aR1 Tryz.f138:=kS Tryz.func138
theorem eQ1 :kC Tryz.prog nO1 Tryz.f209:=kS Tryz.func209
theorem sQ1 :kC Tryz.prog uQ1 Tryz.f277:=kS Tryz.func277
theorem k328 :kC Tryz.prog c328 Tryz.f328:=kS Tryz.func328
theorem oO1 :kC Tryz.prog yM1 Tryz.f137:=kS Tryz.func137
theorem iO1 :kC Tryz.prog gR1 Tryz.f207:=kS Tryz.func207
theorem gM1 :kC Tryz.prog xA1 Tryz.f136:=kS Tryz.func136
theorem sM1 :kC Tryz.prog lQ1 Tryz.f130:=kS Tryz.func130
theorem k273 :kC Tryz.prog c273 Tryz.f273:=kS Tryz.func273
theorem bN1 :kC Tryz.prog gB1 Tryz.f274:=kS Tryz.func274
theorem k275 :kC Tryz.prog c275 Tryz.f275:=kS Tryz.func275
theorem k321 :kC Tryz.prog c321 Tryz.f321:=kS Tryz.func321
theorem k272 :kC Tryz.prog c272 Tryz.f272:=kS Tryz.func272
theorem k320 :kC Tryz.prog c320 Tryz.f320:=kS Tryz.func320
theorem k81 :kC Tryz.prog c81 Tryz.f81:=kS Tryz.func81
theorem k146 :kC Tryz.prog c146 Tryz.f146:=kS Tryz.func146
theorem k145 :kC Tryz.prog c145 Tryz.f145:=kS Tryz.func145
theorem k220 :kC Tryz.prog c220 Tryz.f220:=kS Tryz.func220
theorem k208 :kC Tryz.prog c208 Tryz.f208:=kS Tryz.func208
theorem k276 :kC Tryz.prog c276 Tryz.f276:=kS Tryz.func276
theorem k327 :kC Tryz.prog c327 Tryz.f327:=kS Tryz.func327
theorem k355 :kC Tryz.prog c355 Tryz.f355:=kS Tryz.func355
theorem k326 :kC Tryz.prog c326 Tryz.f326:=kS Tryz.func326
theorem k325 :kC Tryz.prog c325 Tryz.f325:=kS Tryz.func325
theorem k324 :kC Tryz.prog c324 Tryz.f324:=kS Tryz.func324
theorem k323 :kC Tryz.prog c323 Tryz.f323:=kS Tryz.func323
theorem k322 :kC Tryz.prog c322 Tryz.f322:=kS Tryz.func322
theorem k354 :kC Tryz.prog c354 Tryz.f354:=kS Tryz.func354
theorem k206 :kC Tryz.prog c206 Tryz.f206:=kS Tryz.func206
theorem k271 :kC Tryz.prog c271 Tryz.f271:=kS Tryz.func271
theorem k319 :kC Tryz.prog c319 Tryz.f319:=kS Tryz.func319
theorem k353 :kC Tryz.prog c353 Tryz.f353:=kS Tryz.func353
theorem k352 :kC Tryz.prog c352 Tryz.f352:=kS Tryz.func352
theorem k205 :kC Tryz.prog c205 Tryz.f205:=kS Tryz.func205
theorem k269 :kC Tryz.prog c269 Tryz.f269:=kS Tryz.func269
theorem k318 :kC Tryz.prog c318 Tryz.f318:=kS Tryz.func318
theorem k317 :kC Tryz.prog c317 Tryz.f317:=kS Tryz.func317
theorem k351 :kC Tryz.prog c351 Tryz.f351:=kS Tryz.func351
theorem k363 :kC Tryz.prog c363 Tryz.f363:=kS Tryz.func363
theorem k289 :kC Tryz.prog c289 Tryz.f289:=kS Tryz.func289
theorem k316 :kC Tryz.prog c316 Tryz.f316:=kS Tryz.func316
theorem k270 :kC Tryz.prog c270 Tryz.f270:=kS Tryz.func270
theorem k195 :kC Tryz.prog c195 Tryz.f195:=kS Tryz.func195
theorem k258 :kC Tryz.prog c258 Tryz.f258:=kS Tryz.func258
theorem k287 :kC Tryz.prog c287 Tryz.f287:=kS Tryz.func287
theorem k65 :kC Tryz.prog c65 Tryz.f65:=kS Tryz.func65
theorem k129 :kC Tryz.prog c129 Tryz.f129:=kS Tryz.func129
theorem k198 :kC Tryz.prog c198 Tryz.f198:=kS Tryz.func198
theorem k261 :kC Tryz.prog c261 Tryz.f261:=kS Tryz.func261
theorem s76 :∀y r,c76.sem y=some r→FnOK Tryz.prog GB G c76 y r:=dJ1 (c:=Tryz.f76.body.getD .skip) Tryz.func76 (by kernel_rfl) (by kernel_rfl) cs76 cn76
theorem k197 :kC Tryz.prog c197 Tryz.f197:=kS Tryz.func197
theorem k260 :kC Tryz.prog c260 Tryz.f260:=kS Tryz.func260
theorem k290 :kC Tryz.prog c290 Tryz.f290:=kS Tryz.func290
theorem k123 :kC Tryz.prog c123 Tryz.f123:=kS Tryz.func123
theorem k192 :kC Tryz.prog c192 Tryz.f192:=kS Tryz.func192
theorem k251 :kC Tryz.prog c251 Tryz.f251:=kS Tryz.func251
theorem k191 :kC Tryz.prog c191 Tryz.f191:=kS Tryz.func191
theorem k190 :kC Tryz.prog c190 Tryz.f190:=kS Tryz.func190
theorem k122 :kC Tryz.prog c122 Tryz.f122:=kS Tryz.func122
theorem k11 :kC Tryz.prog c11 Tryz.f11:=kS Tryz.func11
theorem k51 :kC Tryz.prog c51 Tryz.f51:=kS Tryz.func51
theorem k120 :kC Tryz.prog c120 Tryz.f120:=kS Tryz.func120
theorem k186 :kC Tryz.prog c186 Tryz.f186:=kS Tryz.func186
theorem k119 :kC Tryz.prog c119 Tryz.f119:=kS Tryz.func119
theorem k50 :kC Tryz.prog c50 Tryz.f50:=kS Tryz.func50
theorem k63 :kC Tryz.prog c63 Tryz.f63:=kS Tryz.func63
theorem k22 :kC Tryz.prog c22 Tryz.f22:=kS Tryz.func22
theorem hX1 (g:Nat) (x:ByteArray) (w:World):Calls Tryz.prog 184 #[.pointer (some ⟨g,0,none⟩),.string x] w fun e w'=>e = .returned (selV g (selF [(⟨#[66,89,77,79,78,84,72]⟩,6),(⟨#[66,89,87,69,69,75,78,79]⟩,7),(⟨#[66,89,89,69,65,82,68,65,89]⟩,8),(⟨#[66,89,77,79,78,84,72,68,65,89]⟩,9),(⟨#[66,89,72,79,85,82]⟩,11),(⟨#[66,89,77,73,78,85,84,69]⟩,12),(⟨#[66,89,83,69,67,79,78,68]⟩,13),(⟨#[66,89,83,69,84,80,79,83]⟩,14)] x))∧w'=w:=by
 by_cases h0:x=(⟨#[66,89,77,79,78,84,72]⟩:ByteArray)
 ·subst h0;rw[show selF [(⟨#[66,89,77,79,78,84,72]⟩,6),(⟨#[66,89,87,69,69,75,78,79]⟩,7),(⟨#[66,89,89,69,65,82,68,65,89]⟩,8),(⟨#[66,89,77,79,78,84,72,68,65,89]⟩,9),(⟨#[66,89,72,79,85,82]⟩,11),(⟨#[66,89,77,73,78,85,84,69]⟩,12),(⟨#[66,89,83,69,67,79,78,68]⟩,13),(⟨#[66,89,83,69,84,80,79,83]⟩,14)] (⟨#[66,89,77,79,78,84,72]⟩:ByteArray)=some 6 from by kernel_rfl]
  go_enter Tryz.func184,Tryz.ntmps184
  go_wp2
  go_ret
  exact⟨rfl,rfl⟩
 by_cases h1:x=(⟨#[66,89,87,69,69,75,78,79]⟩:ByteArray)
 ·subst h1;rw[show selF [(⟨#[66,89,77,79,78,84,72]⟩,6),(⟨#[66,89,87,69,69,75,78,79]⟩,7),(⟨#[66,89,89,69,65,82,68,65,89]⟩,8),(⟨#[66,89,77,79,78,84,72,68,65,89]⟩,9),(⟨#[66,89,72,79,85,82]⟩,11),(⟨#[66,89,77,73,78,85,84,69]⟩,12),(⟨#[66,89,83,69,67,79,78,68]⟩,13),(⟨#[66,89,83,69,84,80,79,83]⟩,14)] (⟨#[66,89,87,69,69,75,78,79]⟩:ByteArray)=some 7 from by kernel_rfl]
  go_enter Tryz.func184,Tryz.ntmps184
  go_wp2
  go_ret
  exact⟨rfl,rfl⟩
 by_cases h2:x=(⟨#[66,89,89,69,65,82,68,65,89]⟩:ByteArray)
 ·subst h2;rw[show selF [(⟨#[66,89,77,79,78,84,72]⟩,6),(⟨#[66,89,87,69,69,75,78,79]⟩,7),(⟨#[66,89,89,69,65,82,68,65,89]⟩,8),(⟨#[66,89,77,79,78,84,72,68,65,89]⟩,9),(⟨#[66,89,72,79,85,82]⟩,11),(⟨#[66,89,77,73,78,85,84,69]⟩,12),(⟨#[66,89,83,69,67,79,78,68]⟩,13),(⟨#[66,89,83,69,84,80,79,83]⟩,14)] (⟨#[66,89,89,69,65,82,68,65,89]⟩:ByteArray)=some 8 from by kernel_rfl]
  go_enter Tryz.func184,Tryz.ntmps184
  go_wp2
  go_ret
  exact⟨rfl,rfl⟩
 by_cases h3:x=(⟨#[66,89,77,79,78,84,72,68,65,89]⟩:ByteArray)
 ·subst h3;rw[show selF [(⟨#[66,89,77,79,78,84,72]⟩,6),(⟨#[66,89,87,69,69,75,78,79]⟩,7),(⟨#[66,89,89,69,65,82,68,65,89]⟩,8),(⟨#[66,89,77,79,78,84,72,68,65,89]⟩,9),(⟨#[66,89,72,79,85,82]⟩,11),(⟨#[66,89,77,73,78,85,84,69]⟩,12),(⟨#[66,89,83,69,67,79,78,68]⟩,13),(⟨#[66,89,83,69,84,80,79,83]⟩,14)] (⟨#[66,89,77,79,78,84,72,68,65,89]⟩:ByteArray)=some 9 from by kernel_rfl]
  go_enter Tryz.func184,Tryz.ntmps184
  go_wp2
  go_ret
  exact⟨rfl,rfl⟩
 by_cases h4:x=(⟨#[66,89,72,79,85,82]⟩:ByteArray)
 ·subst h4;rw[show selF [(⟨#[66,89,77,79,78,84,72]⟩,6),(⟨#[66,89,87,69,69,75,78,79]⟩,7),(⟨#[66,89,89,69,65,82,68,65,89]⟩,8),(⟨#[66,89,77,79,78,84,72,68,65,89]⟩,9),(⟨#[66,89,72,79,85,82]⟩,11),(⟨#[66,89,77,73,78,85,84,69]⟩,12),(⟨#[66,89,83,69,67,79,78,68]⟩,13),(⟨#[66,89,83,69,84,80,79,83]⟩,14)] (⟨#[66,89,72,79,85,82]⟩:ByteArray)=some 11 from by kernel_rfl]
  go_enter Tryz.func184,Tryz.ntmps184
  go_wp2
  go_ret
  exact⟨rfl,rfl⟩
 by_cases h5:x=(⟨#[66,89,77,73,78,85,84,69]⟩:ByteArray)
 ·subst h5;rw[show selF [(⟨#[66,89,77,79,78,84,72]⟩,6),(⟨#[66,89,87,69,69,75,78,79]⟩,7),(⟨#[66,89,89,69,65,82,68,65,89]⟩,8),(⟨#[66,89,77,79,78,84,72,68,65,89]⟩,9),(⟨#[66,89,72,79,85,82]⟩,11),(⟨#[66,89,77,73,78,85,84,69]⟩,12),(⟨#[66,89,83,69,67,79,78,68]⟩,13),(⟨#[66,89,83,69,84,80,79,83]⟩,14)] (⟨#[66,89,77,73,78,85,84,69]⟩:ByteArray)=some 12 from by kernel_rfl]
  go_enter Tryz.func184,Tryz.ntmps184
  go_wp2
  go_ret
  exact⟨rfl,rfl⟩
 by_cases h6:x=(⟨#[66,89,83,69,67,79,78,68]⟩:ByteArray)
 ·subst h6;rw[show selF [(⟨#[66,89,77,79,78,84,72]⟩,6),(⟨#[66,89,87,69,69,75,78,79]⟩,7),(⟨#[66,89,89,69,65,82,68,65,89]⟩,8),(⟨#[66,89,77,79,78,84,72,68,65,89]⟩,9),(⟨#[66,89,72,79,85,82]⟩,11),(⟨#[66,89,77,73,78,85,84,69]⟩,12),(⟨#[66,89,83,69,67,79,78,68]⟩,13),(⟨#[66,89,83,69,84,80,79,83]⟩,14)] (⟨#[66,89,83,69,67,79,78,68]⟩:ByteArray)=some 13 from by kernel_rfl]
  go_enter Tryz.func184,Tryz.ntmps184
  go_wp2
  go_ret
  exact⟨rfl,rfl⟩
 by_cases h7:x=(⟨#[66,89,83,69,84,80,79,83]⟩:ByteArray)
 ·subst h7;rw[show selF [(⟨#[66,89,77,79,78,84,72]⟩,6),(⟨#[66,89,87,69,69,75,78,79]⟩,7),(⟨#[66,89,89,69,65,82,68,65,89]⟩,8),(⟨#[66,89,77,79,78,84,72,68,65,89]⟩,9),(⟨#[66,89,72,79,85,82]⟩,11),(⟨#[66,89,77,73,78,85,84,69]⟩,12),(⟨#[66,89,83,69,67,79,78,68]⟩,13),(⟨#[66,89,83,69,84,80,79,83]⟩,14)] (⟨#[66,89,83,69,84,80,79,83]⟩:ByteArray)=some 14 from by kernel_rfl]
  go_enter Tryz.func184,Tryz.ntmps184
  go_wp2
  go_ret
  exact⟨rfl,rfl⟩
 have e:selF [(⟨#[66,89,77,79,78,84,72]⟩,6),(⟨#[66,89,87,69,69,75,78,79]⟩,7),(⟨#[66,89,89,69,65,82,68,65,89]⟩,8),(⟨#[66,89,77,79,78,84,72,68,65,89]⟩,9),(⟨#[66,89,72,79,85,82]⟩,11),(⟨#[66,89,77,73,78,85,84,69]⟩,12),(⟨#[66,89,83,69,67,79,78,68]⟩,13),(⟨#[66,89,83,69,84,80,79,83]⟩,14)] x=none:=by rw[fN h0,fN h1,fN h2,fN h3,fN h4,fN h5,fN h6,fN h7];rfl
 have b0:(x.toList==[66,89,77,79,78,84,72])=false:=by rw[←show(⟨#[66,89,77,79,78,84,72]⟩:ByteArray).toList=[66,89,77,79,78,84,72]from by kernel_rfl];exact fS h0
 have b1:(x.toList==[66,89,87,69,69,75,78,79])=false:=by rw[←show(⟨#[66,89,87,69,69,75,78,79]⟩:ByteArray).toList=[66,89,87,69,69,75,78,79]from by kernel_rfl];exact fS h1
 have b2:(x.toList==[66,89,89,69,65,82,68,65,89])=false:=by rw[←show(⟨#[66,89,89,69,65,82,68,65,89]⟩:ByteArray).toList=[66,89,89,69,65,82,68,65,89]from by kernel_rfl];exact fS h2
 have b3:(x.toList==[66,89,77,79,78,84,72,68,65,89])=false:=by rw[←show(⟨#[66,89,77,79,78,84,72,68,65,89]⟩:ByteArray).toList=[66,89,77,79,78,84,72,68,65,89]from by kernel_rfl];exact fS h3
 have b4:(x.toList==[66,89,72,79,85,82])=false:=by rw[←show(⟨#[66,89,72,79,85,82]⟩:ByteArray).toList=[66,89,72,79,85,82]from by kernel_rfl];exact fS h4
 have b5:(x.toList==[66,89,77,73,78,85,84,69])=false:=by rw[←show(⟨#[66,89,77,73,78,85,84,69]⟩:ByteArray).toList=[66,89,77,73,78,85,84,69]from by kernel_rfl];exact fS h5
 have b6:(x.toList==[66,89,83,69,67,79,78,68])=false:=by rw[←show(⟨#[66,89,83,69,67,79,78,68]⟩:ByteArray).toList=[66,89,83,69,67,79,78,68]from by kernel_rfl];exact fS h6
 have b7:(x.toList==[66,89,83,69,84,80,79,83])=false:=by rw[←show(⟨#[66,89,83,69,84,80,79,83]⟩:ByteArray).toList=[66,89,83,69,84,80,79,83]from by kernel_rfl];exact fS h7
 rw[e]
 go_enter Tryz.func184,Tryz.ntmps184
 go_wp2
 all_goals first
  | (exfalso;simp_all;done)
  | (go_ret;exact⟨rfl,rfl⟩)
theorem lC2 :uF1 Tryz.prog E:=xW1 rfl ⟨Tryz.f184,Tryz.f184.body.getD .skip,Tryz.func184,by kernel_rfl,by kernel_rfl⟩ hX1
theorem iD2 :tM Tryz.prog E.fn:=cc k22 (cc k63 (cc k50 (cc k119 (cc k186 (cc k120 (cc k51 (cc k11 (cc k122 (cc k190 (cc k191 (cc k251 (cc k192 (cc k123 (cc k290 (cc k260 (cc k197 (sG (by kernel_rfl) (cc k261 (cc k198 (cc k129 (cc k65 (cc k287 (cc k258 (cc k195 (cc k270 (cc k316 (cc k289 (cc k363 (cc k351 (cc k317 (cc k318 (cc k269 (cc k205 (cc k352 (cc k353 (cc k319 (cc k271 (cc k206 (cc k354 (cc k322 (cc k323 (cc k324 (cc k325 (cc k326 (cc k355 (cc k327 (cc k276 (cc k208 (cc k220 (cc k145 (cc k146 (cc k81 (cc k320 (cc k272 (cc k321 (cc k275 (cc bN1 (cc k273 (cc sM1 (cc gM1 (cc iO1 (cc oO1 (cc k328 (cc sQ1 (cc eQ1 (cc oQ1 (cc sL1 (cc k66 (cc k17 (cc k60 (cc k61 (cc k14 (cc k127 (cc k84 (cc k92 (cc k93 (cc k36 (sG (by kernel_rfl) (cc k79 (cc pN1 (cc wM1 (cc fO1 (cc k29 (cc k147 (cc k148 (cc k149 (cc k83 (cc k96 (sG (by kernel_rfl) (cc k288 (cc k232 (cc k158 (cc k97 (cc k40 (cc k94 (cc k156 (cc k95 (cc k39 (cc k87 (sG (by kernel_rfl) (cc k31 (cc k33 (cc k99 (cc k168 (cc k109 (sG (by kernel_rfl) (sG (by kernel_rfl) (cc k242 (sG (by kernel_rfl) (cc k301 (cc k245 (cc k244 (sG (by kernel_rfl) (cc k243 (cc k179 (cc k115 (cc k233 (cc k166 (cc k291 (cc k235 (cc k167 (cc k108 (cc k180 (cc k116 (cc k181 (cc k117 (cc k52 (cc k59 (cc k126 (cc k62 (sG (by kernel_rfl) (sG (by kernel_rfl) (cc k294 (cc k237 (cc k182 (cc k246 (cc k248 (sG (by kernel_rfl) (cc k183 (cc k185 (cc k118 (cc k49 (cc k169 (cc k159 (cc k98 (cc k170 (cc k171 (cc k110 (cc k44 (cc k24 (cc k10 (cc k25 (cc k73 (cc k26 (cc k75 (cc k178 (cc k139 (cc k140 (cc k141 (cc k74 (cc k67 (cc k199 (cc k131 (cc k38 (cc k259 (cc k196 (cc k128 (cc k64 (cc k27 (cc k12 (cc k28 (cc k68 (cc k37 (cc k153 (cc k263 (cc k230 (cc k234 (cc k161 (cc k262 (cc k265 (cc k267 (cc k350 (cc k315 (cc k268 (cc k314 (cc k264 (cc k266 (cc k200 (cc k202 (cc k203 (cc k133 (cc k201 (cc k132 (cc k204 (cc k134 (cc k135 (cc k69 (cc k18 (cc k72 (cc k23 (cc k229 (cc k151 (cc k88 (cc k113 (cc k114 (cc k47 (cc k82 (cc k30 (cc k152 (cc k89 (cc k356 (cc k331 (cc k286 (cc k231 (cc k154 (cc k155 (cc k90 (cc k91 (cc k32 (cc k34 (cc k5 (qO1))))))))))))))))))))))))))))))))))))))))))))))))))))))))))))))))))))))))))))))))))))))))))))))))))))))))))))))))))))))))))))))))))))))))))))))))))))))))))))))))))))))))))))))))))))))))))))))))))))))))))))))))))))))))))))))
theorem hC2 :xO Tryz.prog GB G E.fn:=nR1 (m:=[(76,c76),(77,c77),(157,c157),(100013,zQ),(298,c298),(299,c299),(338,c338),(300,c300),(57,c57),(236,c236),(100000,dA1)]) (by kernel_rfl) (tG s76 (tG s77 (tG s157 (tG fZ1 (tG s298 (tG s299 (tG s338 (tG s300 (tG s57 (tG s236 (tG eX1 (cO1))))))))))))
abbrev lv25 (x:d25):List Lf:=Ty.leaves ty2 x
abbrev lv46 (x:d46):List Lf:=Ty.leaves ty7 x
abbrev lv99 (x:d25×Int×d97×Int×Unit):List Lf:=Ty.leaves ty5 x
abbrev nJ (x:d101):List Lf:=Ty.leaves ty6 x
def dC.f (a b:List Int):Option (Bool×Unit):=RN E 22 (a,b,())
def dC.l1 (a b:List Int) (c:Int):Option (Bool×Unit):=PL E 22 1 ⟨[(.lf (.v ty1 a)),(.lf (.v ty1 b)),U,U,U,wI c]++us 20,[],1000⟩
def eH.f (a:Int):Option (Bool×Unit):=RN E 63 (a,())
def aC.f (a:d25):Option (Bool×Unit):=RN E 50 (a,())
def aC.l1 (a:Bool) (b:d25):Option (Bool×Unit):=PL E 50 1 ⟨[U,wP 0 0]++us 38++[wB a]++us 13,[(0,(.box 25 (lv25 b)))],1000⟩
def oB.f (a:List Int) (b c:Int) (d:Bool):Option (Bool×Unit):=RN E 119 (a,b,c,d,())
def oB.l1 (a:List Int) (b c:Int) (d:Bool) (e:List Int) (f g:Int):Option (Bool×Unit):=PL E 119 1 ⟨[(.lf (.v ty1 a)),wI b,wI c,wB d,U,U,U,U,U,U,U,(.lf (.v ty1 e)),wI f,wI g]++us 37,[],1000⟩
def oB.l2 (a:List Int) (b c:Int) (d:Bool) (e:List Int) (f g:Int) (h:Bool):Option (Bool×Unit):=PL E 119 2 ⟨[(.lf (.v ty1 a)),wI b,wI c,wB d,U,U,U,U,U,U,U,(.lf (.v ty1 e)),wI f,wI g]++us 32++[wB h]++us 4,[],1000⟩
def oO.f (a b:Int×Int×Unit):Option (Int×Unit):=RN E 186 (a,b,())
def jB.f (a:d25):Option (Bool×Unit):=RN E 120 (a,())
def jB.l1 (a:List (Int×Int×Unit)) (b c:Int) (d:d25):Option (Bool×Unit):=PL E 120 1 ⟨[U,wP 0 0,U,U,U,U,(.lf (.v (.row 30 ty3) a)),wI b,wI c]++us 63,[(0,(.box 25 (lv25 d)))],1000⟩
def jB.l2 (b:List (Int×Int×Unit)) (c d:Int) (e:Bool) (f:d25) (a:Int×Int×Unit):Option (Bool×Unit):=PL E 120 2 ⟨[U,wP 0 0,U,U,wP 1 0,U,(.lf (.v (.row 30 ty3) b)),wI c,wI d,U,U,U,U,wB e]++us 58,[(0,(.box 25 (lv25 f))),(1,(.box 30 [(.v ty0 a.1),(.v ty0 a.2.1)]))],1000⟩
def jB.l3 (a:List (Int×Int×Unit)) (b c:Int) (d:Bool) (e:d25):Option (Bool×Unit):=PL E 120 3 ⟨[U,wP 0 0,U,U,U,U,(.lf (.v (.row 30 ty3) a)),wI b,wI c]++us 38++[wB d]++us 24,[(0,(.box 25 (lv25 e)))],1000⟩
def dI.f (a:d25):Option (Bool×Unit):=RN E 51 (a,())
def tA.f (a:d25):Option (Bool×Unit):=RN E 11 (a,())
def tA.l1 (a:Bool) (b:d25):Option (Bool×Unit):=PL E 11 1 ⟨[U,wP 0 0,U,U,U,U,U,U,U,U,U,wB a]++us 94,[(0,(.box 25 (lv25 b)))],1000⟩
def tA.l2 (a:Bool) (b:d25):Option (Bool×Unit):=PL E 11 2 ⟨[U,wP 0 0]++us 10++[wB a]++us 93,[(0,(.box 25 (lv25 b)))],1000⟩
def tA.l3 (a:Bool) (b:d25):Option (Bool×Unit):=PL E 11 3 ⟨[U,wP 0 0]++us 20++[wB a]++us 83,[(0,(.box 25 (lv25 b)))],1000⟩
def tA.l4 (a:Bool) (b:d25):Option (Bool×Unit):=PL E 11 4 ⟨[U,wP 0 0]++us 35++[wB a]++us 68,[(0,(.box 25 (lv25 b)))],1000⟩
def tA.l5 (a:d25):Option (Bool×Unit):=PL E 11 5 ⟨[U,wP 0 0]++us 104,[(0,(.box 25 (lv25 a)))],1000⟩
def tA.l6 (a:Bool) (b:d25):Option (Bool×Unit):=PL E 11 6 ⟨[U,wP 0 0]++us 83++[wB a]++us 20,[(0,(.box 25 (lv25 b)))],1000⟩
def tA.l7 (a:d25):Option (Bool×Unit):=PL E 11 7 ⟨[U,wP 0 0]++us 104,[(0,(.box 25 (lv25 a)))],1000⟩
def uF.f (a:Int):Option (Int×Int×Unit):=RN E 122 (a,())
def gN.f (a:Int):Option (Bool×Unit):=RN E 190 (a,())
def dE.f (a b c:Int):Option (Int×Unit):=RN E 191 (a,b,c,())
def vJ.f (a:Int):Option (Bool×Unit):=RN E 251 (a,())
def mB.f (a b:Int):Option (Int×Unit):=RN E 192 (a,b,())
def mB.l1 (a b:Int) (c:Bool):Option (Int×Unit):=PL E 192 1 ⟨[wI a,U,U,U,U,wI b,wB c]++us 16,[],1000⟩
def mB.l2 (a:Bool):Option (Int×Unit):=PL E 192 2 ⟨us 15++[wB a]++us 7,[],1000⟩
def zA.f (a:Int):Option tz7:=RN E 123 (a,())
def zA.l1 (a b:Int):Option tz7:=PL E 123 1 ⟨[wI a,U,U,U,U,U,U,wI b]++us 48,[],1000⟩
def zA.l2 (a b:Int) (c:Bool):Option tz7:=PL E 123 2 ⟨[wI a,U,U,U,U,U,U,wI b]++us 19++[wB c]++us 28,[],1000⟩
def zA.l3 (a b:Int):Option tz7:=PL E 123 3 ⟨[wI a,U,U,U,U,U,U,wI b]++us 48,[],1000⟩
def zA.l4 (a b:Int):Option tz7:=PL E 123 4 ⟨[wI a,U,U,U,U,U,U,wI b]++us 48,[],1000⟩
def zA.l5 (a b c:Int):Option tz7:=PL E 123 5 ⟨[U,U,U,U,U,U,U,wI a,wI b,wI c]++us 46,[],1000⟩
def lF.f (a:Int):Option (Int×Unit):=RN E 290 (a,())
def sL.f (a:Int):Option (d97×Bool×Unit):=RN E 260 (a,())
def jF.f (a:d25) (b:Int):Option ((d25×Int×d97×Int×Unit)×Bool×Unit):=RN E 197 (a,b,())
def jF.l1 (a:Int) (b:Bool) (c:d25) (d e f g h:Int) (i:Bool) (j k l m n o p:Int):Option ((d25×Int×d97×Int×Unit)×Bool×Unit):=PL E 197 1 ⟨[U,wI a,wP 0 0,U,wP 1 0]++us 12++[wB b]++us 16,[(0,(.box 25 (lv25 c))),(1,(.box 99 [vI d,vI e,vI f,vI g,vI h,(.v .bool i),.nl,.nl,.nl,.nl,.nl,.nl,.nl,.nl,.nl,vI j,vI k,vI l,vI m,vI n,vI o,vI p]))],1000⟩
def mD.f (a:List Int):Option ((List Int)×Unit):=RN E 76 (a,())
def xE.f (a:List Int) (b:Bool) (c d:Int):Option ((List Int)×Unit):=RN E 261 (a,b,c,d,())
def xE.l1 (a b:Int) (c:List Int):Option ((List Int)×Unit):=PL E 261 1 ⟨[U,U,U,U,U,U,U,U,U,(.lf (.o 0)),U,U,U,U,U,U,U,U,U,wI a,wI b]++us 8,[(0,(.row 3 ty0 c))],1000⟩
def mJ.f (a:d25×Int×d97×Int×Unit):Option ((List Int)×(List Int)×(List Int)×Unit):=RN E 198 (a,())
def sE.f (a:d25) (b:Int):Option (d101×Bool×Unit):=RN E 129 (a,b,())
def iD.f (a:d25) (b c:Int):Option (d101×Bool×Unit):=RN E 65 (a,b,c,())
def iD.l1 (a:Bool) (b c d e f:Int) (g:Bool) (h i j k l:Int) (m:Bool) (n o p q r s t u:Int) (w:d101):Option (d101×Bool×Unit):=PL E 65 1 ⟨[U,U,U,U,U,U,wP 0 0,U,wP 1 0]++us 24++[wB a]++us 2,[(0,(.box 101 [vI b,vI c,vI d,vI e,vI f,(.v .bool g),.nl,.nl,.nl,.nl,.nl,.nl,.nl,.nl,.nl,vI h,vI i,vI j,vI k,vI l,(.v .bool m),.nl,.nl,.nl,.nl,.nl,.nl,.nl,.nl,.nl,vI n,vI o,vI p,vI q,vI r,vI s,vI t,vI u,.nl,.nl,.nl])),(1,(.box 101 (nJ w)))],1000⟩
def aJ.f (a:Int):Option (Bool×Unit):=RN E 287 (a,())
def eL.f (a b c:Int):Option (Bool×Unit):=RN E 258 (a,b,c,())
def zI.f (a b c:Int):Option (Int×Int×Unit):=RN E 195 (a,b,c,())
def nO.f (a b:Int):Option (Int×Int×Unit):=RN E 270 (a,b,())
def sF.f (a:Int):Option (Int×Unit):=RN E 316 (a,())
def rJ.f (a:Int):Option (Bool×Unit):=RN E 289 (a,())
def zG.f (a b:Int):Option (Int×Unit):=RN E 363 (a,b,())
def uD.f (a b:Int):Option tz10:=RN E 351 (a,b,())
def uD.l1 (a b c:Int) (d:Bool):Option tz10:=PL E 351 1 ⟨[wI a,wI b,U,U,U,U,U,wI c]++us 16++[wB d]++us 25,[],1000⟩
def uD.l2 (a b c:Int):Option tz10:=PL E 351 2 ⟨[wI a,wI b,U,U,U,U,U,wI c]++us 42,[],1000⟩
def aL.f (a:d25) (b:d97):Option (Int×Unit):=RN E 317 (a,b,())
def lE.f (a b:Int):Option (Int×Unit):=RN E 318 (a,b,())
def lE.l1 (a b:Int):Option (Int×Unit):=PL E 318 1 ⟨[U,wI a,U,U,U,wI b]++us 29,[],1000⟩
def dJ.f (a:d25) (b:d97):Option (Int×Int×Unit):=RN E 269 (a,b,())
def gE.f (a:d25×Int×d97×Int×Unit) (b:Int):Option (Int×Int×Unit):=RN E 205 (a,b,())
def zN.f (a b:Int):Option (Int×Unit):=RN E 352 (a,b,())
def uL.f (a b:Int):Option (Int×Unit):=RN E 353 (a,b,())
def uI.f (a:d25) (b:Int):Option (Int×Unit):=RN E 319 (a,b,())
def dH.f (a:d25×Int×d97×Int×Unit) (b:Int):Option (Int×Unit):=RN E 271 (a,b,())
def nE.f (a:d101) (b:Int):Option (Bool×Unit):=RN E 206 (a,b,())
def lC.f (a:List Int) (b:Int):Option (Int×Unit):=RN E 354 (a,b,())
def lC.l1 (a:List Int) (b c d:Int):Option (Int×Unit):=PL E 354 1 ⟨[(.lf (.v ty1 a)),wI b,U,U,U,U,U,wI c,wI d]++us 10,[],1000⟩
def uB.f (a:List Int) (b:Int):Option (Bool×Unit):=RN E 322 (a,b,())
def aI.f (a:Int):Option tz10:=RN E 323 (a,())
def xM.f (a:List Int) (b c:Int):Option (Bool×Unit):=RN E 324 (a,b,c,())
def vA.f (a:d25) (b:d97):Option (Bool×Unit):=RN E 325 (a,b,())
def vA.l1 (b c:Int) (d:Bool) (e:d25) (a:d97):Option (Bool×Unit):=PL E 325 1 ⟨[U,U,wP 0 0,wP 1 0,U,U,wI b,U,wI c]++us 26++[wB d]++us 47,[(0,(.box 25 (lv25 e))),(1,(.box 97 [(.v ty0 a.1),(.v ty0 a.2.1),(.v ty0 a.2.2.1),(.v ty0 a.2.2.2.1),(.v ty0 a.2.2.2.2.1)]))],1000⟩
def vA.l2 (b c:Int) (d:d25) (a:d97):Option (Bool×Unit):=PL E 325 2 ⟨[U,U,wP 0 0,wP 1 0,U,U,wI b,U,wI c]++us 74,[(0,(.box 25 (lv25 d))),(1,(.box 97 [(.v ty0 a.1),(.v ty0 a.2.1),(.v ty0 a.2.2.1),(.v ty0 a.2.2.2.1),(.v ty0 a.2.2.2.2.1)]))],1000⟩
def vA.l3 (b c:Int) (d:List (Int×Int×Unit)) (e f:Int) (a:d97):Option (Bool×Unit):=PL E 325 3 ⟨[U,U,U,wP 0 0,U,U,U,U,U,wI b,wI c]++us 43++[(.lf (.v (.row 30 ty3) d)),wI e,wI f]++us 26,[(0,(.box 97 [(.v ty0 a.1),(.v ty0 a.2.1),(.v ty0 a.2.2.1),(.v ty0 a.2.2.2.1),(.v ty0 a.2.2.2.2.1)]))],1000⟩
def vA.l4 (b c:Int) (d:List (Int×Int×Unit)) (e f:Int) (g:Bool) (a:d97):Option (Bool×Unit):=PL E 325 4 ⟨[U,U,U,wP 0 0,U,U,U,U,U,wI b,wI c]++us 43++[(.lf (.v (.row 30 ty3) d)),wI e,wI f]++us 24++[wB g]++us 1,[(0,(.box 97 [(.v ty0 a.1),(.v ty0 a.2.1),(.v ty0 a.2.2.1),(.v ty0 a.2.2.2.1),(.v ty0 a.2.2.2.2.1)]))],1000⟩
def tF.f (a:d25×Int×d97×Int×Unit) (b:d97):Option (Bool×Unit):=RN E 326 (a,b,())
def yK.f (a b:Int):Option (Int×Int×Unit):=RN E 355 (a,b,())
def hJ.f (a:d25) (b:d97):Option (Bool×Unit):=RN E 327 (a,b,())
def pB.f (a:d25×Int×d97×Int×Unit) (b:Int):Option (Bool×Unit):=RN E 276 (a,b,())
def pB.l1 (b:Int) (c:Bool) (d:d25×Int×d97×Int×Unit) (a:d97):Option (Bool×Unit):=PL E 276 1 ⟨[U,wI b,wP 0 0,U,U,wP 1 0]++us 26++[wB c]++us 44,[(0,(.box 99 (lv99 d))),(1,(.box 97 [(.v ty0 a.1),(.v ty0 a.2.1),(.v ty0 a.2.2.1),(.v ty0 a.2.2.2.1),(.v ty0 a.2.2.2.2.1)]))],1000⟩
def pB.l2 (b:Int) (c:d25×Int×d97×Int×Unit) (a:d97):Option (Bool×Unit):=PL E 276 2 ⟨[U,wI b,wP 0 0,U,U,wP 1 0]++us 71,[(0,(.box 99 (lv99 c))),(1,(.box 97 [(.v ty0 a.1),(.v ty0 a.2.1),(.v ty0 a.2.2.1),(.v ty0 a.2.2.2.1),(.v ty0 a.2.2.2.2.1)]))],1000⟩
def cC.f (a:d101) (b:Int):Option (Bool×Unit):=RN E 208 (a,b,())
def gJ.f (a:Int):Option (Bool×Unit):=RN E 220 (a,())
def cK.f (a b:Int):Option (Bool×Unit):=RN E 145 (a,b,())
def yF.f (a:Int):Option (Bool×Unit):=RN E 146 (a,())
def wA.f (a:List Int) (b:Int):Option (Int×Bool×Unit):=RN E 81 (a,b,())
def wA.l1 (a:List Int) (b c d e:Int):Option (Int×Bool×Unit):=PL E 81 1 ⟨[(.lf (.v ty1 a)),wI b,U,U,U,U,wI c,wI d,wI e]++us 45,[],1000⟩
def fF.f (a:d101) (b:Int) (c:List Int):Option (Bool×Unit):=RN E 320 (a,b,c,())
def vB.f (a:d101) (b:List Int):Option ((List Int)×Unit):=RN E 272 (a,b,())
def vB.l1 (a b:List Int) (c d:Int) (e:d101) (f:List Int):Option ((List Int)×Unit):=PL E 272 1 ⟨[U,(.lf (.v ty1 a)),wP 0 0,U,U,(.lf (.o 1)),U,U,U,U,U,U,U,U,(.lf (.v ty1 b)),wI c,wI d]++us 13,[(0,(.box 101 (nJ e))),(1,(.row 3 ty0 f))],1000⟩
def fH.f (a:d101) (b:Int):Option (Int×Int×Unit):=RN E 321 (a,b,())
def gM.f (a:Int):Option (Bool×Unit):=RN E 275 (a,())
def eA.f (a:d101) (b c d e:Int) (g:Unit):Option tz12:=RN E 100001 (a,b,c,d,e,g,())
def eA.l1 (a b c d:Int) (e:List Int) (f g:Int) (h:d101) (i:List Int):Option tz12:=PL E 100001 1 ⟨[U,wI a,wI b,wI c,wI d,(.lf (.fn 275 [])),wP 0 0,U,U,U,U,U,U,(.lf (.o 1)),U,U,U,U,U,U,U,U,U,(.lf (.v ty1 e)),wI f,wI g]++us 79,[(0,(.box 101 (nJ h))),(1,(.row 3 ty0 i))],1000⟩
def eA.l2 (a b c d e:Int) (f:List Int) (g h:Int) (i:Bool) (j:d101) (k:List Int):Option tz12:=PL E 100001 2 ⟨[U,wI a,wI b,wI c,wI d,(.lf (.fn 275 [])),wP 0 0,U,U,U,U,U,U,(.lf (.o 1)),U,wI e,U,U,U,U,U,U,U,(.lf (.v ty1 f)),wI g,wI h]++us 13++[wB i]++us 65,[(0,(.box 101 (nJ j))),(1,(.row 3 ty0 k))],1000⟩
def eA.l3 (a b c d e:Int) (f:List Int) (g h:Int) (i:List Int) (j k:Int) (l:d101) (m:List Int):Option tz12:=PL E 100001 3 ⟨[U,wI a,wI b,wI c,wI d,(.lf (.fn 275 [])),wP 0 0,U,U,U,U,U,U,(.lf (.o 1)),U,wI e,U,U,U,U,U,U,U,(.lf (.v ty1 f)),wI g,wI h]++us 15++[(.lf (.v ty1 i)),wI j,wI k]++us 61,[(0,(.box 101 (nJ l))),(1,(.row 3 ty0 m))],1000⟩
def eA.l4 (a b c d e f:Int) (g:List Int) (h i:Int) (j:List Int) (k l:Int) (m:Bool) (n:d101) (p:List Int):Option tz12:=PL E 100001 4 ⟨[U,wI a,wI b,wI c,wI d,(.lf (.fn 275 [])),wP 0 0,U,U,U,U,U,U,(.lf (.o 1)),U,wI e,U,U,wI f,U,U,U,U,(.lf (.v ty1 g)),wI h,wI i]++us 15++[(.lf (.v ty1 j)),wI k,wI l]++us 16++[wB m]++us 44,[(0,(.box 101 (nJ n))),(1,(.row 3 ty0 p))],1000⟩
def eA.l5 (a b c d e f:Int) (g:List Int) (h i:Int) (j:List Int) (k l:Int) (m:List Int) (n p:Int) (q:d101) (r:List Int):Option tz12:=PL E 100001 5 ⟨[U,wI a,wI b,wI c,wI d,(.lf (.fn 275 [])),wP 0 0,U,U,U,U,U,U,(.lf (.o 1)),U,wI e,U,U,wI f,U,U,U,U,(.lf (.v ty1 g)),wI h,wI i]++us 15++[(.lf (.v ty1 j)),wI k,wI l]++us 18++[(.lf (.v ty1 m)),wI n,wI p]++us 40,[(0,(.box 101 (nJ q))),(1,(.row 3 ty0 r))],1000⟩
def eA.l6 (a b c d e f g:Int) (h:List Int) (i j:Int) (k:List Int) (l m:Int) (n:List Int) (p q:Int) (r:Bool) (s:d101) (t:List Int):Option tz12:=PL E 100001 6 ⟨[U,wI a,wI b,wI c,wI d,(.lf (.fn 275 [])),wP 0 0,U,U,U,U,U,U,(.lf (.o 1)),U,wI e,U,U,wI f,U,U,wI g,U,(.lf (.v ty1 h)),wI i,wI j]++us 15++[(.lf (.v ty1 k)),wI l,wI m]++us 18++[(.lf (.v ty1 n)),wI p,wI q]++us 26++[wB r]++us 13,[(0,(.box 101 (nJ s))),(1,(.row 3 ty0 t))],1000⟩
def qB.f (a:d101) (b c:Int):Option ((List Int)×Unit):=RN E 273 (a,b,c,())
def qB.l1 (a b c d e:Int) (f:d101) (g:List Int):Option ((List Int)×Unit):=PL E 273 1 ⟨[U,U,wI a,wP 0 0,U,U,U,(.lf (.o 1)),wI b,wI c,U,wI d,wI e]++us 44,[(0,(.box 101 (nJ f))),(1,(.row 3 ty0 g))],1000⟩
def qB.l2 (a b c d e:Int) (f:Bool) (g:d101) (h:List Int):Option ((List Int)×Unit):=PL E 273 2 ⟨[U,U,wI a,wP 0 0,U,U,U,(.lf (.o 1)),wI b,wI c,U,wI d,wI e]++us 26++[wB f]++us 17,[(0,(.box 101 (nJ g))),(1,(.row 3 ty0 h))],1000⟩
def pI.f (a:Int) (b:(List Int)×Unit) (c:Int×Unit):Option (Bool×((List Int)×Unit)×(Int×Unit)×Unit):=RN E 100006 (a,b,c,())
def uA.f (a:List Int) (b c:Int×Unit) (d:(((List Int)×Unit)×(Int×Unit)×Unit)×Unit):Option tz14:=RN E 100005 (a,b,c,d,())
def uA.l1 (a:List Int) (b c d e f:Int) (g:List Int):Option tz14:=PL E 100005 1 ⟨[U,wP 0 0,wP 1 0,wP 2 0,U,U,U,U,(.lf (.v ty1 a)),wI b,wI c]++us 18,[(0,(.box 3 [vI d])),(1,(.box 3 [vI e])),(2,(.box 94 [(.fn 130 [3,5])])),(3,(.box 22 [(.o 6)])),(5,(.box 3 [vI f])),(6,(.row 3 ty0 g))],1000⟩
def uA.l2 (a:List Int) (b c:Int) (d:Bool) (e f g:Int) (h:List Int):Option tz14:=PL E 100005 2 ⟨[U,wP 0 0,wP 1 0,wP 2 0,U,U,U,U,(.lf (.v ty1 a)),wI b,wI c]++us 16++[wB d]++us 1,[(0,(.box 3 [vI e])),(1,(.box 3 [vI f])),(2,(.box 94 [(.fn 130 [3,5])])),(3,(.box 22 [(.o 6)])),(5,(.box 3 [vI g])),(6,(.row 3 ty0 h))],1000⟩
def kA.f (a:d101) (b c d e g:Int) (h:(Int×Unit)×(Int×Unit)×tz3×Unit):Option (Bool×tz1×Unit):=RN E 100004 (a,b,c,d,e,g,h,())
def kA.l1 (a b c d e f:Int) (g:List Int) (h:d101):Option (Bool×tz1×Unit):=PL E 100004 1 ⟨[U,U,U,wI a,U,U,(.lf (.fn 136 [0,1,2])),wP 7 0,U,U,U,U,U,U,U,U,U,wI b,U,wI c]++us 43,[(0,(.box 3 [vI d])),(1,(.box 3 [vI e])),(2,(.box 94 [(.fn 130 [3,5])])),(3,(.box 22 [(.o 6)])),(5,(.box 3 [vI f])),(6,(.row 3 ty0 g)),(7,(.box 101 (nJ h)))],1000⟩
def kA.l2 (a b c:Int) (d:Bool) (e f g:Int) (h:List Int) (i:d101):Option (Bool×tz1×Unit):=PL E 100004 2 ⟨[U,U,U,wI a,U,U,(.lf (.fn 136 [0,1,2])),wP 7 0,U,U,U,U,U,U,U,U,U,wI b,U,wI c]++us 42++[wB d],[(0,(.box 3 [vI e])),(1,(.box 3 [vI f])),(2,(.box 94 [(.fn 130 [3,5])])),(3,(.box 22 [(.o 6)])),(5,(.box 3 [vI g])),(6,(.row 3 ty0 h)),(7,(.box 101 (nJ i)))],1000⟩
def rA.f (a:d101) (b c:Int) (d:(Int×Unit)×(Int×Unit)×tz3×Unit):Option (tz1×Unit):=RN E 100003 (a,b,c,d,())
def rA.l1 (a b c d e f:Int) (g:List Int) (h:d101):Option (tz1×Unit):=PL E 100003 1 ⟨[U,wI a,wI b,(.lf (.fn 136 [0,1,2])),wP 7 0,U,U,U,wI c]++us 30,[(0,(.box 3 [vI d])),(1,(.box 3 [vI e])),(2,(.box 94 [(.fn 130 [3,5])])),(3,(.box 22 [(.o 6)])),(5,(.box 3 [vI f])),(6,(.row 3 ty0 g)),(7,(.box 101 (nJ h)))],1000⟩
def rA.l2 (a b c:Int) (d:Bool) (e f g:Int) (h:List Int) (i:d101):Option (tz1×Unit):=PL E 100003 2 ⟨[U,wI a,wI b,(.lf (.fn 136 [0,1,2])),wP 7 0,U,U,U,U,U,wI c]++us 24++[wB d]++us 3,[(0,(.box 3 [vI e])),(1,(.box 3 [vI f])),(2,(.box 94 [(.fn 130 [3,5])])),(3,(.box 22 [(.o 6)])),(5,(.box 3 [vI g])),(6,(.row 3 ty0 h)),(7,(.box 101 (nJ i)))],1000⟩
def qA.f (a:d101) (b:Int):Option ((List Int)×Unit):=RN E 328 (a,b,())
def qA.l1 (a b c:Int) (d:d101) (e:List Int):Option ((List Int)×Unit):=PL E 328 1 ⟨[U,wI a,wP 0 0,U,U,(.lf (.o 1)),wI b,wI c]++us 48,[(0,(.box 101 (nJ d))),(1,(.row 3 ty0 e))],1000⟩
def qA.l2 (a b c:Int) (d:Bool) (e:d101) (f:List Int):Option ((List Int)×Unit):=PL E 328 2 ⟨[U,wI a,wP 0 0,U,U,(.lf (.o 1)),wI b,wI c]++us 40++[wB d]++us 7,[(0,(.box 101 (nJ e))),(1,(.row 3 ty0 f))],1000⟩
def dA.f (a:d101) (b:Int) (c:(Int×Unit)×(Int×Unit)×tz3×Unit):Option (Bool×tz1×Unit):=RN E 100009 (a,b,c,())
def dA.l1 (a:Int) (b:List Int) (c d e f g:Int) (h:List Int) (i:d101):Option (Bool×tz1×Unit):=PL E 100009 1 ⟨[U,wI a,(.lf (.fn 136 [0,1,2])),wP 7 0]++us 10++[(.lf (.v ty1 b)),wI c,wI d]++us 41,[(0,(.box 3 [vI e])),(1,(.box 3 [vI f])),(2,(.box 94 [(.fn 130 [3,5])])),(3,(.box 22 [(.o 6)])),(5,(.box 3 [vI g])),(6,(.row 3 ty0 h)),(7,(.box 101 (nJ i)))],1000⟩
def dA.l3 (a:Int) (b c:List Int) (d e f g h:Int) (i:List Int) (j:d101):Option (Bool×tz1×Unit):=PL E 100009 3 ⟨[U,wI a,(.lf (.fn 136 [0,1,2])),wP 7 0,U,U,U,U,U,U,(.lf (.v ty1 b)),U,U,U,(.lf (.v ty1 c)),wI d,wI e]++us 41,[(0,(.box 3 [vI f])),(1,(.box 3 [vI g])),(2,(.box 94 [(.fn 130 [3,5])])),(3,(.box 22 [(.o 6)])),(5,(.box 3 [vI h])),(6,(.row 3 ty0 i)),(7,(.box 101 (nJ j)))],1000⟩
def dA.l2 (a b:Int) (c:List Int) (d e:Int) (f:List Int) (g h i j k:Int) (l:List Int) (m:d101):Option (Bool×tz1×Unit):=PL E 100009 2 ⟨[U,wI a,(.lf (.fn 136 [0,1,2])),wP 7 0,U,U,U,U,U,wI b,(.lf .nl),U,U,U,(.lf (.v ty1 c)),wI d,wI e]++us 20++[(.lf (.v ty1 f)),wI g,wI h]++us 18,[(0,(.box 3 [vI i])),(1,(.box 3 [vI j])),(2,(.box 94 [(.fn 130 [3,5])])),(3,(.box 22 [(.o 6)])),(5,(.box 3 [vI k])),(6,(.row 3 ty0 l)),(7,(.box 101 (nJ m)))],1000⟩
def dA.l3a (a:Int) (b:List Int) (c d e f g:Int) (h:List Int) (i:d101):Option (Bool×tz1×Unit):=PL E 100009 3 ⟨[U,wI a,(.lf (.fn 136 [0,1,2])),wP 7 0,U,U,U,U,U,U,(.lf .nl),U,U,U,(.lf (.v ty1 b)),wI c,wI d]++us 41,[(0,(.box 3 [vI e])),(1,(.box 3 [vI f])),(2,(.box 94 [(.fn 130 [3,5])])),(3,(.box 22 [(.o 6)])),(5,(.box 3 [vI g])),(6,(.row 3 ty0 h)),(7,(.box 101 (nJ i)))],1000⟩
def dA.l2a (a b:Int) (c:List Int) (d e:Int) (f:List Int) (g h i j k:Int) (l:List Int) (m:d101) (n:List Int):Option (Bool×tz1×Unit):=PL E 100009 2 ⟨[U,wI a,(.lf (.fn 136 [0,1,2])),wP 7 0,U,U,U,U,U,wI b,(.lf (.o 8)),U,U,U,(.lf (.v ty1 c)),wI d,wI e]++us 20++[(.lf (.v ty1 f)),wI g,wI h]++us 18,[(0,(.box 3 [vI i])),(1,(.box 3 [vI j])),(2,(.box 94 [(.fn 130 [3,5])])),(3,(.box 22 [(.o 6)])),(5,(.box 3 [vI k])),(6,(.row 3 ty0 l)),(7,(.box 101 (nJ m))),(8,(.row 3 ty0 n))],1000⟩
def mA.f (a:d101) (b:Int) (c:(Int×Unit)×(Int×Unit)×tz3×Unit):Option (Bool×tz1×Unit):=RN E 100008 (a,b,c,())
def mA.l1 (a:Int) (b:List Int) (c d e f g:Int) (h:List Int) (i:d101):Option (Bool×tz1×Unit):=PL E 100008 1 ⟨[U,wI a,(.lf (.fn 136 [0,1,2])),wP 7 0]++us 12++[(.lf (.v ty1 b)),wI c,wI d]++us 52,[(0,(.box 3 [vI e])),(1,(.box 3 [vI f])),(2,(.box 94 [(.fn 130 [3,5])])),(3,(.box 22 [(.o 6)])),(5,(.box 3 [vI g])),(6,(.row 3 ty0 h)),(7,(.box 101 (nJ i)))],1000⟩
def mA.l2 (a b:Int) (c:List Int) (d e:Int) (f:List Int) (g h i j k:Int) (l:List Int) (m:d101) (n:List Int):Option (Bool×tz1×Unit):=PL E 100008 2 ⟨[U,wI a,(.lf (.fn 136 [0,1,2])),wP 7 0,U,U,U,U,U,wI b,(.lf (.o 8)),U,U,U,U,U,(.lf (.v ty1 c)),wI d,wI e]++us 21++[(.lf (.v ty1 f)),wI g,wI h]++us 28,[(0,(.box 3 [vI i])),(1,(.box 3 [vI j])),(2,(.box 94 [(.fn 130 [3,5])])),(3,(.box 22 [(.o 6)])),(5,(.box 3 [vI k])),(6,(.row 3 ty0 l)),(7,(.box 101 (nJ m))),(8,(.row 3 ty0 n))],1000⟩
def mA.l3 (a b c:Int) (d:List Int) (e f:Int) (g:List Int) (h i:Int) (j:List Int) (k l m n p:Int) (q:List Int) (r:d101) (s:List Int):Option (Bool×tz1×Unit):=PL E 100008 3 ⟨[U,wI a,(.lf (.fn 136 [0,1,2])),wP 7 0,U,U,U,U,U,wI b,(.lf (.o 8)),U,wI c,U,U,U,(.lf (.v ty1 d)),wI e,wI f]++us 21++[(.lf (.v ty1 g)),wI h,wI i,U,U,U,U,(.lf (.v ty1 j)),wI k,wI l]++us 21,[(0,(.box 3 [vI m])),(1,(.box 3 [vI n])),(2,(.box 94 [(.fn 130 [3,5])])),(3,(.box 22 [(.o 6)])),(5,(.box 3 [vI p])),(6,(.row 3 ty0 q)),(7,(.box 101 (nJ r))),(8,(.row 3 ty0 s))],1000⟩
def bB.f (a:d101) (b c:Int) (d:(Int×Unit)×(Int×Unit)×tz3×Unit):Option (tz1×Unit):=RN E 100007 (a,b,c,d,())
def bB.l1 (a b c d e:Int) (f:List Int) (g:d101):Option (tz1×Unit):=PL E 100007 1 ⟨[U,U,U,(.lf (.fn 136 [0,1,2])),wP 7 0,U,U,U,U,U,wI a,U,wI b]++us 27,[(0,(.box 3 [vI c])),(1,(.box 3 [vI d])),(2,(.box 94 [(.fn 130 [3,5])])),(3,(.box 22 [(.o 6)])),(5,(.box 3 [vI e])),(6,(.row 3 ty0 f)),(7,(.box 101 (nJ g)))],1000⟩
def bB.l2 (a b:Int) (c:Bool) (d e f:Int) (g:List Int) (h:d101):Option (tz1×Unit):=PL E 100007 2 ⟨[U,U,U,(.lf (.fn 136 [0,1,2])),wP 7 0,U,U,U,U,U,wI a,U,wI b]++us 26++[wB c],[(0,(.box 3 [vI d])),(1,(.box 3 [vI e])),(2,(.box 94 [(.fn 130 [3,5])])),(3,(.box 22 [(.o 6)])),(5,(.box 3 [vI f])),(6,(.row 3 ty0 g)),(7,(.box 101 (nJ h)))],1000⟩
def jC.f (a:d101) (b c:Int) (d:((List Int)×Unit)×(Int×Unit)×Unit):Option tz3:=RN E 100002 (a,b,c,d,())
def jC.l1 (a:Int) (b:List Int) (c:d101) (d e:Int):Option tz3:=PL E 100002 1 ⟨[U,U,U,(.lf (.fn 130 [0,2])),wP 4 0,wP 5 0,wP 6 0,wP 7 0]++us 29,[(0,(.box 22 [(.o 3)])),(2,(.box 3 [vI a])),(3,(.row 3 ty0 b)),(4,(.box 101 (nJ c))),(5,(.box 3 [vI d])),(6,(.box 3 [vI e])),(7,(.box 94 [(.fn 130 [0,2])]))],1000⟩
def yD.f (a:d101) (b:d25) (c d e:Int):Option ((List Int)×Unit):=RN E 66 (a,b,c,d,e,())
def yD.l1 (a b:Int) (c:d101) (d:Int) (e:List Int):Option ((List Int)×Unit):=PL E 66 1 ⟨[U,U,wI a,wI b,U,wP 0 0,U,U,U,wP 1 0,U,wP 2 0]++us 13,[(0,(.box 101 (nJ c))),(1,(.box 3 [vI d])),(2,(.box 22 [(.o 3)])),(3,(.row 3 ty0 e))],1000⟩
def iF.f (a:d25) (b c d:Int):Option tz5:=RN E 17 (a,b,c,d,())
def dB.f (a b:List Int):Option (Bool×Unit):=RN E 60 (a,b,())
def dB.l1 (a b:List Int) (c d:Int):Option (Bool×Unit):=PL E 60 1 ⟨[(.lf (.v ty1 a)),(.lf (.v ty1 b))]++us 10++[wI c,wI d]++us 12,[],1000⟩
def gB.f (a b:List (Int×Int×Unit)):Option (Bool×Unit):=RN E 61 (a,b,())
def gB.l1 (a b:List (Int×Int×Unit)) (c d:Int):Option (Bool×Unit):=PL E 61 1 ⟨[(.lf (.v (.row 30 ty3) a)),(.lf (.v (.row 30 ty3) b))]++us 10++[wI c,wI d]++us 12,[],1000⟩
def bE.f (a b:d25):Option (Bool×Unit):=RN E 14 (a,b,())
def bE.l1 (a:Bool) (b c:d25):Option (Bool×Unit):=PL E 14 1 ⟨[U,U,wP 0 0,wP 1 0]++us 40++[wB a]++us 61,[(0,(.box 25 (lv25 b))),(1,(.box 25 (lv25 c)))],1000⟩
def pD.f (a b c d e g:Int):Option (Int×Int×Unit):=RN E 127 (a,b,c,d,e,g,())
def pD.l1 (a b c d:Int) (e:Bool):Option (Int×Int×Unit):=PL E 127 1 ⟨[U,U,U,wI a,wI b,wI c,U,U,U,U,U,U,U,U,wI d]++us 33++[wB e]++us 10,[],1000⟩
def kH.f (a:Int):Option (Int×Unit):=RN E 84 (a,())
def sK.f (a:Int):Option (Bool×Unit):=RN E 92 (a,())
def fC.f (a:List Int):Option (Bool×Unit):=RN E 93 (a,())
def fC.l1 (a b:List Int) (c d:Int):Option (Bool×Unit):=PL E 93 1 ⟨[(.lf (.v ty1 a)),U,U,U,U,(.lf (.v ty1 b)),wI c,wI d]++us 24,[],1000⟩
def fC.l2 (a b:List Int) (c d:Int) (e:Bool):Option (Bool×Unit):=PL E 93 2 ⟨[(.lf (.v ty1 a)),U,U,U,U,(.lf (.v ty1 b)),wI c,wI d]++us 19++[wB e]++us 4,[],1000⟩
def mE.f (a:d46):Option (Bool×Unit):=RN E 36 (a,())
def mE.l1 (a:Bool) (b:d46):Option (Bool×Unit):=PL E 36 1 ⟨[U,wP 0 0]++us 36++[wB a]++us 9,[(0,(.box 46 (lv46 b)))],1000⟩
def zE.f (a:List Int):Option ((List Int)×Unit):=RN E 77 (a,())
def fA.f (a:List Int):Option ((List Int)×Unit):=RN E 79 (a,())
def fA.l1 (a:List Int):Option ((List Int)×Unit):=PL E 79 1 ⟨[U,U,(.lf (.o 0))]++us 58,[(0,(.row 3 ty0 a))],1000⟩
def fA.l2 (a:Int) (b:List Int):Option ((List Int)×Unit):=PL E 79 2 ⟨[(.lf (.o 0)),U,U,wI a]++us 57,[(0,(.row 3 ty0 b))],1000⟩
def fA.l3 (a b c:Int) (d:List Int):Option ((List Int)×Unit):=PL E 79 3 ⟨[(.lf (.o 0)),U,U,wI a,(.lf (.ot 0 b 1)),wI c]++us 55,[(0,(.row 3 ty0 d))],1000⟩
def fA.l5 (a:List Int):Option ((List Int)×Unit):=PL E 79 5 ⟨[U,U,(.lf (.o 0))]++us 58,[(0,(.row 3 ty0 a))],1000⟩
def fA.l4 (a:List Int):Option ((List Int)×Unit):=PL E 79 4 ⟨[U,U,(.lf (.o 1))]++us 58,[(1,(.row 3 ty0 a))],1000⟩
def yI.f (a:Int) (b:Int×Int×Int×Bool×Int×Int×Int×Int×Int×Bool×(List Int)×(List Int)×(List Int)×(List Int)×tz2×(List Int)×(List Int)×(List Int)×(List Int)×(List Int)×(List Int)×Unit) (c:Int×Unit):Option (Bool×tz0×(Int×Unit)×Unit):=RN E 100012 (a,b,c,())
def kB.f (a:List Int) (b:tz0×(Int×Unit)×Unit):Option (Int×(List Int)×(tz0×(Int×Unit)×Unit)×Unit):=RN E 100011 (a,b,())
def kB.l1 (a b:Int) (c:List Int) (d:d46) (e:Int):Option (Int×(List Int)×(tz0×(Int×Unit)×Unit)×Unit):=PL E 100011 1 ⟨[(.lf (.o 0)),(.lf (.fn 80 [1,2])),U,U,U,U,U,wI a,wI b]++us 10,[(0,(.row 3 ty0 c)),(1,(.box 46 (lv46 d))),(2,(.box 3 [vI e]))],1000⟩
def lA.f (a:List Int) (b:tz0×(Int×Unit)×Unit):Option tz11:=RN E 100010 (a,b,())
def lA.l1 (a:List Int) (b:d46) (c:Int):Option tz11:=PL E 100010 1 ⟨[U,U,U,U,(.lf (.o 0))]++us 37,[(0,(.row 3 ty0 a)),(1,(.box 46 (lv46 b))),(2,(.box 3 [vI c]))],1000⟩
def lA.l2 (a b:Int) (c:List Int) (d:d46) (e:Int):Option tz11:=PL E 100010 2 ⟨[(.lf (.o 0)),(.lf (.fn 80 [1,2])),U,U,U,wI a,wI b]++us 35,[(0,(.row 3 ty0 c)),(1,(.box 46 (lv46 d))),(2,(.box 3 [vI e]))],1000⟩
def lA.l3 (a:d46) (b:Int) (c:List Int):Option tz11:=PL E 100010 3 ⟨[U,U,U,U,(.lf (.o 3))]++us 37,[(1,(.box 46 (lv46 a))),(2,(.box 3 [vI b])),(3,(.row 3 ty0 c))],1000⟩
def kD.f (a:d46) (b:Int):Option tz5:=RN E 29 (a,b,())
def kD.l1 (a:List Int) (b:d46) (c:Int):Option tz5:=PL E 29 1 ⟨[U,U,wP 0 0,wP 1 0,U,U,(.lf (.v ty1 a))]++us 38,[(0,(.box 46 (lv46 b))),(1,(.box 3 [vI c]))],1000⟩
def kD.l1a (a:d46) (b:Int) (c:List Int):Option tz5:=PL E 29 1 ⟨[U,U,wP 0 0,wP 1 0,U,U,(.lf (.o 2))]++us 38,[(0,(.box 46 (lv46 a))),(1,(.box 3 [vI b])),(2,(.row 3 ty0 c))],1000⟩
def qI.f (a:Int):Option (Bool×Unit):=RN E 147 (a,())
def rB.f (a:List (Int×Int×Unit)):Option (Bool×Unit):=RN E 148 (a,())
def rB.l1 (a b:List (Int×Int×Unit)) (c d:Int):Option (Bool×Unit):=PL E 148 1 ⟨[(.lf (.v (.row 70 ty3) a)),U,U,U,U,(.lf (.v (.row 70 ty3) b)),wI c,wI d]++us 34,[],1000⟩
def rB.l2 (a b:List (Int×Int×Unit)) (c d:Int) (e:Bool):Option (Bool×Unit):=PL E 148 2 ⟨[(.lf (.v (.row 70 ty3) a)),U,U,U,U,(.lf (.v (.row 70 ty3) b)),wI c,wI d]++us 29++[wB e]++us 4,[],1000⟩
def nB.f (a:List d97):Option (Bool×Unit):=RN E 149 (a,())
def nB.l1 (a b:List d97) (c d:Int):Option (Bool×Unit):=PL E 149 1 ⟨[(.lf (.v (.row 160 ty4) a)),U,U,U,U,U,(.lf (.v (.row 160 ty4) b)),wI c,wI d]++us 63,[],1000⟩
def nB.l2 (a b:List d97) (c d:Int) (e:Bool):Option (Bool×Unit):=PL E 149 2 ⟨[(.lf (.v (.row 160 ty4) a)),U,U,U,U,U,(.lf (.v (.row 160 ty4) b)),wI c,wI d]++us 46++[wB e]++us 16,[],1000⟩
def rD.f (a:Int×tz2×(List d97)×Int×Unit):Option (Bool×Unit):=RN E 83 (a,())
def rD.l1 (b:Bool) (a:Int×tz2×(List d97)×Int×Unit):Option (Bool×Unit):=PL E 83 1 ⟨[U,wP 0 0]++us 13++[wB b]++us 41,[(0,(.box 66 [(.v ty0 a.1),(.v (.row 70 ty3) a.2.1),(.v (.row 160 ty4) a.2.2.1),(.v ty0 a.2.2.2.1)]))],1000⟩
def rD.l2 (b:Int) (c:Bool) (a:Int×tz2×(List d97)×Int×Unit):Option (Bool×Unit):=PL E 83 2 ⟨[U,wP 0 0,U,wI b]++us 35++[wB c]++us 17,[(0,(.box 66 [(.v ty0 a.1),(.v (.row 70 ty3) a.2.1),(.v (.row 160 ty4) a.2.2.1),(.v ty0 a.2.2.2.1)]))],1000⟩
def wK.f (a:Int×tz2×(List d97)×Int×Unit) (b:Int):Option (Bool×Unit):=RN E 96 (a,b,())
def lD.f (a:List (Int×Int×Unit)):Option (tz2×Unit):=RN E 157 (a,())
def xK.f (a:Int):Option (Bool×Unit):=RN E 288 (a,())
def pC.f (a b c d:Int):Option (Int×Int×Unit):=RN E 232 (a,b,c,d,())
def pC.l1 (a b c d:Int) (e:Bool):Option (Int×Int×Unit):=PL E 232 1 ⟨[wI a,wI b,wI c,wI d]++us 27++[wB e]++us 25,[],1000⟩
def pC.l2 (a b c d:Int):Option (Int×Int×Unit):=PL E 232 2 ⟨[wI a,wI b,wI c,U,U,U,U,U,U,U,wI d]++us 46,[],1000⟩
def pC.l3 (a b c d:Int) (e:Bool):Option (Int×Int×Unit):=PL E 232 3 ⟨[wI a,wI b,wI c,U,U,U,U,U,U,U,wI d]++us 42++[wB e]++us 3,[],1000⟩
def xC.f (a:Int×tz2×(List d97)×Int×Unit) (b:Int):Option (tz2×Unit):=RN E 158 (a,b,())
def xC.l1 (b:Int) (c:Bool) (a:Int×tz2×(List d97)×Int×Unit):Option (tz2×Unit):=PL E 158 1 ⟨[U,wI b,wP 0 0]++us 22++[wB c]++us 38,[(0,(.box 66 [(.v ty0 a.1),(.v (.row 70 ty3) a.2.1),(.v (.row 160 ty4) a.2.2.1),(.v ty0 a.2.2.2.1)]))],1000⟩
def xC.l2 (a:Int) (b:List d97) (c d:Int) (e:List (Int×Int×Unit)):Option (tz2×Unit):=PL E 158 2 ⟨[U,wI a,U,U,U,(.lf (.o 0))]++us 21++[(.lf (.v (.row 160 ty4) b)),wI c,wI d]++us 34,[(0,(.row 70 ty3 e))],1000⟩
def vF.f (a:Int×tz2×(List d97)×Int×Unit) (b:Int):Option (tz2×Unit):=RN E 97 (a,b,())
def vF.l1 (b c:Int) (a:Int×tz2×(List d97)×Int×Unit) (d:List (Int×Int×Unit)):Option (tz2×Unit):=PL E 97 1 ⟨[U,U,wP 0 0,U,U,U,U,wI b,U,U,U,(.lf (.o 1)),wI c]++us 39,[(0,(.box 66 [(.v ty0 a.1),(.v (.row 70 ty3) a.2.1),(.v (.row 160 ty4) a.2.2.1),(.v ty0 a.2.2.2.1)])),(1,(.row 70 ty3 d))],1000⟩
def oF.f (a:Int×tz2×(List d97)×Int×Unit) (b:Int):Option tz6:=RN E 40 (a,b,())
def oF.l1 (b:Int) (c:List (Int×Int×Unit)) (d e:Int) (a:Int×Int×Unit):Option tz6:=PL E 40 1 ⟨[U,wI b,U,U,wP 0 0]++us 10++[(.lf (.v (.row 70 ty3) c)),wI d,wI e]++us 10,[(0,(.box 70 [(.v ty0 a.1),(.v ty0 a.2.1)]))],1000⟩
def cL.f (a:Int):Option (Bool×Unit):=RN E 94 (a,())
def yE.f (a:Int×tz2×(List d97)×Int×Unit) (b:Int):Option tz6:=RN E 156 (a,b,())
def yE.l1 (c:Int) (d:Bool) (e:List (Int×Int×Unit)) (f g:Int) (a b:Int×Int×Unit):Option tz6:=PL E 156 1 ⟨[U,wI c,U,U,wP 0 0,U,wP 1 0,wB d,U,U,U,U,U,U,U,U,U,(.lf (.v (.row 70 ty3) e)),wI f,wI g]++us 11,[(0,(.box 70 [(.v ty0 a.1),(.v ty0 a.2.1)])),(1,(.box 70 [(.v ty0 b.1),(.v ty0 b.2.1)]))],1000⟩
def dL.f (a:Int×tz2×(List d97)×Int×Unit) (b:Int):Option (Int×Unit):=RN E 95 (a,b,())
def tE.f (a:Int×tz2×(List d97)×Int×Unit) (b:Int):Option (Int×Unit):=RN E 39 (a,b,())
def tE.l1 (b:Int) (c:Bool) (a:Int×tz2×(List d97)×Int×Unit):Option (Int×Unit):=PL E 39 1 ⟨[U,wI b,wP 0 0]++us 13++[wB c]++us 37,[(0,(.box 66 [(.v ty0 a.1),(.v (.row 70 ty3) a.2.1),(.v (.row 160 ty4) a.2.2.1),(.v ty0 a.2.2.2.1)]))],1000⟩
def tE.l2 (b c:Int) (d:Bool) (a:Int×Int×Unit):Option (Int×Unit):=PL E 39 2 ⟨[U,wI b,U,U,U,U,wI c,wP 0 0]++us 20++[wB d]++us 25,[(0,(.box 70 [(.v ty0 a.1),(.v ty0 a.2.1)]))],1000⟩
def aE.f (a:List (Int×Int×Unit)):Option (tz2×Unit):=RN E 87 (a,())
def aE.l1 (a:List (Int×Int×Unit)) (b c:Int) (d:List (Int×Int×Unit)):Option (tz2×Unit):=PL E 87 1 ⟨[U,U,U,(.lf (.o 0)),U,U,U,(.lf (.v (.row 68 ty3) a)),wI b,wI c]++us 38,[(0,(.row 68 ty3 d))],1000⟩
def aE.l2 (b:Int) (c:List (Int×Int×Unit)) (d e:Int) (f:Bool) (g:List (Int×Int×Unit)) (a:Int×Int×Unit):Option (tz2×Unit):=PL E 87 2 ⟨[U,U,U,(.lf (.o 0)),U,wP 1 0,wI b,(.lf (.v (.row 68 ty3) c)),wI d,wI e]++us 17++[wB f]++us 20,[(0,(.row 68 ty3 g)),(1,(.box 68 [(.v ty0 a.1),(.v ty0 a.2.1)]))],1000⟩
def qC.f (a:List (Int×Int×Unit)) (b:Unit):Option (tz2×Unit×Unit):=RN E 100013 (a,b,())
def nC.f (a:d46) (b:List tz4) (c:Int):Option (tz2×Int×Unit):=RN E 31 (a,b,c,())
def nC.l1 (a:List tz4) (b:Int) (c:Bool) (d:d46):Option (tz2×Int×Unit):=PL E 31 1 ⟨[U,(.lf (.v (.row 66 ty8) a)),wI b,wP 0 0]++us 38++[wB c]++us 40,[(0,(.box 46 (lv46 d)))],1000⟩
def nC.l2 (a:List tz4) (b:Int) (c:List Int) (d e:Int) (f:d46) (g:List (Int×Int×Unit)):Option (tz2×Int×Unit):=PL E 31 2 ⟨[U,(.lf (.v (.row 66 ty8) a)),wI b,wP 0 0,U,U,U,U,U,U,(.lf (.o 1))]++us 42++[(.lf (.v ty1 c)),wI d,wI e]++us 27,[(0,(.box 46 (lv46 f))),(1,(.row 68 ty3 g))],1000⟩
def tC.f (a b:List (Int×Int×Unit)):Option (Bool×Unit):=RN E 33 (a,b,())
def tC.l1 (a b:List (Int×Int×Unit)) (c:Int):Option (Bool×Unit):=PL E 33 1 ⟨[(.lf (.v (.row 68 ty3) a)),(.lf (.v (.row 68 ty3) b)),U,U,U,wI c]++us 35,[],1000⟩
def tC.l2 (a b:List (Int×Int×Unit)) (c:Int) (d:Bool):Option (Bool×Unit):=PL E 33 2 ⟨[(.lf (.v (.row 68 ty3) a)),(.lf (.v (.row 68 ty3) b)),U,U,U,wI c]++us 34++[wB d],[],1000⟩
def zD.f (a:Int):Option (ByteArray×Unit):=RN E 99 (a,())
def bG.f (a b:ByteArray):Option (Bool×Unit):=RN E 168 (a,b,())
def jE.f (a b:ByteArray):Option (Bool×Unit):=RN E 109 (a,b,())
def jR.f (a:List Int):Option ((List ByteArray)×Int×Int×Unit):=RN E 108 (a,())
def zJ.f (a:ByteArray):Option (Int×Int×Unit):=RN E 62 (a,())
def bR.f (a:ByteArray):Option tz15:=RN E 49 (a,())
def qL.f (a:ByteArray):Option (Int×Int×Bool×Unit):=RN E 169 (a,())
def rL.f (a:ByteArray):Option (Int×Int×Unit):=RN E 170 (a,())
def dQ.f (a:ByteArray):Option tz13:=RN E 171 (a,())
def jH.f (a:d46) (b:Int) (c:ByteArray):Option (Bool×d46×Unit):=RN E 110 (a,b,c,())
def nA.f (a:List Int):Option tz8:=RN E 44 (a,())
def nA.l1 (a:List ByteArray) (b:Int) (c:List ByteArray) (d e f g h:Int) (i:Bool) (j k l m n:Int) (o:Bool) (p q r:Int) (s:Bool) (t u w x y:Int) (z:Bool):Option tz8:=PL E 44 1 ⟨[U,U,wP 0 0,U,U,(.lf (.v (.row 9 .str) a)),U,U,wP 1 0,wI b]++us 14++[(.lf (.v (.row 9 .str) c)),wI d,wI e]++us 56,[(0,(.box 46 [vI f,vI g,vI h,(.v .bool i),vI j,vI k,vI l,vI m,vI n,(.v .bool o),.nl,.nl,.nl,.nl,.nl,.nl,.nl,.nl,.nl,.nl,.nl])),(1,(.box 46 [vI p,vI q,vI r,(.v .bool s),vI t,vI u,vI w,vI x,vI y,(.v .bool z),.nl,.nl,.nl,.nl,.nl,.nl,.nl,.nl,.nl,.nl,.nl]))],1000⟩
def nA.l2 (a:List ByteArray) (b:Int) (c:ByteArray) (d:Int) (e:List ByteArray) (f g h i j:Int) (k:Bool) (l m n o p:Int) (q:Bool) (r s t:Int) (u:Bool) (w x y z A:Int) (B:Bool):Option tz8:=PL E 44 2 ⟨[U,U,wP 0 0,U,U,(.lf (.v (.row 9 .str) a)),U,U,wP 1 0,U,wI b,(.lf (.v .str c)),wI d]++us 11++[(.lf (.v (.row 9 .str) e)),wI f,wI g]++us 56,[(0,(.box 46 [vI h,vI i,vI j,(.v .bool k),vI l,vI m,vI n,vI o,vI p,(.v .bool q),.nl,.nl,.nl,.nl,.nl,.nl,.nl,.nl,.nl,.nl,.nl])),(1,(.box 46 [vI r,vI s,vI t,(.v .bool u),vI w,vI x,vI y,vI z,vI A,(.v .bool B),.nl,.nl,.nl,.nl,.nl,.nl,.nl,.nl,.nl,.nl,.nl]))],1000⟩
def nA.l3 (a:List ByteArray) (b:Int) (c:ByteArray) (d:Int) (e:List ByteArray) (f g:Int) (h:Bool) (i j k:Int) (l:Bool) (m n o p q:Int) (r:Bool) (s t u:Int) (w:Bool) (x y z A B:Int) (C:Bool):Option tz8:=PL E 44 3 ⟨[U,U,wP 0 0,U,U,(.lf (.v (.row 9 .str) a)),U,U,wP 1 0,U,wI b,(.lf (.v .str c)),wI d]++us 11++[(.lf (.v (.row 9 .str) e)),wI f,wI g]++us 17++[wB h]++us 38,[(0,(.box 46 [vI i,vI j,vI k,(.v .bool l),vI m,vI n,vI o,vI p,vI q,(.v .bool r),.nl,.nl,.nl,.nl,.nl,.nl,.nl,.nl,.nl,.nl,.nl])),(1,(.box 46 [vI s,vI t,vI u,(.v .bool w),vI x,vI y,vI z,vI A,vI B,(.v .bool C),.nl,.nl,.nl,.nl,.nl,.nl,.nl,.nl,.nl,.nl,.nl]))],1000⟩
def nA.l4 (a:List ByteArray) (b:Int) (c:ByteArray) (d:Int) (e:List ByteArray) (f g h i j:Int) (k:Bool) (l m n o p:Int) (q:Bool) (r s t:Int) (u:Bool) (w x y z A:Int) (B:Bool):Option tz8:=PL E 44 4 ⟨[U,U,wP 0 0,U,U,(.lf (.v (.row 9 .str) a)),U,U,wP 1 0,U,wI b,(.lf (.v .str c)),wI d]++us 11++[(.lf (.v (.row 9 .str) e)),wI f,wI g]++us 56,[(0,(.box 46 [vI h,vI i,vI j,(.v .bool k),vI l,vI m,vI n,vI o,vI p,(.v .bool q),.nl,.nl,.nl,.nl,.nl,.nl,.nl,.nl,.nl,.nl,.nl])),(1,(.box 46 [vI r,vI s,vI t,(.v .bool u),vI w,vI x,vI y,vI z,vI A,(.v .bool B),.nl,.nl,.nl,.nl,.nl,.nl,.nl,.nl,.nl,.nl,.nl]))],1000⟩
def nA.l5 (a:List ByteArray) (b c:Int) (d:List ByteArray) (e f:Int) (g:Bool) (h i j:Int) (k:Bool) (l m n o p:Int) (q:Bool) (r s t:Int) (u:Bool) (w x y z A:Int) (B:Bool):Option tz8:=PL E 44 5 ⟨[U,U,wP 0 0,U,U,(.lf (.v (.row 9 .str) a)),U,U,wP 1 0,U,wI b,U,wI c]++us 11++[(.lf (.v (.row 9 .str) d)),wI e,wI f]++us 38++[wB g]++us 17,[(0,(.box 46 [vI h,vI i,vI j,(.v .bool k),vI l,vI m,vI n,vI o,vI p,(.v .bool q),.nl,.nl,.nl,.nl,.nl,.nl,.nl,.nl,.nl,.nl,.nl])),(1,(.box 46 [vI r,vI s,vI t,(.v .bool u),vI w,vI x,vI y,vI z,vI A,(.v .bool B),.nl,.nl,.nl,.nl,.nl,.nl,.nl,.nl,.nl,.nl,.nl]))],1000⟩
def nA.l5a (a:List ByteArray) (b c:Int) (d:List ByteArray) (e f:Int) (g:Bool) (h i j:Int) (k:Bool) (l m n o p:Int) (q:Bool) (r:d46):Option tz8:=PL E 44 5 ⟨[U,U,wP 0 0,U,U,(.lf (.v (.row 9 .str) a)),U,U,wP 1 0,U,wI b,U,wI c]++us 11++[(.lf (.v (.row 9 .str) d)),wI e,wI f]++us 38++[wB g]++us 17,[(0,(.box 46 [vI h,vI i,vI j,(.v .bool k),vI l,vI m,vI n,vI o,vI p,(.v .bool q),.nl,.nl,.nl,.nl,.nl,.nl,.nl,.nl,.nl,.nl,.nl])),(1,(.box 46 (lv46 r)))],1000⟩
def nA.l1a (a:List ByteArray) (b:Int) (c:List ByteArray) (d e f g h:Int) (i:Bool) (j k l m n:Int) (o:Bool) (p:d46):Option tz8:=PL E 44 1 ⟨[U,U,wP 0 0,U,U,(.lf (.v (.row 9 .str) a)),U,U,wP 1 0,wI b]++us 14++[(.lf (.v (.row 9 .str) c)),wI d,wI e]++us 56,[(0,(.box 46 [vI f,vI g,vI h,(.v .bool i),vI j,vI k,vI l,vI m,vI n,(.v .bool o),.nl,.nl,.nl,.nl,.nl,.nl,.nl,.nl,.nl,.nl,.nl])),(1,(.box 46 (lv46 p)))],1000⟩
def nA.l2a (a:List ByteArray) (b:Int) (c:ByteArray) (d:Int) (e:List ByteArray) (f g h i j:Int) (k:Bool) (l m n o p:Int) (q:Bool) (r:d46):Option tz8:=PL E 44 2 ⟨[U,U,wP 0 0,U,U,(.lf (.v (.row 9 .str) a)),U,U,wP 1 0,U,wI b,(.lf (.v .str c)),wI d]++us 11++[(.lf (.v (.row 9 .str) e)),wI f,wI g]++us 56,[(0,(.box 46 [vI h,vI i,vI j,(.v .bool k),vI l,vI m,vI n,vI o,vI p,(.v .bool q),.nl,.nl,.nl,.nl,.nl,.nl,.nl,.nl,.nl,.nl,.nl])),(1,(.box 46 (lv46 r)))],1000⟩
def nA.l3a (a:List ByteArray) (b:Int) (c:ByteArray) (d:Int) (e:List ByteArray) (f g:Int) (h:Bool) (i j k:Int) (l:Bool) (m n o p q:Int) (r:Bool) (s:d46):Option tz8:=PL E 44 3 ⟨[U,U,wP 0 0,U,U,(.lf (.v (.row 9 .str) a)),U,U,wP 1 0,U,wI b,(.lf (.v .str c)),wI d]++us 11++[(.lf (.v (.row 9 .str) e)),wI f,wI g]++us 17++[wB h]++us 38,[(0,(.box 46 [vI i,vI j,vI k,(.v .bool l),vI m,vI n,vI o,vI p,vI q,(.v .bool r),.nl,.nl,.nl,.nl,.nl,.nl,.nl,.nl,.nl,.nl,.nl])),(1,(.box 46 (lv46 s)))],1000⟩
def nA.l4a (a:List ByteArray) (b:Int) (c:ByteArray) (d:Int) (e:List ByteArray) (f g h i j:Int) (k:Bool) (l m n o p:Int) (q:Bool) (r:d46):Option tz8:=PL E 44 4 ⟨[U,U,wP 0 0,U,U,(.lf (.v (.row 9 .str) a)),U,U,wP 1 0,U,wI b,(.lf (.v .str c)),wI d]++us 11++[(.lf (.v (.row 9 .str) e)),wI f,wI g]++us 56,[(0,(.box 46 [vI h,vI i,vI j,(.v .bool k),vI l,vI m,vI n,vI o,vI p,(.v .bool q),.nl,.nl,.nl,.nl,.nl,.nl,.nl,.nl,.nl,.nl,.nl])),(1,(.box 46 (lv46 r)))],1000⟩
def bH.f :Option (Bool×Unit):=RN E 24 ()
def nI.f (a:d25):Option (Bool×Unit):=RN E 10 (a,())
def oG.f (a:d46):Option (Bool×Unit):=RN E 25 (a,())
def iI.f (a:Int×tz2×(List d97)×Int×Unit):Option (Bool×Unit):=RN E 73 (a,())
def fB.f (a:List tz4):Option (Bool×Unit):=RN E 26 (a,())
def fB.l1 (a:List tz4) (b:Int):Option (Bool×Unit):=PL E 26 1 ⟨[(.lf (.v (.row 66 ty8) a)),U,U,wI b]++us 19,[],1000⟩
def fB.l2 (a:List tz4) (b:Int) (c:Bool):Option (Bool×Unit):=PL E 26 2 ⟨[(.lf (.v (.row 66 ty8) a)),U,U,wI b,U,U,U,U,U,U,U,wB c]++us 11,[],1000⟩
def fB.l3 (a:List tz4):Option (Bool×Unit):=PL E 26 3 ⟨[(.lf (.v (.row 66 ty8) a))]++us 22,[],1000⟩
def vD.f (a:Int):Option (Bool×Unit):=RN E 75 (a,())
def cE.f (a:List Int):Option (Bool×Unit):=RN E 178 (a,())
def cE.l1 (a:List Int) (b:Int):Option (Bool×Unit):=PL E 178 1 ⟨[(.lf (.v ty1 a)),U,U,wI b]++us 16,[],1000⟩
def eB.f (a:List Int) (b c:Int) (d:Bool):Option (Bool×Unit):=RN E 139 (a,b,c,d,())
def eB.l1 (a:List Int) (b c:Int) (d:Bool) (e:Int):Option (Bool×Unit):=PL E 139 1 ⟨[(.lf (.v ty1 a)),wI b,wI c,wB d,U,U,U,U,U,wI e]++us 38,[],1000⟩
def eB.l2 (a:List Int) (b c:Int) (d:Bool) (e:Int) (f:Bool):Option (Bool×Unit):=PL E 139 2 ⟨[(.lf (.v ty1 a)),wI b,wI c,wB d,U,U,U,U,U,wI e]++us 30++[wB f]++us 7,[],1000⟩
def cB.f (a:List (Int×Int×Unit)):Option (Bool×Unit):=RN E 140 (a,())
def cB.l1 (a:List (Int×Int×Unit)) (b:Int):Option (Bool×Unit):=PL E 140 1 ⟨[(.lf (.v (.row 30 ty3) a)),U,U,wI b]++us 85,[],1000⟩
def cB.l2 (a:List (Int×Int×Unit)) (b:Int) (c:Bool):Option (Bool×Unit):=PL E 140 2 ⟨[(.lf (.v (.row 30 ty3) a)),U,U,wI b]++us 81++[wB c]++us 3,[],1000⟩
def cD.f (a:List (Int×Int×Unit)):Option (Bool×Unit):=RN E 141 (a,())
def cD.l1 (a:List (Int×Int×Unit)) (b:Int):Option (Bool×Unit):=PL E 141 1 ⟨[(.lf (.v (.row 30 ty3) a)),U,U,wI b]++us 12,[],1000⟩
def bA.f (a:d25):Option (Bool×Unit):=RN E 74 (a,())
def bA.l1 (a:Bool) (b:d25):Option (Bool×Unit):=PL E 74 1 ⟨[U,wP 0 0]++us 39++[wB a]++us 189,[(0,(.box 25 (lv25 b)))],1000⟩
def bA.l2 (a:Bool) (b:d25):Option (Bool×Unit):=PL E 74 2 ⟨[U,wP 0 0]++us 62++[wB a]++us 166,[(0,(.box 25 (lv25 b)))],1000⟩
def bA.l3 (a:d25):Option (Bool×Unit):=PL E 74 3 ⟨[U,wP 0 0]++us 229,[(0,(.box 25 (lv25 a)))],1000⟩
def bA.l4 (a:Bool) (b:d25):Option (Bool×Unit):=PL E 74 4 ⟨[U,wP 0 0]++us 114++[wB a]++us 114,[(0,(.box 25 (lv25 b)))],1000⟩
def bA.l5 (a:Bool) (b:d25):Option (Bool×Unit):=PL E 74 5 ⟨[U,wP 0 0]++us 150++[wB a]++us 78,[(0,(.box 25 (lv25 b)))],1000⟩
def bA.l6 (a:d25):Option (Bool×Unit):=PL E 74 6 ⟨[U,wP 0 0]++us 229,[(0,(.box 25 (lv25 a)))],1000⟩
def bA.l7 (a:Bool) (b:d25):Option (Bool×Unit):=PL E 74 7 ⟨[U,wP 0 0]++us 169++[wB a]++us 59,[(0,(.box 25 (lv25 b)))],1000⟩
def bA.l8 (a:d25):Option (Bool×Unit):=PL E 74 8 ⟨[U,wP 0 0]++us 229,[(0,(.box 25 (lv25 a)))],1000⟩
def bA.l9 (a:Bool) (b:d25):Option (Bool×Unit):=PL E 74 9 ⟨[U,wP 0 0]++us 208++[wB a]++us 20,[(0,(.box 25 (lv25 b)))],1000⟩
def bA.l10 (a:d25):Option (Bool×Unit):=PL E 74 10 ⟨[U,wP 0 0]++us 229,[(0,(.box 25 (lv25 a)))],1000⟩
def sD.f (a:d25) (b:Int):Option (Bool×Unit):=RN E 67 (a,b,())
def eF.f (a b:Int):Option (Int×Unit):=RN E 199 (a,b,())
def iG.f (a:Int):Option (Int×Int×Unit):=RN E 131 (a,())
def yC.f (a:List Int):Option ((List Int)×Unit):=RN E 38 (a,())
def vE.f (a:Int):Option ((List Int)×Unit):=RN E 259 (a,())
def vE.l1 (a b:Int) (c:List Int):Option ((List Int)×Unit):=PL E 259 1 ⟨[wI a,U,U,(.lf (.o 0)),wI b]++us 10,[(0,(.row 3 ty0 c))],1000⟩
def dF.f (a:List Int) (b:Bool) (c d:Int):Option ((List Int)×Unit):=RN E 196 (a,b,c,d,())
def bF.f (a:d25) (b:Int):Option ((List Int)×(List Int)×(List Int)×Unit):=RN E 128 (a,b,())
def zC.f (a:d25) (b c:Int):Option (Int×Unit):=RN E 64 (a,b,c,())
def zC.l1 (a b:Int) (c:Bool):Option (Int×Unit):=PL E 64 1 ⟨[U,U,wI a,U,U,U,U,U,U,U,wI b]++us 26++[wB c]++us 7,[],1000⟩
def zC.l2 (a b:Int):Option (Int×Unit):=PL E 64 2 ⟨[U,U,wI a,U,U,U,U,U,U,U,wI b]++us 34,[],1000⟩
def aD.f (a:d46) (b:Int):Option (Bool×Unit):=RN E 27 (a,b,())
def aD.l1 (a:Int) (b:Bool) (c:d46):Option (Bool×Unit):=PL E 27 1 ⟨[U,wI a,wP 0 0]++us 21++[wB b]++us 12,[(0,(.box 46 (lv46 c)))],1000⟩
def nH.f (a:d25):Option (d25×Unit):=RN E 12 (a,())
def dG.f (a:d46):Option (d46×Unit):=RN E 28 (a,())
def rI.f (a b:Int):Option (Bool×Unit):=RN E 68 (a,b,())
def nD.f (a:List Int) (b:Int):Option (Bool×Unit):=RN E 37 (a,b,())
def nD.l1 (a:List Int) (b c:Int):Option (Bool×Unit):=PL E 37 1 ⟨[(.lf (.v ty1 a)),wI b,U,U,U,wI c]++us 12,[],1000⟩
def rC.f (a:Int):Option (Int×Unit):=RN E 153 (a,())
def eG.f (a:Int):Option (Bool×Unit):=RN E 263 (a,())
def sA.f (a b:Int):Option (Int×Unit):=RN E 230 (a,b,())
def sA.l1 (a b:Int) (c:Bool):Option (Int×Unit):=PL E 230 1 ⟨[wI a,U,U,U,U,wI b,wB c]++us 16,[],1000⟩
def sA.l2 (a b:Int) (c:Bool):Option (Int×Unit):=PL E 230 2 ⟨[wI a,U,U,U,U,wI b,U,U,U,U,U,U,U,U,wB c]++us 8,[],1000⟩
def wL.f (a:Int):Option (Bool×Unit):=RN E 234 (a,())
def lB.f (a:Int):Option tz7:=RN E 161 (a,())
def lB.l1 (a b:Int):Option tz7:=PL E 161 1 ⟨[wI a,U,U,U,U,U,wI b]++us 37,[],1000⟩
def lB.l2 (a b c:Int):Option tz7:=PL E 161 2 ⟨[U,U,U,U,U,U,wI a,wI b,wI c]++us 35,[],1000⟩
def uG.f (a:Int):Option tz10:=RN E 262 (a,())
def wC.f (a:List Int) (b c:Int):Option (Bool×Unit):=RN E 265 (a,b,c,())
def qE.f (a:Int):Option (Int×Unit):=RN E 267 (a,())
def kK.f (a b:Int):Option (Int×Unit):=RN E 350 (a,b,())
def cH.f (a b:Int):Option (Int×Unit):=RN E 315 (a,b,())
def uC.f (a b:Int):Option tz10:=RN E 268 (a,b,())
def uC.l1 (a b c d:Int) (e:Bool):Option tz10:=PL E 268 1 ⟨[wI a,wI b,U,U,U,U,U,wI c,U,U,wI d]++us 16++[wB e]++us 26,[],1000⟩
def uC.l2 (a b c d:Int):Option tz10:=PL E 268 2 ⟨[wI a,wI b,U,U,U,U,U,wI c,U,U,wI d]++us 43,[],1000⟩
def qD.f (a b:Int):Option (Int×Int×Unit):=RN E 314 (a,b,())
def qD.l1 (a b:Int) (c:Bool):Option (Int×Int×Unit):=PL E 314 1 ⟨[wI a,wI b]++us 17++[wB c]++us 9,[],1000⟩
def xF.f (a:d25) (b:Int):Option (Bool×Unit):=RN E 264 (a,b,())
def jA.f (a:d25) (b:Int):Option (Bool×Unit):=RN E 266 (a,b,())
def jA.l1 (a b c d:Int) (e:Bool) (f:d25):Option (Bool×Unit):=PL E 266 1 ⟨[U,wI a,wP 0 0,U,U,wI b,U,U,U,wI c,wI d]++us 23++[wB e]++us 52,[(0,(.box 25 (lv25 f)))],1000⟩
def jA.l2 (a b c:Int) (d:d25):Option (Bool×Unit):=PL E 266 2 ⟨[U,wI a,wP 0 0,U,U,U,U,U,U,wI b,wI c]++us 76,[(0,(.box 25 (lv25 d)))],1000⟩
def jA.l3 (a b c d:Int) (e:d25):Option (Bool×Unit):=PL E 266 3 ⟨[U,wI a,wP 0 0,U,U,U,U,U,U,U,U,wI b,wI c,wI d]++us 73,[(0,(.box 25 (lv25 e)))],1000⟩
def jA.l4 (a b c d:Int) (e:Bool) (f:d25):Option (Bool×Unit):=PL E 266 4 ⟨[U,wI a,wP 0 0,U,U,U,U,U,U,U,U,wI b,wI c,wI d]++us 72++[wB e],[(0,(.box 25 (lv25 f)))],1000⟩
def cA.f (a:d25) (b c:Int):Option (Bool×Unit):=RN E 200 (a,b,c,())
def cA.l1 (a b c d e f g h i:Int) (j:d25):Option (Bool×Unit):=PL E 200 1 ⟨[U,U,wI a,wP 0 0,U,U,U,wI b,wI c,wI d,U,wI e,U,U,wI f,wI g,U,U,wI h,U,wI i]++us 146,[(0,(.box 25 (lv25 j)))],1000⟩
def cA.l2 (a b c d e f:Int) (g:Bool) (h:d25):Option (Bool×Unit):=PL E 200 2 ⟨[U,U,wI a,wP 0 0,U,U,U,U,wI b,wI c,U,wI d,U,U,wI e,wI f]++us 97++[wB g]++us 53,[(0,(.box 25 (lv25 h)))],1000⟩
def cA.l3 (a b c d e f:Int) (g:d25):Option (Bool×Unit):=PL E 200 3 ⟨[U,U,wI a,wP 0 0,U,U,U,U,wI b,wI c,U,wI d,U,U,wI e,wI f]++us 151,[(0,(.box 25 (lv25 g)))],1000⟩
def cA.l4 (a b c d:Int) (e f:Bool) (g:d25):Option (Bool×Unit):=PL E 200 4 ⟨[U,U,U,wP 0 0,U,U,U,U,wI a,wI b,U,U,U,U,wI c,wI d,U,U,U,U,U,wB e]++us 109++[wB f]++us 35,[(0,(.box 25 (lv25 g)))],1000⟩
def oI.f (a:d25) (b:Int):Option (Int×Unit):=RN E 202 (a,b,())
def cG.f (a b:Int):Option (Int×Unit):=RN E 203 (a,b,())
def oD.f (a:d25) (b:Int):Option (Int×Unit):=RN E 133 (a,b,())
def pF.f (a:d25) (b c:Int):Option (Bool×Unit):=RN E 201 (a,b,c,())
def iA.f (a:d25) (b c d:Int):Option ((List Int)×Unit):=RN E 132 (a,b,c,d,())
def iA.l1 (a b c:Int) (d:Bool) (e:d25) (f:List Int):Option ((List Int)×Unit):=PL E 132 1 ⟨[U,wI a,wI b,wI c,wP 0 0,U,U,U,U,(.lf (.o 1))]++us 24++[wB d]++us 81,[(0,(.box 25 (lv25 e))),(1,(.row 3 ty0 f))],1000⟩
def iA.l2 (a b c:Int) (d:d25) (e:List Int):Option ((List Int)×Unit):=PL E 132 2 ⟨[U,wI a,wI b,wI c,wP 0 0,U,U,U,U,(.lf (.o 1))]++us 106,[(0,(.box 25 (lv25 d))),(1,(.row 3 ty0 e))],1000⟩
def iA.l3 (a b c:Int) (d e f:List Int) (g:Int) (h:d25) (i:List Int):Option ((List Int)×Unit):=PL E 132 3 ⟨[U,wI a,wI b,wI c,wP 0 0,U,U,U,U,(.lf (.o 1)),(.lf (.v ty1 d)),(.lf (.v ty1 e)),(.lf (.v ty1 f)),wI g]++us 102,[(0,(.box 25 (lv25 h))),(1,(.row 3 ty0 i))],1000⟩
def iA.l4 (a b c:Int) (d e f:List Int) (g h:Int) (i:d25) (j:List Int):Option ((List Int)×Unit):=PL E 132 4 ⟨[U,wI a,wI b,wI c,wP 0 0,U,U,U,U,(.lf (.o 1)),(.lf (.v ty1 d)),(.lf (.v ty1 e)),(.lf (.v ty1 f)),wI g,wI h]++us 101,[(0,(.box 25 (lv25 i))),(1,(.row 3 ty0 j))],1000⟩
def iA.l5 (a b c:Int) (d e f:List Int) (g h:Int) (i:Bool) (j:d25) (k:List Int):Option ((List Int)×Unit):=PL E 132 5 ⟨[U,wI a,wI b,wI c,wP 0 0,U,U,U,U,(.lf (.o 1)),(.lf (.v ty1 d)),(.lf (.v ty1 e)),(.lf (.v ty1 f)),wI g,wI h]++us 61++[wB i]++us 39,[(0,(.box 25 (lv25 j))),(1,(.row 3 ty0 k))],1000⟩
def iA.l6 (a b c:Int) (d e f:List Int) (g h:Int) (i:d25) (j:List Int):Option ((List Int)×Unit):=PL E 132 6 ⟨[U,wI a,wI b,wI c,wP 0 0,U,U,U,U,(.lf (.o 1)),(.lf (.v ty1 d)),(.lf (.v ty1 e)),(.lf (.v ty1 f)),wI g,wI h]++us 101,[(0,(.box 25 (lv25 i))),(1,(.row 3 ty0 j))],1000⟩
def iA.l7 (a b c:Int) (d e f:List Int) (g h i:Int) (j:d25) (k:List Int):Option ((List Int)×Unit):=PL E 132 7 ⟨[U,wI a,wI b,wI c,wP 0 0,U,U,U,U,(.lf (.o 1)),(.lf (.v ty1 d)),(.lf (.v ty1 e)),(.lf (.v ty1 f)),wI g,wI h,wI i]++us 100,[(0,(.box 25 (lv25 j))),(1,(.row 3 ty0 k))],1000⟩
def iA.l8 (a b c:Int) (d e f:List Int) (g h i:Int) (j:d25) (k:List Int):Option ((List Int)×Unit):=PL E 132 8 ⟨[U,wI a,wI b,wI c,wP 0 0,U,U,U,U,(.lf (.o 1)),(.lf (.v ty1 d)),(.lf (.v ty1 e)),(.lf (.v ty1 f)),wI g,wI h,wI i]++us 100,[(0,(.box 25 (lv25 j))),(1,(.row 3 ty0 k))],1000⟩
def xA.f (a:d25) (b:Int):Option (Int×Int×Unit):=RN E 204 (a,b,())
def xA.l1 (a b c:Int) (d:d25):Option (Int×Int×Unit):=PL E 204 1 ⟨[U,U,wP 0 0,U,U,U,U,U,wI a,wI b,wI c]++us 51,[(0,(.box 25 (lv25 d)))],1000⟩
def xA.l2 (a b c:Int) (d:Bool) (e:d25):Option (Int×Int×Unit):=PL E 204 2 ⟨[U,U,wP 0 0,U,U,U,U,U,wI a,wI b,wI c]++us 31++[wB d]++us 19,[(0,(.box 25 (lv25 e)))],1000⟩
def xA.l3 (a b c:Int) (d:d25):Option (Int×Int×Unit):=PL E 204 3 ⟨[U,U,wP 0 0,U,U,U,U,U,wI a,wI b,wI c]++us 51,[(0,(.box 25 (lv25 d)))],1000⟩
def xA.l4 (a b c:Int) (d:d25):Option (Int×Int×Unit):=PL E 204 4 ⟨[U,U,wP 0 0,U,U,U,U,U,wI a,wI b,wI c]++us 51,[(0,(.box 25 (lv25 d)))],1000⟩
def xA.l5 (a b c:Int) (d:Bool) (e:d25):Option (Int×Int×Unit):=PL E 204 5 ⟨[U,U,wP 0 0,U,U,U,U,U,wI a,wI b,wI c]++us 46++[wB d]++us 4,[(0,(.box 25 (lv25 e)))],1000⟩
def tB.f (a:d25) (b c d:Int):Option tz5:=RN E 134 (a,b,c,d,())
def tB.l1 (a b c:Int) (d:Bool) (e:d25):Option tz5:=PL E 134 1 ⟨[U,wI a,wI b,wI c,wP 0 0]++us 27++[wB d]++us 44,[(0,(.box 25 (lv25 e)))],1000⟩
def tB.l2 (a b c d e:Int) (f:d25) (g:List Int):Option tz5:=PL E 134 2 ⟨[U,wI a,wI b,wI c,wP 0 0,U,U,U,U,U,(.lf (.o 1)),U,wI d,wI e]++us 63,[(0,(.box 25 (lv25 f))),(1,(.row 3 ty0 g))],1000⟩
def tB.l3 (a b c d e:Int) (f:List Int) (g:Int) (h:d25) (i:List Int):Option tz5:=PL E 134 3 ⟨[U,wI a,wI b,wI c,wP 0 0,U,U,U,U,U,(.lf (.o 1)),U,wI d,wI e,(.lf (.v ty1 f)),wI g]++us 61,[(0,(.box 25 (lv25 h))),(1,(.row 3 ty0 i))],1000⟩
def jD.f (a:d25) (b:List Int) (c:Int):Option (Bool×Unit):=RN E 135 (a,b,c,())
def jD.l1 (a:List Int) (b c:Int) (d:d25):Option (Bool×Unit):=PL E 135 1 ⟨[U,(.lf (.v ty1 a)),wI b,wP 0 0,U,U,U,wI c]++us 26,[(0,(.box 25 (lv25 d)))],1000⟩
def aA.f (a:d25) (b c d e:Int):Option ((List Int)×Unit):=RN E 69 (a,b,c,d,e,())
def aA.l1 (a b c d e f g:Int) (h:d25) (i:List Int):Option ((List Int)×Unit):=PL E 69 1 ⟨[U,wI a,wI b,wI c,wI d,wP 0 0,U,U,U,U,U,(.lf (.o 1)),(.lf .nl),wI e,wI f,U,U,wI g]++us 100,[(0,(.box 25 (lv25 h))),(1,(.row 3 ty0 i))],1000⟩
def aA.l2 (a b c d e f g:Int) (h:List Int) (i:Int) (j:d25) (k:List Int):Option ((List Int)×Unit):=PL E 69 2 ⟨[U,wI a,wI b,wI c,wI d,wP 0 0,U,U,U,U,U,(.lf (.o 1)),(.lf .nl),wI e,wI f,U,U,wI g,(.lf (.v ty1 h)),wI i]++us 98,[(0,(.box 25 (lv25 j))),(1,(.row 3 ty0 k))],1000⟩
def aA.l3 (a b c d e f g:Int) (h:List Int) (i j:Int) (k:Bool) (l:d25) (m:List Int):Option ((List Int)×Unit):=PL E 69 3 ⟨[U,wI a,wI b,wI c,wI d,wP 0 0,U,U,U,U,U,(.lf (.o 1)),(.lf .nl),wI e,wI f,U,U,wI g,(.lf (.v ty1 h)),wI i,wI j]++us 44++[wB k]++us 52,[(0,(.box 25 (lv25 l))),(1,(.row 3 ty0 m))],1000⟩
def aA.l4 (a b c d e f g:Int) (h:List Int) (i j:Int) (k:d25) (l:List Int):Option ((List Int)×Unit):=PL E 69 4 ⟨[U,wI a,wI b,wI c,wI d,wP 0 0,U,U,U,U,U,(.lf (.o 1)),(.lf .nl),wI e,wI f,U,U,wI g,(.lf (.v ty1 h)),wI i,wI j]++us 97,[(0,(.box 25 (lv25 k))),(1,(.row 3 ty0 l))],1000⟩
def aA.l5 (a b c d e f g:Int) (h:List Int) (i j k:Int) (l:Bool) (m:d25) (n:List Int):Option ((List Int)×Unit):=PL E 69 5 ⟨[U,wI a,wI b,wI c,wI d,wP 0 0,U,U,U,U,U,(.lf (.o 1)),(.lf .nl),wI e,wI f,U,U,wI g,(.lf (.v ty1 h)),wI i,wI j,wI k]++us 57++[wB l]++us 38,[(0,(.box 25 (lv25 m))),(1,(.row 3 ty0 n))],1000⟩
def aA.l7 (a b c d e f g:Int) (h:List Int) (i j:Int) (k:d25) (l:List Int):Option ((List Int)×Unit):=PL E 69 7 ⟨[U,wI a,wI b,wI c,wI d,wP 0 0,U,U,U,U,U,(.lf (.o 1)),(.lf .nl),wI e,wI f,U,U,wI g,(.lf (.v ty1 h)),wI i,wI j]++us 97,[(0,(.box 25 (lv25 k))),(1,(.row 3 ty0 l))],1000⟩
def aA.l6 (a b c d:Int) (e:List Int) (f g h:Int) (i:List Int) (j k:Int) (l:d25) (m:List Int):Option ((List Int)×Unit):=PL E 69 6 ⟨[U,wI a,wI b,wI c,wI d,wP 0 0,U,U,U,U,U,(.lf (.o 1)),(.lf (.v ty1 e)),wI f,wI g,U,U,wI h,(.lf (.v ty1 i)),wI j,wI k]++us 97,[(0,(.box 25 (lv25 l))),(1,(.row 3 ty0 m))],1000⟩
def aA.l6a (a b c d e f g:Int) (h:List Int) (i j:Int) (k:d25) (l:List Int):Option ((List Int)×Unit):=PL E 69 6 ⟨[U,wI a,wI b,wI c,wI d,wP 0 0,U,U,U,U,U,(.lf (.o 1)),(.lf .nl),wI e,wI f,U,U,wI g,(.lf (.v ty1 h)),wI i,wI j]++us 97,[(0,(.box 25 (lv25 k))),(1,(.row 3 ty0 l))],1000⟩
def aA.l8 (a b c d e f g:Int) (h:List Int) (i j:Int) (k:Bool) (l:d25) (m:List Int):Option ((List Int)×Unit):=PL E 69 8 ⟨[U,wI a,wI b,wI c,wI d,wP 0 0,U,U,U,U,U,(.lf (.o 1)),(.lf .nl),wI e,wI f,U,U,wI g,(.lf (.v ty1 h)),wI i,wI j]++us 80++[wB k]++us 16,[(0,(.box 25 (lv25 l))),(1,(.row 3 ty0 m))],1000⟩
def aA.l2a (a b c d:Int) (e:List Int) (f g h:Int) (i:List Int) (j:Int) (k:d25) (l:List Int):Option ((List Int)×Unit):=PL E 69 2 ⟨[U,wI a,wI b,wI c,wI d,wP 0 0,U,U,U,U,U,(.lf (.o 1)),(.lf (.v ty1 e)),wI f,wI g,U,U,wI h,(.lf (.v ty1 i)),wI j]++us 98,[(0,(.box 25 (lv25 k))),(1,(.row 3 ty0 l))],1000⟩
def aA.l7a (a b c d:Int) (e:List Int) (f g h:Int) (i:List Int) (j k:Int) (l:d25) (m:List Int):Option ((List Int)×Unit):=PL E 69 7 ⟨[U,wI a,wI b,wI c,wI d,wP 0 0,U,U,U,U,U,(.lf (.o 1)),(.lf (.v ty1 e)),wI f,wI g,U,U,wI h,(.lf (.v ty1 i)),wI j,wI k]++us 97,[(0,(.box 25 (lv25 l))),(1,(.row 3 ty0 m))],1000⟩
def aA.l9 (a b c d e f g:Int) (h:List Int) (i j:Int) (k:d25) (l:List Int):Option ((List Int)×Unit):=PL E 69 9 ⟨[U,wI a,wI b,wI c,wI d,wP 0 0,U,U,U,U,U,(.lf (.o 1)),(.lf .nl),wI e,wI f,U,U,wI g,(.lf (.v ty1 h)),wI i,wI j]++us 97,[(0,(.box 25 (lv25 k))),(1,(.row 3 ty0 l))],1000⟩
def aA.l3a (a b c d:Int) (e:List Int) (f g h:Int) (i:List Int) (j k:Int) (l:Bool) (m:d25) (n:List Int):Option ((List Int)×Unit):=PL E 69 3 ⟨[U,wI a,wI b,wI c,wI d,wP 0 0,U,U,U,U,U,(.lf (.o 1)),(.lf (.v ty1 e)),wI f,wI g,U,U,wI h,(.lf (.v ty1 i)),wI j,wI k]++us 44++[wB l]++us 52,[(0,(.box 25 (lv25 m))),(1,(.row 3 ty0 n))],1000⟩
def aA.l1a (a b c d:Int) (e:List Int) (f g h:Int) (i:d25) (j:List Int):Option ((List Int)×Unit):=PL E 69 1 ⟨[U,wI a,wI b,wI c,wI d,wP 0 0,U,U,U,U,U,(.lf (.o 1)),(.lf (.v ty1 e)),wI f,wI g,U,U,wI h]++us 100,[(0,(.box 25 (lv25 i))),(1,(.row 3 ty0 j))],1000⟩
def aA.l8a (a b c d:Int) (e:List Int) (f g h:Int) (i:List Int) (j k:Int) (l:Bool) (m:d25) (n:List Int):Option ((List Int)×Unit):=PL E 69 8 ⟨[U,wI a,wI b,wI c,wI d,wP 0 0,U,U,U,U,U,(.lf (.o 1)),(.lf (.v ty1 e)),wI f,wI g,U,U,wI h,(.lf (.v ty1 i)),wI j,wI k]++us 80++[wB l]++us 16,[(0,(.box 25 (lv25 m))),(1,(.row 3 ty0 n))],1000⟩
def aA.l10 (a b c d e f g:Int) (h:List Int) (i:Int) (j:d25) (k:List Int):Option ((List Int)×Unit):=PL E 69 10 ⟨[U,wI a,wI b,wI c,wI d,wP 0 0,U,U,U,U,U,(.lf (.o 1)),(.lf .nl),wI e,wI f,U,U,wI g,(.lf (.v ty1 h)),wI i]++us 98,[(0,(.box 25 (lv25 j))),(1,(.row 3 ty0 k))],1000⟩
def aA.l4a (a b c d:Int) (e:List Int) (f g h:Int) (i:List Int) (j k:Int) (l:d25) (m:List Int):Option ((List Int)×Unit):=PL E 69 4 ⟨[U,wI a,wI b,wI c,wI d,wP 0 0,U,U,U,U,U,(.lf (.o 1)),(.lf (.v ty1 e)),wI f,wI g,U,U,wI h,(.lf (.v ty1 i)),wI j,wI k]++us 97,[(0,(.box 25 (lv25 l))),(1,(.row 3 ty0 m))],1000⟩
def aA.l9a (a b c d:Int) (e:List Int) (f g h:Int) (i:List Int) (j k:Int) (l:d25) (m:List Int):Option ((List Int)×Unit):=PL E 69 9 ⟨[U,wI a,wI b,wI c,wI d,wP 0 0,U,U,U,U,U,(.lf (.o 1)),(.lf (.v ty1 e)),wI f,wI g,U,U,wI h,(.lf (.v ty1 i)),wI j,wI k]++us 97,[(0,(.box 25 (lv25 l))),(1,(.row 3 ty0 m))],1000⟩
def aA.l5a (a b c d:Int) (e:List Int) (f g h:Int) (i:List Int) (j k l:Int) (m:Bool) (n:d25) (p:List Int):Option ((List Int)×Unit):=PL E 69 5 ⟨[U,wI a,wI b,wI c,wI d,wP 0 0,U,U,U,U,U,(.lf (.o 1)),(.lf (.v ty1 e)),wI f,wI g,U,U,wI h,(.lf (.v ty1 i)),wI j,wI k,wI l]++us 57++[wB m]++us 38,[(0,(.box 25 (lv25 n))),(1,(.row 3 ty0 p))],1000⟩
def aA.l10a (a b c d:Int) (e:List Int) (f g h:Int) (i:List Int) (j:Int) (k:d25) (l:List Int):Option ((List Int)×Unit):=PL E 69 10 ⟨[U,wI a,wI b,wI c,wI d,wP 0 0,U,U,U,U,U,(.lf (.o 1)),(.lf (.v ty1 e)),wI f,wI g,U,U,wI h,(.lf (.v ty1 i)),wI j]++us 98,[(0,(.box 25 (lv25 k))),(1,(.row 3 ty0 l))],1000⟩
def sC.f (a:d25) (b c d:Int):Option tz5:=RN E 18 (a,b,c,d,())
def sC.l1 (a b c:Int) (d:Bool) (e:d25):Option tz5:=PL E 18 1 ⟨[U,wI a,wI b,wI c,wP 0 0]++us 22++[wB d]++us 12,[(0,(.box 25 (lv25 e)))],1000⟩
def iC.f (a b:List (Int×Int×Unit)):Option (Bool×Unit):=RN E 72 (a,b,())
def iC.l1 (a b:List (Int×Int×Unit)) (c:Int):Option (Bool×Unit):=PL E 72 1 ⟨[(.lf (.v (.row 30 ty3) a)),(.lf (.v (.row 30 ty3) b)),U,U,U,wI c]++us 35,[],1000⟩
def iC.l2 (a b:List (Int×Int×Unit)) (c:Int) (d:Bool):Option (Bool×Unit):=PL E 72 2 ⟨[(.lf (.v (.row 30 ty3) a)),(.lf (.v (.row 30 ty3) b)),U,U,U,wI c]++us 34++[wB d],[],1000⟩
def wG.f (a b:d25):Option (Bool×Unit):=RN E 23 (a,b,())
def xH.f (a b c:Int):Option (Bool×Unit):=RN E 229 (a,b,c,())
def xD.f (a b c:Int):Option (Int×Int×Unit):=RN E 151 (a,b,c,())
def xD.l1 (a b c d:Int):Option (Int×Int×Unit):=PL E 151 1 ⟨[wI a,wI b,U,U,U,U,U,U,wI c,wI d]++us 21,[],1000⟩
def dD.f (a b c d e g:Int):Option (Int×Int×Unit):=RN E 88 (a,b,c,d,e,g,())
def dD.l1 (a b c d:Int) (e:Bool):Option (Int×Int×Unit):=PL E 88 1 ⟨[U,U,U,wI a,wI b,wI c,U,U,U,U,U,U,U,U,wI d]++us 33++[wB e]++us 10,[],1000⟩
def cI.f (a:Int):Option (Bool×Unit):=RN E 113 (a,())
def wD.f (a:List Int):Option (Bool×Unit):=RN E 114 (a,())
def wD.l1 (a:List Int) (b:Int):Option (Bool×Unit):=PL E 114 1 ⟨[(.lf (.v ty1 a)),U,U,wI b]++us 19,[],1000⟩
def bC.f (a:d46):Option (Bool×Unit):=RN E 47 (a,())
def bC.l1 (a:Bool) (b:d46):Option (Bool×Unit):=PL E 47 1 ⟨[U,wP 0 0]++us 36++[wB a]++us 9,[(0,(.box 46 (lv46 b)))],1000⟩
def oA.f (a b:List Int):Option ((List Int)×Unit):=RN E 82 (a,b,())
def oA.l1 (a b:List Int) (c d:Int) (e:List Int):Option ((List Int)×Unit):=PL E 82 1 ⟨[(.lf (.v ty1 a)),(.lf (.v ty1 b)),U,U,U,(.lf (.o 0)),wI c,wI d]++us 69,[(0,(.row 3 ty0 e))],1000⟩
def oA.l2 (a b:List Int) (c d:Int) (e:Bool) (f:List Int):Option ((List Int)×Unit):=PL E 82 2 ⟨[(.lf (.v ty1 a)),(.lf (.v ty1 b)),U,U,U,(.lf (.o 0)),wI c,wI d,U,U,U,U,U,U,U,U,U,wB e]++us 59,[(0,(.row 3 ty0 f))],1000⟩
def oA.l3 (a b:List Int) (c d:Int) (e:List Int):Option ((List Int)×Unit):=PL E 82 3 ⟨[(.lf (.v ty1 a)),(.lf (.v ty1 b)),U,U,U,(.lf (.o 0)),wI c,wI d]++us 69,[(0,(.row 3 ty0 e))],1000⟩
def oA.l4 (a b:List Int) (c d:Int) (e:Bool) (f:List Int):Option ((List Int)×Unit):=PL E 82 4 ⟨[(.lf (.v ty1 a)),(.lf (.v ty1 b)),U,U,U,(.lf (.o 0)),wI c,wI d]++us 12++[wB e]++us 56,[(0,(.row 3 ty0 f))],1000⟩
def oA.l5 (a b:List Int) (c d:Int) (e:Bool) (f:List Int):Option ((List Int)×Unit):=PL E 82 5 ⟨[(.lf (.v ty1 a)),(.lf (.v ty1 b)),U,U,U,(.lf (.o 0)),wI c,wI d]++us 43++[wB e]++us 25,[(0,(.row 3 ty0 f))],1000⟩
def aB.f (a:d46) (b:Int):Option tz5:=RN E 30 (a,b,())
def aB.l1 (a:Int) (b:List Int) (c:d46):Option tz5:=PL E 30 1 ⟨[U,wI a,wP 0 0,U,U,U,(.lf (.v ty1 b))]++us 62,[(0,(.box 46 (lv46 c)))],1000⟩
def aB.l1a (a:Int) (b:d46) (c:List Int):Option tz5:=PL E 30 1 ⟨[U,wI a,wP 0 0,U,U,U,(.lf (.o 1))]++us 62,[(0,(.box 46 (lv46 b))),(1,(.row 3 ty0 c))],1000⟩
def aB.l2 (a:Int) (b:List Int) (c:Int) (d:d46) (e:List Int):Option tz5:=PL E 30 2 ⟨[U,wI a,wP 0 0,U,U,U,(.lf (.v ty1 b)),U,U,(.lf (.o 1)),wI c]++us 58,[(0,(.box 46 (lv46 d))),(1,(.row 3 ty0 e))],1000⟩
def aB.l3 (a:Int) (b:List Int) (c:Int) (d:Bool) (e:d46) (f:List Int):Option tz5:=PL E 30 3 ⟨[U,wI a,wP 0 0,U,U,U,(.lf (.v ty1 b)),U,U,(.lf (.o 1)),wI c]++us 46++[wB d]++us 11,[(0,(.box 46 (lv46 e))),(1,(.row 3 ty0 f))],1000⟩
def wH.f (a:d97):Option (Bool×Unit):=RN E 152 (a,())
def gA.f (a:Int×tz2×(List d97)×Int×Unit):Option (Bool×Unit):=RN E 89 (a,())
def gA.l1 (b:Bool) (a:Int×tz2×(List d97)×Int×Unit):Option (Bool×Unit):=PL E 89 1 ⟨[U,wP 0 0]++us 18++[wB b]++us 119,[(0,(.box 66 [(.v ty0 a.1),(.v (.row 70 ty3) a.2.1),(.v (.row 160 ty4) a.2.2.1),(.v ty0 a.2.2.2.1)]))],1000⟩
def gA.l2 (b:Int) (a:Int×tz2×(List d97)×Int×Unit):Option (Bool×Unit):=PL E 89 2 ⟨[U,wP 0 0,U,wI b]++us 136,[(0,(.box 66 [(.v ty0 a.1),(.v (.row 70 ty3) a.2.1),(.v (.row 160 ty4) a.2.2.1),(.v ty0 a.2.2.2.1)]))],1000⟩
def gA.l3 (b:Int) (c:Bool) (a:Int×tz2×(List d97)×Int×Unit):Option (Bool×Unit):=PL E 89 3 ⟨[U,wP 0 0,U,wI b]++us 59++[wB c]++us 76,[(0,(.box 66 [(.v ty0 a.1),(.v (.row 70 ty3) a.2.1),(.v (.row 160 ty4) a.2.2.1),(.v ty0 a.2.2.2.1)]))],1000⟩
def gA.l4 (b:Bool) (a:Int×tz2×(List d97)×Int×Unit):Option (Bool×Unit):=PL E 89 4 ⟨[U,wP 0 0]++us 98++[wB b]++us 39,[(0,(.box 66 [(.v ty0 a.1),(.v (.row 70 ty3) a.2.1),(.v (.row 160 ty4) a.2.2.1),(.v ty0 a.2.2.2.1)]))],1000⟩
def yB.f (a b c d:Int):Option (Int×Int×Unit):=RN E 356 (a,b,c,d,())
def yB.l1 (a b c d:Int) (e:Bool):Option (Int×Int×Unit):=PL E 356 1 ⟨[wI a,wI b,wI c,wI d]++us 30++[wB e]++us 30,[],1000⟩
def yB.l2 (a b c d e f g:Int):Option (Int×Int×Unit):=PL E 356 2 ⟨[wI a,wI b,wI c,wI d,U,U,U,U,U,U,wI e,wI f,wI g]++us 52,[],1000⟩
def yB.l3 (a b c d e f g:Int) (h:Bool):Option (Int×Int×Unit):=PL E 356 3 ⟨[wI a,wI b,wI c,wI d,U,U,U,U,U,U,wI e,wI f,wI g]++us 49++[wB h]++us 2,[],1000⟩
def mI.f (a:d97) (b:Int):Option (Int×Unit):=RN E 331 (a,b,())
def zB.f (a:Int×tz2×(List d97)×Int×Unit) (b:Int):Option (tz2×Unit):=RN E 286 (a,b,())
def zB.l1 (b c:Int) (a:Int×tz2×(List d97)×Int×Unit) (d:List (Int×Int×Unit)):Option (tz2×Unit):=PL E 286 1 ⟨[U,U,wP 0 0,U,U,(.lf (.o 1)),U,U,wI b,U,U,U,wI c]++us 59,[(0,(.box 66 [(.v ty0 a.1),(.v (.row 70 ty3) a.2.1),(.v (.row 160 ty4) a.2.2.1),(.v ty0 a.2.2.2.1)])),(1,(.row 70 ty3 d))],1000⟩
def zB.l2 (b c d:Int) (a:Int×tz2×(List d97)×Int×Unit) (e:List (Int×Int×Unit)):Option (tz2×Unit):=PL E 286 2 ⟨[U,U,wP 0 0,U,U,(.lf (.o 1)),U,U,wI b,U,U,U,wI c,wI d]++us 58,[(0,(.box 66 [(.v ty0 a.1),(.v (.row 70 ty3) a.2.1),(.v (.row 160 ty4) a.2.2.1),(.v ty0 a.2.2.2.1)])),(1,(.row 70 ty3 e))],1000⟩
def mC.f (a:Int×tz2×(List d97)×Int×Unit) (b:Int):Option tz6:=RN E 231 (a,b,())
def mC.l1 (c:Int) (d:Bool) (a:Int×tz2×(List d97)×Int×Unit) (b:Int×Int×Unit):Option tz6:=PL E 231 1 ⟨[U,wI c,wP 0 0,U,wP 1 0]++us 10++[wB d]++us 23,[(0,(.box 66 [(.v ty0 a.1),(.v (.row 70 ty3) a.2.1),(.v (.row 160 ty4) a.2.2.1),(.v ty0 a.2.2.2.1)])),(1,(.box 70 [(.v ty0 b.1),(.v ty0 b.2.1)]))],1000⟩
def mC.l2 (b:Int) (c:List (Int×Int×Unit)) (d:Int) (a:Int×Int×Unit):Option tz6:=PL E 231 2 ⟨[U,wI b,U,U,wP 0 0,U,(.lf (.v (.row 70 ty3) c)),wI d]++us 31,[(0,(.box 70 [(.v ty0 a.1),(.v ty0 a.2.1)]))],1000⟩
def nF.f (a:Int×tz2×(List d97)×Int×Unit) (b:Int):Option (Int×Unit):=RN E 154 (a,b,())
def zH.f (a:Int×tz2×(List d97)×Int×Unit) (b:Int):Option (Int×Unit):=RN E 155 (a,b,())
def vC.f (a:Int×tz2×(List d97)×Int×Unit) (b:Int):Option (Int×Unit):=RN E 90 (a,b,())
def vC.l1 (b:Int) (c:Bool) (a:Int×tz2×(List d97)×Int×Unit):Option (Int×Unit):=PL E 90 1 ⟨[U,wI b,wP 0 0]++us 20++[wB c]++us 36,[(0,(.box 66 [(.v ty0 a.1),(.v (.row 70 ty3) a.2.1),(.v (.row 160 ty4) a.2.2.1),(.v ty0 a.2.2.2.1)]))],1000⟩
def vC.l2 (b c d e:Int) (a:Int×tz2×(List d97)×Int×Unit):Option (Int×Unit):=PL E 90 2 ⟨[U,wI b,wP 0 0,U,U,wI c,U,wI d,wI e]++us 51,[(0,(.box 66 [(.v ty0 a.1),(.v (.row 70 ty3) a.2.1),(.v (.row 160 ty4) a.2.2.1),(.v ty0 a.2.2.2.1)]))],1000⟩
def pA.f (a:List (Int×Int×Unit)):Option (tz2×Unit):=RN E 91 (a,())
def pA.l1 (a:List (Int×Int×Unit)) (b:Int) (c:List (Int×Int×Unit)):Option (tz2×Unit):=PL E 91 1 ⟨[(.lf (.v (.row 68 ty3) a)),U,U,(.lf (.o 0)),wI b]++us 103,[(0,(.row 68 ty3 c))],1000⟩
def pA.l2 (a:List (Int×Int×Unit)) (b c:Int) (d:List (Int×Int×Unit)):Option (tz2×Unit):=PL E 91 2 ⟨[(.lf (.v (.row 68 ty3) a)),U,U,(.lf (.o 0)),wI b,wI c]++us 102,[(0,(.row 68 ty3 d))],1000⟩
def pA.l5 (a:Int) (b c:List (Int×Int×Unit)):Option (tz2×Unit):=PL E 91 5 ⟨[U,U,U,(.lf (.o 0)),U,U,(.lf (.o 1)),wI a]++us 100,[(0,(.row 68 ty3 b)),(1,(.row 68 ty3 c))],1000⟩
def pA.l3 (a:List (Int×Int×Unit)) (b c:Int) (d:Bool) (e:List (Int×Int×Unit)):Option (tz2×Unit):=PL E 91 3 ⟨[(.lf (.v (.row 68 ty3) a)),U,U,(.lf (.o 0)),wI b,wI c]++us 37++[wB d]++us 64,[(0,(.row 68 ty3 e))],1000⟩
def pA.l6 (a b:Int) (c:Bool) (d e:List (Int×Int×Unit)):Option (tz2×Unit):=PL E 91 6 ⟨[U,U,U,(.lf (.o 0)),U,U,(.lf (.o 1)),wI a,wI b]++us 73++[wB c]++us 25,[(0,(.row 68 ty3 d)),(1,(.row 68 ty3 e))],1000⟩
def pA.l4 (a:List (Int×Int×Unit)) (b c:Int) (d:List (Int×Int×Unit)):Option (tz2×Unit):=PL E 91 4 ⟨[(.lf (.v (.row 68 ty3) a)),U,U,(.lf (.o 0)),wI b,wI c]++us 102,[(0,(.row 68 ty3 d))],1000⟩
def xB.f (a:d46) (b:List tz4) (c:Int):Option (tz2×Int×Unit):=RN E 32 (a,b,c,())
def xB.l1 (a:List tz4) (b:Int) (c:Bool) (d:d46):Option (tz2×Int×Unit):=PL E 32 1 ⟨[U,(.lf (.v (.row 66 ty8) a)),wI b,wP 0 0]++us 49++[wB c]++us 41,[(0,(.box 46 (lv46 d)))],1000⟩
def xB.l2 (a:List tz4) (b:Int) (c:List Int) (d e:Int) (f:d46) (g:List (Int×Int×Unit)):Option (tz2×Int×Unit):=PL E 32 2 ⟨[U,(.lf (.v (.row 66 ty8) a)),wI b,wP 0 0,U,U,U,U,U,U,U,U,(.lf (.v ty1 c)),wI d,(.lf (.o 1)),wI e]++us 79,[(0,(.box 46 (lv46 f))),(1,(.row 68 ty3 g))],1000⟩
def lI.f (a b:d46):Option (Bool×Unit):=RN E 34 (a,b,())
def gC.f (a:d46) (b:List tz4) (c d:Int):Option (Bool×Unit):=RN E 5 (a,b,c,d,())
def gC.l1 (a:List tz4) (b c:Int) (d:Bool) (e:d46):Option (Bool×Unit):=PL E 5 1 ⟨[U,(.lf (.v (.row 66 ty8) a)),wI b,wI c,wP 0 0]++us 34++[wB d]++us 55,[(0,(.box 46 (lv46 e)))],1000⟩
end
end Go.GV.YtegmfagkklekaaaGreatDoor

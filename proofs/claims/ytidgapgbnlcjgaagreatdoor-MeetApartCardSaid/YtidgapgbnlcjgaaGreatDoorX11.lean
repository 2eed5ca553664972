/-
Part of the words that the laws of this seat are proved with: no statement of its own, no conditions.
-/
import Derived.Test.YtidgapgbnlcjgaaGreatDoorX10
import Derived.Test.YtidgapgbnlcjgaaGreatDoorProg
import Derived.KernelRfl
import Derived.Laws.Externs
import Derived.Shelf.RegionOpenPlain
import Derived.Deep.LoopGhost
import Derived.Lib.Walk
import Derived.Lib.SliceRun
set_option linter.unusedVariables false
set_option linter.unusedSimpArgs false
namespace Go.GV.YtidgapgbnlcjgaaGreatDoor
open Go.Proofs
abbrev ty0 :Ty:=.int .i64
abbrev ty1 :Ty:=.row 3 ty0
abbrev ty2 :Ty:=.st (.cons ty0 (.cons ty0 (.cons ty0 (.cons ty0 (.cons ty0 (.cons .bool (.cons ty1 (.cons ty1 (.cons ty1 (.cons ty1 (.cons (.row 138 (.st (.cons ty0 (.cons ty0 .nil)))) (.cons ty1 (.cons ty1 (.cons ty1 (.cons ty1 .nil)))))))))))))))
abbrev ty3 :Ty:=.st (.cons ty0 (.cons ty0 .nil))
abbrev ty4 :Ty:=.st (.cons ty0 (.cons ty0 (.cons ty0 (.cons .bool (.cons ty2 (.cons ty1 (.cons ty1 .nil)))))))
abbrev ty5 :Ty:=.st (.cons ty0 (.cons ty0 (.cons ty0 (.cons ty0 (.cons ty0 .nil)))))
abbrev ty6 :Ty:=.st (.cons ty2 (.cons ty0 (.cons ty5 (.cons ty0 .nil))))
abbrev ty7 :Ty:=.st (.cons ty2 (.cons ty6 (.cons ty0 (.cons ty1 (.cons ty1 (.cons ty1 .nil))))))
abbrev ty8 :Ty:=.st (.cons ty0 (.cons (.row 56 ty3) (.cons (.row 135 ty5) (.cons ty0 .nil))))
abbrev ty9 :Ty:=.st (.cons ty0 (.cons ty0 (.cons .bool (.cons (.int .u8) .nil))))
abbrev ty10 :Ty:=.st (.cons .str (.cons (.int .u64) .nil))
noncomputable section
abbrev U :Slot:=.lf .u
abbrev us (n:Nat):List Slot:=List.replicate n U
abbrev d114 :Type:=Int×Int×Int×Int×Int×Unit
abbrev d25 :Type:=Int×Int×Int×Int×Int×Bool×(List Int)×(List Int)×(List Int)×(List Int)×(List (Int×Int×Unit))×(List Int)×(List Int)×(List Int)×(List Int)×Unit
abbrev d27 :Type:=Int×Int×Int×Bool×d25×(List Int)×(List Int)×Unit
abbrev d118 :Type:=d25×(d25×Int×d114×Int×Unit)×Int×(List Int)×(List Int)×(List Int)×Unit
abbrev tz0 :Type:=Int×Int×Int×Bool×Int×Int×Int×Int×Int×Bool×(List Int)×(List Int)×(List Int)×(List Int)×(List (Int×Int×Unit))×(List Int)×(List Int)×(List Int)×(List Int)×(List Int)×(List Int)×Unit
abbrev tz1 :Type:=(Int×Unit)×(Int×Unit)×((((List Int)×Unit)×(Int×Unit)×Unit)×Unit)×Unit
abbrev tz2 :Type:=List (Int×Int×Unit)
abbrev tz3 :Type:=Int×tz2×(List d114)×Int×Unit
abbrev tz4 :Type:=(((List Int)×Unit)×(Int×Unit)×Unit)×Unit
abbrev tz5 :Type:=d27×Int×Int×Unit
abbrev tz7 :Type:=(List Int)×(tz0×(Int×Unit)×Unit)×Unit
abbrev tz8 :Type:=(List Int)×Unit×Unit
abbrev tz9 :Type:=Int×Int×Int×Int×Unit
abbrev tz10 :Type:=(Int×Int×Unit)×Bool×Unit
abbrev tz11 :Type:=(List Int)×Bool×Unit
abbrev tz12 :Type:=Bool×(Int×Unit)×(Int×Unit)×tz4×Unit
abbrev tz13 :Type:=d25×Int×Int×Unit
def c198 :FnD:=fD 198 (.cons sI (.cons sI (.cons sI .nil))) (.cons sI .nil) 36 [.tmp 6] Tryz.f198 .no
def c243 :FnD:=fD 243 (.cons sI .nil) (.cons sB .nil) 16 [.tmp 2] Tryz.f243 .no
def c199 :FnD:=fD 199 (.cons sI (.cons sI .nil)) (.cons sI .nil) 23 [.tmp 4] Tryz.f199 (nx (.two (nx (.two (nx (.at_ 1 (aa [0,5,6]) (nx (nx (nx (nx (.at_ 2 [(15,.as)] .no))))))) .no)) .no))
def c244 :FnD:=fD 244 (.cons sI .nil) (.cons sB .nil) 9 [.tmp 2] Tryz.f244 .no
def c220 :FnD:=fD 220 (.cons sI (.cons sI (.cons sI .nil))) (.cons sB .nil) 20 [.tmp 6] Tryz.f220 .no
def c163 :FnD:=fD 163 (.cons sI (.cons sI (.cons sI .nil))) (.cons sI (.cons sI .nil)) 17 [.tmp 6,.tmp 7] Tryz.f163 .no
def c98 :FnD:=fD 98 (.cons sI (.cons sI (.cons sI (.cons sI (.cons sI (.cons sI .nil)))))) (.cons sI (.cons sI .nil)) 59 [.tmp 12,.tmp 13] Tryz.f98 (nx (nx (.two (nx (.at_ 1 (aa [3,4,5,14,48]) .no)) .no)))
def c57 :FnD:=fD 57 (.cons sI .nil) (.cons sI .nil) 11 [.tmp 2] Tryz.f57 .no
def c68 :FnD:=fD 68 (.cons sI .nil) (.cons sB .nil) 11 [.tmp 2] Tryz.f68 .no
def c69 :FnD:=fD 69 (.cons (.val ty1) .nil) (.cons sB .nil) 32 [.tmp 2] Tryz.f69 (nx (.two (nx (.two (.at_ 1 (aa [0,5,6,7]) (nx (nx (.two (.two (nx (nx (.at_ 2 (aa [0,5,6,7,27]) .no))) .no) .no)))) .no)) .no))
def c127 :FnD:=fD 127 (.cons sI .nil) (.cons sB .nil) 9 [.tmp 2] Tryz.f127 .no
def c124 :FnD:=fD 124 (.cons (.val ty2) .nil) (.cons sB .nil) 54 [.tmp 2] Tryz.f124 (nx (.two (nx (.at_ 1 [(1,.as),(40,.as)] .no)) .no))
def c195 :FnD:=fD 195 (.cons (.val ty1) (.cons sI (.cons sI (.cons sB .nil)))) (.cons sB .nil) 51 [.tmp 8] Tryz.f195 (nx (.two (nx (.two (.at_ 1 (aa [0,1,2,3,11,12,13]) (nx (nx (.two (.two (nx (nx (.at_ 2 (aa [0,1,2,3,11,12,13,46]) .no))) .no) .no)))) .no)) .no))
def c242 :FnD:=fD 242 (.cons (.val ty3) (.cons (.val ty3) .nil)) (.cons sI .nil) 20 [.tmp 4] Tryz.f242 .no
def c196 :FnD:=fD 196 (.cons (.val ty2) .nil) (.cons sB .nil) 72 [.tmp 2] Tryz.f196 (nx (.two (nx (.two (.at_ 1 (aa [1,6,7,8]) (nx (nx (.two (.two (nx (.two (nx (.at_ 2 (aa [1,4,6,7,8,13]) (nx (nx (.at_ 3 (aa [1,6,7,8,47]) .no))))) .no)) .no) .no)))) .no)) .no))
def c125 :FnD:=fD 125 (.cons (.val ty2) .nil) (.cons sB .nil) 45 [.tmp 2] Tryz.f125 .no
def c70 :FnD:=fD 70 (.cons (.val ty2) .nil) (.cons sB .nil) 106 [.tmp 2] Tryz.f70 (nx (.two (nx (.at_ 1 [(1,.as),(11,.as)] .no)) (.two (.two (nx (.at_ 2 [(1,.as),(12,.as)] (nx (nx (.at_ 3 [(1,.as),(22,.as)] (nx (nx (.at_ 4 [(1,.as),(37,.as)] .no)))))))) .no) (.at_ 5 [(1,.as)] (nx (.two (nx (.at_ 6 [(1,.as),(85,.as)] .no)) (.at_ 7 [(1,.as)] .no)))))))
def c96 :FnD:=fD 96 (.cons (.val ty1) (.cons (.val ty1) .nil)) (.cons sB .nil) 26 [.tmp 4] Tryz.f96 (nx (nx (.two (nx (.two (.at_ 1 (aa [0,1,12,13]) .no) .no)) .no)))
def c126 :FnD:=fD 126 (.cons (.val (.row 138 ty3)) (.cons (.val (.row 138 ty3)) .nil)) (.cons sB .nil) 26 [.tmp 4] Tryz.f126 (nx (nx (.two (nx (.two (.at_ 1 (aa [0,1,12,13]) .no) .no)) .no)))
def c71 :FnD:=fD 71 (.cons (.val ty2) (.cons (.val ty2) .nil)) (.cons sB .nil) 106 [.tmp 4] Tryz.f71 (nx (.two (nx (.at_ 1 (aa [2,3,44]) .no)) .no))
def b27 :Code:=Tryz.f27.body.getD .skip
def c27 :FnD:=fD 27 (.cons (.val ty4) .nil) (.cons sB .nil) 48 [.tmp 2] Tryz.f27 (nx (.two (nx (.at_ 1 [(1,.as),(38,.as)] .no)) .no))
def b128 :Code:=Tryz.f128.body.getD .skip
def c128 :FnD:=fD 128 (.cons sI .nil) (.cons sI (.cons sI .nil)) 18 [.tmp 2,.tmp 3] Tryz.f128 .no
def c197 :FnD:=fD 197 (.cons sI .nil) (.cons sB .nil) 9 [.tmp 2] Tryz.f197 .no
def c129 :FnD:=fD 129 (.cons sI .nil) (.cons sI (.cons sI (.cons sI (.cons sI .nil)))) 56 [.tmp 2,.tmp 3,.tmp 4,.tmp 5] Tryz.f129 (nx (nx (nx (nx (.two (.two (.at_ 1 [(0,.as),(7,.as)] (.two (nx (.at_ 2 (aa [0,7,27]) .no)) .no)) .no) (.at_ 3 [(0,.as),(7,.as)] (.two (.two (.at_ 4 [(0,.as),(7,.as)] .no) .no) (nx (nx (.two (.two (.at_ 5 (aa [7,8,9]) .no) .no) .no))))))))))
def c247 :FnD:=fD 247 (.cons sI .nil) (.cons sI .nil) 8 [.tmp 2] Tryz.f247 .no
def c272 :FnD:=fD 272 (.cons sI .nil) (.cons (.val ty5) (.cons sB .nil)) 24 [.cell 2 114,.tmp 3] Tryz.f272 .no
def c222 :FnD:=fD 222 (.cons (.val ty2) (.cons sI .nil)) (.cons (.val ty6) (.cons sB .nil)) 34 [.cell 4 116,.tmp 5] Tryz.f222 (nx (.two (nx (.at_ 1 (aa [1,2,4,17]) .no)) .no))
def c48 :FnD:=lS 48 3 ty0
def c273 :FnD:=fD 273 (.cons (.val ty1) (.cons sB (.cons sI (.cons sI .nil)))) (.cons (.val ty1) .nil) 29 [.tmp 8] Tryz.f273 (nx (nx (nx (nx (.two (nx (.two (.at_ 1 [(9,.own 3 ty0),(19,.as),(20,.as)] .no) .no)) .no)))))
def c223 :FnD:=fD 223 (.cons (.val ty6) .nil) (.cons (.val ty1) (.cons (.val ty1) (.cons (.val ty1) .nil))) 36 [.tmp 2,.tmp 3,.tmp 4] Tryz.f223 .no
def c165 :FnD:=fD 165 (.cons (.val ty2) (.cons sI .nil)) (.cons (.val ty7) (.cons sB .nil)) 33 [.cell 4 118,.tmp 5] Tryz.f165 .no
def b103 :Code:=Tryz.f103.body.getD .skip
def c103 :FnD:=fD 103 (.cons (.val ty2) (.cons sI (.cons sI .nil))) (.cons (.val ty7) (.cons sB .nil)) 36 [.cell 6 118,.tmp 7] Tryz.f103 (nx (nx (.two (nx (.at_ 1 (aa [6,8,33]) .no)) .no)))
def c310 :FnD:=fD 310 (.cons sI (.cons sI .nil)) (.cons sI (.cons sI .nil)) 10 [.tmp 4,.tmp 5] Tryz.f310 .no
def c329 :FnD:=fD 329 (.cons sI .nil) (.cons sI .nil) 5 [.tmp 2] Tryz.f329 .no
def c246 :FnD:=fD 246 (.cons sI .nil) (.cons sB .nil) 9 [.tmp 2] Tryz.f246 .no
def c361 :FnD:=fD 361 (.cons sI (.cons sI .nil)) (.cons sI .nil) 24 [.tmp 4] Tryz.f361 .no
def c353 :FnD:=fD 353 (.cons sI (.cons sI .nil)) (.cons sI (.cons sI (.cons sI .nil))) 50 [.tmp 4,.tmp 5,.tmp 6] Tryz.f353 (nx (nx (.two (nx (.at_ 1 (aa [0,1,7,24]) .no)) (nx (.at_ 2 (aa [0,1,7]) .no)))))
def c330 :FnD:=fD 330 (.cons (.val ty2) (.cons (.val ty5) .nil)) (.cons sI .nil) 24 [.tmp 4] Tryz.f330 .no
def c331 :FnD:=fD 331 (.cons sI (.cons sI .nil)) (.cons sI .nil) 35 [.tmp 4] Tryz.f331 (nx (nx (nx (nx (.at_ 1 [(1,.as),(5,.as)] .no)))))
def c309 :FnD:=fD 309 (.cons (.val ty2) (.cons (.val ty5) .nil)) (.cons sI (.cons sI .nil)) 42 [.tmp 4,.tmp 5] Tryz.f309 .no
def b274 :Code:=Tryz.f274.body.getD .skip
def c274 :FnD:=fD 274 (.cons (.val ty6) (.cons sI .nil)) (.cons sI (.cons sI .nil)) 70 [.tmp 4,.tmp 5] Tryz.f274 .no
def c354 :FnD:=fD 354 (.cons sI (.cons sI .nil)) (.cons sI .nil) 14 [.tmp 4] Tryz.f354 .no
def c355 :FnD:=fD 355 (.cons sI (.cons sI .nil)) (.cons sI .nil) 18 [.tmp 4] Tryz.f355 .no
def c332 :FnD:=fD 332 (.cons (.val ty2) (.cons sI .nil)) (.cons sI .nil) 53 [.tmp 4] Tryz.f332 .no
def c311 :FnD:=fD 311 (.cons (.val ty6) (.cons sI .nil)) (.cons sI .nil) 15 [.tmp 4] Tryz.f311 .no
def b275 :Code:=Tryz.f275.body.getD .skip
def c275 :FnD:=fD 275 (.cons (.val ty7) (.cons sI .nil)) (.cons sB .nil) 14 [.tmp 4] Tryz.f275 .no
def c356 :FnD:=fD 356 (.cons (.val ty1) (.cons sI .nil)) (.cons sI .nil) 19 [.tmp 4] Tryz.f356 (nx (.two (nx (.two (.at_ 1 (aa [0,1,7,8]) .no) .no)) .no))
def c335 :FnD:=fD 335 (.cons (.val ty1) (.cons sI .nil)) (.cons sB .nil) 9 [.tmp 4] Tryz.f335 .no
def c336 :FnD:=fD 336 (.cons sI .nil) (.cons sI (.cons sI (.cons sI .nil))) 25 [.tmp 2,.tmp 3,.tmp 4] Tryz.f336 .no
def c337 :FnD:=fD 337 (.cons (.val ty1) (.cons sI (.cons sI .nil))) (.cons sB .nil) 23 [.tmp 6] Tryz.f337 .no
def c338 :FnD:=fD 338 (.cons (.val ty2) (.cons (.val ty5) .nil)) (.cons sB .nil) 83 [.tmp 4] Tryz.f338 (nx (nx (nx (nx (.two (nx (.at_ 1 (aa [2,3,6,8,35]) .no)) (.at_ 2 (aa [2,3,6,8]) (nx (.two (nx (.two (.at_ 3 (aa [3,9,10,54,55,56]) (nx (nx (.two (.two (nx (nx (.at_ 4 (aa [3,9,10,54,55,56,81]) .no))) .no) .no)))) .no)) .no))))))))
def c339 :FnD:=fD 339 (.cons (.val ty6) (.cons (.val ty5) .nil)) (.cons sB .nil) 75 [.tmp 4] Tryz.f339 .no
def c357 :FnD:=fD 357 (.cons sI (.cons sI .nil)) (.cons sI (.cons sI .nil)) 23 [.tmp 4,.tmp 5] Tryz.f357 .no
def c340 :FnD:=fD 340 (.cons (.val ty2) (.cons (.val ty5) .nil)) (.cons sB .nil) 39 [.tmp 4] Tryz.f340 .no
def c316 :FnD:=fD 316 (.cons (.val ty6) (.cons sI .nil)) (.cons sB .nil) 77 [.tmp 4] Tryz.f316 (nx (nx (.two (nx (.at_ 1 (aa [1,2,5,32]) .no)) (.at_ 2 (aa [1,2,5]) .no))))
def b277 :Code:=Tryz.f277.body.getD .skip
def c277 :FnD:=fD 277 (.cons (.val ty7) (.cons sI .nil)) (.cons sB .nil) 9 [.tmp 4] Tryz.f277 .no
def c178 :FnD:=fD 178 (.cons sI .nil) (.cons sB .nil) 6 [.tmp 2] Tryz.f178 .no
def c108 :FnD:=fD 108 (.cons sI (.cons sI .nil)) (.cons sB .nil) 17 [.tmp 4] Tryz.f108 .no
def c109 :FnD:=fD 109 (.cons sI .nil) (.cons sB .nil) 6 [.tmp 2] Tryz.f109 .no
def c53 :FnD:=fD 53 (.cons (.val ty1) (.cons sI .nil)) (.cons sI (.cons sB .nil)) 54 [.tmp 4,.tmp 5] Tryz.f53 (nx (nx (nx (.two (.two (.at_ 1 (aa [0,1,6,7,8]) .no) .no) .no))))
def c333 :FnD:=fD 333 (.cons (.val ty7) (.cons sI (.cons (.val ty1) .nil))) (.cons sB .nil) 39 [.tmp 6] Tryz.f333 .no
def c312 :FnD:=fD 312 (.cons (.val ty7) (.cons (.val ty1) .nil)) (.cons (.val ty1) .nil) 30 [.tmp 4] Tryz.f312 (nx (nx (nx (.two (nx (.two (.at_ 1 (aa [1,2]++[(5,.own 3 ty0)]++aa [14,15,16]) .no) .no)) .no))))
def c334 :FnD:=fD 334 (.cons (.val ty7) (.cons sI .nil)) (.cons sI (.cons sI .nil)) 43 [.tmp 4,.tmp 5] Tryz.f334 .no
def c315 :FnD:=fD 315 (.cons sI .nil) (.cons sB .nil) 3 [.tmp 2] Tryz.f315 .no
def jL1 :Code:=Tryz.f314.body.getD .skip
def oX :FnD:=fD 314 (.cons (.val ty7) (.cons sI (.cons sI (.cons sI (.cons sI (.cons (.fn 315 .nil) .nil)))))) (.cons (.val ty1) .nil) 105 [.tmp 12] Tryz.f314 (nx (nx (.two (nx (.two (.at_ 1 (aa [1,2,3,4,5,6]++[(13,.own 3 ty0)]++aa [23,24,25]) (nx (nx (.two (.two (nx (.two (nx (.at_ 2 (aa [1,2,3,4,5,6]++[(13,.own 3 ty0)]++aa [15,23,24,25,39]) .no)) (nx (.two (.at_ 3 (aa [1,2,3,4,5,6]++[(13,.own 3 ty0)]++aa [15,23,24,25,41,42,43]) (nx (nx (.two (.two (nx (nx (.two (nx (.at_ 4 (aa [1,2,3,4,5,6]++[(13,.own 3 ty0)]++aa [15,18,23,24,25,41,42,43,60]) .no)) (nx (.two (.at_ 5 (aa [1,2,3,4,5,6]++[(13,.own 3 ty0)]++aa [15,18,23,24,25,41,42,43,62,63,64]) (nx (nx (.two (.two (nx (nx (.two (nx (.at_ 6 (aa [1,2,3,4,5,6]++[(13,.own 3 ty0)]++aa [15,18,21,23,24,25,41,42,43,62,63,64,91]) .no)) .no))) .no) .no)))) .no))))) .no) .no)))) .no)))) .no) .no)))) .no)) .no)))
def c313 :FnD:=fD 313 (.cons (.val ty7) (.cons sI (.cons sI .nil))) (.cons (.val ty1) .nil) 57 [.tmp 6] Tryz.f313 (nx (nx (nx (nx (nx (.two (nx (.two (.at_ 1 (aa [2,3]++[(7,.own 3 ty0)]++aa [8,9,11,12]) (.two (nx (.at_ 2 (aa [2,3]++[(7,.own 3 ty0)]++aa [8,9,11,12,39]) .no)) .no)) .no)) .no))))))
def gJ1 :FnD:=fD 167 (.cons sI (.cons (.box 22 (.cons (.own 3 ty0) .nil)) (.cons (.box 3 (.cons sI .nil)) .nil))) (.cons sB .nil) 13 [.tmp 4] Tryz.f167 .no
def sI1 :Code:=Tryz.f224.body.getD .skip
def xW :FnD:={ fid:=224,par:=(.cons (.val ty1) (.cons (.box 3 (.cons sI .nil)) (.cons (.box 3 (.cons sI .nil)) (.cons (.box 77 (.cons (.fn 167 (.cons (.box 22 (.cons (.own 3 ty0) .nil)) (.cons (.box 3 (.cons sI .nil)) .nil))) .nil)) .nil)))),res:=(.cons sB .nil),n:=29,rv:=[.tmp 5],body:=Tryz.f224.body,an:=(nx (.two (nx (.two (.at_ 1 (aa [1,2,3,8,9,10]) (nx (nx (.two (.two (nx (nx (.at_ 2 (aa [1,2,3,8,9,10,27]) .no))) .no) .no)))) .no)) .no)),idn:=true }
def eM1 :FnD:={ fid:=276,par:=(.cons (.val ty7) (.cons sI (.cons sI (.cons sI (.cons sI (.cons sI (.cons (.fn 224 (.cons (.box 3 (.cons sI .nil)) (.cons (.box 3 (.cons sI .nil)) (.cons (.box 77 (.cons (.fn 167 (.cons (.box 22 (.cons (.own 3 ty0) .nil)) (.cons (.box 3 (.cons sI .nil)) .nil))) .nil)) .nil)))) .nil))))))),res:=(.cons sB .nil),n:=63,rv:=[.tmp 14],body:=Tryz.f276.body,an:=(nx (nx (nx (nx (.two (nx (.two (.at_ 1 (aa [3,6,7,17,19]) (nx (.two (.two (nx (.at_ 2 (aa [3,6,7,17,19,62]) .no)) .no) .no))) .no)) .no))))),idn:=true }
def eJ1 :FnD:={ fid:=225,par:=(.cons (.val ty7) (.cons sI (.cons sI (.cons (.fn 224 (.cons (.box 3 (.cons sI .nil)) (.cons (.box 3 (.cons sI .nil)) (.cons (.box 77 (.cons (.fn 167 (.cons (.box 22 (.cons (.own 3 ty0) .nil)) (.cons (.box 3 (.cons sI .nil)) .nil))) .nil)) .nil)))) .nil)))),res:=.nil,n:=39,rv:=[],body:=Tryz.f225.body,an:=(nx (nx (.two (.at_ 1 (aa [1,2,3,4,8]) (nx (.two (nx (.two (nx (.at_ 2 (aa [1,2,3,4,10,35]) .no)) .no)) .no))) .no))),idn:=true }
def c341 :FnD:=fD 341 (.cons (.val ty7) (.cons sI .nil)) (.cons (.val ty1) .nil) 56 [.tmp 4] Tryz.f341 (nx (nx (nx (.two (nx (.two (.at_ 1 [(1,.as),(2,.as),(5,.own 3 ty0),(6,.as),(7,.as)] (nx (.two (.two (nx (.at_ 2 (aa [1,2]++[(5,.own 3 ty0)]++aa [6,7,48]) .no)) .no) .no))) .no)) .no))))
def sK1 :FnD:={ fid:=317,par:=(.cons (.val ty7) (.cons sI (.cons (.fn 224 (.cons (.box 3 (.cons sI .nil)) (.cons (.box 3 (.cons sI .nil)) (.cons (.box 77 (.cons (.fn 167 (.cons (.box 22 (.cons (.own 3 ty0) .nil)) (.cons (.box 3 (.cons sI .nil)) .nil))) .nil)) .nil)))) .nil))),res:=(.cons sB .nil),n:=58,rv:=[.tmp 6],body:=Tryz.f317.body,an:=(nx (.two (nx (.two (.at_ 1 (aa [1,2,3,14,15,16]) (nx (nx (.two (.two (nx (nx (nx (.two (.two (nx (nx (nx (.two (.two (nx (.two (.at_ 2 (aa [1,2,3,9,10,14,15,16,37,38,39]) .no) .no)) .no) .no)))) .no) (.at_ 3 (aa [1,2,3,10,14,15,16]) .no))))) .no) .no)))) .no)) .no)),idn:=true }
def yJ1 :FnD:={ fid:=278,par:=(.cons (.val ty7) (.cons sI (.cons (.fn 224 (.cons (.box 3 (.cons sI .nil)) (.cons (.box 3 (.cons sI .nil)) (.cons (.box 77 (.cons (.fn 167 (.cons (.box 22 (.cons (.own 3 ty0) .nil)) (.cons (.box 3 (.cons sI .nil)) .nil))) .nil)) .nil)))) .nil))),res:=(.cons sB .nil),n:=71,rv:=[.tmp 6],body:=Tryz.f278.body,an:=(nx (.two (nx (.two (.at_ 1 (aa [1,2,3,16,17,18]) (nx (nx (.two (.two (nx (nx (nx (nx (nx (.two (nx (.two (.at_ 2 (aa [1,2,3,9]++[(10,.own 3 ty0)]++aa [16,17,18,40,41,42]) (nx (nx (.two (.two (nx (nx (.two (.at_ 3 (aa [1,2,3,9]++[(10,.own 3 ty0)]++aa [12,16,17,18,40,41,42,47,48,49]) .no) .no))) .no) .no)))) .no)) .no)))))) .no) .no)))) .no)) .no)),idn:=true }
def zI1 :FnD:={ fid:=226,par:=(.cons (.val ty7) (.cons sI (.cons sI (.cons (.fn 224 (.cons (.box 3 (.cons sI .nil)) (.cons (.box 3 (.cons sI .nil)) (.cons (.box 77 (.cons (.fn 167 (.cons (.box 22 (.cons (.own 3 ty0) .nil)) (.cons (.box 3 (.cons sI .nil)) .nil))) .nil)) .nil)))) .nil)))),res:=.nil,n:=40,rv:=[],body:=Tryz.f226.body,an:=(nx (nx (nx (nx (.two (.at_ 1 (aa [3,4,10,12]) (nx (.two (.two (nx (.at_ 2 (aa [3,4,10,12,39]) .no)) .no) .no))) .no))))),idn:=true }
def cJ1 :FnD:=fD 166 (.cons (.val ty7) (.cons sI (.cons sI (.cons (.fn 167 (.cons (.box 22 (.cons (.own 3 ty0) .nil)) (.cons (.box 3 (.cons sI .nil)) .nil))) .nil)))) .nil 37 [] Tryz.f166 (nx (nx (nx (.at_ 1 (aa [3,4,5,6,7]) .no))))
def c104 :FnD:=fD 104 (.cons (.val ty7) (.cons (.val ty2) (.cons sI (.cons sI (.cons sI .nil))))) (.cons (.val ty1) .nil) 25 [.tmp 10] Tryz.f104 (nx (nx (nx (.at_ 1 (aa [2,3,5,9]++[(11,.bown 3 ty0 0)]) .no))))
def c47 :FnD:=fD 47 (.cons (.val ty2) (.cons sI (.cons sI (.cons sI .nil)))) (.cons (.val ty1) (.cons sI .nil)) 42 [.tmp 8,.tmp 9] Tryz.f47 .no
def c49 :FnD:=oH 49 3
def c51 :FnD:=fD 51 (.cons (.mv 3 ty0) .nil) (.cons (.own 3 ty0) .nil) 61 [.tmp 2] Tryz.f51 (nx (.two (nx (.two (nx (.at_ 1 [(2,.own 3 ty0)] .no)) .no)) (.two (nx (.two (.at_ 2 [(0,.as),(3,.as)] (nx (.two (.two (nx (.two (nx (.two (nx (.two (.at_ 3 (aa [0,3,4,5]) .no) .no)) (nx (nx (.at_ 4 [(2,.own 3 ty0)] .no))))) .no)) .no) .no))) .no)) (nx (.at_ 5 [(2,.own 3 ty0)] .no)))))
def qK1 :FnD:=fD 52 (.cons sI (.cons (.box 27 (.cons sI (.cons sI (.cons sI (.cons sB (.cons sI (.cons sI (.cons sI (.cons sI (.cons sI (.cons sB (.cons (.val ty1) (.cons (.val ty1) (.cons (.val ty1) (.cons (.val ty1) (.cons (.val (.row 138 ty3)) (.cons (.val ty1) (.cons (.val ty1) (.cons (.val ty1) (.cons (.val ty1) (.cons (.val ty1) (.cons (.val ty1) .nil)))))))))))))))))))))) (.cons (.box 3 (.cons sI .nil)) .nil))) (.cons sB .nil) 20 [.tmp 4] Tryz.f52 .no
def xJ1 :FnD:=fD 107 (.cons (.own 3 ty0) (.cons (.fn 52 (.cons (.box 27 (.cons sI (.cons sI (.cons sI (.cons sB (.cons sI (.cons sI (.cons sI (.cons sI (.cons sI (.cons sB (.cons (.val ty1) (.cons (.val ty1) (.cons (.val ty1) (.cons (.val ty1) (.cons (.val (.row 138 ty3)) (.cons (.val ty1) (.cons (.val ty1) (.cons (.val ty1) (.cons (.val ty1) (.cons (.val ty1) (.cons (.val ty1) .nil)))))))))))))))))))))) (.cons (.box 3 (.cons sI .nil)) .nil))) .nil)) (.cons sI .nil) 19 [.tmp 4] Tryz.f107 (nx (.two (nx (.two (.at_ 1 (aa [0,1,7,8]) .no) .no)) .no))
def xM1 :FnD:=fD 50 (.cons (.mv 3 ty0) (.cons (.fn 52 (.cons (.box 27 (.cons sI (.cons sI (.cons sI (.cons sB (.cons sI (.cons sI (.cons sI (.cons sI (.cons sI (.cons sB (.cons (.val ty1) (.cons (.val ty1) (.cons (.val ty1) (.cons (.val ty1) (.cons (.val (.row 138 ty3)) (.cons (.val ty1) (.cons (.val ty1) (.cons (.val ty1) (.cons (.val ty1) (.cons (.val ty1) (.cons (.val ty1) .nil)))))))))))))))))))))) (.cons (.box 3 (.cons sI .nil)) .nil))) .nil)) (.cons (.own 3 ty0) .nil) 42 [.tmp 4] Tryz.f50 (nx (nx (.two (nx (.two (nx (.at_ 1 [(4,.own 3 ty0)] .no)) .no)) (.two (nx (.two (.at_ 2 (aa [0,1,5,6]) .no) .no)) (nx (nx (.at_ 3 [(4,.own 3 ty0)] .no)))))))
def c17 :FnD:=fD 17 (.cons (.val ty4) (.cons sI .nil)) (.cons (.val ty1) (.cons sI .nil)) 45 [.tmp 4,.tmp 5] Tryz.f17 (nx (nx (nx (nx (.at_ 1 (aa [2,3,6]) .no)))))
def c113 :FnD:=fD 113 (.cons sI .nil) (.cons sB .nil) 9 [.tmp 2] Tryz.f113 .no
def c114 :FnD:=fD 114 (.cons (.val (.row 56 ty3)) .nil) (.cons sB .nil) 42 [.tmp 2] Tryz.f114 (nx (.two (nx (.two (.at_ 1 (aa [0,5,6,7]) (nx (nx (.two (.two (nx (nx (.at_ 2 (aa [0,5,6,7,37]) .no))) .no) .no)))) .no)) .no))
def c115 :FnD:=fD 115 (.cons (.val (.row 135 ty5)) .nil) (.cons sB .nil) 72 [.tmp 2] Tryz.f115 (nx (.two (nx (.two (.at_ 1 (aa [0,6,7,8]) (nx (nx (.two (.two (nx (nx (.at_ 2 (aa [0,6,7,8,55]) .no))) .no) .no)))) .no)) .no))
def b56 :Code:=Tryz.f56.body.getD .skip
def c56 :FnD:=fD 56 (.cons (.val ty8) .nil) (.cons sB .nil) 57 [.tmp 2] Tryz.f56 (nx (.two (nx (.at_ 1 [(1,.as),(15,.as)] .no)) (nx (nx (.two (nx (.at_ 2 (aa [1,3,39]) .no)) .no)))))
def c72 :FnD:=fD 72 (.cons (.val ty8) (.cons sI .nil)) (.cons sB .nil) 11 [.tmp 4] Tryz.f72 .no
def c130 :FnD:=lS 130 56 ty3
def c245 :FnD:=fD 245 (.cons sI .nil) (.cons sB .nil) 9 [.tmp 2] Tryz.f245 .no
def c200 :FnD:=fD 200 (.cons sI (.cons sI (.cons sI (.cons sI .nil)))) (.cons sI (.cons sI .nil)) 57 [.tmp 8,.tmp 9] Tryz.f200 (nx (.two (nx (.at_ 1 (aa [0,1,2,3,31]) .no)) (nx (.two (.two (.at_ 2 (aa [0,1,2,10]) (.two (nx (.at_ 3 (aa [0,1,2,10,53]) .no)) .no)) .no) .no))))
def c131 :FnD:=fD 131 (.cons (.val ty8) (.cons sI .nil)) (.cons (.val (.row 56 ty3)) .nil) 64 [.tmp 4] Tryz.f131 (nx (.two (nx (.at_ 1 (aa [1,2,25]) .no)) (nx (.two (nx (.two (.at_ 2 (aa [1]++[(5,.own 56 ty3)]++aa [27,28,29]) .no) .no)) .no))))
def c73 :FnD:=fD 73 (.cons (.val ty8) (.cons sI .nil)) (.cons (.val (.row 56 ty3)) .nil) 52 [.tmp 4] Tryz.f73 (nx (nx (nx (nx (nx (.two (nx (.two (.at_ 1 [(2,.as),(7,.as),(11,.own 56 ty3),(12,.as)] .no) .no)) .no))))))
def c29 :FnD:=fD 29 (.cons (.val ty8) (.cons sI .nil)) (.cons (.val ty3) (.cons sB .nil)) 28 [.cell 4 56,.tmp 5] Tryz.f29 (nx (nx (.two (nx (.two (.at_ 1 (aa [1,4,15,16,17]) .no) .no)) .no)))
def c66 :FnD:=fD 66 (.cons sI .nil) (.cons sB .nil) 23 [.tmp 2] Tryz.f66 .no
def c123 :FnD:=fD 123 (.cons (.val ty8) (.cons sI .nil)) (.cons (.val ty3) (.cons sB .nil)) 31 [.cell 4 56,.tmp 5] Tryz.f123 (nx (nx (nx (nx (.two (nx (.two (.at_ 1 (aa [1,4,6,7,17,18,19]) .no) .no)) .no)))))
def c67 :FnD:=fD 67 (.cons (.val ty8) (.cons sI .nil)) (.cons sI .nil) 22 [.tmp 4] Tryz.f67 .no
def b24 :Code:=Tryz.f24.body.getD .skip
def c24 :FnD:=fD 24 (.cons (.val ty8) (.cons sI .nil)) (.cons sI .nil) 54 [.tmp 4] Tryz.f24 (nx (.two (nx (.at_ 1 (aa [1,2,16]) .no)) (nx (nx (nx (.two (.two (nx (.at_ 2 (aa [1,6,7,28]) .no)) .no) .no))))))
def c60 :FnD:=fD 60 (.cons (.val (.row 50 ty3)) .nil) (.cons (.val (.row 50 ty3)) .nil) 48 [.tmp 2] Tryz.f60 (nx (nx (.two (nx (.two (.at_ 1 ([(3,.own 50 ty3)]++aa [7,8,9]) (nx (nx (.two (.two (nx (nx (nx (.at_ 2 ([(3,.own 50 ty3)]++aa [5,6,7,8,9,27]) .no)))) .no) .no)))) .no)) .no)))
def wO :FnD:=nK 58 50 ty3 59 (wN bM zf59 cf59)
def c19 :FnD:=fD 19 (.cons (.val ty4) (.cons (.val (.row 48 ty8)) (.cons sI .nil))) (.cons (.val (.row 50 ty3)) (.cons sI .nil)) 83 [.tmp 6,.tmp 7] Tryz.f19 (nx (.two (nx (.at_ 1 (aa [1,2,3,42]) .no)) (nx (nx (nx (.two (nx (.two (.at_ 2 (aa [1,2,3]++[(10,.own 50 ty3)]++aa [53,54,55]) .no) .no)) .no))))))
def c22 :FnD:=fD 22 (.cons (.val (.row 50 ty3)) (.cons (.val (.row 50 ty3)) .nil)) (.cons sB .nil) 41 [.tmp 4] Tryz.f22 (nx (nx (.two (nx (.two (.at_ 1 (aa [0,1,5]) (nx (.two (.two (nx (.at_ 2 (aa [0,1,5,40]) .no)) .no) .no))) .no)) .no)))
def c142 :FnD:=fD 142 (.cons (.val (.int .u8)) .nil) (.cons sB .nil) 9 [.tmp 2] Tryz.f142 .no
def c80 :FnD:=fD 80 (.cons (.val (.row 5 (.int .u8))) .nil) (.cons sI .nil) 51 [.tmp 2] Tryz.f80 (nx (.two (nx (.two (.at_ 1 (aa [0,6,7,8]) (nx (nx (.two (.two (nx (nx (.at_ 2 (aa [0,3,4,5,6,7,8]) (nx (.at_ 3 (aa [0,3,6,7,8,48]) .no))))) .no) .no)))) .no)) .no))
def c256 :FnD:={ fid:=256,par:=(.cons sS .nil),res:=(.cons sI .nil),n:=10,rv:=[.tmp 2],body:=none,an:=.no }
def c257 :FnD:={ fid:=257,par:=(.cons sS .nil),res:=(.cons (.val (.int .i32)) (.cons sI .nil)),n:=19,rv:=[.tmp 2,.tmp 3],body:=none,an:=.no }
def c206 :FnD:=fD 206 (.cons sS (.cons sI .nil)) (.cons (.val (.row 9 .str)) .nil) 50 [.tmp 4] Tryz.f206 (nx (nx (nx (nx (.two (nx (.two (.at_ 1 (aa [0,1,6,7]) .no) .no)) .no)))))
def c323 :FnD:=kH 323
def c297 :FnD:=fD 297 (.cons sS (.cons (.val (.int .u8)) .nil)) (.cons sI .nil) 8 [.tmp 4] Tryz.f297 .no
def c259 :FnD:=fD 259 (.cons sS (.cons sS .nil)) (.cons sI .nil) 143 [.tmp 4] Tryz.f259 (nx (nx (nx (nx (nx (nx (nx (nx (.two (.two (.at_ 1 (aa [0,1,5,6,7,8,9,10]) .no) .no) .no)))))))))
def c208 :FnD:=fD 208 (.cons sS (.cons sS .nil)) (.cons sI .nil) 8 [.tmp 4] Tryz.f208 .no
def c258 :FnD:=cL 258
def c207 :FnD:=fD 207 (.cons sS (.cons sS .nil)) (.cons sI .nil) 34 [.tmp 4] Tryz.f207 (nx (nx (nx (nx (.two (.at_ 1 (aa [0,1,5]) .no) .no)))))
def c143 :FnD:=fD 143 (.cons sS (.cons sS (.cons sI (.cons sI .nil)))) (.cons (.val (.row 9 .str)) .nil) 66 [.tmp 8] Tryz.f143 (nx (nx (nx (nx (.at_ 1 (aa [0,1,2,3]) (nx (nx (nx (nx (.two (.two (.at_ 2 (aa [0,1,2,3,9,10]) .no) .no) .no))))))))))
def c81 :FnD:=fD 81 (.cons sS (.cons sS .nil)) (.cons (.val (.row 9 .str)) .nil) 8 [.tmp 4] Tryz.f81 .no
def c209 :FnD:=fD 209 (.cons sS (.cons sS .nil)) (.cons sB .nil) 21 [.tmp 4] Tryz.f209 .no
def c144 :FnD:=fD 144 (.cons sS (.cons sS .nil)) (.cons sS .nil) 16 [.tmp 4] Tryz.f144 .no
def c82 :FnD:=fD 82 (.cons sS (.cons sS .nil)) (.cons sS .nil) 8 [.tmp 4] Tryz.f82 .no
def c145 :FnD:=fD 145 (.cons sS (.cons sS .nil)) (.cons sB .nil) 18 [.tmp 4] Tryz.f145 .no
def c83 :FnD:=fD 83 (.cons sS (.cons sS .nil)) (.cons sB .nil) 8 [.tmp 4] Tryz.f83 .no
def b31 :Code:=Tryz.f31.body.getD .skip
def c31 :FnD:=fD 31 (.cons (.val (.row 5 (.int .u8))) .nil) (.cons (.val (.row 9 .str)) (.cons sI (.cons sI .nil))) 59 [.tmp 2,.tmp 3,.tmp 4] Tryz.f31 (nx (nx (nx (nx (nx (.at_ 1 [(6,.as)] (nx (.two (nx (.two (.at_ 2 ([(8,.own 9 .str)]++aa [33,34,35]) .no) .no)) .no))))))))
def c76 :FnD:=fD 76 (.cons sI .nil) (.cons sS .nil) 12 [.tmp 2] Tryz.f76 .no
def c97 :FnD:=fD 97 (.cons sS .nil) (.cons sI (.cons sB .nil)) 31 [.tmp 2,.tmp 3] Tryz.f97 (nx (nx (.two (nx (.two (.at_ 1 (aa [0,4,7,8]) (nx (nx (.two (.two (nx (.two (nx (.at_ 2 (aa [0,4,5,7,8,20]) .no)) .no)) .no) .no)))) .no)) .no)))
def b40 :Code:=Tryz.f40.body.getD .skip
def c40 :FnD:=fD 40 (.cons sS .nil) (.cons sI (.cons sI .nil)) 56 [.tmp 2,.tmp 3] Tryz.f40 (nx (.two (.two (nx (nx (nx (.at_ 1 [(0,.as),(12,.as)] .no)))) .no) (nx (nx (.two (nx (.at_ 2 (aa [4,6,38]) .no)) .no)))))
def c77 :FnD:=dC1 77
def c260 :FnD:=fD 260 (.cons sS (.cons sS .nil)) (.cons sS (.cons sS (.cons sB .nil))) 23 [.tmp 4,.tmp 5,.tmp 6] Tryz.f260 .no
def c210 :FnD:=fD 210 (.cons sS (.cons sS .nil)) (.cons sS (.cons sS (.cons sB .nil))) 13 [.tmp 4,.tmp 5,.tmp 6] Tryz.f210 .no
def c211 :FnD:=aA1 211
def c263 :FnD:=fD 263 (.cons sS (.cons sS .nil)) (.cons sS .nil) 13 [.tmp 4] Tryz.f263 .no
def c212 :FnD:=fD 212 (.cons sS (.cons sS .nil)) (.cons sS .nil) 8 [.tmp 4] Tryz.f212 .no
def b146 :Code:=Tryz.f146.body.getD .skip
def c146 :FnD:=fD 146 (.cons sS .nil) (.cons sI (.cons sI (.cons sB .nil))) 51 [.tmp 2,.tmp 3,.tmp 4] Tryz.f146 .no
def c133 :FnD:=fD 133 (.cons sI (.cons sS .nil)) (.cons sS .nil) 11 [.tmp 4] Tryz.f133 .no
def c75 :FnD:=fD 75 (.cons sI .nil) (.cons sS (.cons sI .nil)) 49 [.tmp 2,.tmp 3] Tryz.f75 (nx (.two (nx (.at_ 1 [(0,.as),(12,.as)] .no)) .no))
def b147 :Code:=Tryz.f147.body.getD .skip
def c147 :FnD:=fD 147 (.cons sS .nil) (.cons sI (.cons sI .nil)) 80 [.tmp 2,.tmp 3] Tryz.f147 (nx (nx (nx (.two (nx (.two (.at_ 1 (aa [0,4,5,15,16]) (nx (nx (.two (.two (nx (nx (.two (nx (.two (nx (nx (nx (nx (nx (nx (nx (nx (nx (nx (nx (.at_ 2 (aa [0,4,5,6,15,16,32]) .no)))))))))))) .no)) (.at_ 3 (aa [0,4,5,6,7,15,16]) (nx (.two (nx (.at_ 4 (aa [0,4,6,7,8,15,16,58]) .no)) .no)))))) .no) .no)))) .no)) (.two (nx (nx (.at_ 5 [(4,.as),(78,.as)] .no))) .no)))))
def c264 :FnD:=fD 264 (.cons (.val (.row 9 .str)) (.cons sS .nil)) (.cons sI .nil) 19 [.tmp 4] Tryz.f264 (nx (.two (nx (.two (.at_ 1 (aa [0,1,7,8]) .no) .no)) .no))
def c213 :FnD:=fD 213 (.cons (.val (.row 9 .str)) (.cons sS .nil)) (.cons sB .nil) 9 [.tmp 4] Tryz.f213 .no
def c135 :FnD:=fD 135 .nil (.cons (.val (.row 9 .str)) .nil) 2 [.tmp 0] Tryz.f135 .no
def c140 :FnD:=fD 140 .nil (.cons (.val (.row 9 .str)) .nil) 2 [.tmp 0] Tryz.f140 .no
def c265 :FnD:=fD 265 (.cons sS .nil) (.cons sI (.cons sB .nil)) 26 [.tmp 2,.tmp 3] Tryz.f265 .no
def c306 :FnD:=fD 306 (.cons sS .nil) (.cons (.val ty3) (.cons sB .nil)) 47 [.cell 2 138,.tmp 3] Tryz.f306 .no
def c308 :FnD:=fD 308 (.cons (.mv 138 ty3) .nil) (.cons (.own 138 ty3) .nil) 61 [.tmp 2] Tryz.f308 (nx (.two (nx (.two (nx (.at_ 1 [(2,.own 138 ty3)] .no)) .no)) (.two (nx (.two (.at_ 2 [(0,.as),(3,.as)] (nx (.two (.two (nx (.two (nx (.two (nx (.two (.at_ 3 (aa [0,3,4,5]) .no) .no)) (nx (nx (.at_ 4 [(2,.own 138 ty3)] .no))))) .no)) .no) .no))) .no)) (nx (.at_ 5 [(2,.own 138 ty3)] .no)))))
def jW :FnD:=nK 307 138 ty3 242 (wN iJ jC1 eC1)
def c266 :FnD:=fD 266 (.cons sS .nil) (.cons (.val (.row 138 ty3)) (.cons sB .nil)) 35 [.tmp 2,.tmp 3] Tryz.f266 (nx (nx (.two (nx (.two (.at_ 1 ([(4,.own 138 ty3)]++aa [10,11,12]) .no) .no)) .no)))
def c268 :FnD:=fD 268 (.cons sS .nil) (.cons (.val ty1) (.cons sB .nil)) 35 [.tmp 2,.tmp 3] Tryz.f268 (nx (nx (.two (nx (.two (.at_ 1 ([(4,.own 3 ty0)]++aa [10,11,12]) .no) .no)) .no)))
def c214 :FnD:=fD 214 (.cons (.box 25 (.cons sI (.cons sI (.cons sI (.cons sI (.cons sI (.cons sB (.cons (.val ty1) (.cons (.val ty1) (.cons (.val ty1) (.cons (.val ty1) (.cons (.val (.row 138 ty3)) (.cons (.val ty1) (.cons (.val ty1) (.cons (.val ty1) (.cons (.val ty1) .nil)))))))))))))))) (.cons sS (.cons sS .nil))) (.cons sB .nil) 98 [.tmp 6] Tryz.f214 (nx (nx (.two (nx (.two (nx (nx (nx (nx (nx (nx (nx (nx (nx (nx (nx (nx (nx (.at_ 1 (aa [2,7,10]) .no)))))))))))))) .no)) .no)))
def b148 :Code:=Tryz.f148.body.getD .skip
def c148 :FnD:=fD 148 (.cons sS .nil) (.cons (.val ty2) (.cons sI (.cons sI .nil))) 62 [.cell 2 25,.tmp 3,.tmp 4] Tryz.f148 (nx (nx (nx (nx (.two (nx (.two (.at_ 1 (aa [2,5]++[(6,.own 9 .str)]++aa [18,19,20]) (nx (nx (.two (.two (nx (nx (.two (nx (.at_ 2 (aa [2,5]++[(6,.own 9 .str)]++aa [7,9,18,19,20,43]) .no)) .no))) .no) .no)))) .no)) .no)))))
def c149 :FnD:=fD 149 (.cons sS .nil) (.cons (.val ty1) (.cons sB .nil)) 47 [.tmp 2,.tmp 3] Tryz.f149 (nx (nx (.two (nx (.two (.at_ 1 ([(4,.own 3 ty0)]++aa [10,11,12]) (nx (nx (.two (.two (nx (nx (.two (nx (.at_ 2 ([(4,.own 3 ty0)]++aa [7,10,11,12,40]) .no)) (.at_ 3 ([(4,.own 3 ty0)]++aa [7,10,11,12]) .no)))) .no) .no)))) .no)) .no)))
def c85 :FnD:=fD 85 (.cons (.box 27 (.cons sI (.cons sI (.cons sI (.cons sB (.cons (.val ty2) (.cons (.val ty1) (.cons (.val ty1) .nil)))))))) (.cons sI (.cons sS .nil))) (.cons sB .nil) 73 [.tmp 6] Tryz.f85 .no
def c33 :FnD:=fD 33 (.cons (.val (.row 5 (.int .u8))) .nil) (.cons (.val ty4) (.cons sI (.cons sI .nil))) 83 [.cell 2 27,.tmp 3,.tmp 4] Tryz.f33 (nx (nx (nx (nx (nx (.two (nx (.two (.at_ 1 (aa [2,5,8,9,24,25,26]) (nx (nx (.two (.two (nx (nx (.two (.two (.at_ 2 (aa [2,5,8,10,11,12,24,25,26]) (.two (nx (.at_ 3 (aa [2,5,8,10,11,12,24,25,26,44]) .no)) .no)) .no) (.at_ 4 (aa [2,5,8,10,11,12,24,25,26]) (.two (nx (.at_ 5 (aa [2,5,8,10,12,24,25,26,65]) .no)) .no))))) .no) .no)))) .no)) .no))))))
def c12 :FnD:=fD 12 .nil (.cons sB .nil) 58 [.tmp 0] Tryz.f12 .no
def c41 :FnD:=fD 41 (.cons (.val ty2) .nil) (.cons sB .nil) 55 [.tmp 2] Tryz.f41 .no
def c13 :FnD:=fD 13 (.cons (.val ty4) .nil) (.cons sB .nil) 18 [.tmp 2] Tryz.f13 .no
def c42 :FnD:=fD 42 (.cons (.val ty8) .nil) (.cons sB .nil) 13 [.tmp 2] Tryz.f42 .no
def c14 :FnD:=fD 14 (.cons (.val (.row 48 ty8)) .nil) (.cons sB .nil) 23 [.tmp 2] Tryz.f14 (nx (.two (nx (.two (.at_ 1 [(0,.as),(3,.as)] (.two (nx (.at_ 2 (aa [0,3,11]) .no)) .no)) .no)) (.at_ 3 [(0,.as)] .no)))
def c44 :FnD:=fD 44 (.cons sI .nil) (.cons sB .nil) 9 [.tmp 2] Tryz.f44 .no
def c162 :FnD:=fD 162 (.cons (.val ty1) .nil) (.cons sB .nil) 20 [.tmp 2] Tryz.f162 (nx (.two (nx (.two (.at_ 1 [(0,.as),(3,.as)] .no) .no)) .no))
def c99 :FnD:=fD 99 (.cons (.val ty1) (.cons sI (.cons sI (.cons sB .nil)))) (.cons sB .nil) 48 [.tmp 8] Tryz.f99 (nx (.two (nx (.two (.at_ 1 (aa [0,1,2,3,9]) (nx (.two (.two (nx (.at_ 2 (aa [0,1,2,3,9,40]) .no)) .no) .no))) .no)) .no))
def c100 :FnD:=fD 100 (.cons (.val (.row 138 ty3)) .nil) (.cons sB .nil) 89 [.tmp 2] Tryz.f100 (nx (.two (nx (.two (.at_ 1 [(0,.as),(3,.as)] (nx (.two (.two (nx (.at_ 2 (aa [0,3,85]) .no)) .no) .no))) .no)) .no))
def c101 :FnD:=fD 101 (.cons (.val (.row 138 ty3)) .nil) (.cons sB .nil) 16 [.tmp 2] Tryz.f101 (nx (.two (nx (.two (.at_ 1 [(0,.as),(3,.as)] .no) .no)) .no))
def c43 :FnD:=fD 43 (.cons (.val ty2) .nil) (.cons sB .nil) 231 [.tmp 2] Tryz.f43 (nx (.two (nx (.at_ 1 [(1,.as),(41,.as)] .no)) (.two (nx (.at_ 2 [(1,.as),(64,.as)] .no)) (.at_ 3 [(1,.as)] (.two (nx (.at_ 4 [(1,.as),(116,.as)] .no)) (.two (nx (.at_ 5 [(1,.as),(152,.as)] .no)) (.at_ 6 [(1,.as)] (.two (nx (.at_ 7 [(1,.as),(171,.as)] .no)) (.at_ 8 [(1,.as)] (nx (.two (nx (.at_ 9 [(1,.as),(210,.as)] .no)) (.at_ 10 [(1,.as)] .no))))))))))))
def c110 :FnD:=fD 110 (.cons (.val ty2) (.cons sI .nil)) (.cons sB .nil) 11 [.tmp 4] Tryz.f110 .no
def c193 :FnD:=fD 193 (.cons sI (.cons sI .nil)) (.cons sI .nil) 16 [.tmp 4] Tryz.f193 .no
def c150 :FnD:=fD 150 (.cons sI .nil) (.cons sI (.cons sI .nil)) 16 [.tmp 2,.tmp 3] Tryz.f150 .no
def c28 :FnD:=fD 28 (.cons (.val ty1) .nil) (.cons (.val ty1) .nil) 6 [.tmp 2] Tryz.f28 .no
def c221 :FnD:=fD 221 (.cons sI .nil) (.cons (.val ty1) .nil) 15 [.tmp 2] Tryz.f221 (nx (nx (.two (nx (.two (.at_ 1 [(0,.as),(3,.own 3 ty0),(4,.as)] .no) .no)) .no)))
def c164 :FnD:=fD 164 (.cons (.val ty1) (.cons sB (.cons sI (.cons sI .nil)))) (.cons (.val ty1) .nil) 21 [.tmp 8] Tryz.f164 .no
def c102 :FnD:=fD 102 (.cons (.val ty2) (.cons sI .nil)) (.cons (.val ty1) (.cons (.val ty1) (.cons (.val ty1) .nil))) 43 [.tmp 4,.tmp 5,.tmp 6] Tryz.f102 .no
def c45 :FnD:=fD 45 (.cons (.val ty2) (.cons sI (.cons sI .nil))) (.cons sI .nil) 45 [.tmp 6] Tryz.f45 (nx (nx (nx (.two (nx (.at_ 1 (aa [2,10,37]) .no)) (.at_ 2 [(2,.as),(10,.as)] .no)))))
def c15 :FnD:=fD 15 (.cons (.val ty4) (.cons sI .nil)) (.cons sB .nil) 37 [.tmp 4] Tryz.f15 (nx (.two (nx (.at_ 1 (aa [1,2,24]) .no)) .no))
def c25 :FnD:=fD 25 (.cons (.val ty1) (.cons sI .nil)) (.cons sB .nil) 18 [.tmp 4] Tryz.f25 (nx (.two (nx (.two (.at_ 1 (aa [0,1,5]) .no) .no)) .no))
def b4 :Code:=Tryz.f4.body.getD .skip
def c4 :FnD:=lawD 4 (.cons (.val ty4) (.cons (.val (.row 48 ty8)) (.cons sI .nil))) 199 [.tmp 6] Tryz.f4.body (nx (nx (.two (nx (.at_ 1 (aa [1,2,3,32]) .no)) (nx (.two (nx (.at_ 2 (aa [1,2,3,7,49]) .no)) (nx (nx (nx (.two (nx (.two (.at_ 3 (aa [1,2,3,7,9]++[(11,.own 3 ty0)]++aa [12]) (.two (nx (.at_ 4 (aa [1,2,3,7,9]++[(11,.own 3 ty0)]++aa [12,72]) .no)) .no)) .no)) (.at_ 5 (aa [2,3,7,9]++[(11,.own 3 ty0)]) (.two (nx (.two (.at_ 6 (aa [2,3,7,9]++[(11,.own 3 ty0)]++aa [13]) (nx (.two (.two (nx (.at_ 7 (aa [2,3,7,9]++[(11,.own 3 ty0)]++aa [13,149]) .no)) .no) .no))) .no)) (.two (nx (.two (.at_ 8 (aa [2,3,7]++[(11,.own 3 ty0)]++aa [14]) (nx (.two (.two (nx (.two (nx (.two (.at_ 9 (aa [2,3,7]++[(11,.own 3 ty0)]++aa [14,15,16]) .no) .no)) .no)) .no) .no))) .no)) .no))))))))))))
def b6 :Code:=Tryz.f6.body.getD .skip
def c6 :FnD:=lawD 6 (.cons (.val (.row 48 ty8)) (.cons sI (.cons sI (.cons sI (.cons sI .nil))))) 130 [.tmp 10] Tryz.f6.body (nx (nx (nx (nx (nx (.two (nx (.at_ 1 (aa [0,1,2,3,4,11,12,47]) .no)) (nx (nx (nx (nx (nx (nx (.two (nx (.at_ 2 (aa [3,14,15,115]) .no)) (.at_ 3 (aa [3,14,15]) .no))))))))))))))
def b7 :Code:=Tryz.f7.body.getD .skip
def c7 :FnD:=lawD 7 (.cons (.val ty4) (.cons (.val (.row 48 ty8)) (.cons sI (.cons sI .nil)))) 137 [.tmp 8] Tryz.f7.body (nx (nx (.two (nx (.at_ 1 (aa [1,2,3,4,37]) .no)) (nx (nx (.two (nx (.at_ 2 (aa [2,3,9,11,60]) .no)) (nx (.two (nx (.two (.at_ 3 (aa [2,3,9,11,13]) (nx (.two (.two (nx (.at_ 4 (aa [2,3,9,11,13,116]) .no)) .no) .no))) .no)) .no))))))))
def E :Env:=⟨[(2,ty0),(3,ty0),(4,.bool),(5,(.int .u8)),(6,(.int .u8)),(7,ty9),(8,ty9),(9,.str),(10,.str),(11,.str),(12,(.int .u64)),(13,ty10),(14,ty10),(21,(.int .i32)),(22,ty1),(23,(.row 138 ty3)),(25,ty2),(27,ty4),(28,(.row 48 ty8)),(34,ty0),(37,(.row 50 ty3)),(45,(.row 56 ty3)),(46,(.row 135 ty5)),(48,ty8),(50,ty3),(56,ty3),(60,(.row 5 (.int .u8))),(63,(.row 9 .str)),(114,ty5),(116,ty6),(118,ty7),(124,(.int .u64)),(135,ty5),(138,ty3),(195,.err)],[(1,false),(74,false),(77,false),(88,false),(92,false),(106,true),(145,false),(205,true),(224,false),(239,true)],[(198,c198),(243,c243),(199,c199),(244,c244),(220,c220),(163,c163),(98,c98),(57,c57),(68,c68),(69,c69),(127,c127),(124,c124),(195,c195),(242,c242),(196,c196),(125,c125),(70,c70),(96,c96),(126,c126),(71,c71),(27,c27),(128,c128),(197,c197),(129,c129),(247,c247),(272,c272),(222,c222),(48,c48),(273,c273),(223,c223),(165,c165),(103,c103),(310,c310),(329,c329),(246,c246),(361,c361),(353,c353),(330,c330),(331,c331),(309,c309),(274,c274),(354,c354),(355,c355),(332,c332),(311,c311),(275,c275),(356,c356),(335,c335),(336,c336),(337,c337),(338,c338),(339,c339),(357,c357),(340,c340),(316,c316),(277,c277),(178,c178),(108,c108),(109,c109),(53,c53),(333,c333),(312,c312),(334,c334),(315,c315),(100000,oX),(313,c313),(100005,gJ1),(100004,xW),(100003,eM1),(100002,eJ1),(341,c341),(100008,sK1),(100007,yJ1),(100006,zI1),(100001,cJ1),(104,c104),(47,c47),(49,c49),(51,c51),(100011,qK1),(100010,xJ1),(100009,xM1),(17,c17),(113,c113),(114,c114),(115,c115),(56,c56),(72,c72),(130,c130),(245,c245),(200,c200),(131,c131),(73,c73),(29,c29),(66,c66),(123,c123),(67,c67),(24,c24),(60,c60),(100012,wO),(19,c19),(22,c22),(142,c142),(80,c80),(256,c256),(257,c257),(206,c206),(323,c323),(297,c297),(259,c259),(208,c208),(258,c258),(207,c207),(143,c143),(81,c81),(209,c209),(144,c144),(82,c82),(145,c145),(83,c83),(31,c31),(76,c76),(97,c97),(40,c40),(77,c77),(260,c260),(210,c210),(211,c211),(263,c263),(212,c212),(146,c146),(133,c133),(75,c75),(147,c147),(264,c264),(213,c213),(135,c135),(140,c140),(265,c265),(306,c306),(308,c308),(100013,jW),(266,c266),(268,c268),(214,c214),(148,c148),(149,c149),(85,c85),(33,c33),(12,c12),(41,c41),(13,c13),(42,c42),(14,c14),(44,c44),(162,c162),(99,c99),(100,c100),(101,c101),(43,c43),(110,c110),(193,c193),(150,c150),(28,c28),(221,c221),(164,c164),(102,c102),(45,c45),(15,c15),(25,c25),(4,c4),(6,c6),(7,c7)],[],[138],[],[(267,[(⟨#[66,89,77,79,78,84,72]⟩,6),(⟨#[66,89,87,69,69,75,78,79]⟩,7),(⟨#[66,89,89,69,65,82,68,65,89]⟩,8),(⟨#[66,89,77,79,78,84,72,68,65,89]⟩,9),(⟨#[66,89,72,79,85,82]⟩,11),(⟨#[66,89,77,73,78,85,84,69]⟩,12),(⟨#[66,89,83,69,67,79,78,68]⟩,13),(⟨#[66,89,83,69,84,80,79,83]⟩,14)])],[(22,86,1),(45,69,1),(63,62,1),(63,74,1)]⟩
set_option maxRecDepth 1000000
theorem kM1 :zD Tryz.prog E=true:=by kernel_rfl
theorem mix :Tryz.prog.follows .mixedOrders=true:=by kernel_rfl
theorem cn48 (w:World):Calls Tryz.prog 48 #[.slice none 0 0] w fun e w'=>e = .returned (.slice none 0 0)∧w'=w:=by
 have q:∀(w:World) (a:Option Addr) (n c n' c':Nat),(binOp .eql 22 (.slice a n c) (.slice none n' c')).run Tryz.prog w = .ok (.bool a.isNone) w:=fun w a n c n' c'=>Lib.run_eql_slice_nil w _ _ a n c n' c' Tryz.underlying22
 go_enter Tryz.func48,Tryz.ntmps48
 go_wp2
 go_ret
 exact⟨rfl,rfl⟩
theorem cs48 (w:World) (ad:Addr) (m cp:Nat) (news:List Value) (hl:news.length=m*(ty0:Ty).sz) (hm:m≤yC) (hc:∀j u,news[j]?=some u→w.cell? (ad.add j)=some u) (h1:∀u∈news,u.oneCell'=true):
  Calls Tryz.prog 48 #[.slice (some ad) m cp] w fun e w'=>∃v',e = .returned v'∧w'.ownsRow w.heap.size 3 (ty0:Ty).sz v' m news∧Go.RowKit.Below w.heap.size w w':=by
 obtain⟨i,hi,hi2⟩:=jE (P:=Tryz.prog) (t:=ty0) (T:=3) (by kernel_rfl);obtain⟨hisz,hby,zv,hzv,_,_,hzs⟩:=qD (w:=w) (Z:=fun _=>False) (fun _=>undef) hi2;have q:∀(w:World) (a:Option Addr) (n c n' c':Nat),(binOp .eql 22 (.slice a n c) (.slice none n' c')).run Tryz.prog w = .ok (.bool a.isNone) w:=fun w a n c n' c'=>Lib.run_eql_slice_nil w _ _ a n c n' c' Tryz.underlying22
 have hlim:m≤17179869184:=hm;have hbb:m*i.bytes≤140737488355328:=tB2 (Nat.mul_le_mul hlim hby) (by decide);have A:Aside (∀j u,news[j]?=some u→w.cell? (ad.add j)=some u):=hc;clear hc
 go_enter Tryz.func48,Tryz.ntmps48
 go_wp2_with (at_builtin;refine wpList_append_own _ rfl _ _ 22 rfl w.heap.size 3 i zv (ty0:Ty).sz i.bytes Tryz.underlying22 hi hzv hisz rfl hzs (by decide) _ _ _ rfl (World.ownsRow_made w #[] 0 (tZ1 _) (oZ1 _) (by simp)) ad m cp news rfl ?qc1 ?qc2 ?qc3 ?qc4 ?qc5 ?qc6 ?_)
 case qc1=>exact hl
 case qc2=>
  intro j u hj;exact Lib.cell?_alloc_some _ (A.out j u hj)
 case qc3=>exact h1
 case qc4=>rw[uB2];unfold maxLen;omega
 case qc5=>rw[uB2];exact hbb
 case qc6=>simp
 intro v' w1 hown hgrow hnil
 go_wp2
 go_ret
 refine⟨v',rfl,by simpa using hown,?_⟩;exact((Go.RowKit.Below.refl _ w).alloc (tZ1 _) _).grown hgrow (by simp) (by intro k hk;simp[Value.ownBlock]at hk;omega)
theorem dY1 (w:World):Calls Tryz.prog 130 #[.slice none 0 0] w fun e w'=>e = .returned (.slice none 0 0)∧w'=w:=by
 have q:∀(w:World) (a:Option Addr) (n c n' c':Nat),(binOp .eql 45 (.slice a n c) (.slice none n' c')).run Tryz.prog w = .ok (.bool a.isNone) w:=fun w a n c n' c'=>Lib.run_eql_slice_nil w _ _ a n c n' c' Tryz.underlying45
 go_enter Tryz.func130,Tryz.ntmps130
 go_wp2
 go_ret
 exact⟨rfl,rfl⟩
theorem aY1 (w:World) (ad:Addr) (m cp:Nat) (news:List Value) (hl:news.length=m*(ty3:Ty).sz) (hm:m≤yC) (hc:∀j u,news[j]?=some u→w.cell? (ad.add j)=some u) (h1:∀u∈news,u.oneCell'=true):
  Calls Tryz.prog 130 #[.slice (some ad) m cp] w fun e w'=>∃v',e = .returned v'∧w'.ownsRow w.heap.size 56 (ty3:Ty).sz v' m news∧Go.RowKit.Below w.heap.size w w':=by
 obtain⟨i,hi,hi2⟩:=jE (P:=Tryz.prog) (t:=ty3) (T:=56) (by kernel_rfl);obtain⟨hisz,hby,zv,hzv,_,_,hzs⟩:=qD (w:=w) (Z:=fun _=>False) (fun _=>undef) hi2;have q:∀(w:World) (a:Option Addr) (n c n' c':Nat),(binOp .eql 45 (.slice a n c) (.slice none n' c')).run Tryz.prog w = .ok (.bool a.isNone) w:=fun w a n c n' c'=>Lib.run_eql_slice_nil w _ _ a n c n' c' Tryz.underlying45
 have hlim:m≤17179869184:=hm;have hbb:m*i.bytes≤140737488355328:=tB2 (Nat.mul_le_mul hlim hby) (by decide);have A:Aside (∀j u,news[j]?=some u→w.cell? (ad.add j)=some u):=hc;clear hc
 go_enter Tryz.func130,Tryz.ntmps130
 go_wp2_with (at_builtin;refine wpList_append_own _ rfl _ _ 45 rfl w.heap.size 56 i zv (ty3:Ty).sz i.bytes Tryz.underlying45 hi hzv hisz rfl hzs (by decide) _ _ _ rfl (World.ownsRow_made w #[] 0 (tZ1 _) (oZ1 _) (by simp)) ad m cp news rfl ?qc1 ?qc2 ?qc3 ?qc4 ?qc5 ?qc6 ?_)
 case qc1=>exact hl
 case qc2=>
  intro j u hj;exact Lib.cell?_alloc_some _ (A.out j u hj)
 case qc3=>exact h1
 case qc4=>rw[uB2];unfold maxLen;omega
 case qc5=>rw[uB2];exact hbb
 case qc6=>simp
 intro v' w1 hown hgrow hnil
 go_wp2
 go_ret
 refine⟨v',rfl,by simpa using hown,?_⟩;exact((Go.RowKit.Below.refl _ w).alloc (tZ1 _) _).grown hgrow (by simp) (by intro k hk;simp[Value.ownBlock]at hk;omega)
theorem k7 :kC Tryz.prog c7 Tryz.f7:=kS Tryz.func7
theorem k6 :kC Tryz.prog c6 Tryz.f6:=kS Tryz.func6
theorem k4 :kC Tryz.prog c4 Tryz.f4:=kS Tryz.func4
theorem k25 :kC Tryz.prog c25 Tryz.f25:=kS Tryz.func25
theorem k15 :kC Tryz.prog c15 Tryz.f15:=kS Tryz.func15
theorem k45 :kC Tryz.prog c45 Tryz.f45:=kS Tryz.func45
theorem k102 :kC Tryz.prog c102 Tryz.f102:=kS Tryz.func102
theorem k164 :kC Tryz.prog c164 Tryz.f164:=kS Tryz.func164
theorem k221 :kC Tryz.prog c221 Tryz.f221:=kS Tryz.func221
theorem k28 :kC Tryz.prog c28 Tryz.f28:=kS Tryz.func28
theorem k150 :kC Tryz.prog c150 Tryz.f150:=kS Tryz.func150
theorem k193 :kC Tryz.prog c193 Tryz.f193:=kS Tryz.func193
theorem k110 :kC Tryz.prog c110 Tryz.f110:=kS Tryz.func110
theorem k43 :kC Tryz.prog c43 Tryz.f43:=kS Tryz.func43
theorem k101 :kC Tryz.prog c101 Tryz.f101:=kS Tryz.func101
theorem k100 :kC Tryz.prog c100 Tryz.f100:=kS Tryz.func100
theorem k99 :kC Tryz.prog c99 Tryz.f99:=kS Tryz.func99
theorem k162 :kC Tryz.prog c162 Tryz.f162:=kS Tryz.func162
theorem k44 :kC Tryz.prog c44 Tryz.f44:=kS Tryz.func44
theorem k14 :kC Tryz.prog c14 Tryz.f14:=kS Tryz.func14
theorem k42 :kC Tryz.prog c42 Tryz.f42:=kS Tryz.func42
theorem k13 :kC Tryz.prog c13 Tryz.f13:=kS Tryz.func13
theorem k41 :kC Tryz.prog c41 Tryz.f41:=kS Tryz.func41
theorem k12 :kC Tryz.prog c12 Tryz.f12:=kS Tryz.func12
theorem k33 :kC Tryz.prog c33 Tryz.f33:=kS Tryz.func33
theorem k85 :kC Tryz.prog c85 Tryz.f85:=kS Tryz.func85
theorem k149 :kC Tryz.prog c149 Tryz.f149:=kS Tryz.func149
theorem k148 :kC Tryz.prog c148 Tryz.f148:=kS Tryz.func148
theorem k214 :kC Tryz.prog c214 Tryz.f214:=kS Tryz.func214
theorem k268 :kC Tryz.prog c268 Tryz.f268:=kS Tryz.func268
theorem k266 :kC Tryz.prog c266 Tryz.f266:=kS Tryz.func266
theorem hT1 :∀y r,jW.sem y=some r→FnOK Tryz.prog GB G jW y r:=fP1
theorem k308 :kC Tryz.prog c308 Tryz.f308:=kS Tryz.func308
theorem k306 :kC Tryz.prog c306 Tryz.f306:=kS Tryz.func306
theorem k265 :kC Tryz.prog c265 Tryz.f265:=kS Tryz.func265
theorem k140 :kC Tryz.prog c140 Tryz.f140:=kS Tryz.func140
theorem k135 :kC Tryz.prog c135 Tryz.f135:=kS Tryz.func135
theorem k213 :kC Tryz.prog c213 Tryz.f213:=kS Tryz.func213
theorem k264 :kC Tryz.prog c264 Tryz.f264:=kS Tryz.func264
theorem k147 :kC Tryz.prog c147 Tryz.f147:=kS Tryz.func147
theorem k75 :kC Tryz.prog c75 Tryz.f75:=kS Tryz.func75
theorem k133 :kC Tryz.prog c133 Tryz.f133:=kS Tryz.func133
theorem k146 :kC Tryz.prog c146 Tryz.f146:=kS Tryz.func146
theorem k212 :kC Tryz.prog c212 Tryz.f212:=kS Tryz.func212
theorem k263 :kC Tryz.prog c263 Tryz.f263:=kS Tryz.func263
theorem s211 :∀y r,c211.sem y=some r→FnOK Tryz.prog GB G c211 y r:=iY1
theorem k210 :kC Tryz.prog c210 Tryz.f210:=kS Tryz.func210
theorem k260 :kC Tryz.prog c260 Tryz.f260:=kS Tryz.func260
theorem s77 :∀y r,c77.sem y=some r→FnOK Tryz.prog GB G c77 y r:=ss77
theorem k40 :kC Tryz.prog c40 Tryz.f40:=kS Tryz.func40
theorem k97 :kC Tryz.prog c97 Tryz.f97:=kS Tryz.func97
theorem k76 :kC Tryz.prog c76 Tryz.f76:=kS Tryz.func76
theorem k31 :kC Tryz.prog c31 Tryz.f31:=kS Tryz.func31
theorem k83 :kC Tryz.prog c83 Tryz.f83:=kS Tryz.func83
theorem k145 :kC Tryz.prog c145 Tryz.f145:=kS Tryz.func145
theorem k82 :kC Tryz.prog c82 Tryz.f82:=kS Tryz.func82
theorem k144 :kC Tryz.prog c144 Tryz.f144:=kS Tryz.func144
theorem k209 :kC Tryz.prog c209 Tryz.f209:=kS Tryz.func209
theorem k81 :kC Tryz.prog c81 Tryz.f81:=kS Tryz.func81
theorem k143 :kC Tryz.prog c143 Tryz.f143:=kS Tryz.func143
theorem k207 :kC Tryz.prog c207 Tryz.f207:=kS Tryz.func207
theorem s258 :∀y r,c258.sem y=some r→FnOK Tryz.prog GB G c258 y r:=cU Tryz.func258 fun s c w=>by rw[run_callFunc_extern Tryz.func258 (by kernel_rfl) (by kernel_rfl) (by kernel_rfl) (e:=Extern.BytealgCount.count) (by kernel_rfl),Lib.run_countString];rfl
theorem k208 :kC Tryz.prog c208 Tryz.f208:=kS Tryz.func208
theorem k259 :kC Tryz.prog c259 Tryz.f259:=kS Tryz.func259
theorem k297 :kC Tryz.prog c297 Tryz.f297:=kS Tryz.func297
theorem s323 :∀y r,c323.sem y=some r→FnOK Tryz.prog GB G c323 y r:=kN Tryz.func323 fun s c w=>by rw[run_callFunc_extern Tryz.func323 (by kernel_rfl) (by kernel_rfl) (by kernel_rfl) (e:=Extern.BytealgIndexByte.indexByte) (by kernel_rfl),Lib.run_indexByteString];rfl
theorem k206 :kC Tryz.prog c206 Tryz.f206:=kS Tryz.func206
theorem s257 :∀y r,c257.sem y=some r→FnOK Tryz.prog GB G c257 y r:=fun y r h=>by cases h
theorem s256 :∀y r,c256.sem y=some r→FnOK Tryz.prog GB G c256 y r:=fun y r h=>by cases h
theorem k80 :kC Tryz.prog c80 Tryz.f80:=kS Tryz.func80
theorem k142 :kC Tryz.prog c142 Tryz.f142:=kS Tryz.func142
theorem k22 :kC Tryz.prog c22 Tryz.f22:=kS Tryz.func22
theorem k19 :kC Tryz.prog c19 Tryz.f19:=kS Tryz.func19
theorem xS1 :∀y r,wO.sem y=some r→FnOK Tryz.prog GB G wO y r:=wN1
theorem k60 :kC Tryz.prog c60 Tryz.f60:=kS Tryz.func60
theorem k24 :kC Tryz.prog c24 Tryz.f24:=kS Tryz.func24
theorem k67 :kC Tryz.prog c67 Tryz.f67:=kS Tryz.func67
theorem k123 :kC Tryz.prog c123 Tryz.f123:=kS Tryz.func123
theorem k66 :kC Tryz.prog c66 Tryz.f66:=kS Tryz.func66
theorem k29 :kC Tryz.prog c29 Tryz.f29:=kS Tryz.func29
theorem k73 :kC Tryz.prog c73 Tryz.f73:=kS Tryz.func73
theorem k131 :kC Tryz.prog c131 Tryz.f131:=kS Tryz.func131
theorem k200 :kC Tryz.prog c200 Tryz.f200:=kS Tryz.func200
theorem k245 :kC Tryz.prog c245 Tryz.f245:=kS Tryz.func245
theorem s130 :∀y r,c130.sem y=some r→FnOK Tryz.prog GB G c130 y r:=zD1 (c:=Tryz.f130.body.getD .skip) Tryz.func130 (by kernel_rfl) (by kernel_rfl) aY1 dY1
theorem k72 :kC Tryz.prog c72 Tryz.f72:=kS Tryz.func72
theorem k56 :kC Tryz.prog c56 Tryz.f56:=kS Tryz.func56
theorem k115 :kC Tryz.prog c115 Tryz.f115:=kS Tryz.func115
theorem k114 :kC Tryz.prog c114 Tryz.f114:=kS Tryz.func114
theorem k113 :kC Tryz.prog c113 Tryz.f113:=kS Tryz.func113
theorem k17 :kC Tryz.prog c17 Tryz.f17:=kS Tryz.func17
theorem dM1 :kC Tryz.prog xM1 Tryz.f50:=kS Tryz.func50
theorem tK1 :kC Tryz.prog xJ1 Tryz.f107:=kS Tryz.func107
theorem cM1 :kC Tryz.prog qK1 Tryz.f52:=kS Tryz.func52
theorem k51 :kC Tryz.prog c51 Tryz.f51:=kS Tryz.func51
theorem s49 :∀y r,c49.sem y=some r→FnOK Tryz.prog GB G c49 y r:=ss49
theorem k47 :kC Tryz.prog c47 Tryz.f47:=kS Tryz.func47
theorem k104 :kC Tryz.prog c104 Tryz.f104:=kS Tryz.func104
theorem mJ1 :kC Tryz.prog cJ1 Tryz.f166:=kS Tryz.func166
theorem iI1 :kC Tryz.prog zI1 Tryz.f226:=kS Tryz.func226
theorem fI1 :kC Tryz.prog yJ1 Tryz.f278:=kS Tryz.func278
theorem tI1 :kC Tryz.prog sK1 Tryz.f317:=kS Tryz.func317
theorem k341 :kC Tryz.prog c341 Tryz.f341:=kS Tryz.func341
theorem xI1 :kC Tryz.prog eJ1 Tryz.f225:=kS Tryz.func225
theorem uK1 :kC Tryz.prog eM1 Tryz.f276:=kS Tryz.func276
theorem dI1 :kC Tryz.prog xW Tryz.f224:=kS Tryz.func224
theorem dK1 :kC Tryz.prog gJ1 Tryz.f167:=kS Tryz.func167
theorem k313 :kC Tryz.prog c313 Tryz.f313:=kS Tryz.func313
theorem yM1 :kC Tryz.prog oX Tryz.f314:=kS Tryz.func314
theorem k315 :kC Tryz.prog c315 Tryz.f315:=kS Tryz.func315
theorem k334 :kC Tryz.prog c334 Tryz.f334:=kS Tryz.func334
theorem k312 :kC Tryz.prog c312 Tryz.f312:=kS Tryz.func312
theorem k333 :kC Tryz.prog c333 Tryz.f333:=kS Tryz.func333
theorem k53 :kC Tryz.prog c53 Tryz.f53:=kS Tryz.func53
theorem k109 :kC Tryz.prog c109 Tryz.f109:=kS Tryz.func109
theorem k108 :kC Tryz.prog c108 Tryz.f108:=kS Tryz.func108
theorem k178 :kC Tryz.prog c178 Tryz.f178:=kS Tryz.func178
theorem k277 :kC Tryz.prog c277 Tryz.f277:=kS Tryz.func277
theorem k316 :kC Tryz.prog c316 Tryz.f316:=kS Tryz.func316
theorem k340 :kC Tryz.prog c340 Tryz.f340:=kS Tryz.func340
theorem k357 :kC Tryz.prog c357 Tryz.f357:=kS Tryz.func357
theorem k339 :kC Tryz.prog c339 Tryz.f339:=kS Tryz.func339
theorem k338 :kC Tryz.prog c338 Tryz.f338:=kS Tryz.func338
theorem k337 :kC Tryz.prog c337 Tryz.f337:=kS Tryz.func337
theorem k336 :kC Tryz.prog c336 Tryz.f336:=kS Tryz.func336
theorem k335 :kC Tryz.prog c335 Tryz.f335:=kS Tryz.func335
theorem k356 :kC Tryz.prog c356 Tryz.f356:=kS Tryz.func356
theorem k275 :kC Tryz.prog c275 Tryz.f275:=kS Tryz.func275
theorem k311 :kC Tryz.prog c311 Tryz.f311:=kS Tryz.func311
theorem k332 :kC Tryz.prog c332 Tryz.f332:=kS Tryz.func332
theorem k355 :kC Tryz.prog c355 Tryz.f355:=kS Tryz.func355
theorem k354 :kC Tryz.prog c354 Tryz.f354:=kS Tryz.func354
theorem k274 :kC Tryz.prog c274 Tryz.f274:=kS Tryz.func274
theorem k309 :kC Tryz.prog c309 Tryz.f309:=kS Tryz.func309
theorem k331 :kC Tryz.prog c331 Tryz.f331:=kS Tryz.func331
theorem k330 :kC Tryz.prog c330 Tryz.f330:=kS Tryz.func330
theorem k353 :kC Tryz.prog c353 Tryz.f353:=kS Tryz.func353
theorem k361 :kC Tryz.prog c361 Tryz.f361:=kS Tryz.func361
theorem k246 :kC Tryz.prog c246 Tryz.f246:=kS Tryz.func246
theorem k329 :kC Tryz.prog c329 Tryz.f329:=kS Tryz.func329
theorem k310 :kC Tryz.prog c310 Tryz.f310:=kS Tryz.func310
theorem k103 :kC Tryz.prog c103 Tryz.f103:=kS Tryz.func103
theorem k165 :kC Tryz.prog c165 Tryz.f165:=kS Tryz.func165
theorem k223 :kC Tryz.prog c223 Tryz.f223:=kS Tryz.func223
theorem k273 :kC Tryz.prog c273 Tryz.f273:=kS Tryz.func273
theorem s48 :∀y r,c48.sem y=some r→FnOK Tryz.prog GB G c48 y r:=zD1 (c:=Tryz.f48.body.getD .skip) Tryz.func48 (by kernel_rfl) (by kernel_rfl) cs48 cn48
theorem k222 :kC Tryz.prog c222 Tryz.f222:=kS Tryz.func222
theorem k272 :kC Tryz.prog c272 Tryz.f272:=kS Tryz.func272
theorem k247 :kC Tryz.prog c247 Tryz.f247:=kS Tryz.func247
theorem k129 :kC Tryz.prog c129 Tryz.f129:=kS Tryz.func129
theorem k197 :kC Tryz.prog c197 Tryz.f197:=kS Tryz.func197
theorem k128 :kC Tryz.prog c128 Tryz.f128:=kS Tryz.func128
theorem k27 :kC Tryz.prog c27 Tryz.f27:=kS Tryz.func27
theorem k71 :kC Tryz.prog c71 Tryz.f71:=kS Tryz.func71
theorem k126 :kC Tryz.prog c126 Tryz.f126:=kS Tryz.func126
theorem k96 :kC Tryz.prog c96 Tryz.f96:=kS Tryz.func96
theorem k70 :kC Tryz.prog c70 Tryz.f70:=kS Tryz.func70
theorem k125 :kC Tryz.prog c125 Tryz.f125:=kS Tryz.func125
theorem k196 :kC Tryz.prog c196 Tryz.f196:=kS Tryz.func196
theorem k242 :kC Tryz.prog c242 Tryz.f242:=kS Tryz.func242
theorem k195 :kC Tryz.prog c195 Tryz.f195:=kS Tryz.func195
theorem k124 :kC Tryz.prog c124 Tryz.f124:=kS Tryz.func124
theorem k127 :kC Tryz.prog c127 Tryz.f127:=kS Tryz.func127
theorem k69 :kC Tryz.prog c69 Tryz.f69:=kS Tryz.func69
theorem k68 :kC Tryz.prog c68 Tryz.f68:=kS Tryz.func68
theorem k57 :kC Tryz.prog c57 Tryz.f57:=kS Tryz.func57
theorem k98 :kC Tryz.prog c98 Tryz.f98:=kS Tryz.func98
theorem k163 :kC Tryz.prog c163 Tryz.f163:=kS Tryz.func163
theorem k220 :kC Tryz.prog c220 Tryz.f220:=kS Tryz.func220
theorem k244 :kC Tryz.prog c244 Tryz.f244:=kS Tryz.func244
theorem k199 :kC Tryz.prog c199 Tryz.f199:=kS Tryz.func199
theorem k243 :kC Tryz.prog c243 Tryz.f243:=kS Tryz.func243
theorem k198 :kC Tryz.prog c198 Tryz.f198:=kS Tryz.func198
theorem jU1 (g:Nat) (x:ByteArray) (w:World):Calls Tryz.prog 267 #[.pointer (some ⟨g,0,none⟩),.string x] w fun e w'=>e = .returned (selV g (selF [(⟨#[66,89,77,79,78,84,72]⟩,6),(⟨#[66,89,87,69,69,75,78,79]⟩,7),(⟨#[66,89,89,69,65,82,68,65,89]⟩,8),(⟨#[66,89,77,79,78,84,72,68,65,89]⟩,9),(⟨#[66,89,72,79,85,82]⟩,11),(⟨#[66,89,77,73,78,85,84,69]⟩,12),(⟨#[66,89,83,69,67,79,78,68]⟩,13),(⟨#[66,89,83,69,84,80,79,83]⟩,14)] x))∧w'=w:=by
 by_cases h0:x=(⟨#[66,89,77,79,78,84,72]⟩:ByteArray)
 ·subst h0;rw[show selF [(⟨#[66,89,77,79,78,84,72]⟩,6),(⟨#[66,89,87,69,69,75,78,79]⟩,7),(⟨#[66,89,89,69,65,82,68,65,89]⟩,8),(⟨#[66,89,77,79,78,84,72,68,65,89]⟩,9),(⟨#[66,89,72,79,85,82]⟩,11),(⟨#[66,89,77,73,78,85,84,69]⟩,12),(⟨#[66,89,83,69,67,79,78,68]⟩,13),(⟨#[66,89,83,69,84,80,79,83]⟩,14)] (⟨#[66,89,77,79,78,84,72]⟩:ByteArray)=some 6 from by kernel_rfl]
  go_enter Tryz.func267,Tryz.ntmps267
  go_wp2
  go_ret
  exact⟨rfl,rfl⟩
 by_cases h1:x=(⟨#[66,89,87,69,69,75,78,79]⟩:ByteArray)
 ·subst h1;rw[show selF [(⟨#[66,89,77,79,78,84,72]⟩,6),(⟨#[66,89,87,69,69,75,78,79]⟩,7),(⟨#[66,89,89,69,65,82,68,65,89]⟩,8),(⟨#[66,89,77,79,78,84,72,68,65,89]⟩,9),(⟨#[66,89,72,79,85,82]⟩,11),(⟨#[66,89,77,73,78,85,84,69]⟩,12),(⟨#[66,89,83,69,67,79,78,68]⟩,13),(⟨#[66,89,83,69,84,80,79,83]⟩,14)] (⟨#[66,89,87,69,69,75,78,79]⟩:ByteArray)=some 7 from by kernel_rfl]
  go_enter Tryz.func267,Tryz.ntmps267
  go_wp2
  go_ret
  exact⟨rfl,rfl⟩
 by_cases h2:x=(⟨#[66,89,89,69,65,82,68,65,89]⟩:ByteArray)
 ·subst h2;rw[show selF [(⟨#[66,89,77,79,78,84,72]⟩,6),(⟨#[66,89,87,69,69,75,78,79]⟩,7),(⟨#[66,89,89,69,65,82,68,65,89]⟩,8),(⟨#[66,89,77,79,78,84,72,68,65,89]⟩,9),(⟨#[66,89,72,79,85,82]⟩,11),(⟨#[66,89,77,73,78,85,84,69]⟩,12),(⟨#[66,89,83,69,67,79,78,68]⟩,13),(⟨#[66,89,83,69,84,80,79,83]⟩,14)] (⟨#[66,89,89,69,65,82,68,65,89]⟩:ByteArray)=some 8 from by kernel_rfl]
  go_enter Tryz.func267,Tryz.ntmps267
  go_wp2
  go_ret
  exact⟨rfl,rfl⟩
 by_cases h3:x=(⟨#[66,89,77,79,78,84,72,68,65,89]⟩:ByteArray)
 ·subst h3;rw[show selF [(⟨#[66,89,77,79,78,84,72]⟩,6),(⟨#[66,89,87,69,69,75,78,79]⟩,7),(⟨#[66,89,89,69,65,82,68,65,89]⟩,8),(⟨#[66,89,77,79,78,84,72,68,65,89]⟩,9),(⟨#[66,89,72,79,85,82]⟩,11),(⟨#[66,89,77,73,78,85,84,69]⟩,12),(⟨#[66,89,83,69,67,79,78,68]⟩,13),(⟨#[66,89,83,69,84,80,79,83]⟩,14)] (⟨#[66,89,77,79,78,84,72,68,65,89]⟩:ByteArray)=some 9 from by kernel_rfl]
  go_enter Tryz.func267,Tryz.ntmps267
  go_wp2
  go_ret
  exact⟨rfl,rfl⟩
 by_cases h4:x=(⟨#[66,89,72,79,85,82]⟩:ByteArray)
 ·subst h4;rw[show selF [(⟨#[66,89,77,79,78,84,72]⟩,6),(⟨#[66,89,87,69,69,75,78,79]⟩,7),(⟨#[66,89,89,69,65,82,68,65,89]⟩,8),(⟨#[66,89,77,79,78,84,72,68,65,89]⟩,9),(⟨#[66,89,72,79,85,82]⟩,11),(⟨#[66,89,77,73,78,85,84,69]⟩,12),(⟨#[66,89,83,69,67,79,78,68]⟩,13),(⟨#[66,89,83,69,84,80,79,83]⟩,14)] (⟨#[66,89,72,79,85,82]⟩:ByteArray)=some 11 from by kernel_rfl]
  go_enter Tryz.func267,Tryz.ntmps267
  go_wp2
  go_ret
  exact⟨rfl,rfl⟩
 by_cases h5:x=(⟨#[66,89,77,73,78,85,84,69]⟩:ByteArray)
 ·subst h5;rw[show selF [(⟨#[66,89,77,79,78,84,72]⟩,6),(⟨#[66,89,87,69,69,75,78,79]⟩,7),(⟨#[66,89,89,69,65,82,68,65,89]⟩,8),(⟨#[66,89,77,79,78,84,72,68,65,89]⟩,9),(⟨#[66,89,72,79,85,82]⟩,11),(⟨#[66,89,77,73,78,85,84,69]⟩,12),(⟨#[66,89,83,69,67,79,78,68]⟩,13),(⟨#[66,89,83,69,84,80,79,83]⟩,14)] (⟨#[66,89,77,73,78,85,84,69]⟩:ByteArray)=some 12 from by kernel_rfl]
  go_enter Tryz.func267,Tryz.ntmps267
  go_wp2
  go_ret
  exact⟨rfl,rfl⟩
 by_cases h6:x=(⟨#[66,89,83,69,67,79,78,68]⟩:ByteArray)
 ·subst h6;rw[show selF [(⟨#[66,89,77,79,78,84,72]⟩,6),(⟨#[66,89,87,69,69,75,78,79]⟩,7),(⟨#[66,89,89,69,65,82,68,65,89]⟩,8),(⟨#[66,89,77,79,78,84,72,68,65,89]⟩,9),(⟨#[66,89,72,79,85,82]⟩,11),(⟨#[66,89,77,73,78,85,84,69]⟩,12),(⟨#[66,89,83,69,67,79,78,68]⟩,13),(⟨#[66,89,83,69,84,80,79,83]⟩,14)] (⟨#[66,89,83,69,67,79,78,68]⟩:ByteArray)=some 13 from by kernel_rfl]
  go_enter Tryz.func267,Tryz.ntmps267
  go_wp2
  go_ret
  exact⟨rfl,rfl⟩
 by_cases h7:x=(⟨#[66,89,83,69,84,80,79,83]⟩:ByteArray)
 ·subst h7;rw[show selF [(⟨#[66,89,77,79,78,84,72]⟩,6),(⟨#[66,89,87,69,69,75,78,79]⟩,7),(⟨#[66,89,89,69,65,82,68,65,89]⟩,8),(⟨#[66,89,77,79,78,84,72,68,65,89]⟩,9),(⟨#[66,89,72,79,85,82]⟩,11),(⟨#[66,89,77,73,78,85,84,69]⟩,12),(⟨#[66,89,83,69,67,79,78,68]⟩,13),(⟨#[66,89,83,69,84,80,79,83]⟩,14)] (⟨#[66,89,83,69,84,80,79,83]⟩:ByteArray)=some 14 from by kernel_rfl]
  go_enter Tryz.func267,Tryz.ntmps267
  go_wp2
  go_ret
  exact⟨rfl,rfl⟩
 have e:selF [(⟨#[66,89,77,79,78,84,72]⟩,6),(⟨#[66,89,87,69,69,75,78,79]⟩,7),(⟨#[66,89,89,69,65,82,68,65,89]⟩,8),(⟨#[66,89,77,79,78,84,72,68,65,89]⟩,9),(⟨#[66,89,72,79,85,82]⟩,11),(⟨#[66,89,77,73,78,85,84,69]⟩,12),(⟨#[66,89,83,69,67,79,78,68]⟩,13),(⟨#[66,89,83,69,84,80,79,83]⟩,14)] x=none:=by rw[gL h0,gL h1,gL h2,gL h3,gL h4,gL h5,gL h6,gL h7];rfl
 have b0:(x.toList==[66,89,77,79,78,84,72])=false:=by rw[←show(⟨#[66,89,77,79,78,84,72]⟩:ByteArray).toList=[66,89,77,79,78,84,72]from by kernel_rfl];exact fP h0
 have b1:(x.toList==[66,89,87,69,69,75,78,79])=false:=by rw[←show(⟨#[66,89,87,69,69,75,78,79]⟩:ByteArray).toList=[66,89,87,69,69,75,78,79]from by kernel_rfl];exact fP h1
 have b2:(x.toList==[66,89,89,69,65,82,68,65,89])=false:=by rw[←show(⟨#[66,89,89,69,65,82,68,65,89]⟩:ByteArray).toList=[66,89,89,69,65,82,68,65,89]from by kernel_rfl];exact fP h2
 have b3:(x.toList==[66,89,77,79,78,84,72,68,65,89])=false:=by rw[←show(⟨#[66,89,77,79,78,84,72,68,65,89]⟩:ByteArray).toList=[66,89,77,79,78,84,72,68,65,89]from by kernel_rfl];exact fP h3
 have b4:(x.toList==[66,89,72,79,85,82])=false:=by rw[←show(⟨#[66,89,72,79,85,82]⟩:ByteArray).toList=[66,89,72,79,85,82]from by kernel_rfl];exact fP h4
 have b5:(x.toList==[66,89,77,73,78,85,84,69])=false:=by rw[←show(⟨#[66,89,77,73,78,85,84,69]⟩:ByteArray).toList=[66,89,77,73,78,85,84,69]from by kernel_rfl];exact fP h5
 have b6:(x.toList==[66,89,83,69,67,79,78,68])=false:=by rw[←show(⟨#[66,89,83,69,67,79,78,68]⟩:ByteArray).toList=[66,89,83,69,67,79,78,68]from by kernel_rfl];exact fP h6
 have b7:(x.toList==[66,89,83,69,84,80,79,83])=false:=by rw[←show(⟨#[66,89,83,69,84,80,79,83]⟩:ByteArray).toList=[66,89,83,69,84,80,79,83]from by kernel_rfl];exact fP h7
 rw[e]
 go_enter Tryz.func267,Tryz.ntmps267
 go_wp2
 all_goals first
  | (exfalso;simp_all;done)
  | (go_ret;exact⟨rfl,rfl⟩)
theorem qT1 :qD1 Tryz.prog E:=pT1 rfl ⟨Tryz.f267,Tryz.f267.body.getD .skip,Tryz.func267,by kernel_rfl,by kernel_rfl⟩ jU1
theorem aT1 :iK Tryz.prog E.fn:=cc k198 (cc k243 (cc k199 (cc k244 (cc k220 (cc k163 (cc k98 (cc k57 (cc k68 (cc k69 (cc k127 (cc k124 (cc k195 (cc k242 (cc k196 (cc k125 (cc k70 (cc k96 (cc k126 (cc k71 (cc k27 (cc k128 (cc k197 (cc k129 (cc k247 (cc k272 (cc k222 (uE (by kernel_rfl) (cc k273 (cc k223 (cc k165 (cc k103 (cc k310 (cc k329 (cc k246 (cc k361 (cc k353 (cc k330 (cc k331 (cc k309 (cc k274 (cc k354 (cc k355 (cc k332 (cc k311 (cc k275 (cc k356 (cc k335 (cc k336 (cc k337 (cc k338 (cc k339 (cc k357 (cc k340 (cc k316 (cc k277 (cc k178 (cc k108 (cc k109 (cc k53 (cc k333 (cc k312 (cc k334 (cc k315 (cc yM1 (cc k313 (cc dK1 (cc dI1 (cc uK1 (cc xI1 (cc k341 (cc tI1 (cc fI1 (cc iI1 (cc mJ1 (cc k104 (cc k47 (uE (by kernel_rfl) (cc k51 (cc cM1 (cc tK1 (cc dM1 (cc k17 (cc k113 (cc k114 (cc k115 (cc k56 (cc k72 (uE (by kernel_rfl) (cc k245 (cc k200 (cc k131 (cc k73 (cc k29 (cc k66 (cc k123 (cc k67 (cc k24 (cc k60 (uE (by kernel_rfl) (cc k19 (cc k22 (cc k142 (cc k80 (uE (by kernel_rfl) (uE (by kernel_rfl) (cc k206 (uE (by kernel_rfl) (cc k297 (cc k259 (cc k208 (uE (by kernel_rfl) (cc k207 (cc k143 (cc k81 (cc k209 (cc k144 (cc k82 (cc k145 (cc k83 (cc k31 (cc k76 (cc k97 (cc k40 (uE (by kernel_rfl) (cc k260 (cc k210 (uE (by kernel_rfl) (cc k263 (cc k212 (cc k146 (cc k133 (cc k75 (cc k147 (cc k264 (cc k213 (cc k135 (cc k140 (cc k265 (cc k306 (cc k308 (uE (by kernel_rfl) (cc k266 (cc k268 (cc k214 (cc k148 (cc k149 (cc k85 (cc k33 (cc k12 (cc k41 (cc k13 (cc k42 (cc k14 (cc k44 (cc k162 (cc k99 (cc k100 (cc k101 (cc k43 (cc k110 (cc k193 (cc k150 (cc k28 (cc k221 (cc k164 (cc k102 (cc k45 (cc k15 (cc k25 (cc k4 (cc k6 (cc k7 (fJ1)))))))))))))))))))))))))))))))))))))))))))))))))))))))))))))))))))))))))))))))))))))))))))))))))))))))))))))))))))))))))))))))))))))))))))))))))))))))))))))))))))))))))))))
theorem cT1 :kM Tryz.prog GB G E.fn:=jQ1 (m:=[(48,c48),(49,c49),(130,c130),(100012,wO),(256,c256),(257,c257),(323,c323),(258,c258),(77,c77),(211,c211),(100013,jW)]) (by kernel_rfl) (wE s48 (wE s49 (wE s130 (wE xS1 (wE s256 (wE s257 (wE s323 (wE s258 (wE s77 (wE s211 (wE hT1 (lJ1))))))))))))
abbrev lv25 (x:d25):List Lf:=Ty.leaves ty2 x
abbrev lv27 (x:d27):List Lf:=Ty.leaves ty4 x
abbrev vV1 (x:d25×Int×d114×Int×Unit):List Lf:=Ty.leaves ty6 x
abbrev vG (x:d118):List Lf:=Ty.leaves ty7 x
def vC.f (a b c:Int):Option (Int×Unit):=RN E 198 (a,b,c,())
def vH.f (a:Int):Option (Bool×Unit):=RN E 243 (a,())
def cB.f (a b:Int):Option (Int×Unit):=RN E 199 (a,b,())
def cB.l1 (a b:Int) (c:Bool):Option (Int×Unit):=PL E 199 1 ⟨[wI a,U,U,U,U,wI b,wB c]++us 16,[],1000⟩
def cB.l2 (a:Bool):Option (Int×Unit):=PL E 199 2 ⟨us 15++[wB a]++us 7,[],1000⟩
def jG.f (a:Int):Option (Bool×Unit):=RN E 244 (a,())
def aI.f (a b c:Int):Option (Bool×Unit):=RN E 220 (a,b,c,())
def gG.f (a b c:Int):Option (Int×Int×Unit):=RN E 163 (a,b,c,())
def lC.f (a b c d e g:Int):Option (Int×Int×Unit):=RN E 98 (a,b,c,d,e,g,())
def lC.l1 (a b c d:Int) (e:Bool):Option (Int×Int×Unit):=PL E 98 1 ⟨[U,U,U,wI a,wI b,wI c,U,U,U,U,U,U,U,U,wI d]++us 33++[wB e]++us 10,[],1000⟩
def eF.f (a:Int):Option (Int×Unit):=RN E 57 (a,())
def sH.f (a:Int):Option (Bool×Unit):=RN E 68 (a,())
def oB.f (a:List Int):Option (Bool×Unit):=RN E 69 (a,())
def oB.l1 (a b:List Int) (c d:Int):Option (Bool×Unit):=PL E 69 1 ⟨[(.lf (.v ty1 a)),U,U,U,U,(.lf (.v ty1 b)),wI c,wI d]++us 24,[],1000⟩
def oB.l2 (a b:List Int) (c d:Int) (e:Bool):Option (Bool×Unit):=PL E 69 2 ⟨[(.lf (.v ty1 a)),U,U,U,U,(.lf (.v ty1 b)),wI c,wI d]++us 19++[wB e]++us 4,[],1000⟩
def iF.f (a:Int):Option (Bool×Unit):=RN E 127 (a,())
def mB.f (a:d25):Option (Bool×Unit):=RN E 124 (a,())
def mB.l1 (a:Bool) (b:d25):Option (Bool×Unit):=PL E 124 1 ⟨[U,wP 0 0]++us 38++[wB a]++us 13,[(0,(.box 25 (lv25 b)))],1000⟩
def eB.f (a:List Int) (b c:Int) (d:Bool):Option (Bool×Unit):=RN E 195 (a,b,c,d,())
def eB.l1 (a:List Int) (b c:Int) (d:Bool) (e:List Int) (f g:Int):Option (Bool×Unit):=PL E 195 1 ⟨[(.lf (.v ty1 a)),wI b,wI c,wB d,U,U,U,U,U,U,U,(.lf (.v ty1 e)),wI f,wI g]++us 37,[],1000⟩
def eB.l2 (a:List Int) (b c:Int) (d:Bool) (e:List Int) (f g:Int) (h:Bool):Option (Bool×Unit):=PL E 195 2 ⟨[(.lf (.v ty1 a)),wI b,wI c,wB d,U,U,U,U,U,U,U,(.lf (.v ty1 e)),wI f,wI g]++us 32++[wB h]++us 4,[],1000⟩
def vL.f (a b:Int×Int×Unit):Option (Int×Unit):=RN E 242 (a,b,())
def aB.f (a:d25):Option (Bool×Unit):=RN E 196 (a,())
def aB.l1 (a:List (Int×Int×Unit)) (b c:Int) (d:d25):Option (Bool×Unit):=PL E 196 1 ⟨[U,wP 0 0,U,U,U,U,(.lf (.v (.row 138 ty3) a)),wI b,wI c]++us 63,[(0,(.box 25 (lv25 d)))],1000⟩
def aB.l2 (b:List (Int×Int×Unit)) (c d:Int) (e:Bool) (f:d25) (a:Int×Int×Unit):Option (Bool×Unit):=PL E 196 2 ⟨[U,wP 0 0,U,U,wP 1 0,U,(.lf (.v (.row 138 ty3) b)),wI c,wI d,U,U,U,U,wB e]++us 58,[(0,(.box 25 (lv25 f))),(1,(.box 138 [(.v ty0 a.1),(.v ty0 a.2.1)]))],1000⟩
def aB.l3 (a:List (Int×Int×Unit)) (b c:Int) (d:Bool) (e:d25):Option (Bool×Unit):=PL E 196 3 ⟨[U,wP 0 0,U,U,U,U,(.lf (.v (.row 138 ty3) a)),wI b,wI c]++us 38++[wB d]++us 24,[(0,(.box 25 (lv25 e)))],1000⟩
def qF.f (a:d25):Option (Bool×Unit):=RN E 125 (a,())
def oA.f (a:d25):Option (Bool×Unit):=RN E 70 (a,())
def oA.l1 (a:Bool) (b:d25):Option (Bool×Unit):=PL E 70 1 ⟨[U,wP 0 0,U,U,U,U,U,U,U,U,U,wB a]++us 94,[(0,(.box 25 (lv25 b)))],1000⟩
def oA.l2 (a:Bool) (b:d25):Option (Bool×Unit):=PL E 70 2 ⟨[U,wP 0 0]++us 10++[wB a]++us 93,[(0,(.box 25 (lv25 b)))],1000⟩
def oA.l3 (a:Bool) (b:d25):Option (Bool×Unit):=PL E 70 3 ⟨[U,wP 0 0]++us 20++[wB a]++us 83,[(0,(.box 25 (lv25 b)))],1000⟩
def oA.l4 (a:Bool) (b:d25):Option (Bool×Unit):=PL E 70 4 ⟨[U,wP 0 0]++us 35++[wB a]++us 68,[(0,(.box 25 (lv25 b)))],1000⟩
def oA.l5 (a:d25):Option (Bool×Unit):=PL E 70 5 ⟨[U,wP 0 0]++us 104,[(0,(.box 25 (lv25 a)))],1000⟩
def oA.l6 (a:Bool) (b:d25):Option (Bool×Unit):=PL E 70 6 ⟨[U,wP 0 0]++us 83++[wB a]++us 20,[(0,(.box 25 (lv25 b)))],1000⟩
def oA.l7 (a:d25):Option (Bool×Unit):=PL E 70 7 ⟨[U,wP 0 0]++us 104,[(0,(.box 25 (lv25 a)))],1000⟩
def wA.f (a b:List Int):Option (Bool×Unit):=RN E 96 (a,b,())
def wA.l1 (a b:List Int) (c d:Int):Option (Bool×Unit):=PL E 96 1 ⟨[(.lf (.v ty1 a)),(.lf (.v ty1 b))]++us 10++[wI c,wI d]++us 12,[],1000⟩
def zA.f (a b:List (Int×Int×Unit)):Option (Bool×Unit):=RN E 126 (a,b,())
def zA.l1 (a b:List (Int×Int×Unit)) (c d:Int):Option (Bool×Unit):=PL E 126 1 ⟨[(.lf (.v (.row 138 ty3) a)),(.lf (.v (.row 138 ty3) b))]++us 10++[wI c,wI d]++us 12,[],1000⟩
def sC.f (a b:d25):Option (Bool×Unit):=RN E 71 (a,b,())
def sC.l1 (a:Bool) (b c:d25):Option (Bool×Unit):=PL E 71 1 ⟨[U,U,wP 0 0,wP 1 0]++us 40++[wB a]++us 61,[(0,(.box 25 (lv25 b))),(1,(.box 25 (lv25 c)))],1000⟩
def cD.f (a:d27):Option (Bool×Unit):=RN E 27 (a,())
def cD.l1 (a:Bool) (b:d27):Option (Bool×Unit):=PL E 27 1 ⟨[U,wP 0 0]++us 36++[wB a]++us 9,[(0,(.box 27 (lv27 b)))],1000⟩
def gE.f (a:Int):Option (Int×Int×Unit):=RN E 128 (a,())
def yK.f (a:Int):Option (Bool×Unit):=RN E 197 (a,())
def sA.f (a:Int):Option tz9:=RN E 129 (a,())
def sA.l1 (a b:Int):Option tz9:=PL E 129 1 ⟨[wI a,U,U,U,U,U,U,wI b]++us 48,[],1000⟩
def sA.l2 (a b:Int) (c:Bool):Option tz9:=PL E 129 2 ⟨[wI a,U,U,U,U,U,U,wI b]++us 19++[wB c]++us 28,[],1000⟩
def sA.l3 (a b:Int):Option tz9:=PL E 129 3 ⟨[wI a,U,U,U,U,U,U,wI b]++us 48,[],1000⟩
def sA.l4 (a b:Int):Option tz9:=PL E 129 4 ⟨[wI a,U,U,U,U,U,U,wI b]++us 48,[],1000⟩
def sA.l5 (a b c:Int):Option tz9:=PL E 129 5 ⟨[U,U,U,U,U,U,U,wI a,wI b,wI c]++us 46,[],1000⟩
def yD.f (a:Int):Option (Int×Unit):=RN E 247 (a,())
def dJ.f (a:Int):Option (d114×Bool×Unit):=RN E 272 (a,())
def xD.f (a:d25) (b:Int):Option ((d25×Int×d114×Int×Unit)×Bool×Unit):=RN E 222 (a,b,())
def xD.l1 (a:Int) (b:Bool) (c:d25) (d e f g h:Int) (i:Bool) (j k l m n o p:Int):Option ((d25×Int×d114×Int×Unit)×Bool×Unit):=PL E 222 1 ⟨[U,wI a,wP 0 0,U,wP 1 0]++us 12++[wB b]++us 16,[(0,(.box 25 (lv25 c))),(1,(.box 116 [vI d,vI e,vI f,vI g,vI h,(.v .bool i),.nl,.nl,.nl,.nl,.nl,.nl,.nl,.nl,.nl,vI j,vI k,vI l,vI m,vI n,vI o,vI p]))],1000⟩
def iC.f (a:List Int):Option ((List Int)×Unit):=RN E 48 (a,())
def lD.f (a:List Int) (b:Bool) (c d:Int):Option ((List Int)×Unit):=RN E 273 (a,b,c,d,())
def lD.l1 (a b:Int) (c:List Int):Option ((List Int)×Unit):=PL E 273 1 ⟨[U,U,U,U,U,U,U,U,U,(.lf (.o 0)),U,U,U,U,U,U,U,U,U,wI a,wI b]++us 8,[(0,(.row 3 ty0 c))],1000⟩
def pG.f (a:d25×Int×d114×Int×Unit):Option ((List Int)×(List Int)×(List Int)×Unit):=RN E 223 (a,())
def eD.f (a:d25) (b:Int):Option (d118×Bool×Unit):=RN E 165 (a,b,())
def dC.f (a:d25) (b c:Int):Option (d118×Bool×Unit):=RN E 103 (a,b,c,())
def dC.l1 (a:Bool) (b c d e f:Int) (g:Bool) (h i j k l:Int) (m:Bool) (n o p q r s t u:Int) (w:d118):Option (d118×Bool×Unit):=PL E 103 1 ⟨[U,U,U,U,U,U,wP 0 0,U,wP 1 0]++us 24++[wB a]++us 2,[(0,(.box 118 [vI b,vI c,vI d,vI e,vI f,(.v .bool g),.nl,.nl,.nl,.nl,.nl,.nl,.nl,.nl,.nl,vI h,vI i,vI j,vI k,vI l,(.v .bool m),.nl,.nl,.nl,.nl,.nl,.nl,.nl,.nl,.nl,vI n,vI o,vI p,vI q,vI r,vI s,vI t,vI u,.nl,.nl,.nl])),(1,(.box 118 (vG w)))],1000⟩
def rL.f (a b:Int):Option (Int×Int×Unit):=RN E 310 (a,b,())
def dE.f (a:Int):Option (Int×Unit):=RN E 329 (a,())
def aH.f (a:Int):Option (Bool×Unit):=RN E 246 (a,())
def yE.f (a b:Int):Option (Int×Unit):=RN E 361 (a,b,())
def mC.f (a b:Int):Option (Int×Int×Int×Unit):=RN E 353 (a,b,())
def mC.l1 (a b c:Int) (d:Bool):Option (Int×Int×Int×Unit):=PL E 353 1 ⟨[wI a,wI b,U,U,U,U,U,wI c]++us 16++[wB d]++us 25,[],1000⟩
def mC.l2 (a b c:Int):Option (Int×Int×Int×Unit):=PL E 353 2 ⟨[wI a,wI b,U,U,U,U,U,wI c]++us 42,[],1000⟩
def yH.f (a:d25) (b:d114):Option (Int×Unit):=RN E 330 (a,b,())
def zC.f (a b:Int):Option (Int×Unit):=RN E 331 (a,b,())
def zC.l1 (a b:Int):Option (Int×Unit):=PL E 331 1 ⟨[U,wI a,U,U,U,wI b]++us 29,[],1000⟩
def rG.f (a:d25) (b:d114):Option (Int×Int×Unit):=RN E 309 (a,b,())
def xC.f (a:d25×Int×d114×Int×Unit) (b:Int):Option (Int×Int×Unit):=RN E 274 (a,b,())
def sL.f (a b:Int):Option (Int×Unit):=RN E 354 (a,b,())
def qJ.f (a b:Int):Option (Int×Unit):=RN E 355 (a,b,())
def dG.f (a:d25) (b:Int):Option (Int×Unit):=RN E 332 (a,b,())
def dF.f (a:d25×Int×d114×Int×Unit) (b:Int):Option (Int×Unit):=RN E 311 (a,b,())
def dD.f (a:d118) (b:Int):Option (Bool×Unit):=RN E 275 (a,b,())
def pB.f (a:List Int) (b:Int):Option (Int×Unit):=RN E 356 (a,b,())
def pB.l1 (a:List Int) (b c d:Int):Option (Int×Unit):=PL E 356 1 ⟨[(.lf (.v ty1 a)),wI b,U,U,U,U,U,wI c,wI d]++us 10,[],1000⟩
def kB.f (a:List Int) (b:Int):Option (Bool×Unit):=RN E 335 (a,b,())
def sF.f (a:Int):Option (Int×Int×Int×Unit):=RN E 336 (a,())
def bK.f (a:List Int) (b c:Int):Option (Bool×Unit):=RN E 337 (a,b,c,())
def qA.f (a:d25) (b:d114):Option (Bool×Unit):=RN E 338 (a,b,())
def qA.l1 (b c:Int) (d:Bool) (e:d25) (a:d114):Option (Bool×Unit):=PL E 338 1 ⟨[U,U,wP 0 0,wP 1 0,U,U,wI b,U,wI c]++us 26++[wB d]++us 47,[(0,(.box 25 (lv25 e))),(1,(.box 114 [(.v ty0 a.1),(.v ty0 a.2.1),(.v ty0 a.2.2.1),(.v ty0 a.2.2.2.1),(.v ty0 a.2.2.2.2.1)]))],1000⟩
def qA.l2 (b c:Int) (d:d25) (a:d114):Option (Bool×Unit):=PL E 338 2 ⟨[U,U,wP 0 0,wP 1 0,U,U,wI b,U,wI c]++us 74,[(0,(.box 25 (lv25 d))),(1,(.box 114 [(.v ty0 a.1),(.v ty0 a.2.1),(.v ty0 a.2.2.1),(.v ty0 a.2.2.2.1),(.v ty0 a.2.2.2.2.1)]))],1000⟩
def qA.l3 (b c:Int) (d:List (Int×Int×Unit)) (e f:Int) (a:d114):Option (Bool×Unit):=PL E 338 3 ⟨[U,U,U,wP 0 0,U,U,U,U,U,wI b,wI c]++us 43++[(.lf (.v (.row 138 ty3) d)),wI e,wI f]++us 26,[(0,(.box 114 [(.v ty0 a.1),(.v ty0 a.2.1),(.v ty0 a.2.2.1),(.v ty0 a.2.2.2.1),(.v ty0 a.2.2.2.2.1)]))],1000⟩
def qA.l4 (b c:Int) (d:List (Int×Int×Unit)) (e f:Int) (g:Bool) (a:d114):Option (Bool×Unit):=PL E 338 4 ⟨[U,U,U,wP 0 0,U,U,U,U,U,wI b,wI c]++us 43++[(.lf (.v (.row 138 ty3) d)),wI e,wI f]++us 24++[wB g]++us 1,[(0,(.box 114 [(.v ty0 a.1),(.v ty0 a.2.1),(.v ty0 a.2.2.1),(.v ty0 a.2.2.2.1),(.v ty0 a.2.2.2.2.1)]))],1000⟩
def fE.f (a:d25×Int×d114×Int×Unit) (b:d114):Option (Bool×Unit):=RN E 339 (a,b,())
def pI.f (a b:Int):Option (Int×Int×Unit):=RN E 357 (a,b,())
def nG.f (a:d25) (b:d114):Option (Bool×Unit):=RN E 340 (a,b,())
def fB.f (a:d25×Int×d114×Int×Unit) (b:Int):Option (Bool×Unit):=RN E 316 (a,b,())
def fB.l1 (b:Int) (c:Bool) (d:d25×Int×d114×Int×Unit) (a:d114):Option (Bool×Unit):=PL E 316 1 ⟨[U,wI b,wP 0 0,U,U,wP 1 0]++us 26++[wB c]++us 44,[(0,(.box 116 (vV1 d))),(1,(.box 114 [(.v ty0 a.1),(.v ty0 a.2.1),(.v ty0 a.2.2.1),(.v ty0 a.2.2.2.1),(.v ty0 a.2.2.2.2.1)]))],1000⟩
def fB.l2 (b:Int) (c:d25×Int×d114×Int×Unit) (a:d114):Option (Bool×Unit):=PL E 316 2 ⟨[U,wI b,wP 0 0,U,U,wP 1 0]++us 71,[(0,(.box 116 (vV1 c))),(1,(.box 114 [(.v ty0 a.1),(.v ty0 a.2.1),(.v ty0 a.2.2.1),(.v ty0 a.2.2.2.1),(.v ty0 a.2.2.2.2.1)]))],1000⟩
def nB.f (a:d118) (b:Int):Option (Bool×Unit):=RN E 277 (a,b,())
def sG.f (a:Int):Option (Bool×Unit):=RN E 178 (a,())
def jH.f (a b:Int):Option (Bool×Unit):=RN E 108 (a,b,())
def iE.f (a:Int):Option (Bool×Unit):=RN E 109 (a,())
def rA.f (a:List Int) (b:Int):Option (Int×Bool×Unit):=RN E 53 (a,b,())
def rA.l1 (a:List Int) (b c d e:Int):Option (Int×Bool×Unit):=PL E 53 1 ⟨[(.lf (.v ty1 a)),wI b,U,U,U,U,wI c,wI d,wI e]++us 45,[],1000⟩
def tD.f (a:d118) (b:Int) (c:List Int):Option (Bool×Unit):=RN E 333 (a,b,c,())
def lB.f (a:d118) (b:List Int):Option ((List Int)×Unit):=RN E 312 (a,b,())
def lB.l1 (a b:List Int) (c d:Int) (e:d118) (f:List Int):Option ((List Int)×Unit):=PL E 312 1 ⟨[U,(.lf (.v ty1 a)),wP 0 0,U,U,(.lf (.o 1)),U,U,U,U,U,U,U,U,(.lf (.v ty1 b)),wI c,wI d]++us 13,[(0,(.box 118 (vG e))),(1,(.row 3 ty0 f))],1000⟩
def fF.f (a:d118) (b:Int):Option (Int×Int×Unit):=RN E 334 (a,b,())
def sJ.f (a:Int):Option (Bool×Unit):=RN E 315 (a,())
def dA.f (a:d118) (b c d e:Int) (g:Unit):Option tz8:=RN E 100000 (a,b,c,d,e,g,())
def dA.l1 (a b c d:Int) (e:List Int) (f g:Int) (h:d118) (i:List Int):Option tz8:=PL E 100000 1 ⟨[U,wI a,wI b,wI c,wI d,(.lf (.fn 315 [])),wP 0 0,U,U,U,U,U,U,(.lf (.o 1)),U,U,U,U,U,U,U,U,U,(.lf (.v ty1 e)),wI f,wI g]++us 79,[(0,(.box 118 (vG h))),(1,(.row 3 ty0 i))],1000⟩
def dA.l2 (a b c d e:Int) (f:List Int) (g h:Int) (i:Bool) (j:d118) (k:List Int):Option tz8:=PL E 100000 2 ⟨[U,wI a,wI b,wI c,wI d,(.lf (.fn 315 [])),wP 0 0,U,U,U,U,U,U,(.lf (.o 1)),U,wI e,U,U,U,U,U,U,U,(.lf (.v ty1 f)),wI g,wI h]++us 13++[wB i]++us 65,[(0,(.box 118 (vG j))),(1,(.row 3 ty0 k))],1000⟩
def dA.l3 (a b c d e:Int) (f:List Int) (g h:Int) (i:List Int) (j k:Int) (l:d118) (m:List Int):Option tz8:=PL E 100000 3 ⟨[U,wI a,wI b,wI c,wI d,(.lf (.fn 315 [])),wP 0 0,U,U,U,U,U,U,(.lf (.o 1)),U,wI e,U,U,U,U,U,U,U,(.lf (.v ty1 f)),wI g,wI h]++us 15++[(.lf (.v ty1 i)),wI j,wI k]++us 61,[(0,(.box 118 (vG l))),(1,(.row 3 ty0 m))],1000⟩
def dA.l4 (a b c d e f:Int) (g:List Int) (h i:Int) (j:List Int) (k l:Int) (m:Bool) (n:d118) (p:List Int):Option tz8:=PL E 100000 4 ⟨[U,wI a,wI b,wI c,wI d,(.lf (.fn 315 [])),wP 0 0,U,U,U,U,U,U,(.lf (.o 1)),U,wI e,U,U,wI f,U,U,U,U,(.lf (.v ty1 g)),wI h,wI i]++us 15++[(.lf (.v ty1 j)),wI k,wI l]++us 16++[wB m]++us 44,[(0,(.box 118 (vG n))),(1,(.row 3 ty0 p))],1000⟩
def dA.l5 (a b c d e f:Int) (g:List Int) (h i:Int) (j:List Int) (k l:Int) (m:List Int) (n p:Int) (q:d118) (r:List Int):Option tz8:=PL E 100000 5 ⟨[U,wI a,wI b,wI c,wI d,(.lf (.fn 315 [])),wP 0 0,U,U,U,U,U,U,(.lf (.o 1)),U,wI e,U,U,wI f,U,U,U,U,(.lf (.v ty1 g)),wI h,wI i]++us 15++[(.lf (.v ty1 j)),wI k,wI l]++us 18++[(.lf (.v ty1 m)),wI n,wI p]++us 40,[(0,(.box 118 (vG q))),(1,(.row 3 ty0 r))],1000⟩
def dA.l6 (a b c d e f g:Int) (h:List Int) (i j:Int) (k:List Int) (l m:Int) (n:List Int) (p q:Int) (r:Bool) (s:d118) (t:List Int):Option tz8:=PL E 100000 6 ⟨[U,wI a,wI b,wI c,wI d,(.lf (.fn 315 [])),wP 0 0,U,U,U,U,U,U,(.lf (.o 1)),U,wI e,U,U,wI f,U,U,wI g,U,(.lf (.v ty1 h)),wI i,wI j]++us 15++[(.lf (.v ty1 k)),wI l,wI m]++us 18++[(.lf (.v ty1 n)),wI p,wI q]++us 26++[wB r]++us 13,[(0,(.box 118 (vG s))),(1,(.row 3 ty0 t))],1000⟩
def gB.f (a:d118) (b c:Int):Option ((List Int)×Unit):=RN E 313 (a,b,c,())
def gB.l1 (a b c d e:Int) (f:d118) (g:List Int):Option ((List Int)×Unit):=PL E 313 1 ⟨[U,U,wI a,wP 0 0,U,U,U,(.lf (.o 1)),wI b,wI c,U,wI d,wI e]++us 44,[(0,(.box 118 (vG f))),(1,(.row 3 ty0 g))],1000⟩
def gB.l2 (a b c d e:Int) (f:Bool) (g:d118) (h:List Int):Option ((List Int)×Unit):=PL E 313 2 ⟨[U,U,wI a,wP 0 0,U,U,U,(.lf (.o 1)),wI b,wI c,U,wI d,wI e]++us 26++[wB f]++us 17,[(0,(.box 118 (vG g))),(1,(.row 3 ty0 h))],1000⟩
def aG.f (a:Int) (b:(List Int)×Unit) (c:Int×Unit):Option (Bool×((List Int)×Unit)×(Int×Unit)×Unit):=RN E 100005 (a,b,c,())
def pA.f (a:List Int) (b c:Int×Unit) (d:(((List Int)×Unit)×(Int×Unit)×Unit)×Unit):Option tz12:=RN E 100004 (a,b,c,d,())
def pA.l1 (a:List Int) (b c d e f:Int) (g:List Int):Option tz12:=PL E 100004 1 ⟨[U,wP 0 0,wP 1 0,wP 2 0,U,U,U,U,(.lf (.v ty1 a)),wI b,wI c]++us 18,[(0,(.box 3 [vI d])),(1,(.box 3 [vI e])),(2,(.box 77 [(.fn 167 [3,5])])),(3,(.box 22 [(.o 6)])),(5,(.box 3 [vI f])),(6,(.row 3 ty0 g))],1000⟩
def pA.l2 (a:List Int) (b c:Int) (d:Bool) (e f g:Int) (h:List Int):Option tz12:=PL E 100004 2 ⟨[U,wP 0 0,wP 1 0,wP 2 0,U,U,U,U,(.lf (.v ty1 a)),wI b,wI c]++us 16++[wB d]++us 1,[(0,(.box 3 [vI e])),(1,(.box 3 [vI f])),(2,(.box 77 [(.fn 167 [3,5])])),(3,(.box 22 [(.o 6)])),(5,(.box 3 [vI g])),(6,(.row 3 ty0 h))],1000⟩
def fA.f (a:d118) (b c d e g:Int) (h:(Int×Unit)×(Int×Unit)×tz4×Unit):Option (Bool×tz1×Unit):=RN E 100003 (a,b,c,d,e,g,h,())
def fA.l1 (a b c d e f:Int) (g:List Int) (h:d118):Option (Bool×tz1×Unit):=PL E 100003 1 ⟨[U,U,U,wI a,U,U,(.lf (.fn 224 [0,1,2])),wP 7 0,U,U,U,U,U,U,U,U,U,wI b,U,wI c]++us 43,[(0,(.box 3 [vI d])),(1,(.box 3 [vI e])),(2,(.box 77 [(.fn 167 [3,5])])),(3,(.box 22 [(.o 6)])),(5,(.box 3 [vI f])),(6,(.row 3 ty0 g)),(7,(.box 118 (vG h)))],1000⟩
def fA.l2 (a b c:Int) (d:Bool) (e f g:Int) (h:List Int) (i:d118):Option (Bool×tz1×Unit):=PL E 100003 2 ⟨[U,U,U,wI a,U,U,(.lf (.fn 224 [0,1,2])),wP 7 0,U,U,U,U,U,U,U,U,U,wI b,U,wI c]++us 42++[wB d],[(0,(.box 3 [vI e])),(1,(.box 3 [vI f])),(2,(.box 77 [(.fn 167 [3,5])])),(3,(.box 22 [(.o 6)])),(5,(.box 3 [vI g])),(6,(.row 3 ty0 h)),(7,(.box 118 (vG i)))],1000⟩
def mA.f (a:d118) (b c:Int) (d:(Int×Unit)×(Int×Unit)×tz4×Unit):Option (tz1×Unit):=RN E 100002 (a,b,c,d,())
def mA.l1 (a b c d e f:Int) (g:List Int) (h:d118):Option (tz1×Unit):=PL E 100002 1 ⟨[U,wI a,wI b,(.lf (.fn 224 [0,1,2])),wP 7 0,U,U,U,wI c]++us 30,[(0,(.box 3 [vI d])),(1,(.box 3 [vI e])),(2,(.box 77 [(.fn 167 [3,5])])),(3,(.box 22 [(.o 6)])),(5,(.box 3 [vI f])),(6,(.row 3 ty0 g)),(7,(.box 118 (vG h)))],1000⟩
def mA.l2 (a b c:Int) (d:Bool) (e f g:Int) (h:List Int) (i:d118):Option (tz1×Unit):=PL E 100002 2 ⟨[U,wI a,wI b,(.lf (.fn 224 [0,1,2])),wP 7 0,U,U,U,U,U,wI c]++us 24++[wB d]++us 3,[(0,(.box 3 [vI e])),(1,(.box 3 [vI f])),(2,(.box 77 [(.fn 167 [3,5])])),(3,(.box 22 [(.o 6)])),(5,(.box 3 [vI g])),(6,(.row 3 ty0 h)),(7,(.box 118 (vG i)))],1000⟩
def lA.f (a:d118) (b:Int):Option ((List Int)×Unit):=RN E 341 (a,b,())
def lA.l1 (a b c:Int) (d:d118) (e:List Int):Option ((List Int)×Unit):=PL E 341 1 ⟨[U,wI a,wP 0 0,U,U,(.lf (.o 1)),wI b,wI c]++us 48,[(0,(.box 118 (vG d))),(1,(.row 3 ty0 e))],1000⟩
def lA.l2 (a b c:Int) (d:Bool) (e:d118) (f:List Int):Option ((List Int)×Unit):=PL E 341 2 ⟨[U,wI a,wP 0 0,U,U,(.lf (.o 1)),wI b,wI c]++us 40++[wB d]++us 7,[(0,(.box 118 (vG e))),(1,(.row 3 ty0 f))],1000⟩
def cA.f (a:d118) (b:Int) (c:(Int×Unit)×(Int×Unit)×tz4×Unit):Option (Bool×tz1×Unit):=RN E 100008 (a,b,c,())
def cA.l1 (a:Int) (b:List Int) (c d e f g:Int) (h:List Int) (i:d118):Option (Bool×tz1×Unit):=PL E 100008 1 ⟨[U,wI a,(.lf (.fn 224 [0,1,2])),wP 7 0]++us 10++[(.lf (.v ty1 b)),wI c,wI d]++us 41,[(0,(.box 3 [vI e])),(1,(.box 3 [vI f])),(2,(.box 77 [(.fn 167 [3,5])])),(3,(.box 22 [(.o 6)])),(5,(.box 3 [vI g])),(6,(.row 3 ty0 h)),(7,(.box 118 (vG i)))],1000⟩
def cA.l3 (a:Int) (b c:List Int) (d e f g h:Int) (i:List Int) (j:d118):Option (Bool×tz1×Unit):=PL E 100008 3 ⟨[U,wI a,(.lf (.fn 224 [0,1,2])),wP 7 0,U,U,U,U,U,U,(.lf (.v ty1 b)),U,U,U,(.lf (.v ty1 c)),wI d,wI e]++us 41,[(0,(.box 3 [vI f])),(1,(.box 3 [vI g])),(2,(.box 77 [(.fn 167 [3,5])])),(3,(.box 22 [(.o 6)])),(5,(.box 3 [vI h])),(6,(.row 3 ty0 i)),(7,(.box 118 (vG j)))],1000⟩
def cA.l2 (a b:Int) (c:List Int) (d e:Int) (f:List Int) (g h i j k:Int) (l:List Int) (m:d118):Option (Bool×tz1×Unit):=PL E 100008 2 ⟨[U,wI a,(.lf (.fn 224 [0,1,2])),wP 7 0,U,U,U,U,U,wI b,(.lf .nl),U,U,U,(.lf (.v ty1 c)),wI d,wI e]++us 20++[(.lf (.v ty1 f)),wI g,wI h]++us 18,[(0,(.box 3 [vI i])),(1,(.box 3 [vI j])),(2,(.box 77 [(.fn 167 [3,5])])),(3,(.box 22 [(.o 6)])),(5,(.box 3 [vI k])),(6,(.row 3 ty0 l)),(7,(.box 118 (vG m)))],1000⟩
def cA.l3a (a:Int) (b:List Int) (c d e f g:Int) (h:List Int) (i:d118):Option (Bool×tz1×Unit):=PL E 100008 3 ⟨[U,wI a,(.lf (.fn 224 [0,1,2])),wP 7 0,U,U,U,U,U,U,(.lf .nl),U,U,U,(.lf (.v ty1 b)),wI c,wI d]++us 41,[(0,(.box 3 [vI e])),(1,(.box 3 [vI f])),(2,(.box 77 [(.fn 167 [3,5])])),(3,(.box 22 [(.o 6)])),(5,(.box 3 [vI g])),(6,(.row 3 ty0 h)),(7,(.box 118 (vG i)))],1000⟩
def cA.l2a (a b:Int) (c:List Int) (d e:Int) (f:List Int) (g h i j k:Int) (l:List Int) (m:d118) (n:List Int):Option (Bool×tz1×Unit):=PL E 100008 2 ⟨[U,wI a,(.lf (.fn 224 [0,1,2])),wP 7 0,U,U,U,U,U,wI b,(.lf (.o 8)),U,U,U,(.lf (.v ty1 c)),wI d,wI e]++us 20++[(.lf (.v ty1 f)),wI g,wI h]++us 18,[(0,(.box 3 [vI i])),(1,(.box 3 [vI j])),(2,(.box 77 [(.fn 167 [3,5])])),(3,(.box 22 [(.o 6)])),(5,(.box 3 [vI k])),(6,(.row 3 ty0 l)),(7,(.box 118 (vG m))),(8,(.row 3 ty0 n))],1000⟩
def jA.f (a:d118) (b:Int) (c:(Int×Unit)×(Int×Unit)×tz4×Unit):Option (Bool×tz1×Unit):=RN E 100007 (a,b,c,())
def jA.l1 (a:Int) (b:List Int) (c d e f g:Int) (h:List Int) (i:d118):Option (Bool×tz1×Unit):=PL E 100007 1 ⟨[U,wI a,(.lf (.fn 224 [0,1,2])),wP 7 0]++us 12++[(.lf (.v ty1 b)),wI c,wI d]++us 52,[(0,(.box 3 [vI e])),(1,(.box 3 [vI f])),(2,(.box 77 [(.fn 167 [3,5])])),(3,(.box 22 [(.o 6)])),(5,(.box 3 [vI g])),(6,(.row 3 ty0 h)),(7,(.box 118 (vG i)))],1000⟩
def jA.l2 (a b:Int) (c:List Int) (d e:Int) (f:List Int) (g h i j k:Int) (l:List Int) (m:d118) (n:List Int):Option (Bool×tz1×Unit):=PL E 100007 2 ⟨[U,wI a,(.lf (.fn 224 [0,1,2])),wP 7 0,U,U,U,U,U,wI b,(.lf (.o 8)),U,U,U,U,U,(.lf (.v ty1 c)),wI d,wI e]++us 21++[(.lf (.v ty1 f)),wI g,wI h]++us 28,[(0,(.box 3 [vI i])),(1,(.box 3 [vI j])),(2,(.box 77 [(.fn 167 [3,5])])),(3,(.box 22 [(.o 6)])),(5,(.box 3 [vI k])),(6,(.row 3 ty0 l)),(7,(.box 118 (vG m))),(8,(.row 3 ty0 n))],1000⟩
def jA.l3 (a b c:Int) (d:List Int) (e f:Int) (g:List Int) (h i:Int) (j:List Int) (k l m n p:Int) (q:List Int) (r:d118) (s:List Int):Option (Bool×tz1×Unit):=PL E 100007 3 ⟨[U,wI a,(.lf (.fn 224 [0,1,2])),wP 7 0,U,U,U,U,U,wI b,(.lf (.o 8)),U,wI c,U,U,U,(.lf (.v ty1 d)),wI e,wI f]++us 21++[(.lf (.v ty1 g)),wI h,wI i,U,U,U,U,(.lf (.v ty1 j)),wI k,wI l]++us 21,[(0,(.box 3 [vI m])),(1,(.box 3 [vI n])),(2,(.box 77 [(.fn 167 [3,5])])),(3,(.box 22 [(.o 6)])),(5,(.box 3 [vI p])),(6,(.row 3 ty0 q)),(7,(.box 118 (vG r))),(8,(.row 3 ty0 s))],1000⟩
def tA.f (a:d118) (b c:Int) (d:(Int×Unit)×(Int×Unit)×tz4×Unit):Option (tz1×Unit):=RN E 100006 (a,b,c,d,())
def tA.l1 (a b c d e:Int) (f:List Int) (g:d118):Option (tz1×Unit):=PL E 100006 1 ⟨[U,U,U,(.lf (.fn 224 [0,1,2])),wP 7 0,U,U,U,U,U,wI a,U,wI b]++us 27,[(0,(.box 3 [vI c])),(1,(.box 3 [vI d])),(2,(.box 77 [(.fn 167 [3,5])])),(3,(.box 22 [(.o 6)])),(5,(.box 3 [vI e])),(6,(.row 3 ty0 f)),(7,(.box 118 (vG g)))],1000⟩
def tA.l2 (a b:Int) (c:Bool) (d e f:Int) (g:List Int) (h:d118):Option (tz1×Unit):=PL E 100006 2 ⟨[U,U,U,(.lf (.fn 224 [0,1,2])),wP 7 0,U,U,U,U,U,wI a,U,wI b]++us 26++[wB c],[(0,(.box 3 [vI d])),(1,(.box 3 [vI e])),(2,(.box 77 [(.fn 167 [3,5])])),(3,(.box 22 [(.o 6)])),(5,(.box 3 [vI f])),(6,(.row 3 ty0 g)),(7,(.box 118 (vG h)))],1000⟩
def qB.f (a:d118) (b c:Int) (d:((List Int)×Unit)×(Int×Unit)×Unit):Option tz4:=RN E 100001 (a,b,c,d,())
def qB.l1 (a:Int) (b:List Int) (c:d118) (d e:Int):Option tz4:=PL E 100001 1 ⟨[U,U,U,(.lf (.fn 167 [0,2])),wP 4 0,wP 5 0,wP 6 0,wP 7 0]++us 29,[(0,(.box 22 [(.o 3)])),(2,(.box 3 [vI a])),(3,(.row 3 ty0 b)),(4,(.box 118 (vG c))),(5,(.box 3 [vI d])),(6,(.box 3 [vI e])),(7,(.box 77 [(.fn 167 [0,2])]))],1000⟩
def oC.f (a:d118) (b:d25) (c d e:Int):Option ((List Int)×Unit):=RN E 104 (a,b,c,d,e,())
def oC.l1 (a b:Int) (c:d118) (d:Int) (e:List Int):Option ((List Int)×Unit):=PL E 104 1 ⟨[U,U,wI a,wI b,U,wP 0 0,U,U,U,wP 1 0,U,wP 2 0]++us 13,[(0,(.box 118 (vG c))),(1,(.box 3 [vI d])),(2,(.box 22 [(.o 3)])),(3,(.row 3 ty0 e))],1000⟩
def qE.f (a:d25) (b c d:Int):Option ((List Int)×Int×Unit):=RN E 47 (a,b,c,d,())
def nD.f (a:List Int):Option ((List Int)×Unit):=RN E 49 (a,())
def eA.f (a:List Int):Option ((List Int)×Unit):=RN E 51 (a,())
def eA.l1 (a:List Int):Option ((List Int)×Unit):=PL E 51 1 ⟨[U,U,(.lf (.o 0))]++us 58,[(0,(.row 3 ty0 a))],1000⟩
def eA.l2 (a:Int) (b:List Int):Option ((List Int)×Unit):=PL E 51 2 ⟨[(.lf (.o 0)),U,U,wI a]++us 57,[(0,(.row 3 ty0 b))],1000⟩
def eA.l3 (a b c:Int) (d:List Int):Option ((List Int)×Unit):=PL E 51 3 ⟨[(.lf (.o 0)),U,U,wI a,(.lf (.ot 0 b 1)),wI c]++us 55,[(0,(.row 3 ty0 d))],1000⟩
def eA.l5 (a:List Int):Option ((List Int)×Unit):=PL E 51 5 ⟨[U,U,(.lf (.o 0))]++us 58,[(0,(.row 3 ty0 a))],1000⟩
def eA.l4 (a:List Int):Option ((List Int)×Unit):=PL E 51 4 ⟨[U,U,(.lf (.o 1))]++us 58,[(1,(.row 3 ty0 a))],1000⟩
def fG.f (a:Int) (b:Int×Int×Int×Bool×Int×Int×Int×Int×Int×Bool×(List Int)×(List Int)×(List Int)×(List Int)×tz2×(List Int)×(List Int)×(List Int)×(List Int)×(List Int)×(List Int)×Unit) (c:Int×Unit):Option (Bool×tz0×(Int×Unit)×Unit):=RN E 100011 (a,b,c,())
def bB.f (a:List Int) (b:tz0×(Int×Unit)×Unit):Option (Int×(List Int)×(tz0×(Int×Unit)×Unit)×Unit):=RN E 100010 (a,b,())
def bB.l1 (a b:Int) (c:List Int) (d:d27) (e:Int):Option (Int×(List Int)×(tz0×(Int×Unit)×Unit)×Unit):=PL E 100010 1 ⟨[(.lf (.o 0)),(.lf (.fn 52 [1,2])),U,U,U,U,U,wI a,wI b]++us 10,[(0,(.row 3 ty0 c)),(1,(.box 27 (lv27 d))),(2,(.box 3 [vI e]))],1000⟩
def gA.f (a:List Int) (b:tz0×(Int×Unit)×Unit):Option tz7:=RN E 100009 (a,b,())
def gA.l1 (a:List Int) (b:d27) (c:Int):Option tz7:=PL E 100009 1 ⟨[U,U,U,U,(.lf (.o 0))]++us 37,[(0,(.row 3 ty0 a)),(1,(.box 27 (lv27 b))),(2,(.box 3 [vI c]))],1000⟩
def gA.l2 (a b:Int) (c:List Int) (d:d27) (e:Int):Option tz7:=PL E 100009 2 ⟨[(.lf (.o 0)),(.lf (.fn 52 [1,2])),U,U,U,wI a,wI b]++us 35,[(0,(.row 3 ty0 c)),(1,(.box 27 (lv27 d))),(2,(.box 3 [vI e]))],1000⟩
def gA.l3 (a:d27) (b:Int) (c:List Int):Option tz7:=PL E 100009 3 ⟨[U,U,U,U,(.lf (.o 3))]++us 37,[(1,(.box 27 (lv27 a))),(2,(.box 3 [vI b])),(3,(.row 3 ty0 c))],1000⟩
def jC.f (a:d27) (b:Int):Option ((List Int)×Int×Unit):=RN E 17 (a,b,())
def jC.l1 (a:List Int) (b:d27) (c:Int):Option ((List Int)×Int×Unit):=PL E 17 1 ⟨[U,U,wP 0 0,wP 1 0,U,U,(.lf (.v ty1 a))]++us 38,[(0,(.box 27 (lv27 b))),(1,(.box 3 [vI c]))],1000⟩
def jC.l1a (a:d27) (b:Int) (c:List Int):Option ((List Int)×Int×Unit):=PL E 17 1 ⟨[U,U,wP 0 0,wP 1 0,U,U,(.lf (.o 2))]++us 38,[(0,(.box 27 (lv27 a))),(1,(.box 3 [vI b])),(2,(.row 3 ty0 c))],1000⟩
def eG.f (a:Int):Option (Bool×Unit):=RN E 113 (a,())
def iB.f (a:List (Int×Int×Unit)):Option (Bool×Unit):=RN E 114 (a,())
def iB.l1 (a b:List (Int×Int×Unit)) (c d:Int):Option (Bool×Unit):=PL E 114 1 ⟨[(.lf (.v (.row 56 ty3) a)),U,U,U,U,(.lf (.v (.row 56 ty3) b)),wI c,wI d]++us 34,[],1000⟩
def iB.l2 (a b:List (Int×Int×Unit)) (c d:Int) (e:Bool):Option (Bool×Unit):=PL E 114 2 ⟨[(.lf (.v (.row 56 ty3) a)),U,U,U,U,(.lf (.v (.row 56 ty3) b)),wI c,wI d]++us 29++[wB e]++us 4,[],1000⟩
def dB.f (a:List d114):Option (Bool×Unit):=RN E 115 (a,())
def dB.l1 (a b:List d114) (c d:Int):Option (Bool×Unit):=PL E 115 1 ⟨[(.lf (.v (.row 135 ty5) a)),U,U,U,U,U,(.lf (.v (.row 135 ty5) b)),wI c,wI d]++us 63,[],1000⟩
def dB.l2 (a b:List d114) (c d:Int) (e:Bool):Option (Bool×Unit):=PL E 115 2 ⟨[(.lf (.v (.row 135 ty5) a)),U,U,U,U,U,(.lf (.v (.row 135 ty5) b)),wI c,wI d]++us 46++[wB e]++us 16,[],1000⟩
def gC.f (a:Int×tz2×(List d114)×Int×Unit):Option (Bool×Unit):=RN E 56 (a,())
def gC.l1 (b:Bool) (a:Int×tz2×(List d114)×Int×Unit):Option (Bool×Unit):=PL E 56 1 ⟨[U,wP 0 0]++us 13++[wB b]++us 41,[(0,(.box 48 [(.v ty0 a.1),(.v (.row 56 ty3) a.2.1),(.v (.row 135 ty5) a.2.2.1),(.v ty0 a.2.2.2.1)]))],1000⟩
def gC.l2 (b:Int) (c:Bool) (a:Int×tz2×(List d114)×Int×Unit):Option (Bool×Unit):=PL E 56 2 ⟨[U,wP 0 0,U,wI b]++us 35++[wB c]++us 17,[(0,(.box 48 [(.v ty0 a.1),(.v (.row 56 ty3) a.2.1),(.v (.row 135 ty5) a.2.2.1),(.v ty0 a.2.2.2.1)]))],1000⟩
def fI.f (a:Int×tz2×(List d114)×Int×Unit) (b:Int):Option (Bool×Unit):=RN E 72 (a,b,())
def eC.f (a:List (Int×Int×Unit)):Option (tz2×Unit):=RN E 130 (a,())
def kI.f (a:Int):Option (Bool×Unit):=RN E 245 (a,())
def tB.f (a b c d:Int):Option (Int×Int×Unit):=RN E 200 (a,b,c,d,())
def tB.l1 (a b c d:Int) (e:Bool):Option (Int×Int×Unit):=PL E 200 1 ⟨[wI a,wI b,wI c,wI d]++us 27++[wB e]++us 25,[],1000⟩
def tB.l2 (a b c d:Int):Option (Int×Int×Unit):=PL E 200 2 ⟨[wI a,wI b,wI c,U,U,U,U,U,U,U,wI d]++us 46,[],1000⟩
def tB.l3 (a b c d:Int) (e:Bool):Option (Int×Int×Unit):=PL E 200 3 ⟨[wI a,wI b,wI c,U,U,U,U,U,U,U,wI d]++us 42++[wB e]++us 3,[],1000⟩
def xB.f (a:Int×tz2×(List d114)×Int×Unit) (b:Int):Option (tz2×Unit):=RN E 131 (a,b,())
def xB.l1 (b:Int) (c:Bool) (a:Int×tz2×(List d114)×Int×Unit):Option (tz2×Unit):=PL E 131 1 ⟨[U,wI b,wP 0 0]++us 22++[wB c]++us 38,[(0,(.box 48 [(.v ty0 a.1),(.v (.row 56 ty3) a.2.1),(.v (.row 135 ty5) a.2.2.1),(.v ty0 a.2.2.2.1)]))],1000⟩
def xB.l2 (a:Int) (b:List d114) (c d:Int) (e:List (Int×Int×Unit)):Option (tz2×Unit):=PL E 131 2 ⟨[U,wI a,U,U,U,(.lf (.o 0))]++us 21++[(.lf (.v (.row 135 ty5) b)),wI c,wI d]++us 34,[(0,(.row 56 ty3 e))],1000⟩
def eE.f (a:Int×tz2×(List d114)×Int×Unit) (b:Int):Option (tz2×Unit):=RN E 73 (a,b,())
def eE.l1 (b c:Int) (a:Int×tz2×(List d114)×Int×Unit) (d:List (Int×Int×Unit)):Option (tz2×Unit):=PL E 73 1 ⟨[U,U,wP 0 0,U,U,U,U,wI b,U,U,U,(.lf (.o 1)),wI c]++us 39,[(0,(.box 48 [(.v ty0 a.1),(.v (.row 56 ty3) a.2.1),(.v (.row 135 ty5) a.2.2.1),(.v ty0 a.2.2.2.1)])),(1,(.row 56 ty3 d))],1000⟩
def mD.f (a:Int×tz2×(List d114)×Int×Unit) (b:Int):Option tz10:=RN E 29 (a,b,())
def mD.l1 (b:Int) (c:List (Int×Int×Unit)) (d e:Int) (a:Int×Int×Unit):Option tz10:=PL E 29 1 ⟨[U,wI b,U,U,wP 0 0]++us 10++[(.lf (.v (.row 56 ty3) c)),wI d,wI e]++us 10,[(0,(.box 56 [(.v ty0 a.1),(.v ty0 a.2.1)]))],1000⟩
def xH.f (a:Int):Option (Bool×Unit):=RN E 66 (a,())
def pD.f (a:Int×tz2×(List d114)×Int×Unit) (b:Int):Option tz10:=RN E 123 (a,b,())
def pD.l1 (c:Int) (d:Bool) (e:List (Int×Int×Unit)) (f g:Int) (a b:Int×Int×Unit):Option tz10:=PL E 123 1 ⟨[U,wI c,U,U,wP 0 0,U,wP 1 0,wB d,U,U,U,U,U,U,U,U,U,(.lf (.v (.row 56 ty3) e)),wI f,wI g]++us 11,[(0,(.box 56 [(.v ty0 a.1),(.v ty0 a.2.1)])),(1,(.box 56 [(.v ty0 b.1),(.v ty0 b.2.1)]))],1000⟩
def lI.f (a:Int×tz2×(List d114)×Int×Unit) (b:Int):Option (Int×Unit):=RN E 67 (a,b,())
def tC.f (a:Int×tz2×(List d114)×Int×Unit) (b:Int):Option (Int×Unit):=RN E 24 (a,b,())
def tC.l1 (b:Int) (c:Bool) (a:Int×tz2×(List d114)×Int×Unit):Option (Int×Unit):=PL E 24 1 ⟨[U,wI b,wP 0 0]++us 13++[wB c]++us 37,[(0,(.box 48 [(.v ty0 a.1),(.v (.row 56 ty3) a.2.1),(.v (.row 135 ty5) a.2.2.1),(.v ty0 a.2.2.2.1)]))],1000⟩
def tC.l2 (b c:Int) (d:Bool) (a:Int×Int×Unit):Option (Int×Unit):=PL E 24 2 ⟨[U,wI b,U,U,U,U,wI c,wP 0 0]++us 20++[wB d]++us 25,[(0,(.box 56 [(.v ty0 a.1),(.v ty0 a.2.1)]))],1000⟩
def rC.f (a:List (Int×Int×Unit)):Option (tz2×Unit):=RN E 60 (a,())
def rC.l1 (a:List (Int×Int×Unit)) (b c:Int) (d:List (Int×Int×Unit)):Option (tz2×Unit):=PL E 60 1 ⟨[U,U,U,(.lf (.o 0)),U,U,U,(.lf (.v (.row 50 ty3) a)),wI b,wI c]++us 38,[(0,(.row 50 ty3 d))],1000⟩
def rC.l2 (b:Int) (c:List (Int×Int×Unit)) (d e:Int) (f:Bool) (g:List (Int×Int×Unit)) (a:Int×Int×Unit):Option (tz2×Unit):=PL E 60 2 ⟨[U,U,U,(.lf (.o 0)),U,wP 1 0,wI b,(.lf (.v (.row 50 ty3) c)),wI d,wI e]++us 17++[wB f]++us 20,[(0,(.row 50 ty3 g)),(1,(.box 50 [(.v ty0 a.1),(.v ty0 a.2.1)]))],1000⟩
def uB.f (a:List (Int×Int×Unit)) (b:Unit):Option (tz2×Unit×Unit):=RN E 100012 (a,b,())
def jB.f (a:d27) (b:List tz3) (c:Int):Option (tz2×Int×Unit):=RN E 19 (a,b,c,())
def jB.l1 (a:List tz3) (b:Int) (c:Bool) (d:d27):Option (tz2×Int×Unit):=PL E 19 1 ⟨[U,(.lf (.v (.row 48 ty8) a)),wI b,wP 0 0]++us 38++[wB c]++us 40,[(0,(.box 27 (lv27 d)))],1000⟩
def jB.l2 (a:List tz3) (b:Int) (c:List Int) (d e:Int) (f:d27) (g:List (Int×Int×Unit)):Option (tz2×Int×Unit):=PL E 19 2 ⟨[U,(.lf (.v (.row 48 ty8) a)),wI b,wP 0 0,U,U,U,U,U,U,(.lf (.o 1))]++us 42++[(.lf (.v ty1 c)),wI d,wI e]++us 27,[(0,(.box 27 (lv27 f))),(1,(.row 50 ty3 g))],1000⟩
def rB.f (a b:List (Int×Int×Unit)):Option (Bool×Unit):=RN E 22 (a,b,())
def rB.l1 (a b:List (Int×Int×Unit)) (c:Int):Option (Bool×Unit):=PL E 22 1 ⟨[(.lf (.v (.row 50 ty3) a)),(.lf (.v (.row 50 ty3) b)),U,U,U,wI c]++us 35,[],1000⟩
def rB.l2 (a b:List (Int×Int×Unit)) (c:Int) (d:Bool):Option (Bool×Unit):=PL E 22 2 ⟨[(.lf (.v (.row 50 ty3) a)),(.lf (.v (.row 50 ty3) b)),U,U,U,wI c]++us 34++[wB d],[],1000⟩
def kE.f (a b:ByteArray):Option (Bool×Unit):=RN E 145 (a,b,())
def aD.f (a b:ByteArray):Option (Bool×Unit):=RN E 83 (a,b,())
def tO.f (a:List Int):Option ((List ByteArray)×Int×Int×Unit):=RN E 31 (a,())
def qC.f (a:Int):Option (ByteArray×Unit):=RN E 76 (a,())
def dH.f (a:ByteArray):Option (Int×Int×Unit):=RN E 40 (a,())
def fJ.f (a:ByteArray):Option (Int×Int×Bool×Unit):=RN E 146 (a,())
def gJ.f (a:ByteArray):Option (Int×Int×Unit):=RN E 147 (a,())
def dO.f (a:ByteArray):Option tz13:=RN E 148 (a,())
def jN.f (a:ByteArray):Option tz11:=RN E 149 (a,())
def jF.f (a:d27) (b:Int) (c:ByteArray):Option (Bool×d27×Unit):=RN E 85 (a,b,c,())
def kA.f (a:List Int):Option tz5:=RN E 33 (a,())
def kA.l1 (a:List ByteArray) (b:Int) (c:List ByteArray) (d e f g h:Int) (i:Bool) (j k l m n:Int) (o:Bool) (p q r:Int) (s:Bool) (t u w x y:Int) (z:Bool):Option tz5:=PL E 33 1 ⟨[U,U,wP 0 0,U,U,(.lf (.v (.row 9 .str) a)),U,U,wP 1 0,wI b]++us 14++[(.lf (.v (.row 9 .str) c)),wI d,wI e]++us 56,[(0,(.box 27 [vI f,vI g,vI h,(.v .bool i),vI j,vI k,vI l,vI m,vI n,(.v .bool o),.nl,.nl,.nl,.nl,.nl,.nl,.nl,.nl,.nl,.nl,.nl])),(1,(.box 27 [vI p,vI q,vI r,(.v .bool s),vI t,vI u,vI w,vI x,vI y,(.v .bool z),.nl,.nl,.nl,.nl,.nl,.nl,.nl,.nl,.nl,.nl,.nl]))],1000⟩
def kA.l2 (a:List ByteArray) (b:Int) (c:ByteArray) (d:Int) (e:List ByteArray) (f g h i j:Int) (k:Bool) (l m n o p:Int) (q:Bool) (r s t:Int) (u:Bool) (w x y z A:Int) (B:Bool):Option tz5:=PL E 33 2 ⟨[U,U,wP 0 0,U,U,(.lf (.v (.row 9 .str) a)),U,U,wP 1 0,U,wI b,(.lf (.v .str c)),wI d]++us 11++[(.lf (.v (.row 9 .str) e)),wI f,wI g]++us 56,[(0,(.box 27 [vI h,vI i,vI j,(.v .bool k),vI l,vI m,vI n,vI o,vI p,(.v .bool q),.nl,.nl,.nl,.nl,.nl,.nl,.nl,.nl,.nl,.nl,.nl])),(1,(.box 27 [vI r,vI s,vI t,(.v .bool u),vI w,vI x,vI y,vI z,vI A,(.v .bool B),.nl,.nl,.nl,.nl,.nl,.nl,.nl,.nl,.nl,.nl,.nl]))],1000⟩
def kA.l3 (a:List ByteArray) (b:Int) (c:ByteArray) (d:Int) (e:List ByteArray) (f g:Int) (h:Bool) (i j k:Int) (l:Bool) (m n o p q:Int) (r:Bool) (s t u:Int) (w:Bool) (x y z A B:Int) (C:Bool):Option tz5:=PL E 33 3 ⟨[U,U,wP 0 0,U,U,(.lf (.v (.row 9 .str) a)),U,U,wP 1 0,U,wI b,(.lf (.v .str c)),wI d]++us 11++[(.lf (.v (.row 9 .str) e)),wI f,wI g]++us 17++[wB h]++us 38,[(0,(.box 27 [vI i,vI j,vI k,(.v .bool l),vI m,vI n,vI o,vI p,vI q,(.v .bool r),.nl,.nl,.nl,.nl,.nl,.nl,.nl,.nl,.nl,.nl,.nl])),(1,(.box 27 [vI s,vI t,vI u,(.v .bool w),vI x,vI y,vI z,vI A,vI B,(.v .bool C),.nl,.nl,.nl,.nl,.nl,.nl,.nl,.nl,.nl,.nl,.nl]))],1000⟩
def kA.l4 (a:List ByteArray) (b:Int) (c:ByteArray) (d:Int) (e:List ByteArray) (f g h i j:Int) (k:Bool) (l m n o p:Int) (q:Bool) (r s t:Int) (u:Bool) (w x y z A:Int) (B:Bool):Option tz5:=PL E 33 4 ⟨[U,U,wP 0 0,U,U,(.lf (.v (.row 9 .str) a)),U,U,wP 1 0,U,wI b,(.lf (.v .str c)),wI d]++us 11++[(.lf (.v (.row 9 .str) e)),wI f,wI g]++us 56,[(0,(.box 27 [vI h,vI i,vI j,(.v .bool k),vI l,vI m,vI n,vI o,vI p,(.v .bool q),.nl,.nl,.nl,.nl,.nl,.nl,.nl,.nl,.nl,.nl,.nl])),(1,(.box 27 [vI r,vI s,vI t,(.v .bool u),vI w,vI x,vI y,vI z,vI A,(.v .bool B),.nl,.nl,.nl,.nl,.nl,.nl,.nl,.nl,.nl,.nl,.nl]))],1000⟩
def kA.l5 (a:List ByteArray) (b c:Int) (d:List ByteArray) (e f:Int) (g:Bool) (h i j:Int) (k:Bool) (l m n o p:Int) (q:Bool) (r s t:Int) (u:Bool) (w x y z A:Int) (B:Bool):Option tz5:=PL E 33 5 ⟨[U,U,wP 0 0,U,U,(.lf (.v (.row 9 .str) a)),U,U,wP 1 0,U,wI b,U,wI c]++us 11++[(.lf (.v (.row 9 .str) d)),wI e,wI f]++us 38++[wB g]++us 17,[(0,(.box 27 [vI h,vI i,vI j,(.v .bool k),vI l,vI m,vI n,vI o,vI p,(.v .bool q),.nl,.nl,.nl,.nl,.nl,.nl,.nl,.nl,.nl,.nl,.nl])),(1,(.box 27 [vI r,vI s,vI t,(.v .bool u),vI w,vI x,vI y,vI z,vI A,(.v .bool B),.nl,.nl,.nl,.nl,.nl,.nl,.nl,.nl,.nl,.nl,.nl]))],1000⟩
def kA.l5a (a:List ByteArray) (b c:Int) (d:List ByteArray) (e f:Int) (g:Bool) (h i j:Int) (k:Bool) (l m n o p:Int) (q:Bool) (r:d27):Option tz5:=PL E 33 5 ⟨[U,U,wP 0 0,U,U,(.lf (.v (.row 9 .str) a)),U,U,wP 1 0,U,wI b,U,wI c]++us 11++[(.lf (.v (.row 9 .str) d)),wI e,wI f]++us 38++[wB g]++us 17,[(0,(.box 27 [vI h,vI i,vI j,(.v .bool k),vI l,vI m,vI n,vI o,vI p,(.v .bool q),.nl,.nl,.nl,.nl,.nl,.nl,.nl,.nl,.nl,.nl,.nl])),(1,(.box 27 (lv27 r)))],1000⟩
def kA.l1a (a:List ByteArray) (b:Int) (c:List ByteArray) (d e f g h:Int) (i:Bool) (j k l m n:Int) (o:Bool) (p:d27):Option tz5:=PL E 33 1 ⟨[U,U,wP 0 0,U,U,(.lf (.v (.row 9 .str) a)),U,U,wP 1 0,wI b]++us 14++[(.lf (.v (.row 9 .str) c)),wI d,wI e]++us 56,[(0,(.box 27 [vI f,vI g,vI h,(.v .bool i),vI j,vI k,vI l,vI m,vI n,(.v .bool o),.nl,.nl,.nl,.nl,.nl,.nl,.nl,.nl,.nl,.nl,.nl])),(1,(.box 27 (lv27 p)))],1000⟩
def kA.l2a (a:List ByteArray) (b:Int) (c:ByteArray) (d:Int) (e:List ByteArray) (f g h i j:Int) (k:Bool) (l m n o p:Int) (q:Bool) (r:d27):Option tz5:=PL E 33 2 ⟨[U,U,wP 0 0,U,U,(.lf (.v (.row 9 .str) a)),U,U,wP 1 0,U,wI b,(.lf (.v .str c)),wI d]++us 11++[(.lf (.v (.row 9 .str) e)),wI f,wI g]++us 56,[(0,(.box 27 [vI h,vI i,vI j,(.v .bool k),vI l,vI m,vI n,vI o,vI p,(.v .bool q),.nl,.nl,.nl,.nl,.nl,.nl,.nl,.nl,.nl,.nl,.nl])),(1,(.box 27 (lv27 r)))],1000⟩
def kA.l3a (a:List ByteArray) (b:Int) (c:ByteArray) (d:Int) (e:List ByteArray) (f g:Int) (h:Bool) (i j k:Int) (l:Bool) (m n o p q:Int) (r:Bool) (s:d27):Option tz5:=PL E 33 3 ⟨[U,U,wP 0 0,U,U,(.lf (.v (.row 9 .str) a)),U,U,wP 1 0,U,wI b,(.lf (.v .str c)),wI d]++us 11++[(.lf (.v (.row 9 .str) e)),wI f,wI g]++us 17++[wB h]++us 38,[(0,(.box 27 [vI i,vI j,vI k,(.v .bool l),vI m,vI n,vI o,vI p,vI q,(.v .bool r),.nl,.nl,.nl,.nl,.nl,.nl,.nl,.nl,.nl,.nl,.nl])),(1,(.box 27 (lv27 s)))],1000⟩
def kA.l4a (a:List ByteArray) (b:Int) (c:ByteArray) (d:Int) (e:List ByteArray) (f g h i j:Int) (k:Bool) (l m n o p:Int) (q:Bool) (r:d27):Option tz5:=PL E 33 4 ⟨[U,U,wP 0 0,U,U,(.lf (.v (.row 9 .str) a)),U,U,wP 1 0,U,wI b,(.lf (.v .str c)),wI d]++us 11++[(.lf (.v (.row 9 .str) e)),wI f,wI g]++us 56,[(0,(.box 27 [vI h,vI i,vI j,(.v .bool k),vI l,vI m,vI n,vI o,vI p,(.v .bool q),.nl,.nl,.nl,.nl,.nl,.nl,.nl,.nl,.nl,.nl,.nl])),(1,(.box 27 (lv27 r)))],1000⟩
def yB.f :Option (Bool×Unit):=RN E 12 ()
def yF.f (a:d25):Option (Bool×Unit):=RN E 41 (a,())
def bE.f (a:d27):Option (Bool×Unit):=RN E 13 (a,())
def wF.f (a:Int×tz2×(List d114)×Int×Unit):Option (Bool×Unit):=RN E 42 (a,())
def uA.f (a:List tz3):Option (Bool×Unit):=RN E 14 (a,())
def uA.l1 (a:List tz3) (b:Int):Option (Bool×Unit):=PL E 14 1 ⟨[(.lf (.v (.row 48 ty8) a)),U,U,wI b]++us 19,[],1000⟩
def uA.l2 (a:List tz3) (b:Int) (c:Bool):Option (Bool×Unit):=PL E 14 2 ⟨[(.lf (.v (.row 48 ty8) a)),U,U,wI b,U,U,U,U,U,U,U,wB c]++us 11,[],1000⟩
def uA.l3 (a:List tz3):Option (Bool×Unit):=PL E 14 3 ⟨[(.lf (.v (.row 48 ty8) a))]++us 22,[],1000⟩
def cF.f (a:Int):Option (Bool×Unit):=RN E 44 (a,())
def bD.f (a:List Int):Option (Bool×Unit):=RN E 162 (a,())
def bD.l1 (a:List Int) (b:Int):Option (Bool×Unit):=PL E 162 1 ⟨[(.lf (.v ty1 a)),U,U,wI b]++us 16,[],1000⟩
def xA.f (a:List Int) (b c:Int) (d:Bool):Option (Bool×Unit):=RN E 99 (a,b,c,d,())
def xA.l1 (a:List Int) (b c:Int) (d:Bool) (e:Int):Option (Bool×Unit):=PL E 99 1 ⟨[(.lf (.v ty1 a)),wI b,wI c,wB d,U,U,U,U,U,wI e]++us 38,[],1000⟩
def xA.l2 (a:List Int) (b c:Int) (d:Bool) (e:Int) (f:Bool):Option (Bool×Unit):=PL E 99 2 ⟨[(.lf (.v ty1 a)),wI b,wI c,wB d,U,U,U,U,U,wI e]++us 30++[wB f]++us 7,[],1000⟩
def vA.f (a:List (Int×Int×Unit)):Option (Bool×Unit):=RN E 100 (a,())
def vA.l1 (a:List (Int×Int×Unit)) (b:Int):Option (Bool×Unit):=PL E 100 1 ⟨[(.lf (.v (.row 138 ty3) a)),U,U,wI b]++us 85,[],1000⟩
def vA.l2 (a:List (Int×Int×Unit)) (b:Int) (c:Bool):Option (Bool×Unit):=PL E 100 2 ⟨[(.lf (.v (.row 138 ty3) a)),U,U,wI b]++us 81++[wB c]++us 3,[],1000⟩
def cC.f (a:List (Int×Int×Unit)):Option (Bool×Unit):=RN E 101 (a,())
def cC.l1 (a:List (Int×Int×Unit)) (b:Int):Option (Bool×Unit):=PL E 101 1 ⟨[(.lf (.v (.row 138 ty3) a)),U,U,wI b]++us 12,[],1000⟩
def bA.f (a:d25):Option (Bool×Unit):=RN E 43 (a,())
def bA.l1 (a:Bool) (b:d25):Option (Bool×Unit):=PL E 43 1 ⟨[U,wP 0 0]++us 39++[wB a]++us 189,[(0,(.box 25 (lv25 b)))],1000⟩
def bA.l2 (a:Bool) (b:d25):Option (Bool×Unit):=PL E 43 2 ⟨[U,wP 0 0]++us 62++[wB a]++us 166,[(0,(.box 25 (lv25 b)))],1000⟩
def bA.l3 (a:d25):Option (Bool×Unit):=PL E 43 3 ⟨[U,wP 0 0]++us 229,[(0,(.box 25 (lv25 a)))],1000⟩
def bA.l4 (a:Bool) (b:d25):Option (Bool×Unit):=PL E 43 4 ⟨[U,wP 0 0]++us 114++[wB a]++us 114,[(0,(.box 25 (lv25 b)))],1000⟩
def bA.l5 (a:Bool) (b:d25):Option (Bool×Unit):=PL E 43 5 ⟨[U,wP 0 0]++us 150++[wB a]++us 78,[(0,(.box 25 (lv25 b)))],1000⟩
def bA.l6 (a:d25):Option (Bool×Unit):=PL E 43 6 ⟨[U,wP 0 0]++us 229,[(0,(.box 25 (lv25 a)))],1000⟩
def bA.l7 (a:Bool) (b:d25):Option (Bool×Unit):=PL E 43 7 ⟨[U,wP 0 0]++us 169++[wB a]++us 59,[(0,(.box 25 (lv25 b)))],1000⟩
def bA.l8 (a:d25):Option (Bool×Unit):=PL E 43 8 ⟨[U,wP 0 0]++us 229,[(0,(.box 25 (lv25 a)))],1000⟩
def bA.l9 (a:Bool) (b:d25):Option (Bool×Unit):=PL E 43 9 ⟨[U,wP 0 0]++us 208++[wB a]++us 20,[(0,(.box 25 (lv25 b)))],1000⟩
def bA.l10 (a:d25):Option (Bool×Unit):=PL E 43 10 ⟨[U,wP 0 0]++us 229,[(0,(.box 25 (lv25 a)))],1000⟩
def qG.f (a:d25) (b:Int):Option (Bool×Unit):=RN E 110 (a,b,())
def tI.f (a b:Int):Option (Int×Unit):=RN E 193 (a,b,())
def eI.f (a:Int):Option (Int×Int×Unit):=RN E 150 (a,())
def lF.f (a:List Int):Option ((List Int)×Unit):=RN E 28 (a,())
def jD.f (a:Int):Option ((List Int)×Unit):=RN E 221 (a,())
def jD.l1 (a b:Int) (c:List Int):Option ((List Int)×Unit):=PL E 221 1 ⟨[wI a,U,U,(.lf (.o 0)),wI b]++us 10,[(0,(.row 3 ty0 c))],1000⟩
def rD.f (a:List Int) (b:Bool) (c d:Int):Option ((List Int)×Unit):=RN E 164 (a,b,c,d,())
def aF.f (a:d25) (b:Int):Option ((List Int)×(List Int)×(List Int)×Unit):=RN E 102 (a,b,())
def zB.f (a:d25) (b c:Int):Option (Int×Unit):=RN E 45 (a,b,c,())
def zB.l1 (a b:Int) (c:Bool):Option (Int×Unit):=PL E 45 1 ⟨[U,U,wI a,U,U,U,U,U,U,U,wI b]++us 26++[wB c]++us 7,[],1000⟩
def zB.l2 (a b:Int):Option (Int×Unit):=PL E 45 2 ⟨[U,U,wI a,U,U,U,U,U,U,U,wI b]++us 34,[],1000⟩
def aC.f (a:d27) (b:Int):Option (Bool×Unit):=RN E 15 (a,b,())
def aC.l1 (a:Int) (b:Bool) (c:d27):Option (Bool×Unit):=PL E 15 1 ⟨[U,wI a,wP 0 0]++us 21++[wB b]++us 12,[(0,(.box 27 (lv27 c)))],1000⟩
def oD.f (a:List Int) (b:Int):Option (Bool×Unit):=RN E 25 (a,b,())
def oD.l1 (a:List Int) (b c:Int):Option (Bool×Unit):=PL E 25 1 ⟨[(.lf (.v ty1 a)),wI b,U,U,U,wI c]++us 12,[],1000⟩
def aA.f (a:d27) (b:List tz3) (c:Int):Option (Bool×Unit):=RN E 4 (a,b,c,())
def aA.l1 (a:List tz3) (b:Int) (c:Bool) (d:d27):Option (Bool×Unit):=PL E 4 1 ⟨[U,(.lf (.v (.row 48 ty8) a)),wI b,wP 0 0]++us 28++[wB c]++us 166,[(0,(.box 27 (lv27 d)))],1000⟩
def aA.l2 (a:List tz3) (b:Int) (c:List (Int×Int×Unit)) (d:Bool) (e:d27):Option (Bool×Unit):=PL E 4 2 ⟨[U,(.lf (.v (.row 48 ty8) a)),wI b,wP 0 0,U,U,U,(.lf (.v (.row 50 ty3) c))]++us 41++[wB d]++us 149,[(0,(.box 27 (lv27 e)))],1000⟩
def aA.l3 (a:List tz3) (b:Int) (c:List (Int×Int×Unit)) (d:List Int) (e:Int) (f:d27) (g:List Int):Option (Bool×Unit):=PL E 4 3 ⟨[U,(.lf (.v (.row 48 ty8) a)),wI b,wP 0 0,U,U,U,(.lf (.v (.row 50 ty3) c)),U,(.lf (.v ty1 d)),U,(.lf (.o 1)),wI e]++us 186,[(0,(.box 27 (lv27 f))),(1,(.row 3 ty0 g))],1000⟩
def aA.l4 (a:List tz3) (b:Int) (c:List (Int×Int×Unit)) (d:List Int) (e:Int) (f:Bool) (g:d27) (h:List Int):Option (Bool×Unit):=PL E 4 4 ⟨[U,(.lf (.v (.row 48 ty8) a)),wI b,wP 0 0,U,U,U,(.lf (.v (.row 50 ty3) c)),U,(.lf (.v ty1 d)),U,(.lf (.o 1)),wI e]++us 59++[wB f]++us 126,[(0,(.box 27 (lv27 g))),(1,(.row 3 ty0 h))],1000⟩
def aA.l5 (a:Int) (b:List (Int×Int×Unit)) (c:List Int) (d:d27) (e:List Int):Option (Bool×Unit):=PL E 4 5 ⟨[U,U,wI a,wP 0 0,U,U,U,(.lf (.v (.row 50 ty3) b)),U,(.lf (.v ty1 c)),U,(.lf (.o 1))]++us 187,[(0,(.box 27 (lv27 d))),(1,(.row 3 ty0 e))],1000⟩
def aA.l6 (a:Int) (b:List (Int×Int×Unit)) (c:List Int) (d:Int) (e:d27) (f:List Int):Option (Bool×Unit):=PL E 4 6 ⟨[U,U,wI a,wP 0 0,U,U,U,(.lf (.v (.row 50 ty3) b)),U,(.lf (.v ty1 c)),U,(.lf (.o 1)),U,wI d]++us 185,[(0,(.box 27 (lv27 e))),(1,(.row 3 ty0 f))],1000⟩
def aA.l7 (a:Int) (b:List (Int×Int×Unit)) (c:List Int) (d:Int) (e:Bool) (f:d27) (g:List Int):Option (Bool×Unit):=PL E 4 7 ⟨[U,U,wI a,wP 0 0,U,U,U,(.lf (.v (.row 50 ty3) b)),U,(.lf (.v ty1 c)),U,(.lf (.o 1)),U,wI d]++us 135++[wB e]++us 49,[(0,(.box 27 (lv27 f))),(1,(.row 3 ty0 g))],1000⟩
def aA.l8 (a:Int) (b:List (Int×Int×Unit)) (c:Int) (d:d27) (e:List Int):Option (Bool×Unit):=PL E 4 8 ⟨[U,U,wI a,wP 0 0,U,U,U,(.lf (.v (.row 50 ty3) b)),U,U,U,(.lf (.o 1)),U,U,wI c]++us 184,[(0,(.box 27 (lv27 d))),(1,(.row 3 ty0 e))],1000⟩
def aA.l9 (a:Int) (b:List (Int×Int×Unit)) (c:Int) (d:Bool) (e:Int) (f:d27) (g:List Int):Option (Bool×Unit):=PL E 4 9 ⟨[U,U,wI a,wP 0 0,U,U,U,(.lf (.v (.row 50 ty3) b)),U,U,U,(.lf (.o 1)),U,U,wI c,wB d,wI e]++us 182,[(0,(.box 27 (lv27 f))),(1,(.row 3 ty0 g))],1000⟩
def nA.f (a:List tz3) (b c d e:Int):Option (Bool×Unit):=RN E 6 (a,b,c,d,e,())
def nA.l1 (a:List tz3) (b c d e:Int) (f:List (Int×Int×Unit)) (g:Bool) (h i j:Int) (k:Bool) (l m n o p:Int) (q:Bool):Option (Bool×Unit):=PL E 6 1 ⟨[(.lf (.v (.row 48 ty8) a)),wI b,wI c,wI d,wI e,U,U,U,U,U,U,wP 0 0,(.lf (.v (.row 50 ty3) f))]++us 34++[wB g]++us 82,[(0,(.box 27 [vI h,vI i,vI j,(.v .bool k),vI l,vI m,vI n,vI o,vI p,(.v .bool q),.nl,.nl,.nl,.nl,.nl,.nl,.nl,.nl,.nl,.nl,.nl]))],1000⟩
def nA.l2 (a b:Int) (c:List (Int×Int×Unit)) (d:Bool):Option (Bool×Unit):=PL E 6 2 ⟨[U,U,U,wI a]++us 10++[wI b,(.lf (.v (.row 50 ty3) c))]++us 99++[wB d]++us 14,[],1000⟩
def nA.l3 (a b:Int) (c:List (Int×Int×Unit)):Option (Bool×Unit):=PL E 6 3 ⟨[U,U,U,wI a]++us 10++[wI b,(.lf (.v (.row 50 ty3) c))]++us 114,[],1000⟩
def iA.f (a:d27) (b:List tz3) (c d:Int):Option (Bool×Unit):=RN E 7 (a,b,c,d,())
def iA.l1 (a:List tz3) (b c:Int) (d:Bool) (e:d27):Option (Bool×Unit):=PL E 7 1 ⟨[U,(.lf (.v (.row 48 ty8) a)),wI b,wI c,wP 0 0]++us 32++[wB d]++us 99,[(0,(.box 27 (lv27 e)))],1000⟩
def iA.l2 (a b:Int) (c d:List (Int×Int×Unit)) (e:Bool):Option (Bool×Unit):=PL E 7 2 ⟨[U,U,wI a,wI b,U,U,U,U,U,(.lf (.v (.row 50 ty3) c)),U,(.lf (.v (.row 50 ty3) d))]++us 48++[wB e]++us 76,[],1000⟩
def iA.l3 (a b:Int) (c d:List (Int×Int×Unit)) (e:Int):Option (Bool×Unit):=PL E 7 3 ⟨[U,U,wI a,wI b,U,U,U,U,U,(.lf (.v (.row 50 ty3) c)),U,(.lf (.v (.row 50 ty3) d)),U,wI e]++us 123,[],1000⟩
def iA.l4 (a b:Int) (c d:List (Int×Int×Unit)) (e:Int) (f:Bool):Option (Bool×Unit):=PL E 7 4 ⟨[U,U,wI a,wI b,U,U,U,U,U,(.lf (.v (.row 50 ty3) c)),U,(.lf (.v (.row 50 ty3) d)),U,wI e]++us 102++[wB f]++us 20,[],1000⟩
end
end Go.GV.YtidgapgbnlcjgaaGreatDoor

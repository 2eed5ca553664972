/-
Part of the words that MeetTexts is proved with: no statement of its own, no conditions.
-/
import Derived.Test.YtegmfagkklekaaaGreatDoorFMeetTextsk
import Derived.Test.YtegmfagkklekaaaGreatDoorProg
import Derived.KernelRfl
import Derived.Laws.Externs
import Derived.Shelf.RegionOpenPlain
import Derived.Deep.LoopGhost
import Derived.Lib.Walk
import Derived.Lib.SliceRun
set_option linter.unusedVariables false
set_option linter.unusedSimpArgs false
namespace Go.GV.YtegmfagkklekaaaGreatDoor
open Go.Proofs
abbrev ty0 :Ty:=.int .i64
abbrev ty1 :Ty:=.row 3 ty0
abbrev ty2 :Ty:=.st (.cons ty0 (.cons ty0 (.cons ty0 (.cons ty0 (.cons ty0 (.cons .bool (.cons ty1 (.cons ty1 (.cons ty1 (.cons ty1 (.cons (.row 30 (.st (.cons ty0 (.cons ty0 .nil)))) (.cons ty1 (.cons ty1 (.cons ty1 (.cons ty1 .nil)))))))))))))))
abbrev ty3 :Ty:=.st (.cons ty0 (.cons ty0 .nil))
abbrev ty4 :Ty:=.st (.cons ty0 (.cons ty0 (.cons ty0 (.cons ty0 (.cons ty0 .nil)))))
abbrev ty5 :Ty:=.st (.cons ty2 (.cons ty0 (.cons ty4 (.cons ty0 .nil))))
abbrev ty6 :Ty:=.st (.cons ty2 (.cons ty5 (.cons ty0 (.cons ty1 (.cons ty1 (.cons ty1 .nil))))))
abbrev ty7 :Ty:=.st (.cons ty0 (.cons ty0 (.cons ty0 (.cons .bool (.cons ty2 (.cons ty1 (.cons ty1 .nil)))))))
abbrev ty8 :Ty:=.st (.cons ty0 (.cons (.row 70 ty3) (.cons (.row 160 ty4) (.cons ty0 .nil))))
abbrev ty9 :Ty:=.st (.cons ty0 (.cons ty0 (.cons .bool (.cons (.int .u8) .nil))))
abbrev ty10 :Ty:=.st (.cons .str (.cons (.int .u64) .nil))
noncomputable section
abbrev U :Slot:=.lf .u
abbrev us (n:Nat):List Slot:=List.replicate n U
abbrev d97 :Type:=Int×Int×Int×Int×Int×Unit
abbrev d25 :Type:=Int×Int×Int×Int×Int×Bool×(List Int)×(List Int)×(List Int)×(List Int)×(List (Int×Int×Unit))×(List Int)×(List Int)×(List Int)×(List Int)×Unit
abbrev d46 :Type:=Int×Int×Int×Bool×d25×(List Int)×(List Int)×Unit
abbrev d101 :Type:=d25×(d25×Int×d97×Int×Unit)×Int×(List Int)×(List Int)×(List Int)×Unit
abbrev tz0 :Type:=Int×Int×Int×Bool×Int×Int×Int×Int×Int×Bool×(List Int)×(List Int)×(List Int)×(List Int)×(List (Int×Int×Unit))×(List Int)×(List Int)×(List Int)×(List Int)×(List Int)×(List Int)×Unit
abbrev tz1 :Type:=(Int×Unit)×(Int×Unit)×((((List Int)×Unit)×(Int×Unit)×Unit)×Unit)×Unit
abbrev tz2 :Type:=List (Int×Int×Unit)
abbrev tz3 :Type:=(List Int)×Int×Unit
abbrev tz4 :Type:=(((List Int)×Unit)×(Int×Unit)×Unit)×Unit
abbrev tz5 :Type:=(List ByteArray)×Int×Int×Unit
abbrev tz6 :Type:=ByteArray×Int×Unit
abbrev tz7 :Type:=d46×Int×Int×Unit
abbrev tz8 :Type:=(List ByteArray)×Unit
abbrev tz9 :Type:=Int×Int×Int×Int×Unit
abbrev tz10 :Type:=(List Int)×Bool×Unit
abbrev tz11 :Type:=d25×Int×Int×Unit
abbrev tz12 :Type:=(List Int)×(tz0×(Int×Unit)×Unit)×Unit
abbrev tz13 :Type:=(List Int)×Unit×Unit
abbrev tz14 :Type:=(Int×Int×Unit)×Bool×Unit
abbrev tz15 :Type:=Bool×(Int×Unit)×(Int×Unit)×tz4×Unit
abbrev tz16 :Type:=ByteArray×ByteArray×ByteArray×Bool×Unit
def c63 :FnD:=fD 63 (.cons sI .nil) (.cons sB .nil) 9 [.tmp 2] Tryz.f63 .no
def c50 :FnD:=fD 50 (.cons (.val ty2) .nil) (.cons sB .nil) 54 [.tmp 2] Tryz.f50 (nx (.two (nx (.at_ 1 [(1,.as),(40,.as)] .no)) .no))
def c119 :FnD:=fD 119 (.cons (.val ty1) (.cons sI (.cons sI (.cons sB .nil)))) (.cons sB .nil) 51 [.tmp 8] Tryz.f119 (nx (.two (nx (.two (.at_ 1 (aa [0,1,2,3,11,12,13]) (nx (nx (.two (.two (nx (nx (.at_ 2 (aa [0,1,2,3,11,12,13,46]) .no))) .no) .no)))) .no)) .no))
def c186 :FnD:=fD 186 (.cons (.val ty3) (.cons (.val ty3) .nil)) (.cons sI .nil) 20 [.tmp 4] Tryz.f186 .no
def c120 :FnD:=fD 120 (.cons (.val ty2) .nil) (.cons sB .nil) 72 [.tmp 2] Tryz.f120 (nx (.two (nx (.two (.at_ 1 (aa [1,6,7,8]) (nx (nx (.two (.two (nx (.two (nx (.at_ 2 (aa [1,4,6,7,8,13]) (nx (nx (.at_ 3 (aa [1,6,7,8,47]) .no))))) .no)) .no) .no)))) .no)) .no))
def c51 :FnD:=fD 51 (.cons (.val ty2) .nil) (.cons sB .nil) 45 [.tmp 2] Tryz.f51 .no
def c11 :FnD:=fD 11 (.cons (.val ty2) .nil) (.cons sB .nil) 106 [.tmp 2] Tryz.f11 (nx (.two (nx (.at_ 1 [(1,.as),(11,.as)] .no)) (.two (.two (nx (.at_ 2 [(1,.as),(12,.as)] (nx (nx (.at_ 3 [(1,.as),(22,.as)] (nx (nx (.at_ 4 [(1,.as),(37,.as)] .no)))))))) .no) (.at_ 5 [(1,.as)] (nx (.two (nx (.at_ 6 [(1,.as),(85,.as)] .no)) (.at_ 7 [(1,.as)] .no)))))))
def c298 :FnD:={ fid:=298,par:=(.cons sS .nil),res:=(.cons sI .nil),n:=10,rv:=[.tmp 2],body:=none,an:=.no }
def c299 :FnD:={ fid:=299,par:=(.cons sS .nil),res:=(.cons (.val (.int .i32)) (.cons sI .nil)),n:=19,rv:=[.tmp 2,.tmp 3],body:=none,an:=.no }
def c242 :FnD:=fD 242 (.cons sS (.cons sI .nil)) (.cons (.val (.row 9 .str)) .nil) 50 [.tmp 4] Tryz.f242 (nx (nx (nx (nx (.two (nx (.two (.at_ 1 (aa [0,1,6,7]) .no) .no)) .no)))))
def c338 :FnD:=iJ 338
def c301 :FnD:=fD 301 (.cons sS (.cons (.val (.int .u8)) .nil)) (.cons sI .nil) 8 [.tmp 4] Tryz.f301 .no
def c245 :FnD:=fD 245 (.cons sS (.cons sS .nil)) (.cons sI .nil) 143 [.tmp 4] Tryz.f245 (nx (nx (nx (nx (nx (nx (nx (nx (.two (.two (.at_ 1 (aa [0,1,5,6,7,8,9,10]) .no) .no) .no)))))))))
def c244 :FnD:=fD 244 (.cons sS (.cons sS .nil)) (.cons sI .nil) 8 [.tmp 4] Tryz.f244 .no
def c300 :FnD:=jN 300
def c243 :FnD:=fD 243 (.cons sS (.cons sS .nil)) (.cons sI .nil) 34 [.tmp 4] Tryz.f243 (nx (nx (nx (nx (.two (.at_ 1 (aa [0,1,5]) .no) .no)))))
def c179 :FnD:=fD 179 (.cons sS (.cons sS (.cons sI (.cons sI .nil)))) (.cons (.val (.row 9 .str)) .nil) 66 [.tmp 8] Tryz.f179 (nx (nx (nx (nx (.at_ 1 (aa [0,1,2,3]) (nx (nx (nx (nx (.two (.two (.at_ 2 (aa [0,1,2,3,9,10]) .no) .no) .no))))))))))
def c115 :FnD:=fD 115 (.cons sS (.cons sS .nil)) (.cons (.val (.row 9 .str)) .nil) 8 [.tmp 4] Tryz.f115 .no
def c180 :FnD:=fD 180 (.cons sS (.cons sS .nil)) (.cons sS (.cons sS (.cons sB .nil))) 23 [.tmp 4,.tmp 5,.tmp 6] Tryz.f180 .no
def c116 :FnD:=fD 116 (.cons sS (.cons sS .nil)) (.cons sS (.cons sS (.cons sB .nil))) 13 [.tmp 4,.tmp 5,.tmp 6] Tryz.f116 .no
def c181 :FnD:=fD 181 (.cons (.val (.row 9 .str)) (.cons sS .nil)) (.cons sI .nil) 19 [.tmp 4] Tryz.f181 (nx (.two (nx (.two (.at_ 1 (aa [0,1,7,8]) .no) .no)) .no))
def c117 :FnD:=fD 117 (.cons (.val (.row 9 .str)) (.cons sS .nil)) (.cons sB .nil) 9 [.tmp 4] Tryz.f117 .no
def c52 :FnD:=fD 52 .nil (.cons (.val (.row 9 .str)) .nil) 2 [.tmp 0] Tryz.f52 .no
def c59 :FnD:=fD 59 .nil (.cons (.val (.row 9 .str)) .nil) 2 [.tmp 0] Tryz.f59 .no
def c126 :FnD:=fD 126 (.cons sS .nil) (.cons sI (.cons sB .nil)) 31 [.tmp 2,.tmp 3] Tryz.f126 (nx (nx (.two (nx (.two (.at_ 1 (aa [0,4,7,8]) (nx (nx (.two (.two (nx (.two (nx (.at_ 2 (aa [0,4,5,7,8,20]) .no)) .no)) .no) .no)))) .no)) .no)))
def c191 :FnD:=fD 191 (.cons sI (.cons sI (.cons sI .nil))) (.cons sI .nil) 36 [.tmp 6] Tryz.f191 .no
def c251 :FnD:=fD 251 (.cons sI .nil) (.cons sB .nil) 16 [.tmp 2] Tryz.f251 .no
def c192 :FnD:=fD 192 (.cons sI (.cons sI .nil)) (.cons sI .nil) 23 [.tmp 4] Tryz.f192 (nx (.two (nx (.two (nx (.at_ 1 (aa [0,5,6]) (nx (nx (nx (nx (.at_ 2 [(15,.as)] .no))))))) .no)) .no))
def c287 :FnD:=fD 287 (.cons sI .nil) (.cons sB .nil) 9 [.tmp 2] Tryz.f287 .no
def c258 :FnD:=fD 258 (.cons sI (.cons sI (.cons sI .nil))) (.cons sB .nil) 20 [.tmp 6] Tryz.f258 .no
def c195 :FnD:=fD 195 (.cons sI (.cons sI (.cons sI .nil))) (.cons sI (.cons sI .nil)) 17 [.tmp 6,.tmp 7] Tryz.f195 .no
def c127 :FnD:=fD 127 (.cons sI (.cons sI (.cons sI (.cons sI (.cons sI (.cons sI .nil)))))) (.cons sI (.cons sI .nil)) 59 [.tmp 12,.tmp 13] Tryz.f127 (nx (nx (.two (nx (.at_ 1 (aa [3,4,5,14,48]) .no)) .no)))
def b62 :Code:=Tryz.f62.body.getD .skip
def c62 :FnD:=fD 62 (.cons sS .nil) (.cons sI (.cons sI .nil)) 56 [.tmp 2,.tmp 3] Tryz.f62 (nx (.two (.two (nx (nx (nx (.at_ 1 [(0,.as),(12,.as)] .no)))) .no) (nx (nx (.two (nx (.at_ 2 (aa [4,6,38]) .no)) .no)))))
def c57 :FnD:=bH1 57
def c236 :FnD:=eF1 236
def c168 :FnD:=fD 168 (.cons sS (.cons sS .nil)) (.cons sB .nil) 18 [.tmp 4] Tryz.f168 .no
def c294 :FnD:=fD 294 (.cons sS (.cons sS .nil)) (.cons sS .nil) 13 [.tmp 4] Tryz.f294 .no
def c237 :FnD:=fD 237 (.cons sS (.cons sS .nil)) (.cons sS .nil) 8 [.tmp 4] Tryz.f237 .no
def c182 :FnD:=fD 182 (.cons sS .nil) (.cons sI (.cons sB .nil)) 26 [.tmp 2,.tmp 3] Tryz.f182 .no
def c246 :FnD:=fD 246 (.cons sS .nil) (.cons (.val ty3) (.cons sB .nil)) 47 [.cell 2 30,.tmp 3] Tryz.f246 .no
def c248 :FnD:=fD 248 (.cons (.mv 30 ty3) .nil) (.cons (.own 30 ty3) .nil) 61 [.tmp 2] Tryz.f248 (nx (.two (nx (.two (nx (.at_ 1 [(2,.own 30 ty3)] .no)) .no)) (.two (nx (.two (.at_ 2 [(0,.as),(3,.as)] (nx (.two (.two (nx (.two (nx (.two (nx (.two (.at_ 3 (aa [0,3,4,5]) .no) .no)) (nx (nx (.at_ 4 [(2,.own 30 ty3)] .no))))) .no)) .no) .no))) .no)) (nx (.at_ 5 [(2,.own 30 ty3)] .no)))))
def mR :FnD:=oM 247 30 ty3 186 (gN zI jA1 nX)
def c183 :FnD:=fD 183 (.cons sS .nil) (.cons (.val (.row 30 ty3)) (.cons sB .nil)) 35 [.tmp 2,.tmp 3] Tryz.f183 (nx (nx (.two (nx (.two (.at_ 1 ([(4,.own 30 ty3)]++aa [10,11,12]) .no) .no)) .no)))
def c77 :FnD:=lJ 77 3
def c79 :FnD:=fD 79 (.cons (.mv 3 ty0) .nil) (.cons (.own 3 ty0) .nil) 61 [.tmp 2] Tryz.f79 (nx (.two (nx (.two (nx (.at_ 1 [(2,.own 3 ty0)] .no)) .no)) (.two (nx (.two (.at_ 2 [(0,.as),(3,.as)] (nx (.two (.two (nx (.two (nx (.two (nx (.two (.at_ 3 (aa [0,3,4,5]) .no) .no)) (nx (nx (.at_ 4 [(2,.own 3 ty0)] .no))))) .no)) .no) .no))) .no)) (nx (.at_ 5 [(2,.own 3 ty0)] .no)))))
def c185 :FnD:=fD 185 (.cons sS .nil) (.cons (.val ty1) (.cons sB .nil)) 35 [.tmp 2,.tmp 3] Tryz.f185 (nx (nx (.two (nx (.two (.at_ 1 ([(4,.own 3 ty0)]++aa [10,11,12]) .no) .no)) .no)))
def c118 :FnD:=fD 118 (.cons (.box 25 (.cons sI (.cons sI (.cons sI (.cons sI (.cons sI (.cons sB (.cons (.val ty1) (.cons (.val ty1) (.cons (.val ty1) (.cons (.val ty1) (.cons (.val (.row 30 ty3)) (.cons (.val ty1) (.cons (.val ty1) (.cons (.val ty1) (.cons (.val ty1) .nil)))))))))))))))) (.cons sS (.cons sS .nil))) (.cons sB .nil) 98 [.tmp 6] Tryz.f118 (nx (nx (.two (nx (.two (nx (nx (nx (nx (nx (nx (nx (nx (nx (nx (nx (nx (nx (.at_ 1 (aa [2,7,10]) .no)))))))))))))) .no)) .no)))
def b49 :Code:=Tryz.f49.body.getD .skip
def c49 :FnD:=fD 49 (.cons sS .nil) (.cons (.val ty2) (.cons sI (.cons sI .nil))) 62 [.cell 2 25,.tmp 3,.tmp 4] Tryz.f49 (nx (nx (nx (nx (.two (nx (.two (.at_ 1 (aa [2,5]++[(6,.own 9 .str)]++aa [18,19,20]) (nx (nx (.two (.two (nx (nx (.two (nx (.at_ 2 (aa [2,5]++[(6,.own 9 .str)]++aa [7,9,18,19,20,43]) .no)) .no))) .no) .no)))) .no)) .no)))))
def c9 :FnD:=fD 9 .nil (.cons sB .nil) 88 [.tmp 0] Tryz.f9 .no
def c10 :FnD:=fD 10 (.cons (.val ty2) .nil) (.cons sB .nil) 55 [.tmp 2] Tryz.f10 .no
def c38 :FnD:=fD 38 (.cons (.val ty1) .nil) (.cons (.own 3 ty0) .nil) 6 [.tmp 2] Tryz.f38 (nx (nx (.at_ 1 [(2,.own 3 ty0)] .no)))
def c12 :FnD:=fD 12 (.cons (.val ty2) .nil) (.cons (.rcd (.cons sI (.cons sI (.cons sI (.cons sI (.cons sI (.cons sB (.cons (.own 3 ty0) (.cons (.own 3 ty0) (.cons (.own 3 ty0) (.cons (.own 3 ty0) (.cons (.own 30 ty3) (.cons (.own 3 ty0) (.cons (.own 3 ty0) (.cons (.own 3 ty0) (.cons (.own 3 ty0) .nil)))))))))))))))) .nil) 41 [.cell 2 25] Tryz.f12 .no
def b122 :Code:=Tryz.f122.body.getD .skip
def c122 :FnD:=fD 122 (.cons sI .nil) (.cons sI (.cons sI .nil)) 18 [.tmp 2,.tmp 3] Tryz.f122 .no
def c190 :FnD:=fD 190 (.cons sI .nil) (.cons sB .nil) 9 [.tmp 2] Tryz.f190 .no
def c123 :FnD:=fD 123 (.cons sI .nil) (.cons sI (.cons sI (.cons sI (.cons sI .nil)))) 56 [.tmp 2,.tmp 3,.tmp 4,.tmp 5] Tryz.f123 (nx (nx (nx (nx (.two (.two (.at_ 1 [(0,.as),(7,.as)] (.two (nx (.at_ 2 (aa [0,7,27]) .no)) .no)) .no) (.at_ 3 [(0,.as),(7,.as)] (.two (.two (.at_ 4 [(0,.as),(7,.as)] .no) .no) (nx (nx (.two (.two (.at_ 5 (aa [7,8,9]) .no) .no) .no))))))))))
def c193 :FnD:=kP 193
def c124 :FnD:=fD 124 (.cons sI (.cons sI .nil)) (.cons sS .nil) 16 [.tmp 4] Tryz.f124 .no
def c56 :FnD:=fD 56 (.cons sI .nil) (.cons sS (.cons sI .nil)) 46 [.tmp 2,.tmp 3] Tryz.f56 .no
def c121 :FnD:=fA1 121 9
def c58 :FnD:=fD 58 (.cons (.val (.row 30 ty3)) .nil) (.cons sS .nil) 33 [.tmp 2] Tryz.f58 (nx (nx (.two (nx (.two (.at_ 1 ([(3,.own 9 .str)]++aa [7,8,9]) (nx (nx (.two (.two (nx (nx (nx (.at_ 2 ([(3,.own 9 .str)]++aa [6,7,8,9]) .no)))) .no) .no)))) .no)) .no)))
def pO1 :FnD:=fD 53 (.cons sS (.cons sS (.cons sB (.cons (.box 9 (.cons sS .nil)) .nil)))) .nil 15 [] Tryz.f53 .no
def c55 :FnD:=fD 55 (.cons (.val ty1) .nil) (.cons sS .nil) 20 [.tmp 2] Tryz.f55 (nx (nx (.two (nx (.two (.at_ 1 ([(3,.own 9 .str)]++aa [6,7,8]) .no) .no)) .no)))
def tQ1 :FnD:={ fid:=54,par:=(.cons sS (.cons (.val ty1) (.cons (.box 86 (.cons (.fn 53 (.cons (.box 9 (.cons sS .nil)) .nil)) .nil)) .nil))),res:=.nil,n:=13,rv:=[],body:=Tryz.f54.body,an:=.no,idn:=true }
def c13 :FnD:=fD 13 (.cons (.val ty2) .nil) (.cons sS (.cons sI .nil)) 100 [.tmp 2,.tmp 3] Tryz.f13 .no
def c60 :FnD:=fD 60 (.cons (.val ty1) (.cons (.val ty1) .nil)) (.cons sB .nil) 26 [.tmp 4] Tryz.f60 (nx (nx (.two (nx (.two (.at_ 1 (aa [0,1,12,13]) .no) .no)) .no)))
def c61 :FnD:=fD 61 (.cons (.val (.row 30 ty3)) (.cons (.val (.row 30 ty3)) .nil)) (.cons sB .nil) 26 [.tmp 4] Tryz.f61 (nx (nx (.two (nx (.two (.at_ 1 (aa [0,1,12,13]) .no) .no)) .no)))
def c14 :FnD:=fD 14 (.cons (.val ty2) (.cons (.val ty2) .nil)) (.cons sB .nil) 106 [.tmp 4] Tryz.f14 (nx (.two (nx (.at_ 1 (aa [2,3,44]) .no)) .no))
def b3 :Code:=Tryz.f3.body.getD .skip
def c3 :FnD:=lawD 3 (.cons (.val ty2) (.cons sI .nil)) 96 [.tmp 4] Tryz.f3.body (nx (nx (.two (nx (.at_ 1 (aa [1,2,17]) .no)) (nx (nx (.at_ 2 [(2,.as),(5,.as)] .no))))))
def c290 :FnD:=fD 290 (.cons sI .nil) (.cons sI .nil) 8 [.tmp 2] Tryz.f290 .no
def c260 :FnD:=fD 260 (.cons sI .nil) (.cons (.val ty4) (.cons sB .nil)) 24 [.cell 2 97,.tmp 3] Tryz.f260 .no
def c197 :FnD:=fD 197 (.cons (.val ty2) (.cons sI .nil)) (.cons (.val ty5) (.cons sB .nil)) 34 [.cell 4 99,.tmp 5] Tryz.f197 (nx (.two (nx (.at_ 1 (aa [1,2,4,17]) .no)) .no))
def c76 :FnD:=sW 76 3 ty0
def c261 :FnD:=fD 261 (.cons (.val ty1) (.cons sB (.cons sI (.cons sI .nil)))) (.cons (.val ty1) .nil) 29 [.tmp 8] Tryz.f261 (nx (nx (nx (nx (.two (nx (.two (.at_ 1 [(9,.own 3 ty0),(19,.as),(20,.as)] .no) .no)) .no)))))
def c198 :FnD:=fD 198 (.cons (.val ty5) .nil) (.cons (.val ty1) (.cons (.val ty1) (.cons (.val ty1) .nil))) 36 [.tmp 2,.tmp 3,.tmp 4] Tryz.f198 .no
def c129 :FnD:=fD 129 (.cons (.val ty2) (.cons sI .nil)) (.cons (.val ty6) (.cons sB .nil)) 33 [.cell 4 101,.tmp 5] Tryz.f129 .no
def b65 :Code:=Tryz.f65.body.getD .skip
def c65 :FnD:=fD 65 (.cons (.val ty2) (.cons sI (.cons sI .nil))) (.cons (.val ty6) (.cons sB .nil)) 36 [.cell 6 101,.tmp 7] Tryz.f65 (nx (nx (.two (nx (.at_ 1 (aa [6,8,33]) .no)) .no)))
def c270 :FnD:=fD 270 (.cons sI (.cons sI .nil)) (.cons sI (.cons sI .nil)) 10 [.tmp 4,.tmp 5] Tryz.f270 .no
def c316 :FnD:=fD 316 (.cons sI .nil) (.cons sI .nil) 5 [.tmp 2] Tryz.f316 .no
def c289 :FnD:=fD 289 (.cons sI .nil) (.cons sB .nil) 9 [.tmp 2] Tryz.f289 .no
def c363 :FnD:=fD 363 (.cons sI (.cons sI .nil)) (.cons sI .nil) 24 [.tmp 4] Tryz.f363 .no
def c351 :FnD:=fD 351 (.cons sI (.cons sI .nil)) (.cons sI (.cons sI (.cons sI .nil))) 50 [.tmp 4,.tmp 5,.tmp 6] Tryz.f351 (nx (nx (.two (nx (.at_ 1 (aa [0,1,7,24]) .no)) (nx (.at_ 2 (aa [0,1,7]) .no)))))
def c317 :FnD:=fD 317 (.cons (.val ty2) (.cons (.val ty4) .nil)) (.cons sI .nil) 24 [.tmp 4] Tryz.f317 .no
def c318 :FnD:=fD 318 (.cons sI (.cons sI .nil)) (.cons sI .nil) 35 [.tmp 4] Tryz.f318 (nx (nx (nx (nx (.at_ 1 [(1,.as),(5,.as)] .no)))))
def c269 :FnD:=fD 269 (.cons (.val ty2) (.cons (.val ty4) .nil)) (.cons sI (.cons sI .nil)) 42 [.tmp 4,.tmp 5] Tryz.f269 .no
def b205 :Code:=Tryz.f205.body.getD .skip
def c205 :FnD:=fD 205 (.cons (.val ty5) (.cons sI .nil)) (.cons sI (.cons sI .nil)) 70 [.tmp 4,.tmp 5] Tryz.f205 .no
def c352 :FnD:=fD 352 (.cons sI (.cons sI .nil)) (.cons sI .nil) 14 [.tmp 4] Tryz.f352 .no
def c353 :FnD:=fD 353 (.cons sI (.cons sI .nil)) (.cons sI .nil) 18 [.tmp 4] Tryz.f353 .no
def c319 :FnD:=fD 319 (.cons (.val ty2) (.cons sI .nil)) (.cons sI .nil) 53 [.tmp 4] Tryz.f319 .no
def c271 :FnD:=fD 271 (.cons (.val ty5) (.cons sI .nil)) (.cons sI .nil) 15 [.tmp 4] Tryz.f271 .no
def b206 :Code:=Tryz.f206.body.getD .skip
def c206 :FnD:=fD 206 (.cons (.val ty6) (.cons sI .nil)) (.cons sB .nil) 14 [.tmp 4] Tryz.f206 .no
def c354 :FnD:=fD 354 (.cons (.val ty1) (.cons sI .nil)) (.cons sI .nil) 19 [.tmp 4] Tryz.f354 (nx (.two (nx (.two (.at_ 1 (aa [0,1,7,8]) .no) .no)) .no))
def c322 :FnD:=fD 322 (.cons (.val ty1) (.cons sI .nil)) (.cons sB .nil) 9 [.tmp 4] Tryz.f322 .no
def c323 :FnD:=fD 323 (.cons sI .nil) (.cons sI (.cons sI (.cons sI .nil))) 25 [.tmp 2,.tmp 3,.tmp 4] Tryz.f323 .no
def c324 :FnD:=fD 324 (.cons (.val ty1) (.cons sI (.cons sI .nil))) (.cons sB .nil) 23 [.tmp 6] Tryz.f324 .no
def c325 :FnD:=fD 325 (.cons (.val ty2) (.cons (.val ty4) .nil)) (.cons sB .nil) 83 [.tmp 4] Tryz.f325 (nx (nx (nx (nx (.two (nx (.at_ 1 (aa [2,3,6,8,35]) .no)) (.at_ 2 (aa [2,3,6,8]) (nx (.two (nx (.two (.at_ 3 (aa [3,9,10,54,55,56]) (nx (nx (.two (.two (nx (nx (.at_ 4 (aa [3,9,10,54,55,56,81]) .no))) .no) .no)))) .no)) .no))))))))
def c326 :FnD:=fD 326 (.cons (.val ty5) (.cons (.val ty4) .nil)) (.cons sB .nil) 75 [.tmp 4] Tryz.f326 .no
def c355 :FnD:=fD 355 (.cons sI (.cons sI .nil)) (.cons sI (.cons sI .nil)) 23 [.tmp 4,.tmp 5] Tryz.f355 .no
def c327 :FnD:=fD 327 (.cons (.val ty2) (.cons (.val ty4) .nil)) (.cons sB .nil) 39 [.tmp 4] Tryz.f327 .no
def c276 :FnD:=fD 276 (.cons (.val ty5) (.cons sI .nil)) (.cons sB .nil) 77 [.tmp 4] Tryz.f276 (nx (nx (.two (nx (.at_ 1 (aa [1,2,5,32]) .no)) (.at_ 2 (aa [1,2,5]) .no))))
def b208 :Code:=Tryz.f208.body.getD .skip
def c208 :FnD:=fD 208 (.cons (.val ty6) (.cons sI .nil)) (.cons sB .nil) 9 [.tmp 4] Tryz.f208 .no
def c220 :FnD:=fD 220 (.cons sI .nil) (.cons sB .nil) 6 [.tmp 2] Tryz.f220 .no
def c145 :FnD:=fD 145 (.cons sI (.cons sI .nil)) (.cons sB .nil) 17 [.tmp 4] Tryz.f145 .no
def c146 :FnD:=fD 146 (.cons sI .nil) (.cons sB .nil) 6 [.tmp 2] Tryz.f146 .no
def c81 :FnD:=fD 81 (.cons (.val ty1) (.cons sI .nil)) (.cons sI (.cons sB .nil)) 54 [.tmp 4,.tmp 5] Tryz.f81 (nx (nx (nx (.two (.two (.at_ 1 (aa [0,1,6,7,8]) .no) .no) .no))))
def c320 :FnD:=fD 320 (.cons (.val ty6) (.cons sI (.cons (.val ty1) .nil))) (.cons sB .nil) 39 [.tmp 6] Tryz.f320 .no
def c272 :FnD:=fD 272 (.cons (.val ty6) (.cons (.val ty1) .nil)) (.cons (.val ty1) .nil) 30 [.tmp 4] Tryz.f272 (nx (nx (nx (.two (nx (.two (.at_ 1 (aa [1,2]++[(5,.own 3 ty0)]++aa [14,15,16]) .no) .no)) .no))))
def c321 :FnD:=fD 321 (.cons (.val ty6) (.cons sI .nil)) (.cons sI (.cons sI .nil)) 43 [.tmp 4,.tmp 5] Tryz.f321 .no
def c275 :FnD:=fD 275 (.cons sI .nil) (.cons sB .nil) 3 [.tmp 2] Tryz.f275 .no
def nP1 :Code:=Tryz.f274.body.getD .skip
def iA1 :FnD:=fD 274 (.cons (.val ty6) (.cons sI (.cons sI (.cons sI (.cons sI (.cons (.fn 275 .nil) .nil)))))) (.cons (.val ty1) .nil) 105 [.tmp 12] Tryz.f274 (nx (nx (.two (nx (.two (.at_ 1 (aa [1,2,3,4,5,6]++[(13,.own 3 ty0)]++aa [23,24,25]) (nx (nx (.two (.two (nx (.two (nx (.at_ 2 (aa [1,2,3,4,5,6]++[(13,.own 3 ty0)]++aa [15,23,24,25,39]) .no)) (nx (.two (.at_ 3 (aa [1,2,3,4,5,6]++[(13,.own 3 ty0)]++aa [15,23,24,25,41,42,43]) (nx (nx (.two (.two (nx (nx (.two (nx (.at_ 4 (aa [1,2,3,4,5,6]++[(13,.own 3 ty0)]++aa [15,18,23,24,25,41,42,43,60]) .no)) (nx (.two (.at_ 5 (aa [1,2,3,4,5,6]++[(13,.own 3 ty0)]++aa [15,18,23,24,25,41,42,43,62,63,64]) (nx (nx (.two (.two (nx (nx (.two (nx (.at_ 6 (aa [1,2,3,4,5,6]++[(13,.own 3 ty0)]++aa [15,18,21,23,24,25,41,42,43,62,63,64,91]) .no)) .no))) .no) .no)))) .no))))) .no) .no)))) .no)))) .no) .no)))) .no)) .no)))
def c273 :FnD:=fD 273 (.cons (.val ty6) (.cons sI (.cons sI .nil))) (.cons (.val ty1) .nil) 57 [.tmp 6] Tryz.f273 (nx (nx (nx (nx (nx (.two (nx (.two (.at_ 1 (aa [2,3]++[(7,.own 3 ty0)]++aa [8,9,11,12]) (.two (nx (.at_ 2 (aa [2,3]++[(7,.own 3 ty0)]++aa [8,9,11,12,39]) .no)) .no)) .no)) .no))))))
def bT1 :FnD:=fD 130 (.cons sI (.cons (.box 22 (.cons (.own 3 ty0) .nil)) (.cons (.box 3 (.cons sI .nil)) .nil))) (.cons sB .nil) 13 [.tmp 4] Tryz.f130 .no
def cU1 :Code:=Tryz.f136.body.getD .skip
def sZ :FnD:={ fid:=136,par:=(.cons (.val ty1) (.cons (.box 3 (.cons sI .nil)) (.cons (.box 3 (.cons sI .nil)) (.cons (.box 94 (.cons (.fn 130 (.cons (.box 22 (.cons (.own 3 ty0) .nil)) (.cons (.box 3 (.cons sI .nil)) .nil))) .nil)) .nil)))),res:=(.cons sB .nil),n:=29,rv:=[.tmp 5],body:=Tryz.f136.body,an:=(nx (.two (nx (.two (.at_ 1 (aa [1,2,3,8,9,10]) (nx (nx (.two (.two (nx (nx (.at_ 2 (aa [1,2,3,8,9,10,27]) .no))) .no) .no)))) .no)) .no)),idn:=true }
def fS1 :FnD:={ fid:=207,par:=(.cons (.val ty6) (.cons sI (.cons sI (.cons sI (.cons sI (.cons sI (.cons (.fn 136 (.cons (.box 3 (.cons sI .nil)) (.cons (.box 3 (.cons sI .nil)) (.cons (.box 94 (.cons (.fn 130 (.cons (.box 22 (.cons (.own 3 ty0) .nil)) (.cons (.box 3 (.cons sI .nil)) .nil))) .nil)) .nil)))) .nil))))))),res:=(.cons sB .nil),n:=63,rv:=[.tmp 14],body:=Tryz.f207.body,an:=(nx (nx (nx (nx (.two (nx (.two (.at_ 1 (aa [3,6,7,17,19]) (nx (.two (.two (nx (.at_ 2 (aa [3,6,7,17,19,62]) .no)) .no) .no))) .no)) .no))))),idn:=true }
def dO1 :FnD:={ fid:=137,par:=(.cons (.val ty6) (.cons sI (.cons sI (.cons (.fn 136 (.cons (.box 3 (.cons sI .nil)) (.cons (.box 3 (.cons sI .nil)) (.cons (.box 94 (.cons (.fn 130 (.cons (.box 22 (.cons (.own 3 ty0) .nil)) (.cons (.box 3 (.cons sI .nil)) .nil))) .nil)) .nil)))) .nil)))),res:=.nil,n:=39,rv:=[],body:=Tryz.f137.body,an:=(nx (nx (.two (.at_ 1 (aa [1,2,3,4,8]) (nx (.two (nx (.two (nx (.at_ 2 (aa [1,2,3,4,10,35]) .no)) .no)) .no))) .no))),idn:=true }
def c328 :FnD:=fD 328 (.cons (.val ty6) (.cons sI .nil)) (.cons (.val ty1) .nil) 56 [.tmp 4] Tryz.f328 (nx (nx (nx (.two (nx (.two (.at_ 1 [(1,.as),(2,.as),(5,.own 3 ty0),(6,.as),(7,.as)] (nx (.two (.two (nx (.at_ 2 (aa [1,2]++[(5,.own 3 ty0)]++aa [6,7,48]) .no)) .no) .no))) .no)) .no))))
def iS1 :FnD:={ fid:=277,par:=(.cons (.val ty6) (.cons sI (.cons (.fn 136 (.cons (.box 3 (.cons sI .nil)) (.cons (.box 3 (.cons sI .nil)) (.cons (.box 94 (.cons (.fn 130 (.cons (.box 22 (.cons (.own 3 ty0) .nil)) (.cons (.box 3 (.cons sI .nil)) .nil))) .nil)) .nil)))) .nil))),res:=(.cons sB .nil),n:=58,rv:=[.tmp 6],body:=Tryz.f277.body,an:=(nx (.two (nx (.two (.at_ 1 (aa [1,2,3,14,15,16]) (nx (nx (.two (.two (nx (nx (nx (.two (.two (nx (nx (nx (.two (.two (nx (.two (.at_ 2 (aa [1,2,3,9,10,14,15,16,37,38,39]) .no) .no)) .no) .no)))) .no) (.at_ 3 (aa [1,2,3,10,14,15,16]) .no))))) .no) .no)))) .no)) .no)),idn:=true }
def aR1 :FnD:={ fid:=209,par:=(.cons (.val ty6) (.cons sI (.cons (.fn 136 (.cons (.box 3 (.cons sI .nil)) (.cons (.box 3 (.cons sI .nil)) (.cons (.box 94 (.cons (.fn 130 (.cons (.box 22 (.cons (.own 3 ty0) .nil)) (.cons (.box 3 (.cons sI .nil)) .nil))) .nil)) .nil)))) .nil))),res:=(.cons sB .nil),n:=71,rv:=[.tmp 6],body:=Tryz.f209.body,an:=(nx (.two (nx (.two (.at_ 1 (aa [1,2,3,16,17,18]) (nx (nx (.two (.two (nx (nx (nx (nx (nx (.two (nx (.two (.at_ 2 (aa [1,2,3,9]++[(10,.own 3 ty0)]++aa [16,17,18,40,41,42]) (nx (nx (.two (.two (nx (nx (.two (.at_ 3 (aa [1,2,3,9]++[(10,.own 3 ty0)]++aa [12,16,17,18,40,41,42,47,48,49]) .no) .no))) .no) .no)))) .no)) .no)))))) .no) .no)))) .no)) .no)),idn:=true }
def iP1 :FnD:={ fid:=138,par:=(.cons (.val ty6) (.cons sI (.cons sI (.cons (.fn 136 (.cons (.box 3 (.cons sI .nil)) (.cons (.box 3 (.cons sI .nil)) (.cons (.box 94 (.cons (.fn 130 (.cons (.box 22 (.cons (.own 3 ty0) .nil)) (.cons (.box 3 (.cons sI .nil)) .nil))) .nil)) .nil)))) .nil)))),res:=.nil,n:=40,rv:=[],body:=Tryz.f138.body,an:=(nx (nx (nx (nx (.two (.at_ 1 (aa [3,4,10,12]) (nx (.two (.two (nx (.at_ 2 (aa [3,4,10,12,39]) .no)) .no) .no))) .no))))),idn:=true }
def uR1 :FnD:=fD 70 (.cons (.val ty6) (.cons sI (.cons sI (.cons (.fn 130 (.cons (.box 22 (.cons (.own 3 ty0) .nil)) (.cons (.box 3 (.cons sI .nil)) .nil))) .nil)))) .nil 37 [] Tryz.f70 (nx (nx (nx (.at_ 1 (aa [3,4,5,6,7]) .no))))
def c66 :FnD:=fD 66 (.cons (.val ty6) (.cons (.val ty2) (.cons sI (.cons sI (.cons sI .nil))))) (.cons (.val ty1) .nil) 25 [.tmp 10] Tryz.f66 (nx (nx (nx (.at_ 1 (aa [2,3,5,9]++[(11,.bown 3 ty0 0)]) .no))))
def c17 :FnD:=fD 17 (.cons (.val ty2) (.cons sI (.cons sI (.cons sI .nil)))) (.cons (.val ty1) (.cons sI .nil)) 42 [.tmp 8,.tmp 9] Tryz.f17 .no
def c84 :FnD:=fD 84 (.cons sI .nil) (.cons sI .nil) 11 [.tmp 2] Tryz.f84 .no
def c92 :FnD:=fD 92 (.cons sI .nil) (.cons sB .nil) 11 [.tmp 2] Tryz.f92 .no
def c93 :FnD:=fD 93 (.cons (.val ty1) .nil) (.cons sB .nil) 32 [.tmp 2] Tryz.f93 (nx (.two (nx (.two (.at_ 1 (aa [0,5,6,7]) (nx (nx (.two (.two (nx (nx (.at_ 2 (aa [0,5,6,7,27]) .no))) .no) .no)))) .no)) .no))
def b36 :Code:=Tryz.f36.body.getD .skip
def c36 :FnD:=fD 36 (.cons (.val ty7) .nil) (.cons sB .nil) 48 [.tmp 2] Tryz.f36 (nx (.two (nx (.at_ 1 [(1,.as),(38,.as)] .no)) .no))
def nT1 :FnD:=fD 80 (.cons sI (.cons (.box 46 (.cons sI (.cons sI (.cons sI (.cons sB (.cons sI (.cons sI (.cons sI (.cons sI (.cons sI (.cons sB (.cons (.val ty1) (.cons (.val ty1) (.cons (.val ty1) (.cons (.val ty1) (.cons (.val (.row 30 ty3)) (.cons (.val ty1) (.cons (.val ty1) (.cons (.val ty1) (.cons (.val ty1) (.cons (.val ty1) (.cons (.val ty1) .nil)))))))))))))))))))))) (.cons (.box 3 (.cons sI .nil)) .nil))) (.cons sB .nil) 20 [.tmp 4] Tryz.f80 .no
def kQ1 :FnD:=fD 144 (.cons (.own 3 ty0) (.cons (.fn 80 (.cons (.box 46 (.cons sI (.cons sI (.cons sI (.cons sB (.cons sI (.cons sI (.cons sI (.cons sI (.cons sI (.cons sB (.cons (.val ty1) (.cons (.val ty1) (.cons (.val ty1) (.cons (.val ty1) (.cons (.val (.row 30 ty3)) (.cons (.val ty1) (.cons (.val ty1) (.cons (.val ty1) (.cons (.val ty1) (.cons (.val ty1) (.cons (.val ty1) .nil)))))))))))))))))))))) (.cons (.box 3 (.cons sI .nil)) .nil))) .nil)) (.cons sI .nil) 19 [.tmp 4] Tryz.f144 (nx (.two (nx (.two (.at_ 1 (aa [0,1,7,8]) .no) .no)) .no))
def uP1 :FnD:=fD 78 (.cons (.mv 3 ty0) (.cons (.fn 80 (.cons (.box 46 (.cons sI (.cons sI (.cons sI (.cons sB (.cons sI (.cons sI (.cons sI (.cons sI (.cons sI (.cons sB (.cons (.val ty1) (.cons (.val ty1) (.cons (.val ty1) (.cons (.val ty1) (.cons (.val (.row 30 ty3)) (.cons (.val ty1) (.cons (.val ty1) (.cons (.val ty1) (.cons (.val ty1) (.cons (.val ty1) (.cons (.val ty1) .nil)))))))))))))))))))))) (.cons (.box 3 (.cons sI .nil)) .nil))) .nil)) (.cons (.own 3 ty0) .nil) 42 [.tmp 4] Tryz.f78 (nx (nx (.two (nx (.two (nx (.at_ 1 [(4,.own 3 ty0)] .no)) .no)) (.two (nx (.two (.at_ 2 (aa [0,1,5,6]) .no) .no)) (nx (nx (.at_ 3 [(4,.own 3 ty0)] .no)))))))
def c29 :FnD:=fD 29 (.cons (.val ty7) (.cons sI .nil)) (.cons (.val ty1) (.cons sI .nil)) 45 [.tmp 4,.tmp 5] Tryz.f29 (nx (nx (nx (nx (.at_ 1 (aa [2,3,6]) .no)))))
def c147 :FnD:=fD 147 (.cons sI .nil) (.cons sB .nil) 9 [.tmp 2] Tryz.f147 .no
def c148 :FnD:=fD 148 (.cons (.val (.row 70 ty3)) .nil) (.cons sB .nil) 42 [.tmp 2] Tryz.f148 (nx (.two (nx (.two (.at_ 1 (aa [0,5,6,7]) (nx (nx (.two (.two (nx (nx (.at_ 2 (aa [0,5,6,7,37]) .no))) .no) .no)))) .no)) .no))
def c149 :FnD:=fD 149 (.cons (.val (.row 160 ty4)) .nil) (.cons sB .nil) 72 [.tmp 2] Tryz.f149 (nx (.two (nx (.two (.at_ 1 (aa [0,6,7,8]) (nx (nx (.two (.two (nx (nx (.at_ 2 (aa [0,6,7,8,55]) .no))) .no) .no)))) .no)) .no))
def b83 :Code:=Tryz.f83.body.getD .skip
def c83 :FnD:=fD 83 (.cons (.val ty8) .nil) (.cons sB .nil) 57 [.tmp 2] Tryz.f83 (nx (.two (nx (.at_ 1 [(1,.as),(15,.as)] .no)) (nx (nx (.two (nx (.at_ 2 (aa [1,3,39]) .no)) .no)))))
def c96 :FnD:=fD 96 (.cons (.val ty8) (.cons sI .nil)) (.cons sB .nil) 11 [.tmp 4] Tryz.f96 .no
def c157 :FnD:=sW 157 70 ty3
def c288 :FnD:=fD 288 (.cons sI .nil) (.cons sB .nil) 9 [.tmp 2] Tryz.f288 .no
def c232 :FnD:=fD 232 (.cons sI (.cons sI (.cons sI (.cons sI .nil)))) (.cons sI (.cons sI .nil)) 57 [.tmp 8,.tmp 9] Tryz.f232 (nx (.two (nx (.at_ 1 (aa [0,1,2,3,31]) .no)) (nx (.two (.two (.at_ 2 (aa [0,1,2,10]) (.two (nx (.at_ 3 (aa [0,1,2,10,53]) .no)) .no)) .no) .no))))
def c158 :FnD:=fD 158 (.cons (.val ty8) (.cons sI .nil)) (.cons (.val (.row 70 ty3)) .nil) 64 [.tmp 4] Tryz.f158 (nx (.two (nx (.at_ 1 (aa [1,2,25]) .no)) (nx (.two (nx (.two (.at_ 2 (aa [1]++[(5,.own 70 ty3)]++aa [27,28,29]) .no) .no)) .no))))
def c97 :FnD:=fD 97 (.cons (.val ty8) (.cons sI .nil)) (.cons (.val (.row 70 ty3)) .nil) 52 [.tmp 4] Tryz.f97 (nx (nx (nx (nx (nx (.two (nx (.two (.at_ 1 [(2,.as),(7,.as),(11,.own 70 ty3),(12,.as)] .no) .no)) .no))))))
def c40 :FnD:=fD 40 (.cons (.val ty8) (.cons sI .nil)) (.cons (.val ty3) (.cons sB .nil)) 28 [.cell 4 70,.tmp 5] Tryz.f40 (nx (nx (.two (nx (.two (.at_ 1 (aa [1,4,15,16,17]) .no) .no)) .no)))
def c94 :FnD:=fD 94 (.cons sI .nil) (.cons sB .nil) 23 [.tmp 2] Tryz.f94 .no
def c156 :FnD:=fD 156 (.cons (.val ty8) (.cons sI .nil)) (.cons (.val ty3) (.cons sB .nil)) 31 [.cell 4 70,.tmp 5] Tryz.f156 (nx (nx (nx (nx (.two (nx (.two (.at_ 1 (aa [1,4,6,7,17,18,19]) .no) .no)) .no)))))
def c95 :FnD:=fD 95 (.cons (.val ty8) (.cons sI .nil)) (.cons sI .nil) 22 [.tmp 4] Tryz.f95 .no
def b39 :Code:=Tryz.f39.body.getD .skip
def c39 :FnD:=fD 39 (.cons (.val ty8) (.cons sI .nil)) (.cons sI .nil) 54 [.tmp 4] Tryz.f39 (nx (.two (nx (.at_ 1 (aa [1,2,16]) .no)) (nx (nx (nx (.two (.two (nx (.at_ 2 (aa [1,6,7,28]) .no)) .no) .no))))))
def c87 :FnD:=fD 87 (.cons (.val (.row 68 ty3)) .nil) (.cons (.val (.row 68 ty3)) .nil) 48 [.tmp 2] Tryz.f87 (nx (nx (.two (nx (.two (.at_ 1 ([(3,.own 68 ty3)]++aa [7,8,9]) (nx (nx (.two (.two (nx (nx (nx (.at_ 2 ([(3,.own 68 ty3)]++aa [5,6,7,8,9,27]) .no)))) .no) .no)))) .no)) .no)))
def vQ :FnD:=oM 85 68 ty3 86 (gN kO zf86 cf86)
def c31 :FnD:=fD 31 (.cons (.val ty7) (.cons (.val (.row 66 ty8)) (.cons sI .nil))) (.cons (.val (.row 68 ty3)) (.cons sI .nil)) 83 [.tmp 6,.tmp 7] Tryz.f31 (nx (.two (nx (.at_ 1 (aa [1,2,3,42]) .no)) (nx (nx (nx (.two (nx (.two (.at_ 2 (aa [1,2,3]++[(10,.own 68 ty3)]++aa [53,54,55]) .no) .no)) .no))))))
def c33 :FnD:=fD 33 (.cons (.val (.row 68 ty3)) (.cons (.val (.row 68 ty3)) .nil)) (.cons sB .nil) 41 [.tmp 4] Tryz.f33 (nx (nx (.two (nx (.two (.at_ 1 (aa [0,1,5]) (nx (.two (.two (nx (.at_ 2 (aa [0,1,5,40]) .no)) .no) .no))) .no)) .no)))
def c99 :FnD:=fD 99 (.cons sI .nil) (.cons sS .nil) 12 [.tmp 2] Tryz.f99 .no
def c109 :FnD:=fD 109 (.cons sS (.cons sS .nil)) (.cons sB .nil) 8 [.tmp 4] Tryz.f109 .no
def c233 :FnD:=fD 233 (.cons (.val (.int .u8)) .nil) (.cons sB .nil) 9 [.tmp 2] Tryz.f233 .no
def c166 :FnD:=fD 166 (.cons (.val (.row 5 (.int .u8))) .nil) (.cons sI .nil) 51 [.tmp 2] Tryz.f166 (nx (.two (nx (.two (.at_ 1 (aa [0,6,7,8]) (nx (nx (.two (.two (nx (nx (.at_ 2 (aa [0,3,4,5,6,7,8]) (nx (.at_ 3 (aa [0,3,6,7,8,48]) .no))))) .no) .no)))) .no)) .no))
def c291 :FnD:=fD 291 (.cons sS (.cons sS .nil)) (.cons sB .nil) 21 [.tmp 4] Tryz.f291 .no
def c235 :FnD:=fD 235 (.cons sS (.cons sS .nil)) (.cons sS .nil) 16 [.tmp 4] Tryz.f235 .no
def c167 :FnD:=fD 167 (.cons sS (.cons sS .nil)) (.cons sS .nil) 8 [.tmp 4] Tryz.f167 .no
def c108 :FnD:=fD 108 (.cons (.val (.row 5 (.int .u8))) .nil) (.cons (.val (.row 9 .str)) (.cons sI (.cons sI .nil))) 59 [.tmp 2,.tmp 3,.tmp 4] Tryz.f108 (nx (nx (nx (nx (nx (.at_ 1 [(6,.as)] (nx (.two (nx (.two (.at_ 2 ([(8,.own 9 .str)]++aa [33,34,35]) .no) .no)) .no))))))))
def b169 :Code:=Tryz.f169.body.getD .skip
def c169 :FnD:=fD 169 (.cons sS .nil) (.cons sI (.cons sI (.cons sB .nil))) 51 [.tmp 2,.tmp 3,.tmp 4] Tryz.f169 .no
def c159 :FnD:=fD 159 (.cons sI (.cons sS .nil)) (.cons sS .nil) 11 [.tmp 4] Tryz.f159 .no
def c98 :FnD:=fD 98 (.cons sI .nil) (.cons sS (.cons sI .nil)) 49 [.tmp 2,.tmp 3] Tryz.f98 (nx (.two (nx (.at_ 1 [(0,.as),(12,.as)] .no)) .no))
def b170 :Code:=Tryz.f170.body.getD .skip
def c170 :FnD:=fD 170 (.cons sS .nil) (.cons sI (.cons sI .nil)) 80 [.tmp 2,.tmp 3] Tryz.f170 (nx (nx (nx (.two (nx (.two (.at_ 1 (aa [0,4,5,15,16]) (nx (nx (.two (.two (nx (nx (.two (nx (.two (nx (nx (nx (nx (nx (nx (nx (nx (nx (nx (nx (.at_ 2 (aa [0,4,5,6,15,16,32]) .no)))))))))))) .no)) (.at_ 3 (aa [0,4,5,6,7,15,16]) (nx (.two (nx (.at_ 4 (aa [0,4,6,7,8,15,16,58]) .no)) .no)))))) .no) .no)))) .no)) (.two (nx (nx (.at_ 5 [(4,.as),(78,.as)] .no))) .no)))))
def c171 :FnD:=fD 171 (.cons sS .nil) (.cons (.val ty1) (.cons sB .nil)) 47 [.tmp 2,.tmp 3] Tryz.f171 (nx (nx (.two (nx (.two (.at_ 1 ([(4,.own 3 ty0)]++aa [10,11,12]) (nx (nx (.two (.two (nx (nx (.two (nx (.at_ 2 ([(4,.own 3 ty0)]++aa [7,10,11,12,40]) .no)) (.at_ 3 ([(4,.own 3 ty0)]++aa [7,10,11,12]) .no)))) .no) .no)))) .no)) .no)))
def c110 :FnD:=fD 110 (.cons (.box 46 (.cons sI (.cons sI (.cons sI (.cons sB (.cons (.val ty2) (.cons (.val ty1) (.cons (.val ty1) .nil)))))))) (.cons sI (.cons sS .nil))) (.cons sB .nil) 73 [.tmp 6] Tryz.f110 .no
def c44 :FnD:=fD 44 (.cons (.val (.row 5 (.int .u8))) .nil) (.cons (.val ty7) (.cons sI (.cons sI .nil))) 83 [.cell 2 46,.tmp 3,.tmp 4] Tryz.f44 (nx (nx (nx (nx (nx (.two (nx (.two (.at_ 1 (aa [2,5,8,9,24,25,26]) (nx (nx (.two (.two (nx (nx (.two (.two (.at_ 2 (aa [2,5,8,10,11,12,24,25,26]) (.two (nx (.at_ 3 (aa [2,5,8,10,11,12,24,25,26,44]) .no)) .no)) .no) (.at_ 4 (aa [2,5,8,10,11,12,24,25,26]) (.two (nx (.at_ 5 (aa [2,5,8,10,12,24,25,26,65]) .no)) .no))))) .no) .no)))) .no)) .no))))))
def c24 :FnD:=fD 24 .nil (.cons sB .nil) 58 [.tmp 0] Tryz.f24 .no
def c25 :FnD:=fD 25 (.cons (.val ty7) .nil) (.cons sB .nil) 18 [.tmp 2] Tryz.f25 .no
def c22 :FnD:=fD 22 (.cons (.val ty1) (.cons (.val ty1) .nil)) (.cons sB .nil) 26 [.tmp 4] Tryz.f22 (nx (nx (.two (nx (.two (.at_ 1 (aa [0,1,5]) .no) .no)) .no)))
def c72 :FnD:=fD 72 (.cons (.val (.row 30 ty3)) (.cons (.val (.row 30 ty3)) .nil)) (.cons sB .nil) 41 [.tmp 4] Tryz.f72 (nx (nx (.two (nx (.two (.at_ 1 (aa [0,1,5]) (nx (.two (.two (nx (.at_ 2 (aa [0,1,5,40]) .no)) .no) .no))) .no)) .no)))
def c23 :FnD:=fD 23 (.cons (.val ty2) (.cons (.val ty2) .nil)) (.cons sB .nil) 108 [.tmp 4] Tryz.f23 .no
def c34 :FnD:=fD 34 (.cons (.val ty7) (.cons (.val ty7) .nil)) (.cons sB .nil) 52 [.tmp 4] Tryz.f34 .no
def c41 :FnD:=fD 41 (.cons (.val (.row 5 (.int .u8))) .nil) (.cons (.own 5 (.int .u8)) .nil) 6 [.tmp 2] Tryz.f41 (nx (nx (.at_ 1 [(2,.own 5 (.int .u8))] .no)))
def c100 :FnD:=fD 100 (.cons (.val ty1) .nil) (.cons sS .nil) 26 [.tmp 2] Tryz.f100 (nx (nx (.two (nx (.two (.at_ 1 ([(3,.own 9 .str)]++aa [8,9,10]) .no) .no)) .no)))
def c160 :FnD:=fD 160 (.cons sS .nil) (.cons sB .nil) 22 [.tmp 2] Tryz.f160 (nx (.two (nx (.two (.at_ 1 (aa [0,5,6]) .no) .no)) .no))
def c101 :FnD:=fD 101 (.cons (.val (.row 9 .str)) .nil) (.cons (.val (.row 5 (.int .u8))) (.cons sI .nil)) 52 [.tmp 2,.tmp 3] Tryz.f101 (nx (.two (nx (.two (.at_ 1 (aa [0,10,11,12]) .no) .no)) (nx (.two (nx (.two (.at_ 2 ([(6,.own 5 (.int .u8))]++aa [20,21,22]) (nx (nx (.two (.two (nx (nx (.two (.two (.at_ 3 ([(6,.own 5 (.int .u8))]++aa [8,9,20,21,22]) .no) .no) .no))) .no) .no)))) .no)) .no))))
def c42 :FnD:=fD 42 (.cons (.val ty7) .nil) (.cons (.val (.row 5 (.int .u8))) (.cons sI .nil)) 80 [.tmp 2,.tmp 3] Tryz.f42 (nx (nx (nx (nx (nx (nx (.at_ 1 [(1,.as),(8,.own 9 .str)] (nx (.at_ 2 [(1,.as),(8,.own 9 .str)] (nx (.at_ 3 [(8,.own 9 .str)] .no)))))))))))
def c75 :FnD:=fD 75 (.cons sI .nil) (.cons sB .nil) 9 [.tmp 2] Tryz.f75 .no
def c178 :FnD:=fD 178 (.cons (.val ty1) .nil) (.cons sB .nil) 20 [.tmp 2] Tryz.f178 (nx (.two (nx (.two (.at_ 1 [(0,.as),(3,.as)] .no) .no)) .no))
def c139 :FnD:=fD 139 (.cons (.val ty1) (.cons sI (.cons sI (.cons sB .nil)))) (.cons sB .nil) 48 [.tmp 8] Tryz.f139 (nx (.two (nx (.two (.at_ 1 (aa [0,1,2,3,9]) (nx (.two (.two (nx (.at_ 2 (aa [0,1,2,3,9,40]) .no)) .no) .no))) .no)) .no))
def c140 :FnD:=fD 140 (.cons (.val (.row 30 ty3)) .nil) (.cons sB .nil) 89 [.tmp 2] Tryz.f140 (nx (.two (nx (.two (.at_ 1 [(0,.as),(3,.as)] (nx (.two (.two (nx (.at_ 2 (aa [0,3,85]) .no)) .no) .no))) .no)) .no))
def c141 :FnD:=fD 141 (.cons (.val (.row 30 ty3)) .nil) (.cons sB .nil) 16 [.tmp 2] Tryz.f141 (nx (.two (nx (.two (.at_ 1 [(0,.as),(3,.as)] .no) .no)) .no))
def c74 :FnD:=fD 74 (.cons (.val ty2) .nil) (.cons sB .nil) 231 [.tmp 2] Tryz.f74 (nx (.two (nx (.at_ 1 [(1,.as),(41,.as)] .no)) (.two (nx (.at_ 2 [(1,.as),(64,.as)] .no)) (.at_ 3 [(1,.as)] (.two (nx (.at_ 4 [(1,.as),(116,.as)] .no)) (.two (nx (.at_ 5 [(1,.as),(152,.as)] .no)) (.at_ 6 [(1,.as)] (.two (nx (.at_ 7 [(1,.as),(171,.as)] .no)) (.at_ 8 [(1,.as)] (nx (.two (nx (.at_ 9 [(1,.as),(210,.as)] .no)) (.at_ 10 [(1,.as)] .no))))))))))))
def c199 :FnD:=fD 199 (.cons sI (.cons sI .nil)) (.cons sI .nil) 16 [.tmp 4] Tryz.f199 .no
def c153 :FnD:=fD 153 (.cons sI .nil) (.cons sI .nil) 18 [.tmp 2] Tryz.f153 .no
def c263 :FnD:=fD 263 (.cons sI .nil) (.cons sB .nil) 16 [.tmp 2] Tryz.f263 .no
def c230 :FnD:=fD 230 (.cons sI (.cons sI .nil)) (.cons sI .nil) 23 [.tmp 4] Tryz.f230 (nx (.two (nx (.two (nx (.at_ 1 (aa [0,5,6]) (nx (nx (.at_ 2 (aa [0,5,14]) .no))))) .no)) .no))
def c229 :FnD:=fD 229 (.cons sI (.cons sI (.cons sI .nil))) (.cons sB .nil) 24 [.tmp 6] Tryz.f229 .no
def c151 :FnD:=fD 151 (.cons sI (.cons sI (.cons sI .nil))) (.cons sI (.cons sI .nil)) 31 [.tmp 6,.tmp 7] Tryz.f151 (nx (nx (nx (.two (nx (.two (.at_ 1 (aa [0,1,8,9]) .no) .no)) .no))))
def c88 :FnD:=fD 88 (.cons sI (.cons sI (.cons sI (.cons sI (.cons sI (.cons sI .nil)))))) (.cons sI (.cons sI .nil)) 59 [.tmp 12,.tmp 13] Tryz.f88 (nx (nx (.two (nx (.at_ 1 (aa [3,4,5,14,48]) .no)) .no)))
def c113 :FnD:=fD 113 (.cons sI .nil) (.cons sB .nil) 23 [.tmp 2] Tryz.f113 .no
def c114 :FnD:=fD 114 (.cons (.val ty1) .nil) (.cons sB .nil) 23 [.tmp 2] Tryz.f114 (nx (.two (nx (.two (.at_ 1 [(0,.as),(3,.as)] .no) .no)) .no))
def c47 :FnD:=fD 47 (.cons (.val ty7) .nil) (.cons sB .nil) 48 [.tmp 2] Tryz.f47 (nx (.two (nx (.at_ 1 [(1,.as),(38,.as)] .no)) .no))
def c131 :FnD:=fD 131 (.cons sI .nil) (.cons sI (.cons sI .nil)) 16 [.tmp 2,.tmp 3] Tryz.f131 .no
def c234 :FnD:=fD 234 (.cons sI .nil) (.cons sB .nil) 11 [.tmp 2] Tryz.f234 .no
def c161 :FnD:=fD 161 (.cons sI .nil) (.cons sI (.cons sI (.cons sI (.cons sI .nil)))) 44 [.tmp 2,.tmp 3,.tmp 4,.tmp 5] Tryz.f161 (nx (nx (nx (.two (.two (.at_ 1 [(0,.as),(6,.as)] .no) .no) (nx (.two (.two (.at_ 2 (aa [6,7,8]) .no) .no) .no))))))
def c162 :FnD:=fD 162 (.cons sI (.cons sI .nil)) (.cons sS .nil) 23 [.tmp 4] Tryz.f162 (nx (nx (.two (nx (.two (.at_ 1 [(0,.as),(1,.as),(5,.own 5 (.int .u8)),(6,.as)] .no) .no)) .no)))
def c102 :FnD:=fD 102 (.cons sI .nil) (.cons sS (.cons sI .nil)) 47 [.tmp 2,.tmp 3] Tryz.f102 .no
def c104 :FnD:=fD 104 (.cons sI .nil) (.cons sS .nil) 44 [.tmp 2] Tryz.f104 .no
def c103 :FnD:=fD 103 (.cons sI .nil) (.cons sS (.cons sI .nil)) 64 [.tmp 2,.tmp 3] Tryz.f103 (nx (.two (nx (.at_ 1 [(0,.as),(11,.as)] .no)) (nx (nx (nx (.at_ 2 [(0,.as),(4,.as)] (nx (nx (nx (nx (.at_ 3 [(4,.as),(5,.as)] (nx (.at_ 4 [(4,.as),(5,.as)] .no)))))))))))))
def c163 :FnD:=fD 163 .nil (.cons (.val (.row 9 .str)) .nil) 2 [.tmp 0] Tryz.f163 .no
def c164 :FnD:=fD 164 (.cons sS (.cons (.val ty1) .nil)) (.cons sS .nil) 31 [.tmp 4] Tryz.f164 (nx (nx (.two (nx (.two (.at_ 1 (aa [0,1,5,6]) (nx (.two (.two (nx (.at_ 2 (aa [0,1,5,6]) .no)) .no) .no))) .no)) .no)))
def c165 :FnD:=fD 165 .nil (.cons (.val (.row 9 .str)) .nil) 2 [.tmp 0] Tryz.f165 .no
def c105 :FnD:=fD 105 (.cons (.val ty2) .nil) (.cons sS (.cons sI .nil)) 133 [.tmp 2,.tmp 3] Tryz.f105 (nx (nx (nx (nx (.at_ 1 [(1,.as),(4,.as)] (nx (.at_ 2 [(1,.as),(4,.as)] (nx (.at_ 3 [(1,.as),(4,.as)] (nx (.two (nx (.two (.at_ 4 (aa [1,4,7]) (nx (.two (.two (nx (.at_ 5 (aa [1,4,7]) (nx (.at_ 6 (aa [1,4,7]) .no)))) .no) .no))) .no)) .no)))))))))))
def c106 :FnD:=fD 106 (.cons (.val ty1) .nil) (.cons sS .nil) 29 [.tmp 2] Tryz.f106 (nx (nx (.two (nx (.two (.at_ 1 (aa [0,3,4]) .no) .no)) .no)))
def c107 :FnD:=fD 107 (.cons (.val (.row 9 .str)) .nil) (.cons (.val (.row 5 (.int .u8))) (.cons sI .nil)) 91 [.tmp 2,.tmp 3] Tryz.f107 (nx (nx (.two (nx (.two (.at_ 1 [(0,.as),(4,.own 5 (.int .u8)),(5,.as)] (nx (.two (.two (.two (nx (.at_ 2 [(0,.as),(4,.own 5 (.int .u8)),(5,.as),(29,.as)] .no)) (nx (.two (.at_ 3 [(0,.as),(4,.own 5 (.int .u8)),(5,.as),(6,.as)] (nx (.two (.two (nx (.at_ 4 (aa [0]++[(4,.own 5 (.int .u8))]++aa [5,6,54]) .no)) .no) .no))) .no))) .no) .no))) .no)) (.two (nx (.two (.at_ 5 [(0,.as),(4,.own 5 (.int .u8)),(7,.as)] (nx (.two (.two (nx (.two (.two (.at_ 6 (aa [0]++[(4,.own 5 (.int .u8))]++aa [7,8,9]) .no) .no) .no)) .no) .no))) .no)) .no))))
def c43 :FnD:=fD 43 (.cons (.val ty7) .nil) (.cons (.val (.row 5 (.int .u8))) (.cons sI .nil)) 75 [.tmp 2,.tmp 3] Tryz.f43 (nx (nx (nx (nx (nx (nx (.at_ 1 [(1,.as),(8,.own 9 .str)] (nx (.at_ 2 [(1,.as),(8,.own 9 .str)] (nx (.at_ 3 [(8,.own 9 .str)] .no)))))))))))
def c111 :FnD:=fD 111 (.cons (.val (.row 5 (.int .u8))) .nil) (.cons (.val (.row 9 .str)) (.cons sI (.cons sI .nil))) 154 [.tmp 2,.tmp 3,.tmp 4] Tryz.f111 (nx (nx (.two (nx (.two (.at_ 1 [(0,.as),(5,.as)] (nx (.two (.two (nx (.at_ 2 (aa [0,5,6]) (nx (.at_ 3 (aa [0,5,74]) .no)))) .no) .no))) .no)) (nx (nx (.two (nx (.two (.at_ 4 [(0,.as),(7,.own 9 .str),(8,.as),(9,.as)] (nx (.two (.two (.two (nx (.at_ 5 (aa [0]++[(7,.own 9 .str)]++aa [8,9,103]) .no)) (.at_ 6 [(0,.as),(7,.own 9 .str),(8,.as),(9,.as)] (nx (.two (nx (.at_ 7 (aa [0]++[(7,.own 9 .str)]++aa [8,9,10,121]) .no)) (.at_ 8 (aa [0]++[(7,.own 9 .str)]++aa [8,9,10]) (nx (.two (nx (.at_ 9 (aa [0]++[(7,.own 9 .str)]++aa [9,11,136]) .no)) .no))))))) .no) .no))) .no)) .no))))))
def c172 :FnD:=fD 172 (.cons sS .nil) (.cons sS (.cons sS (.cons sS (.cons sB .nil)))) 46 [.tmp 2,.tmp 3,.tmp 4,.tmp 5] Tryz.f172 (nx (.two (nx (.two (.at_ 1 [(0,.as),(6,.as)] (nx (.two (.two (nx (.two (nx (.two (.at_ 2 (aa [0,6,7]) .no) .no)) .no)) .no) .no))) .no)) .no))
def c173 :FnD:=fD 173 (.cons sS .nil) (.cons sI (.cons sB .nil)) 68 [.tmp 2,.tmp 3] Tryz.f173 (nx (nx (.at_ 1 [(0,.as),(4,.as)] (nx (nx (.at_ 2 (aa [0,4,5]) (.two (nx (.at_ 3 (aa [0,4,5,28]) .no)) (nx (.two (nx (.two (.at_ 4 (aa [0,4,5,6,7]) (nx (.two (.two (nx (.two (nx (.at_ 5 (aa [0,4,5,6,7,8,52]) .no)) .no)) .no) .no))) .no)) (nx (.at_ 6 [(0,.as),(6,.as)] .no)))))))))))
def c238 :FnD:=fD 238 (.cons sS .nil) (.cons sI .nil) 30 [.tmp 2] Tryz.f238 (nx (nx (.two (nx (.two (.at_ 1 (aa [0,3,4]) (nx (.two (.two (.two (nx (.at_ 2 (aa [0,3,4,20]) .no)) .no) .no) .no))) .no)) .no)))
def c174 :FnD:=fD 174 (.cons sS .nil) (.cons sI (.cons sI .nil)) 68 [.tmp 2,.tmp 3] Tryz.f174 (nx (nx (.two (nx (.at_ 1 [(0,.as),(16,.as)] .no)) (nx (.two (nx (.two (.at_ 2 [(4,.as),(5,.as)] .no) .no)) .no)))))
def c175 :FnD:=fD 175 (.cons sS .nil) (.cons sI (.cons sI .nil)) 75 [.tmp 2,.tmp 3] Tryz.f175 (nx (nx (nx (nx (.two (nx (.two (.at_ 1 (aa [0,4,5,6]) (nx (.two (.two (nx (.two (nx (.two (nx (.at_ 2 (aa [0,4,5,6,7,8,25]) .no)) .no)) (.at_ 3 (aa [0,4,5,6,7]) .no))) .no) .no))) .no)) (nx (.two (nx (.at_ 4 [(4,.as),(73,.as)] .no)) .no)))))))
def c239 :FnD:=fD 239 (.cons sS (.cons (.val (.int .u8)) .nil)) (.cons (.val (.row 9 .str)) .nil) 35 [.tmp 4] Tryz.f239 (nx (nx (nx (.two (nx (.two (.at_ 1 [(0,.as),(1,.as),(5,.own 9 .str),(6,.as),(7,.as)] (nx (.two (.two (nx (.at_ 2 (aa [0,1]++[(5,.own 9 .str)]++aa [6,7,24]) .no)) .no) .no))) .no)) .no))))
def c240 :FnD:=fD 240 (.cons (.val (.row 9 .str)) (.cons sS .nil)) (.cons sI .nil) 23 [.tmp 4] Tryz.f240 (nx (.two (nx (.two (.at_ 1 (aa [0,1,5]) (nx (.two (.two (nx (.at_ 2 (aa [0,1,5,21]) .no)) .no) .no))) .no)) .no))
def c295 :FnD:=fD 295 (.cons sS .nil) (.cons sI (.cons sB .nil)) 24 [.tmp 2,.tmp 3] Tryz.f295 .no
def c35 :FnD:=fD 35 (.cons (.val ty1) .nil) (.cons (.val ty1) .nil) 58 [.tmp 2] Tryz.f35 (nx (nx (.two (nx (.two (.at_ 1 [(0,.as),(3,.own 3 ty0),(4,.as)] (nx (.two (.two (nx (.two (.two (.at_ 2 [(0,.as),(3,.own 3 ty0),(4,.as),(5,.as)] (.two (nx (.at_ 3 (aa [0]++[(3,.own 3 ty0)]++aa [4,5,26]) .no)) .no)) .no) (.at_ 4 [(0,.as),(3,.own 3 ty0),(4,.as),(5,.as)] (.two (nx (.at_ 5 (aa [0]++[(3,.own 3 ty0)]++aa [4,5,43]) .no)) (.at_ 6 [(0,.as),(3,.own 3 ty0),(4,.as),(5,.as)] .no))))) .no) .no))) .no)) .no)))
def c296 :FnD:=fD 296 (.cons sS .nil) (.cons (.val ty1) (.cons sB .nil)) 36 [.tmp 2,.tmp 3] Tryz.f296 (nx (nx (nx (nx (.two (nx (.two (.at_ 1 [(4,.as),(5,.own 3 ty0),(6,.as)] .no) .no)) .no)))))
def c297 :FnD:=fD 297 (.cons sS .nil) (.cons (.val (.row 30 ty3)) (.cons sB .nil)) 106 [.tmp 2,.tmp 3] Tryz.f297 (nx (nx (nx (nx (.two (nx (.two (.at_ 1 (aa [4,5,6]) (nx (.two (.two (nx (nx (nx (nx (.at_ 2 (aa [4,5,6,7,8,9,10]) (.two (nx (.at_ 3 (aa [4,5,6,8,9,70]) .no)) (.at_ 4 (aa [4,5,6,8,9]) .no))))))) .no) .no))) .no)) (nx (nx (.two (nx (.two (.at_ 5 [(5,.as),(11,.own 30 ty3),(12,.as)] .no) .no)) .no))))))))
def c241 :FnD:=fD 241 (.cons (.box 25 (.cons sI (.cons sI (.cons sI (.cons sI (.cons sI (.cons sB (.cons (.val ty1) (.cons (.val ty1) (.cons (.val ty1) (.cons (.val ty1) (.cons (.val (.row 30 ty3)) (.cons (.val ty1) (.cons (.val ty1) (.cons (.val ty1) (.cons (.val ty1) .nil)))))))))))))))) (.cons sS (.cons sS .nil))) (.cons sB .nil) 164 [.tmp 6] Tryz.f241 .no
def c176 :FnD:=fD 176 (.cons sS .nil) (.cons (.val ty2) (.cons sI (.cons sI .nil))) 73 [.cell 2 25,.tmp 3,.tmp 4] Tryz.f176 (nx (nx (nx (nx (nx (.two (nx (.two (.at_ 1 [(2,.as),(5,.as),(6,.own 9 .str),(7,.as),(8,.as)] (nx (.two (.two (nx (.two (nx (.at_ 2 (aa [2,5]++[(6,.own 9 .str)]++aa [7,8,9,38]) .no)) .no)) .no) .no))) .no)) .no))))))
def c177 :FnD:=fD 177 (.cons sS .nil) (.cons (.val ty1) (.cons sB .nil)) 37 [.tmp 2,.tmp 3] Tryz.f177 (nx (nx (nx (nx (.two (nx (.two (.at_ 1 [(4,.as),(5,.own 3 ty0),(6,.as)] .no) .no)) .no)))))
def c112 :FnD:=fD 112 (.cons (.box 46 (.cons sI (.cons sI (.cons sI (.cons sB (.cons (.val ty2) (.cons (.val ty1) (.cons (.val ty1) .nil)))))))) (.cons sS (.cons sI .nil))) (.cons sI .nil) 179 [.tmp 6] Tryz.f112 (nx (nx (nx (nx (.two (nx (.two (.at_ 1 (aa [0,1,2,7,8,9,10,11,12,13]) (nx (.two (.two (nx (.at_ 2 (aa [0,1,2,7,8,9,10,11,12,13,39]) .no)) .no) .no))) .no)) (.two (nx (.at_ 3 (aa [0,8,9,10,12,80]) .no)) (.at_ 4 (aa [0,8,9,10,12]) (nx (.two (nx (.two (nx (.two (nx (.two (nx (.at_ 5 (aa [0,8,9,10,12,15,16,91]) .no)) (.at_ 6 (aa [0,8,9,10,12,15,16]) (.two (nx (.at_ 7 (aa [0,9,10,12,15,115]) .no)) (.at_ 8 (aa [0,9,10,12,15]) .no))))) .no)) .no)) (.at_ 9 (aa [10,12,14]) (.two (nx (.at_ 10 [(12,.as),(177,.as)] .no)) .no)))))))))))
def c45 :FnD:=fD 45 (.cons (.val (.row 5 (.int .u8))) .nil) (.cons (.val ty7) (.cons sI (.cons sI .nil))) 48 [.cell 2 46,.tmp 3,.tmp 4] Tryz.f45 (nx (nx (nx (nx (nx (.two (nx (.two (.at_ 1 (aa [2,5,8,9,10]) .no) .no)) .no))))))
def c46 :FnD:=fD 46 (.cons (.val (.row 5 (.int .u8))) (.cons (.val (.row 5 (.int .u8))) .nil)) (.cons sB .nil) 10 [.tmp 4] Tryz.f46 .no
def c48 :FnD:=fD 48 (.cons (.val ty7) (.cons (.val ty7) .nil)) (.cons sB .nil) 52 [.tmp 4] Tryz.f48 .no
def b8 :Code:=Tryz.f8.body.getD .skip
def c8 :FnD:=lawD 8 (.cons (.val ty7) (.cons (.val ty7) (.cons (.val (.row 5 (.int .u8))) .nil))) 105 [.tmp 6] Tryz.f8.body (nx (nx (.two (nx (.at_ 1 (aa [2,3,4,32]) .no)) .no)))
def E :Env:=⟨[(2,ty0),(3,ty0),(4,.bool),(5,(.int .u8)),(6,(.int .u8)),(7,ty9),(8,ty9),(9,.str),(10,.str),(11,.str),(12,(.int .u64)),(13,ty10),(14,ty10),(21,(.int .i32)),(22,ty1),(23,(.row 30 ty3)),(25,ty2),(30,ty3),(31,ty0),(46,ty7),(47,(.row 66 ty8)),(53,(.row 68 ty3)),(63,(.row 70 ty3)),(64,(.row 160 ty4)),(66,ty8),(68,ty3),(70,ty3),(74,(.row 5 (.int .u8))),(84,(.row 9 .str)),(97,ty4),(99,ty5),(101,ty6),(152,(.int .u64)),(160,ty4),(185,.err)],[(1,false),(86,false),(88,false),(94,false),(115,false),(118,false),(126,true),(133,true),(162,false),(177,true),(179,false)],[(63,c63),(50,c50),(119,c119),(186,c186),(120,c120),(51,c51),(11,c11),(298,c298),(299,c299),(242,c242),(338,c338),(301,c301),(245,c245),(244,c244),(300,c300),(243,c243),(179,c179),(115,c115),(180,c180),(116,c116),(181,c181),(117,c117),(52,c52),(59,c59),(126,c126),(191,c191),(251,c251),(192,c192),(287,c287),(258,c258),(195,c195),(127,c127),(62,c62),(57,c57),(236,c236),(168,c168),(294,c294),(237,c237),(182,c182),(246,c246),(248,c248),(100000,mR),(183,c183),(77,c77),(79,c79),(185,c185),(118,c118),(49,c49),(9,c9),(10,c10),(38,c38),(12,c12),(122,c122),(190,c190),(123,c123),(193,c193),(124,c124),(56,c56),(121,c121),(58,c58),(100001,pO1),(55,c55),(100002,tQ1),(13,c13),(60,c60),(61,c61),(14,c14),(3,c3),(290,c290),(260,c260),(197,c197),(76,c76),(261,c261),(198,c198),(129,c129),(65,c65),(270,c270),(316,c316),(289,c289),(363,c363),(351,c351),(317,c317),(318,c318),(269,c269),(205,c205),(352,c352),(353,c353),(319,c319),(271,c271),(206,c206),(354,c354),(322,c322),(323,c323),(324,c324),(325,c325),(326,c326),(355,c355),(327,c327),(276,c276),(208,c208),(220,c220),(145,c145),(146,c146),(81,c81),(320,c320),(272,c272),(321,c321),(275,c275),(100003,iA1),(273,c273),(100008,bT1),(100007,sZ),(100006,fS1),(100005,dO1),(328,c328),(100011,iS1),(100010,aR1),(100009,iP1),(100004,uR1),(66,c66),(17,c17),(84,c84),(92,c92),(93,c93),(36,c36),(100014,nT1),(100013,kQ1),(100012,uP1),(29,c29),(147,c147),(148,c148),(149,c149),(83,c83),(96,c96),(157,c157),(288,c288),(232,c232),(158,c158),(97,c97),(40,c40),(94,c94),(156,c156),(95,c95),(39,c39),(87,c87),(100015,vQ),(31,c31),(33,c33),(99,c99),(109,c109),(233,c233),(166,c166),(291,c291),(235,c235),(167,c167),(108,c108),(169,c169),(159,c159),(98,c98),(170,c170),(171,c171),(110,c110),(44,c44),(24,c24),(25,c25),(22,c22),(72,c72),(23,c23),(34,c34),(41,c41),(100,c100),(160,c160),(101,c101),(42,c42),(75,c75),(178,c178),(139,c139),(140,c140),(141,c141),(74,c74),(199,c199),(153,c153),(263,c263),(230,c230),(229,c229),(151,c151),(88,c88),(113,c113),(114,c114),(47,c47),(131,c131),(234,c234),(161,c161),(162,c162),(102,c102),(104,c104),(103,c103),(163,c163),(164,c164),(165,c165),(105,c105),(106,c106),(107,c107),(43,c43),(111,c111),(172,c172),(173,c173),(238,c238),(174,c174),(175,c175),(239,c239),(240,c240),(295,c295),(35,c35),(296,c296),(297,c297),(241,c241),(176,c176),(177,c177),(112,c112),(45,c45),(46,c46),(48,c48),(8,c8)],[],[30],[],[(184,[(⟨#[66,89,77,79,78,84,72]⟩,6),(⟨#[66,89,87,69,69,75,78,79]⟩,7),(⟨#[66,89,89,69,65,82,68,65,89]⟩,8),(⟨#[66,89,77,79,78,84,72,68,65,89]⟩,9),(⟨#[66,89,72,79,85,82]⟩,11),(⟨#[66,89,77,73,78,85,84,69]⟩,12),(⟨#[66,89,83,69,67,79,78,68]⟩,13),(⟨#[66,89,83,69,84,80,79,83]⟩,14)])],[(63,69,1),(84,62,1),(84,74,1)]⟩
set_option maxRecDepth 1000000
theorem eD2 :fF Tryz.prog E=true:=by kernel_rfl
theorem mix :Tryz.prog.follows .mixedOrders=true:=by kernel_rfl
theorem cn76 (w:World):Calls Tryz.prog 76 #[.slice none 0 0] w fun e w'=>e = .returned (.slice none 0 0)∧w'=w:=by
 have q:∀(w:World) (a:Option Addr) (n c n' c':Nat),(binOp .eql 22 (.slice a n c) (.slice none n' c')).run Tryz.prog w = .ok (.bool a.isNone) w:=fun w a n c n' c'=>Lib.run_eql_slice_nil w _ _ a n c n' c' Tryz.underlying22
 go_enter Tryz.func76,Tryz.ntmps76
 go_wp2
 go_ret
 exact⟨rfl,rfl⟩
theorem cs76 (w:World) (ad:Addr) (m cp:Nat) (news:List Value) (hl:news.length=m*(ty0:Ty).sz) (hm:m≤uC) (hc:∀j u,news[j]?=some u→w.cell? (ad.add j)=some u) (h1:∀u∈news,u.oneCell'=true):
  Calls Tryz.prog 76 #[.slice (some ad) m cp] w fun e w'=>∃v',e = .returned v'∧w'.ownsRow w.heap.size 3 (ty0:Ty).sz v' m news∧Go.RowKit.Below w.heap.size w w':=by
 obtain⟨i,hi,hi2⟩:=bG (P:=Tryz.prog) (t:=ty0) (T:=3) (by kernel_rfl);obtain⟨hisz,hby,zv,hzv,_,_,hzs⟩:=xE (w:=w) (Z:=fun _=>False) (fun _=>undef) hi2;have q:∀(w:World) (a:Option Addr) (n c n' c':Nat),(binOp .eql 22 (.slice a n c) (.slice none n' c')).run Tryz.prog w = .ok (.bool a.isNone) w:=fun w a n c n' c'=>Lib.run_eql_slice_nil w _ _ a n c n' c' Tryz.underlying22
 have hlim:m≤17179869184:=hm;have hbb:m*i.bytes≤140737488355328:=rK2 (Nat.mul_le_mul hlim hby) (by decide);have A:Aside (∀j u,news[j]?=some u→w.cell? (ad.add j)=some u):=hc;clear hc
 go_enter Tryz.func76,Tryz.ntmps76
 go_wp2_with (at_builtin;refine wpList_append_own _ rfl _ _ 22 rfl w.heap.size 3 i zv (ty0:Ty).sz i.bytes Tryz.underlying22 hi hzv hisz rfl hzs (by decide) _ _ _ rfl (World.ownsRow_made w #[] 0 (yH2 _) (uH2 _) (by simp)) ad m cp news rfl ?qc1 ?qc2 ?qc3 ?qc4 ?qc5 ?qc6 ?_)
 case qc1=>exact hl
 case qc2=>
  intro j u hj;exact Lib.cell?_alloc_some _ (A.out j u hj)
 case qc3=>exact h1
 case qc4=>rw[wJ2];unfold maxLen;omega
 case qc5=>rw[wJ2];exact hbb
 case qc6=>simp
 intro v' w1 hown hgrow hnil
 go_wp2
 go_ret
 refine⟨v',rfl,by simpa using hown,?_⟩;exact((Go.RowKit.Below.refl _ w).alloc (yH2 _) _).grown hgrow (by simp) (by intro k hk;simp[Value.ownBlock]at hk;omega)
theorem xF2 (w:World):Calls Tryz.prog 157 #[.slice none 0 0] w fun e w'=>e = .returned (.slice none 0 0)∧w'=w:=by
 have q:∀(w:World) (a:Option Addr) (n c n' c':Nat),(binOp .eql 63 (.slice a n c) (.slice none n' c')).run Tryz.prog w = .ok (.bool a.isNone) w:=fun w a n c n' c'=>Lib.run_eql_slice_nil w _ _ a n c n' c' Tryz.underlying63
 go_enter Tryz.func157,Tryz.ntmps157
 go_wp2
 go_ret
 exact⟨rfl,rfl⟩
theorem lG2 (w:World) (ad:Addr) (m cp:Nat) (news:List Value) (hl:news.length=m*(ty3:Ty).sz) (hm:m≤uC) (hc:∀j u,news[j]?=some u→w.cell? (ad.add j)=some u) (h1:∀u∈news,u.oneCell'=true):
  Calls Tryz.prog 157 #[.slice (some ad) m cp] w fun e w'=>∃v',e = .returned v'∧w'.ownsRow w.heap.size 70 (ty3:Ty).sz v' m news∧Go.RowKit.Below w.heap.size w w':=by
 obtain⟨i,hi,hi2⟩:=bG (P:=Tryz.prog) (t:=ty3) (T:=70) (by kernel_rfl);obtain⟨hisz,hby,zv,hzv,_,_,hzs⟩:=xE (w:=w) (Z:=fun _=>False) (fun _=>undef) hi2;have q:∀(w:World) (a:Option Addr) (n c n' c':Nat),(binOp .eql 63 (.slice a n c) (.slice none n' c')).run Tryz.prog w = .ok (.bool a.isNone) w:=fun w a n c n' c'=>Lib.run_eql_slice_nil w _ _ a n c n' c' Tryz.underlying63
 have hlim:m≤17179869184:=hm;have hbb:m*i.bytes≤140737488355328:=rK2 (Nat.mul_le_mul hlim hby) (by decide);have A:Aside (∀j u,news[j]?=some u→w.cell? (ad.add j)=some u):=hc;clear hc
 go_enter Tryz.func157,Tryz.ntmps157
 go_wp2_with (at_builtin;refine wpList_append_own _ rfl _ _ 63 rfl w.heap.size 70 i zv (ty3:Ty).sz i.bytes Tryz.underlying63 hi hzv hisz rfl hzs (by decide) _ _ _ rfl (World.ownsRow_made w #[] 0 (yH2 _) (uH2 _) (by simp)) ad m cp news rfl ?qc1 ?qc2 ?qc3 ?qc4 ?qc5 ?qc6 ?_)
 case qc1=>exact hl
 case qc2=>
  intro j u hj;exact Lib.cell?_alloc_some _ (A.out j u hj)
 case qc3=>exact h1
 case qc4=>rw[wJ2];unfold maxLen;omega
 case qc5=>rw[wJ2];exact hbb
 case qc6=>simp
 intro v' w1 hown hgrow hnil
 go_wp2
 go_ret
 refine⟨v',rfl,by simpa using hown,?_⟩;exact((Go.RowKit.Below.refl _ w).alloc (yH2 _) _).grown hgrow (by simp) (by intro k hk;simp[Value.ownBlock]at hk;omega)
theorem k8 :kC Tryz.prog c8 Tryz.f8:=kS Tryz.func8
theorem k48 :kC Tryz.prog c48 Tryz.f48:=kS Tryz.func48
theorem k46 :kC Tryz.prog c46 Tryz.f46:=kS Tryz.func46
theorem k45 :kC Tryz.prog c45 Tryz.f45:=kS Tryz.func45
theorem k112 :kC Tryz.prog c112 Tryz.f112:=kS Tryz.func112
theorem k177 :kC Tryz.prog c177 Tryz.f177:=kS Tryz.func177
theorem k176 :kC Tryz.prog c176 Tryz.f176:=kS Tryz.func176
theorem k241 :kC Tryz.prog c241 Tryz.f241:=kS Tryz.func241
theorem k297 :kC Tryz.prog c297 Tryz.f297:=kS Tryz.func297
theorem k296 :kC Tryz.prog c296 Tryz.f296:=kS Tryz.func296
theorem k35 :kC Tryz.prog c35 Tryz.f35:=kS Tryz.func35
theorem k295 :kC Tryz.prog c295 Tryz.f295:=kS Tryz.func295
theorem k240 :kC Tryz.prog c240 Tryz.f240:=kS Tryz.func240
theorem k239 :kC Tryz.prog c239 Tryz.f239:=kS Tryz.func239
theorem k175 :kC Tryz.prog c175 Tryz.f175:=kS Tryz.func175
theorem k174 :kC Tryz.prog c174 Tryz.f174:=kS Tryz.func174
theorem k238 :kC Tryz.prog c238 Tryz.f238:=kS Tryz.func238
theorem k173 :kC Tryz.prog c173 Tryz.f173:=kS Tryz.func173
theorem k172 :kC Tryz.prog c172 Tryz.f172:=kS Tryz.func172
theorem k111 :kC Tryz.prog c111 Tryz.f111:=kS Tryz.func111
theorem k43 :kC Tryz.prog c43 Tryz.f43:=kS Tryz.func43
theorem k107 :kC Tryz.prog c107 Tryz.f107:=kS Tryz.func107
theorem k106 :kC Tryz.prog c106 Tryz.f106:=kS Tryz.func106
theorem k105 :kC Tryz.prog c105 Tryz.f105:=kS Tryz.func105
theorem k165 :kC Tryz.prog c165 Tryz.f165:=kS Tryz.func165
theorem k164 :kC Tryz.prog c164 Tryz.f164:=kS Tryz.func164
theorem k163 :kC Tryz.prog c163 Tryz.f163:=kS Tryz.func163
theorem k103 :kC Tryz.prog c103 Tryz.f103:=kS Tryz.func103
theorem k104 :kC Tryz.prog c104 Tryz.f104:=kS Tryz.func104
theorem k102 :kC Tryz.prog c102 Tryz.f102:=kS Tryz.func102
theorem k162 :kC Tryz.prog c162 Tryz.f162:=kS Tryz.func162
theorem k161 :kC Tryz.prog c161 Tryz.f161:=kS Tryz.func161
theorem k234 :kC Tryz.prog c234 Tryz.f234:=kS Tryz.func234
theorem k131 :kC Tryz.prog c131 Tryz.f131:=kS Tryz.func131
theorem k47 :kC Tryz.prog c47 Tryz.f47:=kS Tryz.func47
theorem k114 :kC Tryz.prog c114 Tryz.f114:=kS Tryz.func114
theorem k113 :kC Tryz.prog c113 Tryz.f113:=kS Tryz.func113
theorem k88 :kC Tryz.prog c88 Tryz.f88:=kS Tryz.func88
theorem k151 :kC Tryz.prog c151 Tryz.f151:=kS Tryz.func151
theorem k229 :kC Tryz.prog c229 Tryz.f229:=kS Tryz.func229
theorem k230 :kC Tryz.prog c230 Tryz.f230:=kS Tryz.func230
theorem k263 :kC Tryz.prog c263 Tryz.f263:=kS Tryz.func263
theorem k153 :kC Tryz.prog c153 Tryz.f153:=kS Tryz.func153
theorem k199 :kC Tryz.prog c199 Tryz.f199:=kS Tryz.func199
theorem k74 :kC Tryz.prog c74 Tryz.f74:=kS Tryz.func74
theorem k141 :kC Tryz.prog c141 Tryz.f141:=kS Tryz.func141
theorem k140 :kC Tryz.prog c140 Tryz.f140:=kS Tryz.func140
theorem k139 :kC Tryz.prog c139 Tryz.f139:=kS Tryz.func139
theorem k178 :kC Tryz.prog c178 Tryz.f178:=kS Tryz.func178
theorem k75 :kC Tryz.prog c75 Tryz.f75:=kS Tryz.func75
theorem k42 :kC Tryz.prog c42 Tryz.f42:=kS Tryz.func42
theorem k101 :kC Tryz.prog c101 Tryz.f101:=kS Tryz.func101
theorem k160 :kC Tryz.prog c160 Tryz.f160:=kS Tryz.func160
theorem k100 :kC Tryz.prog c100 Tryz.f100:=kS Tryz.func100
theorem k41 :kC Tryz.prog c41 Tryz.f41:=kS Tryz.func41
theorem k34 :kC Tryz.prog c34 Tryz.f34:=kS Tryz.func34
theorem k23 :kC Tryz.prog c23 Tryz.f23:=kS Tryz.func23
theorem k72 :kC Tryz.prog c72 Tryz.f72:=kS Tryz.func72
theorem k22 :kC Tryz.prog c22 Tryz.f22:=kS Tryz.func22
theorem k25 :kC Tryz.prog c25 Tryz.f25:=kS Tryz.func25
theorem k24 :kC Tryz.prog c24 Tryz.f24:=kS Tryz.func24
theorem k44 :kC Tryz.prog c44 Tryz.f44:=kS Tryz.func44
theorem k110 :kC Tryz.prog c110 Tryz.f110:=kS Tryz.func110
theorem k171 :kC Tryz.prog c171 Tryz.f171:=kS Tryz.func171
theorem k170 :kC Tryz.prog c170 Tryz.f170:=kS Tryz.func170
theorem k98 :kC Tryz.prog c98 Tryz.f98:=kS Tryz.func98
theorem k159 :kC Tryz.prog c159 Tryz.f159:=kS Tryz.func159
theorem k169 :kC Tryz.prog c169 Tryz.f169:=kS Tryz.func169
theorem k108 :kC Tryz.prog c108 Tryz.f108:=kS Tryz.func108
theorem k167 :kC Tryz.prog c167 Tryz.f167:=kS Tryz.func167
theorem k235 :kC Tryz.prog c235 Tryz.f235:=kS Tryz.func235
theorem k291 :kC Tryz.prog c291 Tryz.f291:=kS Tryz.func291
theorem k166 :kC Tryz.prog c166 Tryz.f166:=kS Tryz.func166
theorem k233 :kC Tryz.prog c233 Tryz.f233:=kS Tryz.func233
theorem k109 :kC Tryz.prog c109 Tryz.f109:=kS Tryz.func109
theorem k99 :kC Tryz.prog c99 Tryz.f99:=kS Tryz.func99
theorem k33 :kC Tryz.prog c33 Tryz.f33:=kS Tryz.func33
theorem k31 :kC Tryz.prog c31 Tryz.f31:=kS Tryz.func31
theorem wB2 :∀y r,vQ.sem y=some r→FnOK Tryz.prog GB G vQ y r:=eW1
theorem k87 :kC Tryz.prog c87 Tryz.f87:=kS Tryz.func87
theorem k39 :kC Tryz.prog c39 Tryz.f39:=kS Tryz.func39
theorem k95 :kC Tryz.prog c95 Tryz.f95:=kS Tryz.func95
theorem k156 :kC Tryz.prog c156 Tryz.f156:=kS Tryz.func156
theorem k94 :kC Tryz.prog c94 Tryz.f94:=kS Tryz.func94
theorem k40 :kC Tryz.prog c40 Tryz.f40:=kS Tryz.func40
theorem k97 :kC Tryz.prog c97 Tryz.f97:=kS Tryz.func97
theorem k158 :kC Tryz.prog c158 Tryz.f158:=kS Tryz.func158
theorem k232 :kC Tryz.prog c232 Tryz.f232:=kS Tryz.func232
theorem k288 :kC Tryz.prog c288 Tryz.f288:=kS Tryz.func288
theorem s157 :∀y r,c157.sem y=some r→FnOK Tryz.prog GB G c157 y r:=vI1 (c:=Tryz.f157.body.getD .skip) Tryz.func157 (by kernel_rfl) (by kernel_rfl) lG2 xF2
theorem k96 :kC Tryz.prog c96 Tryz.f96:=kS Tryz.func96
theorem k83 :kC Tryz.prog c83 Tryz.f83:=kS Tryz.func83
theorem k149 :kC Tryz.prog c149 Tryz.f149:=kS Tryz.func149
theorem k148 :kC Tryz.prog c148 Tryz.f148:=kS Tryz.func148
theorem k147 :kC Tryz.prog c147 Tryz.f147:=kS Tryz.func147
theorem k29 :kC Tryz.prog c29 Tryz.f29:=kS Tryz.func29
theorem oR1 :kC Tryz.prog uP1 Tryz.f78:=kS Tryz.func78
theorem aP1 :kC Tryz.prog kQ1 Tryz.f144:=kS Tryz.func144
theorem qT1 :kC Tryz.prog nT1 Tryz.f80:=kS Tryz.func80
theorem k36 :kC Tryz.prog c36 Tryz.f36:=kS Tryz.func36
theorem k93 :kC Tryz.prog c93 Tryz.f93:=kS Tryz.func93
theorem k92 :kC Tryz.prog c92 Tryz.f92:=kS Tryz.func92
theorem k84 :kC Tryz.prog c84 Tryz.f84:=kS Tryz.func84
theorem k17 :kC Tryz.prog c17 Tryz.f17:=kS Tryz.func17
theorem k66 :kC Tryz.prog c66 Tryz.f66:=kS Tryz.func66
theorem cS1 :kC Tryz.prog uR1 Tryz.f70:=kS Tryz.func70
theorem rZ1 :kC Tryz.prog iP1 Tryz.f138:=kS Tryz.func138
theorem xZ1 :kC Tryz.prog aR1 Tryz.f209:=kS Tryz.func209
theorem xB2 :kC Tryz.prog iS1 Tryz.f277:=kS Tryz.func277
theorem k328 :kC Tryz.prog c328 Tryz.f328:=kS Tryz.func328
theorem jO1 :kC Tryz.prog dO1 Tryz.f137:=kS Tryz.func137
theorem nS1 :kC Tryz.prog fS1 Tryz.f207:=kS Tryz.func207
theorem mZ1 :kC Tryz.prog sZ Tryz.f136:=kS Tryz.func136
theorem sC2 :kC Tryz.prog bT1 Tryz.f130:=kS Tryz.func130
theorem k273 :kC Tryz.prog c273 Tryz.f273:=kS Tryz.func273
theorem uB2 :kC Tryz.prog iA1 Tryz.f274:=kS Tryz.func274
theorem k275 :kC Tryz.prog c275 Tryz.f275:=kS Tryz.func275
theorem k321 :kC Tryz.prog c321 Tryz.f321:=kS Tryz.func321
theorem k272 :kC Tryz.prog c272 Tryz.f272:=kS Tryz.func272
theorem k320 :kC Tryz.prog c320 Tryz.f320:=kS Tryz.func320
theorem k81 :kC Tryz.prog c81 Tryz.f81:=kS Tryz.func81
theorem k146 :kC Tryz.prog c146 Tryz.f146:=kS Tryz.func146
theorem k145 :kC Tryz.prog c145 Tryz.f145:=kS Tryz.func145
theorem k220 :kC Tryz.prog c220 Tryz.f220:=kS Tryz.func220
theorem k208 :kC Tryz.prog c208 Tryz.f208:=kS Tryz.func208
theorem k276 :kC Tryz.prog c276 Tryz.f276:=kS Tryz.func276
theorem k327 :kC Tryz.prog c327 Tryz.f327:=kS Tryz.func327
theorem k355 :kC Tryz.prog c355 Tryz.f355:=kS Tryz.func355
theorem k326 :kC Tryz.prog c326 Tryz.f326:=kS Tryz.func326
theorem k325 :kC Tryz.prog c325 Tryz.f325:=kS Tryz.func325
theorem k324 :kC Tryz.prog c324 Tryz.f324:=kS Tryz.func324
theorem k323 :kC Tryz.prog c323 Tryz.f323:=kS Tryz.func323
theorem k322 :kC Tryz.prog c322 Tryz.f322:=kS Tryz.func322
theorem k354 :kC Tryz.prog c354 Tryz.f354:=kS Tryz.func354
theorem k206 :kC Tryz.prog c206 Tryz.f206:=kS Tryz.func206
theorem k271 :kC Tryz.prog c271 Tryz.f271:=kS Tryz.func271
theorem k319 :kC Tryz.prog c319 Tryz.f319:=kS Tryz.func319
theorem k353 :kC Tryz.prog c353 Tryz.f353:=kS Tryz.func353
theorem k352 :kC Tryz.prog c352 Tryz.f352:=kS Tryz.func352
theorem k205 :kC Tryz.prog c205 Tryz.f205:=kS Tryz.func205
theorem k269 :kC Tryz.prog c269 Tryz.f269:=kS Tryz.func269
theorem k318 :kC Tryz.prog c318 Tryz.f318:=kS Tryz.func318
theorem k317 :kC Tryz.prog c317 Tryz.f317:=kS Tryz.func317
theorem k351 :kC Tryz.prog c351 Tryz.f351:=kS Tryz.func351
theorem k363 :kC Tryz.prog c363 Tryz.f363:=kS Tryz.func363
theorem k289 :kC Tryz.prog c289 Tryz.f289:=kS Tryz.func289
theorem k316 :kC Tryz.prog c316 Tryz.f316:=kS Tryz.func316
theorem k270 :kC Tryz.prog c270 Tryz.f270:=kS Tryz.func270
theorem k65 :kC Tryz.prog c65 Tryz.f65:=kS Tryz.func65
theorem k129 :kC Tryz.prog c129 Tryz.f129:=kS Tryz.func129
theorem k198 :kC Tryz.prog c198 Tryz.f198:=kS Tryz.func198
theorem k261 :kC Tryz.prog c261 Tryz.f261:=kS Tryz.func261
theorem s76 :∀y r,c76.sem y=some r→FnOK Tryz.prog GB G c76 y r:=vI1 (c:=Tryz.f76.body.getD .skip) Tryz.func76 (by kernel_rfl) (by kernel_rfl) cs76 cn76
theorem k197 :kC Tryz.prog c197 Tryz.f197:=kS Tryz.func197
theorem k260 :kC Tryz.prog c260 Tryz.f260:=kS Tryz.func260
theorem k290 :kC Tryz.prog c290 Tryz.f290:=kS Tryz.func290
theorem k3 :kC Tryz.prog c3 Tryz.f3:=kS Tryz.func3
theorem k14 :kC Tryz.prog c14 Tryz.f14:=kS Tryz.func14
theorem k61 :kC Tryz.prog c61 Tryz.f61:=kS Tryz.func61
theorem k60 :kC Tryz.prog c60 Tryz.f60:=kS Tryz.func60
theorem k13 :kC Tryz.prog c13 Tryz.f13:=kS Tryz.func13
theorem yN1 :kC Tryz.prog tQ1 Tryz.f54:=kS Tryz.func54
theorem k55 :kC Tryz.prog c55 Tryz.f55:=kS Tryz.func55
theorem qQ1 :kC Tryz.prog pO1 Tryz.f53:=kS Tryz.func53
theorem k58 :kC Tryz.prog c58 Tryz.f58:=kS Tryz.func58
theorem s121 :∀y r,c121.sem y=some r→FnOK Tryz.prog GB G c121 y r:=cG2
theorem k56 :kC Tryz.prog c56 Tryz.f56:=kS Tryz.func56
theorem k124 :kC Tryz.prog c124 Tryz.f124:=kS Tryz.func124
theorem s193 :∀y r,c193.sem y=some r→FnOK Tryz.prog GB G c193 y r:=iH2
theorem k123 :kC Tryz.prog c123 Tryz.f123:=kS Tryz.func123
theorem k190 :kC Tryz.prog c190 Tryz.f190:=kS Tryz.func190
theorem k122 :kC Tryz.prog c122 Tryz.f122:=kS Tryz.func122
theorem k12 :kC Tryz.prog c12 Tryz.f12:=kS Tryz.func12
theorem k38 :kC Tryz.prog c38 Tryz.f38:=kS Tryz.func38
theorem k10 :kC Tryz.prog c10 Tryz.f10:=kS Tryz.func10
theorem k9 :kC Tryz.prog c9 Tryz.f9:=kS Tryz.func9
theorem k49 :kC Tryz.prog c49 Tryz.f49:=kS Tryz.func49
theorem k118 :kC Tryz.prog c118 Tryz.f118:=kS Tryz.func118
theorem k185 :kC Tryz.prog c185 Tryz.f185:=kS Tryz.func185
theorem k79 :kC Tryz.prog c79 Tryz.f79:=kS Tryz.func79
theorem s77 :∀y r,c77.sem y=some r→FnOK Tryz.prog GB G c77 y r:=ss77
theorem k183 :kC Tryz.prog c183 Tryz.f183:=kS Tryz.func183
theorem rB2 :∀y r,mR.sem y=some r→FnOK Tryz.prog GB G mR y r:=nW1
theorem k248 :kC Tryz.prog c248 Tryz.f248:=kS Tryz.func248
theorem k246 :kC Tryz.prog c246 Tryz.f246:=kS Tryz.func246
theorem k182 :kC Tryz.prog c182 Tryz.f182:=kS Tryz.func182
theorem k237 :kC Tryz.prog c237 Tryz.f237:=kS Tryz.func237
theorem k294 :kC Tryz.prog c294 Tryz.f294:=kS Tryz.func294
theorem k168 :kC Tryz.prog c168 Tryz.f168:=kS Tryz.func168
theorem s236 :∀y r,c236.sem y=some r→FnOK Tryz.prog GB G c236 y r:=tG2
theorem s57 :∀y r,c57.sem y=some r→FnOK Tryz.prog GB G c57 y r:=ss57
theorem k62 :kC Tryz.prog c62 Tryz.f62:=kS Tryz.func62
theorem k127 :kC Tryz.prog c127 Tryz.f127:=kS Tryz.func127
theorem k195 :kC Tryz.prog c195 Tryz.f195:=kS Tryz.func195
theorem k258 :kC Tryz.prog c258 Tryz.f258:=kS Tryz.func258
theorem k287 :kC Tryz.prog c287 Tryz.f287:=kS Tryz.func287
theorem k192 :kC Tryz.prog c192 Tryz.f192:=kS Tryz.func192
theorem k251 :kC Tryz.prog c251 Tryz.f251:=kS Tryz.func251
theorem k191 :kC Tryz.prog c191 Tryz.f191:=kS Tryz.func191
theorem k126 :kC Tryz.prog c126 Tryz.f126:=kS Tryz.func126
theorem k59 :kC Tryz.prog c59 Tryz.f59:=kS Tryz.func59
theorem k52 :kC Tryz.prog c52 Tryz.f52:=kS Tryz.func52
theorem k117 :kC Tryz.prog c117 Tryz.f117:=kS Tryz.func117
theorem k181 :kC Tryz.prog c181 Tryz.f181:=kS Tryz.func181
theorem k116 :kC Tryz.prog c116 Tryz.f116:=kS Tryz.func116
theorem k180 :kC Tryz.prog c180 Tryz.f180:=kS Tryz.func180
theorem k115 :kC Tryz.prog c115 Tryz.f115:=kS Tryz.func115
theorem k179 :kC Tryz.prog c179 Tryz.f179:=kS Tryz.func179
theorem k243 :kC Tryz.prog c243 Tryz.f243:=kS Tryz.func243
theorem s300 :∀y r,c300.sem y=some r→FnOK Tryz.prog GB G c300 y r:=mX Tryz.func300 fun s c w=>by rw[run_callFunc_extern Tryz.func300 (by kernel_rfl) (by kernel_rfl) (by kernel_rfl) (e:=Extern.BytealgCount.count) (by kernel_rfl),Lib.run_countString];rfl
theorem k244 :kC Tryz.prog c244 Tryz.f244:=kS Tryz.func244
theorem k245 :kC Tryz.prog c245 Tryz.f245:=kS Tryz.func245
theorem k301 :kC Tryz.prog c301 Tryz.f301:=kS Tryz.func301
theorem s338 :∀y r,c338.sem y=some r→FnOK Tryz.prog GB G c338 y r:=vP Tryz.func338 fun s c w=>by rw[run_callFunc_extern Tryz.func338 (by kernel_rfl) (by kernel_rfl) (by kernel_rfl) (e:=Extern.BytealgIndexByte.indexByte) (by kernel_rfl),Lib.run_indexByteString];rfl
theorem k242 :kC Tryz.prog c242 Tryz.f242:=kS Tryz.func242
theorem s299 :∀y r,c299.sem y=some r→FnOK Tryz.prog GB G c299 y r:=fun y r h=>by cases h
theorem s298 :∀y r,c298.sem y=some r→FnOK Tryz.prog GB G c298 y r:=fun y r h=>by cases h
theorem k11 :kC Tryz.prog c11 Tryz.f11:=kS Tryz.func11
theorem k51 :kC Tryz.prog c51 Tryz.f51:=kS Tryz.func51
theorem k120 :kC Tryz.prog c120 Tryz.f120:=kS Tryz.func120
theorem k186 :kC Tryz.prog c186 Tryz.f186:=kS Tryz.func186
theorem k119 :kC Tryz.prog c119 Tryz.f119:=kS Tryz.func119
theorem k50 :kC Tryz.prog c50 Tryz.f50:=kS Tryz.func50
theorem k63 :kC Tryz.prog c63 Tryz.f63:=kS Tryz.func63
theorem hC2 (g:Nat) (x:ByteArray) (w:World):Calls Tryz.prog 184 #[.pointer (some ⟨g,0,none⟩),.string x] w fun e w'=>e = .returned (selV g (selF [(⟨#[66,89,77,79,78,84,72]⟩,6),(⟨#[66,89,87,69,69,75,78,79]⟩,7),(⟨#[66,89,89,69,65,82,68,65,89]⟩,8),(⟨#[66,89,77,79,78,84,72,68,65,89]⟩,9),(⟨#[66,89,72,79,85,82]⟩,11),(⟨#[66,89,77,73,78,85,84,69]⟩,12),(⟨#[66,89,83,69,67,79,78,68]⟩,13),(⟨#[66,89,83,69,84,80,79,83]⟩,14)] x))∧w'=w:=by
 by_cases h0:x=(⟨#[66,89,77,79,78,84,72]⟩:ByteArray)
 ·subst h0;rw[show selF [(⟨#[66,89,77,79,78,84,72]⟩,6),(⟨#[66,89,87,69,69,75,78,79]⟩,7),(⟨#[66,89,89,69,65,82,68,65,89]⟩,8),(⟨#[66,89,77,79,78,84,72,68,65,89]⟩,9),(⟨#[66,89,72,79,85,82]⟩,11),(⟨#[66,89,77,73,78,85,84,69]⟩,12),(⟨#[66,89,83,69,67,79,78,68]⟩,13),(⟨#[66,89,83,69,84,80,79,83]⟩,14)] (⟨#[66,89,77,79,78,84,72]⟩:ByteArray)=some 6 from by kernel_rfl]
  go_enter Tryz.func184,Tryz.ntmps184
  go_wp2
  go_ret
  exact⟨rfl,rfl⟩
 by_cases h1:x=(⟨#[66,89,87,69,69,75,78,79]⟩:ByteArray)
 ·subst h1;rw[show selF [(⟨#[66,89,77,79,78,84,72]⟩,6),(⟨#[66,89,87,69,69,75,78,79]⟩,7),(⟨#[66,89,89,69,65,82,68,65,89]⟩,8),(⟨#[66,89,77,79,78,84,72,68,65,89]⟩,9),(⟨#[66,89,72,79,85,82]⟩,11),(⟨#[66,89,77,73,78,85,84,69]⟩,12),(⟨#[66,89,83,69,67,79,78,68]⟩,13),(⟨#[66,89,83,69,84,80,79,83]⟩,14)] (⟨#[66,89,87,69,69,75,78,79]⟩:ByteArray)=some 7 from by kernel_rfl]
  go_enter Tryz.func184,Tryz.ntmps184
  go_wp2
  go_ret
  exact⟨rfl,rfl⟩
 by_cases h2:x=(⟨#[66,89,89,69,65,82,68,65,89]⟩:ByteArray)
 ·subst h2;rw[show selF [(⟨#[66,89,77,79,78,84,72]⟩,6),(⟨#[66,89,87,69,69,75,78,79]⟩,7),(⟨#[66,89,89,69,65,82,68,65,89]⟩,8),(⟨#[66,89,77,79,78,84,72,68,65,89]⟩,9),(⟨#[66,89,72,79,85,82]⟩,11),(⟨#[66,89,77,73,78,85,84,69]⟩,12),(⟨#[66,89,83,69,67,79,78,68]⟩,13),(⟨#[66,89,83,69,84,80,79,83]⟩,14)] (⟨#[66,89,89,69,65,82,68,65,89]⟩:ByteArray)=some 8 from by kernel_rfl]
  go_enter Tryz.func184,Tryz.ntmps184
  go_wp2
  go_ret
  exact⟨rfl,rfl⟩
 by_cases h3:x=(⟨#[66,89,77,79,78,84,72,68,65,89]⟩:ByteArray)
 ·subst h3;rw[show selF [(⟨#[66,89,77,79,78,84,72]⟩,6),(⟨#[66,89,87,69,69,75,78,79]⟩,7),(⟨#[66,89,89,69,65,82,68,65,89]⟩,8),(⟨#[66,89,77,79,78,84,72,68,65,89]⟩,9),(⟨#[66,89,72,79,85,82]⟩,11),(⟨#[66,89,77,73,78,85,84,69]⟩,12),(⟨#[66,89,83,69,67,79,78,68]⟩,13),(⟨#[66,89,83,69,84,80,79,83]⟩,14)] (⟨#[66,89,77,79,78,84,72,68,65,89]⟩:ByteArray)=some 9 from by kernel_rfl]
  go_enter Tryz.func184,Tryz.ntmps184
  go_wp2
  go_ret
  exact⟨rfl,rfl⟩
 by_cases h4:x=(⟨#[66,89,72,79,85,82]⟩:ByteArray)
 ·subst h4;rw[show selF [(⟨#[66,89,77,79,78,84,72]⟩,6),(⟨#[66,89,87,69,69,75,78,79]⟩,7),(⟨#[66,89,89,69,65,82,68,65,89]⟩,8),(⟨#[66,89,77,79,78,84,72,68,65,89]⟩,9),(⟨#[66,89,72,79,85,82]⟩,11),(⟨#[66,89,77,73,78,85,84,69]⟩,12),(⟨#[66,89,83,69,67,79,78,68]⟩,13),(⟨#[66,89,83,69,84,80,79,83]⟩,14)] (⟨#[66,89,72,79,85,82]⟩:ByteArray)=some 11 from by kernel_rfl]
  go_enter Tryz.func184,Tryz.ntmps184
  go_wp2
  go_ret
  exact⟨rfl,rfl⟩
 by_cases h5:x=(⟨#[66,89,77,73,78,85,84,69]⟩:ByteArray)
 ·subst h5;rw[show selF [(⟨#[66,89,77,79,78,84,72]⟩,6),(⟨#[66,89,87,69,69,75,78,79]⟩,7),(⟨#[66,89,89,69,65,82,68,65,89]⟩,8),(⟨#[66,89,77,79,78,84,72,68,65,89]⟩,9),(⟨#[66,89,72,79,85,82]⟩,11),(⟨#[66,89,77,73,78,85,84,69]⟩,12),(⟨#[66,89,83,69,67,79,78,68]⟩,13),(⟨#[66,89,83,69,84,80,79,83]⟩,14)] (⟨#[66,89,77,73,78,85,84,69]⟩:ByteArray)=some 12 from by kernel_rfl]
  go_enter Tryz.func184,Tryz.ntmps184
  go_wp2
  go_ret
  exact⟨rfl,rfl⟩
 by_cases h6:x=(⟨#[66,89,83,69,67,79,78,68]⟩:ByteArray)
 ·subst h6;rw[show selF [(⟨#[66,89,77,79,78,84,72]⟩,6),(⟨#[66,89,87,69,69,75,78,79]⟩,7),(⟨#[66,89,89,69,65,82,68,65,89]⟩,8),(⟨#[66,89,77,79,78,84,72,68,65,89]⟩,9),(⟨#[66,89,72,79,85,82]⟩,11),(⟨#[66,89,77,73,78,85,84,69]⟩,12),(⟨#[66,89,83,69,67,79,78,68]⟩,13),(⟨#[66,89,83,69,84,80,79,83]⟩,14)] (⟨#[66,89,83,69,67,79,78,68]⟩:ByteArray)=some 13 from by kernel_rfl]
  go_enter Tryz.func184,Tryz.ntmps184
  go_wp2
  go_ret
  exact⟨rfl,rfl⟩
 by_cases h7:x=(⟨#[66,89,83,69,84,80,79,83]⟩:ByteArray)
 ·subst h7;rw[show selF [(⟨#[66,89,77,79,78,84,72]⟩,6),(⟨#[66,89,87,69,69,75,78,79]⟩,7),(⟨#[66,89,89,69,65,82,68,65,89]⟩,8),(⟨#[66,89,77,79,78,84,72,68,65,89]⟩,9),(⟨#[66,89,72,79,85,82]⟩,11),(⟨#[66,89,77,73,78,85,84,69]⟩,12),(⟨#[66,89,83,69,67,79,78,68]⟩,13),(⟨#[66,89,83,69,84,80,79,83]⟩,14)] (⟨#[66,89,83,69,84,80,79,83]⟩:ByteArray)=some 14 from by kernel_rfl]
  go_enter Tryz.func184,Tryz.ntmps184
  go_wp2
  go_ret
  exact⟨rfl,rfl⟩
 have e:selF [(⟨#[66,89,77,79,78,84,72]⟩,6),(⟨#[66,89,87,69,69,75,78,79]⟩,7),(⟨#[66,89,89,69,65,82,68,65,89]⟩,8),(⟨#[66,89,77,79,78,84,72,68,65,89]⟩,9),(⟨#[66,89,72,79,85,82]⟩,11),(⟨#[66,89,77,73,78,85,84,69]⟩,12),(⟨#[66,89,83,69,67,79,78,68]⟩,13),(⟨#[66,89,83,69,84,80,79,83]⟩,14)] x=none:=by rw[oN h0,oN h1,oN h2,oN h3,oN h4,oN h5,oN h6,oN h7];rfl
 have b0:(x.toList==[66,89,77,79,78,84,72])=false:=by rw[←show(⟨#[66,89,77,79,78,84,72]⟩:ByteArray).toList=[66,89,77,79,78,84,72]from by kernel_rfl];exact xS h0
 have b1:(x.toList==[66,89,87,69,69,75,78,79])=false:=by rw[←show(⟨#[66,89,87,69,69,75,78,79]⟩:ByteArray).toList=[66,89,87,69,69,75,78,79]from by kernel_rfl];exact xS h1
 have b2:(x.toList==[66,89,89,69,65,82,68,65,89])=false:=by rw[←show(⟨#[66,89,89,69,65,82,68,65,89]⟩:ByteArray).toList=[66,89,89,69,65,82,68,65,89]from by kernel_rfl];exact xS h2
 have b3:(x.toList==[66,89,77,79,78,84,72,68,65,89])=false:=by rw[←show(⟨#[66,89,77,79,78,84,72,68,65,89]⟩:ByteArray).toList=[66,89,77,79,78,84,72,68,65,89]from by kernel_rfl];exact xS h3
 have b4:(x.toList==[66,89,72,79,85,82])=false:=by rw[←show(⟨#[66,89,72,79,85,82]⟩:ByteArray).toList=[66,89,72,79,85,82]from by kernel_rfl];exact xS h4
 have b5:(x.toList==[66,89,77,73,78,85,84,69])=false:=by rw[←show(⟨#[66,89,77,73,78,85,84,69]⟩:ByteArray).toList=[66,89,77,73,78,85,84,69]from by kernel_rfl];exact xS h5
 have b6:(x.toList==[66,89,83,69,67,79,78,68])=false:=by rw[←show(⟨#[66,89,83,69,67,79,78,68]⟩:ByteArray).toList=[66,89,83,69,67,79,78,68]from by kernel_rfl];exact xS h6
 have b7:(x.toList==[66,89,83,69,84,80,79,83])=false:=by rw[←show(⟨#[66,89,83,69,84,80,79,83]⟩:ByteArray).toList=[66,89,83,69,84,80,79,83]from by kernel_rfl];exact xS h7
 rw[e]
 go_enter Tryz.func184,Tryz.ntmps184
 go_wp2
 all_goals first
  | (exfalso;simp_all;done)
  | (go_ret;exact⟨rfl,rfl⟩)
theorem lH2 :jM1 Tryz.prog E:=xA2 rfl ⟨Tryz.f184,Tryz.f184.body.getD .skip,Tryz.func184,by kernel_rfl,by kernel_rfl⟩ hC2
theorem wF2 :zL Tryz.prog E.fn:=cc k63 (cc k50 (cc k119 (cc k186 (cc k120 (cc k51 (cc k11 (jF (by kernel_rfl) (jF (by kernel_rfl) (cc k242 (jF (by kernel_rfl) (cc k301 (cc k245 (cc k244 (jF (by kernel_rfl) (cc k243 (cc k179 (cc k115 (cc k180 (cc k116 (cc k181 (cc k117 (cc k52 (cc k59 (cc k126 (cc k191 (cc k251 (cc k192 (cc k287 (cc k258 (cc k195 (cc k127 (cc k62 (jF (by kernel_rfl) (jF (by kernel_rfl) (cc k168 (cc k294 (cc k237 (cc k182 (cc k246 (cc k248 (jF (by kernel_rfl) (cc k183 (jF (by kernel_rfl) (cc k79 (cc k185 (cc k118 (cc k49 (cc k9 (cc k10 (cc k38 (cc k12 (cc k122 (cc k190 (cc k123 (jF (by kernel_rfl) (cc k124 (cc k56 (jF (by kernel_rfl) (cc k58 (cc qQ1 (cc k55 (cc yN1 (cc k13 (cc k60 (cc k61 (cc k14 (cc k3 (cc k290 (cc k260 (cc k197 (jF (by kernel_rfl) (cc k261 (cc k198 (cc k129 (cc k65 (cc k270 (cc k316 (cc k289 (cc k363 (cc k351 (cc k317 (cc k318 (cc k269 (cc k205 (cc k352 (cc k353 (cc k319 (cc k271 (cc k206 (cc k354 (cc k322 (cc k323 (cc k324 (cc k325 (cc k326 (cc k355 (cc k327 (cc k276 (cc k208 (cc k220 (cc k145 (cc k146 (cc k81 (cc k320 (cc k272 (cc k321 (cc k275 (cc uB2 (cc k273 (cc sC2 (cc mZ1 (cc nS1 (cc jO1 (cc k328 (cc xB2 (cc xZ1 (cc rZ1 (cc cS1 (cc k66 (cc k17 (cc k84 (cc k92 (cc k93 (cc k36 (cc qT1 (cc aP1 (cc oR1 (cc k29 (cc k147 (cc k148 (cc k149 (cc k83 (cc k96 (jF (by kernel_rfl) (cc k288 (cc k232 (cc k158 (cc k97 (cc k40 (cc k94 (cc k156 (cc k95 (cc k39 (cc k87 (jF (by kernel_rfl) (cc k31 (cc k33 (cc k99 (cc k109 (cc k233 (cc k166 (cc k291 (cc k235 (cc k167 (cc k108 (cc k169 (cc k159 (cc k98 (cc k170 (cc k171 (cc k110 (cc k44 (cc k24 (cc k25 (cc k22 (cc k72 (cc k23 (cc k34 (cc k41 (cc k100 (cc k160 (cc k101 (cc k42 (cc k75 (cc k178 (cc k139 (cc k140 (cc k141 (cc k74 (cc k199 (cc k153 (cc k263 (cc k230 (cc k229 (cc k151 (cc k88 (cc k113 (cc k114 (cc k47 (cc k131 (cc k234 (cc k161 (cc k162 (cc k102 (cc k104 (cc k103 (cc k163 (cc k164 (cc k165 (cc k105 (cc k106 (cc k107 (cc k43 (cc k111 (cc k172 (cc k173 (cc k238 (cc k174 (cc k175 (cc k239 (cc k240 (cc k295 (cc k35 (cc k296 (cc k297 (cc k241 (cc k176 (cc k177 (cc k112 (cc k45 (cc k46 (cc k48 (cc k8 (sO1))))))))))))))))))))))))))))))))))))))))))))))))))))))))))))))))))))))))))))))))))))))))))))))))))))))))))))))))))))))))))))))))))))))))))))))))))))))))))))))))))))))))))))))))))))))))))))))))))))))))))))))))))))))))))))))))
theorem uF2 :jP Tryz.prog GB G E.fn:=eX1 (m:=[(298,c298),(299,c299),(338,c338),(300,c300),(57,c57),(236,c236),(100000,mR),(77,c77),(193,c193),(121,c121),(76,c76),(157,c157),(100015,vQ)]) (by kernel_rfl) (kF s298 (kF s299 (kF s338 (kF s300 (kF s57 (kF s236 (kF rB2 (kF s77 (kF s193 (kF s121 (kF s76 (kF s157 (kF wB2 (wP1))))))))))))))
abbrev lv46 (x:d46):List Lf:=Ty.leaves ty7 x
abbrev vM1 (x:d101):List Lf:=Ty.leaves ty6 x
def iL.f (a:Int):Option (Bool×Unit):=RN E 63 (a,())
def gC.f (a:d25):Option (Bool×Unit):=RN E 50 (a,())
def gC.l1 (a:Bool) (b c d e f:Int) (g:Bool) (h i j k:List Int) (l:List (Int×Int×Unit)) (m n o p:List Int):Option (Bool×Unit):=PL E 50 1 ⟨[U,wP 0 0]++us 38++[wB a]++us 13,[(0,(.box 25 [vI b,vI c,vI d,vI e,vI f,(.v .bool g),(.v ty1 h),(.v ty1 i),(.v ty1 j),(.v ty1 k),(.v (.row 30 ty3) l),(.v ty1 m),(.v ty1 n),(.v ty1 o),(.v ty1 p)]))],1000⟩
def tB.f (a:List Int) (b c:Int) (d:Bool):Option (Bool×Unit):=RN E 119 (a,b,c,d,())
def tB.l1 (a:List Int) (b c:Int) (d:Bool) (e:List Int) (f g:Int):Option (Bool×Unit):=PL E 119 1 ⟨[(.lf (.v ty1 a)),wI b,wI c,wB d,U,U,U,U,U,U,U,(.lf (.v ty1 e)),wI f,wI g]++us 37,[],1000⟩
def tB.l2 (a:List Int) (b c:Int) (d:Bool) (e:List Int) (f g:Int) (h:Bool):Option (Bool×Unit):=PL E 119 2 ⟨[(.lf (.v ty1 a)),wI b,wI c,wB d,U,U,U,U,U,U,U,(.lf (.v ty1 e)),wI f,wI g]++us 32++[wB h]++us 4,[],1000⟩
def aO.f (a b:Int×Int×Unit):Option (Int×Unit):=RN E 186 (a,b,())
def fB.f (a:d25):Option (Bool×Unit):=RN E 120 (a,())
def fB.l1 (a:List (Int×Int×Unit)) (b c d e f g h:Int) (i:Bool) (j k l m:List Int) (n:List (Int×Int×Unit)) (o p q r:List Int):Option (Bool×Unit):=PL E 120 1 ⟨[U,wP 0 0,U,U,U,U,(.lf (.v (.row 30 ty3) a)),wI b,wI c]++us 63,[(0,(.box 25 [vI d,vI e,vI f,vI g,vI h,(.v .bool i),(.v ty1 j),(.v ty1 k),(.v ty1 l),(.v ty1 m),(.v (.row 30 ty3) n),(.v ty1 o),(.v ty1 p),(.v ty1 q),(.v ty1 r)]))],1000⟩
def fB.l2 (a:List (Int×Int×Unit)) (b c:Int) (d:Bool) (e f g h i:Int) (j:Bool) (k l m n:List Int) (o:List (Int×Int×Unit)) (p q r s:List Int) (t u:Int):Option (Bool×Unit):=PL E 120 2 ⟨[U,wP 0 0,U,U,wP 1 0,U,(.lf (.v (.row 30 ty3) a)),wI b,wI c,U,U,U,U,wB d]++us 58,[(0,(.box 25 [vI e,vI f,vI g,vI h,vI i,(.v .bool j),(.v ty1 k),(.v ty1 l),(.v ty1 m),(.v ty1 n),(.v (.row 30 ty3) o),(.v ty1 p),(.v ty1 q),(.v ty1 r),(.v ty1 s)])),(1,(.box 30 [vI t,vI u]))],1000⟩
def fB.l3 (a:List (Int×Int×Unit)) (b c:Int) (d:Bool) (e f g h i:Int) (j:Bool) (k l m n:List Int) (o:List (Int×Int×Unit)) (p q r s:List Int):Option (Bool×Unit):=PL E 120 3 ⟨[U,wP 0 0,U,U,U,U,(.lf (.v (.row 30 ty3) a)),wI b,wI c]++us 38++[wB d]++us 24,[(0,(.box 25 [vI e,vI f,vI g,vI h,vI i,(.v .bool j),(.v ty1 k),(.v ty1 l),(.v ty1 m),(.v ty1 n),(.v (.row 30 ty3) o),(.v ty1 p),(.v ty1 q),(.v ty1 r),(.v ty1 s)]))],1000⟩
def iH.f (a:d25):Option (Bool×Unit):=RN E 51 (a,())
def wA.f (a:d25):Option (Bool×Unit):=RN E 11 (a,())
def wA.l1 (a:Bool) (b c d e f:Int) (g:Bool) (h i j k:List Int) (l:List (Int×Int×Unit)) (m n o p:List Int):Option (Bool×Unit):=PL E 11 1 ⟨[U,wP 0 0,U,U,U,U,U,U,U,U,U,wB a]++us 94,[(0,(.box 25 [vI b,vI c,vI d,vI e,vI f,(.v .bool g),(.v ty1 h),(.v ty1 i),(.v ty1 j),(.v ty1 k),(.v (.row 30 ty3) l),(.v ty1 m),(.v ty1 n),(.v ty1 o),(.v ty1 p)]))],1000⟩
def wA.l2 (a:Bool) (b c d e f:Int) (g:Bool) (h i j k:List Int) (l:List (Int×Int×Unit)) (m n o p:List Int):Option (Bool×Unit):=PL E 11 2 ⟨[U,wP 0 0]++us 10++[wB a]++us 93,[(0,(.box 25 [vI b,vI c,vI d,vI e,vI f,(.v .bool g),(.v ty1 h),(.v ty1 i),(.v ty1 j),(.v ty1 k),(.v (.row 30 ty3) l),(.v ty1 m),(.v ty1 n),(.v ty1 o),(.v ty1 p)]))],1000⟩
def wA.l3 (a:Bool) (b c d e f:Int) (g:Bool) (h i j k:List Int) (l:List (Int×Int×Unit)) (m n o p:List Int):Option (Bool×Unit):=PL E 11 3 ⟨[U,wP 0 0]++us 20++[wB a]++us 83,[(0,(.box 25 [vI b,vI c,vI d,vI e,vI f,(.v .bool g),(.v ty1 h),(.v ty1 i),(.v ty1 j),(.v ty1 k),(.v (.row 30 ty3) l),(.v ty1 m),(.v ty1 n),(.v ty1 o),(.v ty1 p)]))],1000⟩
def wA.l4 (a:Bool) (b c d e f:Int) (g:Bool) (h i j k:List Int) (l:List (Int×Int×Unit)) (m n o p:List Int):Option (Bool×Unit):=PL E 11 4 ⟨[U,wP 0 0]++us 35++[wB a]++us 68,[(0,(.box 25 [vI b,vI c,vI d,vI e,vI f,(.v .bool g),(.v ty1 h),(.v ty1 i),(.v ty1 j),(.v ty1 k),(.v (.row 30 ty3) l),(.v ty1 m),(.v ty1 n),(.v ty1 o),(.v ty1 p)]))],1000⟩
def wA.l5 (a b c d e:Int) (f:Bool) (g h i j:List Int) (k:List (Int×Int×Unit)) (l m n o:List Int):Option (Bool×Unit):=PL E 11 5 ⟨[U,wP 0 0]++us 104,[(0,(.box 25 [vI a,vI b,vI c,vI d,vI e,(.v .bool f),(.v ty1 g),(.v ty1 h),(.v ty1 i),(.v ty1 j),(.v (.row 30 ty3) k),(.v ty1 l),(.v ty1 m),(.v ty1 n),(.v ty1 o)]))],1000⟩
def wA.l6 (a:Bool) (b c d e f:Int) (g:Bool) (h i j k:List Int) (l:List (Int×Int×Unit)) (m n o p:List Int):Option (Bool×Unit):=PL E 11 6 ⟨[U,wP 0 0]++us 83++[wB a]++us 20,[(0,(.box 25 [vI b,vI c,vI d,vI e,vI f,(.v .bool g),(.v ty1 h),(.v ty1 i),(.v ty1 j),(.v ty1 k),(.v (.row 30 ty3) l),(.v ty1 m),(.v ty1 n),(.v ty1 o),(.v ty1 p)]))],1000⟩
def wA.l7 (a b c d e:Int) (f:Bool) (g h i j:List Int) (k:List (Int×Int×Unit)) (l m n o:List Int):Option (Bool×Unit):=PL E 11 7 ⟨[U,wP 0 0]++us 104,[(0,(.box 25 [vI a,vI b,vI c,vI d,vI e,(.v .bool f),(.v ty1 g),(.v ty1 h),(.v ty1 i),(.v ty1 j),(.v (.row 30 ty3) k),(.v ty1 l),(.v ty1 m),(.v ty1 n),(.v ty1 o)]))],1000⟩
def tM.f (a:ByteArray):Option (Int×Unit):=RN E 298 (a,())
def mU.f (a:ByteArray) (b:Int):Option tz8:=RN E 242 (a,b,())
def eF.f (a:ByteArray) (b:Int):Option (Int×Unit):=RN E 338 (a,b,())
def aG.f (a:ByteArray) (b:Int):Option (Int×Unit):=RN E 301 (a,b,())
def mF.f (a b:ByteArray):Option (Int×Unit):=RN E 245 (a,b,())
def eI.f (a b:ByteArray):Option (Int×Unit):=RN E 244 (a,b,())
def pG.f (a:ByteArray) (b:Int):Option (Int×Unit):=RN E 300 (a,b,())
def oG.f (a b:ByteArray):Option (Int×Unit):=RN E 243 (a,b,())
def oG.l1 (a b:ByteArray) (c:Int):Option (Int×Unit):=PL E 243 1 ⟨[(.lf (.v .str a)),(.lf (.v .str b)),U,U,U,wI c]++us 28,[],1000⟩
def eC.f (a b:ByteArray) (c d:Int):Option tz8:=RN E 179 (a,b,c,d,())
def eC.l1 (a b:ByteArray) (c d:Int):Option tz8:=PL E 179 1 ⟨[(.lf (.v .str a)),(.lf (.v .str b)),wI c,wI d]++us 62,[],1000⟩
def eC.l2 (a b:ByteArray) (c d e:Int) (f:List ByteArray):Option tz8:=PL E 179 2 ⟨[(.lf (.v .str a)),(.lf (.v .str b)),wI c,wI d,U,U,U,U,U,(.lf (.o 0)),wI e]++us 55,[(0,(.row 9 .str f))],1000⟩
def pD.f (a b:ByteArray):Option tz8:=RN E 115 (a,b,())
def yG.f (a b:ByteArray):Option (ByteArray×ByteArray×Bool×Unit):=RN E 180 (a,b,())
def aE.f (a b:ByteArray):Option (ByteArray×ByteArray×Bool×Unit):=RN E 116 (a,b,())
def rA.f (a:List ByteArray) (b:ByteArray):Option (Int×Unit):=RN E 181 (a,b,())
def rA.l1 (a:List ByteArray) (b:ByteArray) (c d:Int):Option (Int×Unit):=PL E 181 1 ⟨[(.lf (.v (.row 9 .str) a)),(.lf (.v .str b)),U,U,U,U,U,wI c,wI d]++us 10,[],1000⟩
def zB.f (a:List ByteArray) (b:ByteArray):Option (Bool×Unit):=RN E 117 (a,b,())
def zJ.f :Option tz8:=RN E 52 ()
def uF.f :Option tz8:=RN E 59 ()
def oB.f (a:ByteArray):Option (Int×Bool×Unit):=RN E 126 (a,())
def oB.l1 (a:ByteArray) (b c d:Int):Option (Int×Bool×Unit):=PL E 126 1 ⟨[(.lf (.v .str a)),U,U,U,wI b,U,U,wI c,wI d]++us 22,[],1000⟩
def oB.l2 (a:ByteArray) (b c d e:Int) (f:Bool):Option (Int×Bool×Unit):=PL E 126 2 ⟨[(.lf (.v .str a)),U,U,U,wI b,wI c,U,wI d,wI e]++us 11++[wB f]++us 10,[],1000⟩
def sF.f (a b c:Int):Option (Int×Unit):=RN E 191 (a,b,c,())
def vJ.f (a:Int):Option (Bool×Unit):=RN E 251 (a,())
def aC.f (a b:Int):Option (Int×Unit):=RN E 192 (a,b,())
def aC.l1 (a b:Int) (c:Bool):Option (Int×Unit):=PL E 192 1 ⟨[wI a,U,U,U,U,wI b,wB c]++us 16,[],1000⟩
def aC.l2 (a:Bool):Option (Int×Unit):=PL E 192 2 ⟨us 15++[wB a]++us 7,[],1000⟩
def eO.f (a:Int):Option (Bool×Unit):=RN E 287 (a,())
def kK.f (a b c:Int):Option (Bool×Unit):=RN E 258 (a,b,c,())
def fL.f (a b c:Int):Option (Int×Int×Unit):=RN E 195 (a,b,c,())
def xC.f (a b c d e g:Int):Option (Int×Int×Unit):=RN E 127 (a,b,c,d,e,g,())
def xC.l1 (a b c d:Int) (e:Bool):Option (Int×Int×Unit):=PL E 127 1 ⟨[U,U,U,wI a,wI b,wI c,U,U,U,U,U,U,U,U,wI d]++us 33++[wB e]++us 10,[],1000⟩
def iB.f (a:ByteArray):Option (Int×Int×Unit):=RN E 62 (a,())
def iB.l1 (a:ByteArray) (b:Bool):Option (Int×Int×Unit):=PL E 62 1 ⟨[(.lf (.v .str a))]++us 11++[wB b]++us 43,[],1000⟩
def iB.l2 (a b:Int) (c:Bool):Option (Int×Int×Unit):=PL E 62 2 ⟨[U,U,U,U,wI a,U,wI b]++us 31++[wB c]++us 17,[],1000⟩
def kD.f (a:Int):Option (ByteArray×Unit):=RN E 57 (a,())
def vG.f (a:ByteArray):Option (Int×Bool×Unit):=RN E 236 (a,())
def aD.f (a b:ByteArray):Option (Bool×Unit):=RN E 168 (a,b,())
def pF.f (a b:ByteArray):Option (ByteArray×Unit):=RN E 294 (a,b,())
def qE.f (a b:ByteArray):Option (ByteArray×Unit):=RN E 237 (a,b,())
def yE.f (a:ByteArray):Option (Int×Bool×Unit):=RN E 182 (a,())
def xN.f (a:ByteArray):Option tz14:=RN E 246 (a,())
def dA.f (a:List (Int×Int×Unit)):Option (tz2×Unit):=RN E 248 (a,())
def dA.l1 (a:List (Int×Int×Unit)):Option (tz2×Unit):=PL E 248 1 ⟨[U,U,(.lf (.o 0))]++us 58,[(0,(.row 30 ty3 a))],1000⟩
def dA.l2 (a:Int) (b:List (Int×Int×Unit)):Option (tz2×Unit):=PL E 248 2 ⟨[(.lf (.o 0)),U,U,wI a]++us 57,[(0,(.row 30 ty3 b))],1000⟩
def dA.l3 (a b c:Int) (d:List (Int×Int×Unit)):Option (tz2×Unit):=PL E 248 3 ⟨[(.lf (.o 0)),U,U,wI a,(.lf (.ot 0 b 2)),wI c]++us 55,[(0,(.row 30 ty3 d))],1000⟩
def dA.l5 (a:List (Int×Int×Unit)):Option (tz2×Unit):=PL E 248 5 ⟨[U,U,(.lf (.o 0))]++us 58,[(0,(.row 30 ty3 a))],1000⟩
def dA.l4 (a:List (Int×Int×Unit)):Option (tz2×Unit):=PL E 248 4 ⟨[U,U,(.lf (.o 1))]++us 58,[(1,(.row 30 ty3 a))],1000⟩
def nC.f (a:List (Int×Int×Unit)) (b:Unit):Option (tz2×Unit×Unit):=RN E 100000 (a,b,())
def bD.f (a:ByteArray):Option (tz2×Bool×Unit):=RN E 183 (a,())
def bD.l1 (a:List ByteArray) (b c:Int) (d:List (Int×Int×Unit)):Option (tz2×Bool×Unit):=PL E 183 1 ⟨[U,U,U,U,(.lf (.o 0)),U,U,U,U,U,(.lf (.v (.row 9 .str) a)),wI b,wI c]++us 22,[(0,(.row 30 ty3 d))],1000⟩
def vC.f (a:List Int):Option ((List Int)×Unit):=RN E 77 (a,())
def iA.f (a:List Int):Option ((List Int)×Unit):=RN E 79 (a,())
def iA.l1 (a:List Int):Option ((List Int)×Unit):=PL E 79 1 ⟨[U,U,(.lf (.o 0))]++us 58,[(0,(.row 3 ty0 a))],1000⟩
def iA.l2 (a:Int) (b:List Int):Option ((List Int)×Unit):=PL E 79 2 ⟨[(.lf (.o 0)),U,U,wI a]++us 57,[(0,(.row 3 ty0 b))],1000⟩
def iA.l3 (a b c:Int) (d:List Int):Option ((List Int)×Unit):=PL E 79 3 ⟨[(.lf (.o 0)),U,U,wI a,(.lf (.ot 0 b 1)),wI c]++us 55,[(0,(.row 3 ty0 d))],1000⟩
def iA.l5 (a:List Int):Option ((List Int)×Unit):=PL E 79 5 ⟨[U,U,(.lf (.o 0))]++us 58,[(0,(.row 3 ty0 a))],1000⟩
def iA.l4 (a:List Int):Option ((List Int)×Unit):=PL E 79 4 ⟨[U,U,(.lf (.o 1))]++us 58,[(1,(.row 3 ty0 a))],1000⟩
def fC.f (a:ByteArray):Option tz10:=RN E 185 (a,())
def fC.l1 (a:List ByteArray) (b c:Int) (d:List Int):Option tz10:=PL E 185 1 ⟨[U,U,U,U,(.lf (.o 0)),U,U,U,U,U,(.lf (.v (.row 9 .str) a)),wI b,wI c]++us 22,[(0,(.row 3 ty0 d))],1000⟩
def jA.f (a:d25) (b c:ByteArray):Option (Bool×d25×Unit):=RN E 118 (a,b,c,())
def jA.l1 (a:ByteArray) (b:Bool) (c d e f g:Int) (h:Bool) (i j k l:List Int) (m:List (Int×Int×Unit)) (n o p q:List Int):Option (Bool×d25×Unit):=PL E 118 1 ⟨[U,U,(.lf (.v .str a)),U,U,U,U,wB b,U,U,wP 0 6]++us 87,[(0,(.box 25 [vI c,vI d,vI e,vI f,vI g,(.v .bool h),(.v ty1 i),(.v ty1 j),(.v ty1 k),(.v ty1 l),(.v (.row 30 ty3) m),(.v ty1 n),(.v ty1 o),(.v ty1 p),(.v ty1 q)]))],1000⟩
def jA.l1a (a:ByteArray) (b:Bool) (c d e f g:Int) (h:Bool) (i j k l:List Int) (m:List (Int×Int×Unit)) (n o p q:List Int):Option (Bool×d25×Unit):=PL E 118 1 ⟨[U,U,(.lf (.v .str a)),U,U,U,U,wB b,U,U,wP 0 7]++us 87,[(0,(.box 25 [vI c,vI d,vI e,vI f,vI g,(.v .bool h),(.v ty1 i),(.v ty1 j),(.v ty1 k),(.v ty1 l),(.v (.row 30 ty3) m),(.v ty1 n),(.v ty1 o),(.v ty1 p),(.v ty1 q)]))],1000⟩
def jA.l1b (a:ByteArray) (b:Bool) (c d e f g:Int) (h:Bool) (i j k l:List Int) (m:List (Int×Int×Unit)) (n o p q:List Int):Option (Bool×d25×Unit):=PL E 118 1 ⟨[U,U,(.lf (.v .str a)),U,U,U,U,wB b,U,U,wP 0 8]++us 87,[(0,(.box 25 [vI c,vI d,vI e,vI f,vI g,(.v .bool h),(.v ty1 i),(.v ty1 j),(.v ty1 k),(.v ty1 l),(.v (.row 30 ty3) m),(.v ty1 n),(.v ty1 o),(.v ty1 p),(.v ty1 q)]))],1000⟩
def jA.l1c (a:ByteArray) (b:Bool) (c d e f g:Int) (h:Bool) (i j k l:List Int) (m:List (Int×Int×Unit)) (n o p q:List Int):Option (Bool×d25×Unit):=PL E 118 1 ⟨[U,U,(.lf (.v .str a)),U,U,U,U,wB b,U,U,wP 0 9]++us 87,[(0,(.box 25 [vI c,vI d,vI e,vI f,vI g,(.v .bool h),(.v ty1 i),(.v ty1 j),(.v ty1 k),(.v ty1 l),(.v (.row 30 ty3) m),(.v ty1 n),(.v ty1 o),(.v ty1 p),(.v ty1 q)]))],1000⟩
def jA.l1d (a:ByteArray) (b:Bool) (c d e f g:Int) (h:Bool) (i j k l:List Int) (m:List (Int×Int×Unit)) (n o p q:List Int):Option (Bool×d25×Unit):=PL E 118 1 ⟨[U,U,(.lf (.v .str a)),U,U,U,U,wB b,U,U,wP 0 11]++us 87,[(0,(.box 25 [vI c,vI d,vI e,vI f,vI g,(.v .bool h),(.v ty1 i),(.v ty1 j),(.v ty1 k),(.v ty1 l),(.v (.row 30 ty3) m),(.v ty1 n),(.v ty1 o),(.v ty1 p),(.v ty1 q)]))],1000⟩
def jA.l1e (a:ByteArray) (b:Bool) (c d e f g:Int) (h:Bool) (i j k l:List Int) (m:List (Int×Int×Unit)) (n o p q:List Int):Option (Bool×d25×Unit):=PL E 118 1 ⟨[U,U,(.lf (.v .str a)),U,U,U,U,wB b,U,U,wP 0 12]++us 87,[(0,(.box 25 [vI c,vI d,vI e,vI f,vI g,(.v .bool h),(.v ty1 i),(.v ty1 j),(.v ty1 k),(.v ty1 l),(.v (.row 30 ty3) m),(.v ty1 n),(.v ty1 o),(.v ty1 p),(.v ty1 q)]))],1000⟩
def jA.l1f (a:ByteArray) (b:Bool) (c d e f g:Int) (h:Bool) (i j k l:List Int) (m:List (Int×Int×Unit)) (n o p q:List Int):Option (Bool×d25×Unit):=PL E 118 1 ⟨[U,U,(.lf (.v .str a)),U,U,U,U,wB b,U,U,wP 0 13]++us 87,[(0,(.box 25 [vI c,vI d,vI e,vI f,vI g,(.v .bool h),(.v ty1 i),(.v ty1 j),(.v ty1 k),(.v ty1 l),(.v (.row 30 ty3) m),(.v ty1 n),(.v ty1 o),(.v ty1 p),(.v ty1 q)]))],1000⟩
def jA.l1g (a:ByteArray) (b:Bool) (c d e f g:Int) (h:Bool) (i j k l:List Int) (m:List (Int×Int×Unit)) (n o p q:List Int):Option (Bool×d25×Unit):=PL E 118 1 ⟨[U,U,(.lf (.v .str a)),U,U,U,U,wB b,U,U,wP 0 14]++us 87,[(0,(.box 25 [vI c,vI d,vI e,vI f,vI g,(.v .bool h),(.v ty1 i),(.v ty1 j),(.v ty1 k),(.v ty1 l),(.v (.row 30 ty3) m),(.v ty1 n),(.v ty1 o),(.v ty1 p),(.v ty1 q)]))],1000⟩
def jA.l1h (a:ByteArray) (b:Bool) (c d e f g:Int) (h:Bool) (i j k l:List Int) (m:List (Int×Int×Unit)) (n o p q:List Int):Option (Bool×d25×Unit):=PL E 118 1 ⟨[U,U,(.lf (.v .str a)),U,U,U,U,wB b,U,U,(.lf .np)]++us 87,[(0,(.box 25 [vI c,vI d,vI e,vI f,vI g,(.v .bool h),(.v ty1 i),(.v ty1 j),(.v ty1 k),(.v ty1 l),(.v (.row 30 ty3) m),(.v ty1 n),(.v ty1 o),(.v ty1 p),(.v ty1 q)]))],1000⟩
def yA.f (a:ByteArray):Option tz11:=RN E 49 (a,())
def yA.l1 (a:List ByteArray) (b c d e f g h:Int) (i:Bool) (j k l m n:Int) (p:Bool) (q:List ByteArray):Option tz11:=PL E 49 1 ⟨[U,U,wP 0 0,U,U,wP 1 0,(.lf (.o 2))]++us 11++[(.lf (.v (.row 9 .str) a)),wI b,wI c]++us 41,[(0,(.box 25 [vI d,vI e,vI f,vI g,vI h,(.v .bool i),.nl,.nl,.nl,.nl,.nl,.nl,.nl,.nl,.nl])),(1,(.box 25 [vI j,vI k,vI l,vI m,vI n,(.v .bool p),.nl,.nl,.nl,.nl,.nl,.nl,.nl,.nl,.nl])),(2,(.row 9 .str q))],1000⟩
def yA.l2 (a:Int) (b:ByteArray) (c:List ByteArray) (d e:Int) (f:Bool) (g h i j k:Int) (l:Bool) (m n p q r:Int) (s:Bool) (t:List ByteArray):Option tz11:=PL E 49 2 ⟨[U,U,wP 0 0,U,U,wP 1 0,(.lf (.o 2)),wI a,U,(.lf (.v .str b)),U,U,U,U,U,U,U,U,(.lf (.v (.row 9 .str) c)),wI d,wI e]++us 22++[wB f]++us 18,[(0,(.box 25 [vI g,vI h,vI i,vI j,vI k,(.v .bool l),.nl,.nl,.nl,.nl,.nl,.nl,.nl,.nl,.nl])),(1,(.box 25 [vI m,vI n,vI p,vI q,vI r,(.v .bool s),.nl,.nl,.nl,.nl,.nl,.nl,.nl,.nl,.nl])),(2,(.row 9 .str t))],1000⟩
def yA.l2a (a:Int) (b:ByteArray) (c:List ByteArray) (d e:Int) (f:Bool) (g h i j k:Int) (l:Bool) (m n p q r:Int) (s:Bool) (t u w x:List Int) (y:List (Int×Int×Unit)) (z A B C:List Int) (D:List ByteArray):Option tz11:=PL E 49 2 ⟨[U,U,wP 0 0,U,U,wP 1 0,(.lf (.o 2)),wI a,U,(.lf (.v .str b)),U,U,U,U,U,U,U,U,(.lf (.v (.row 9 .str) c)),wI d,wI e]++us 22++[wB f]++us 18,[(0,(.box 25 [vI g,vI h,vI i,vI j,vI k,(.v .bool l),.nl,.nl,.nl,.nl,.nl,.nl,.nl,.nl,.nl])),(1,(.box 25 [vI m,vI n,vI p,vI q,vI r,(.v .bool s),(.v ty1 t),(.v ty1 u),(.v ty1 w),(.v ty1 x),(.v (.row 30 ty3) y),(.v ty1 z),(.v ty1 A),(.v ty1 B),(.v ty1 C)])),(2,(.row 9 .str D))],1000⟩
def yA.l1a (a:List ByteArray) (b c d e f g h:Int) (i:Bool) (j k l m n:Int) (p:Bool) (q r s t:List Int) (u:List (Int×Int×Unit)) (w x y z:List Int) (A:List ByteArray):Option tz11:=PL E 49 1 ⟨[U,U,wP 0 0,U,U,wP 1 0,(.lf (.o 2))]++us 11++[(.lf (.v (.row 9 .str) a)),wI b,wI c]++us 41,[(0,(.box 25 [vI d,vI e,vI f,vI g,vI h,(.v .bool i),.nl,.nl,.nl,.nl,.nl,.nl,.nl,.nl,.nl])),(1,(.box 25 [vI j,vI k,vI l,vI m,vI n,(.v .bool p),(.v ty1 q),(.v ty1 r),(.v ty1 s),(.v ty1 t),(.v (.row 30 ty3) u),(.v ty1 w),(.v ty1 x),(.v ty1 y),(.v ty1 z)])),(2,(.row 9 .str A))],1000⟩
def qH.f (a:d25):Option (Bool×Unit):=RN E 10 (a,())
def bI.f (a:Int):Option (Int×Int×Unit):=RN E 122 (a,())
def dQ.f (a:Int):Option (Bool×Unit):=RN E 190 (a,())
def lB.f (a:Int):Option tz9:=RN E 123 (a,())
def lB.l1 (a b:Int):Option tz9:=PL E 123 1 ⟨[wI a,U,U,U,U,U,U,wI b]++us 48,[],1000⟩
def lB.l2 (a b:Int) (c:Bool):Option tz9:=PL E 123 2 ⟨[wI a,U,U,U,U,U,U,wI b]++us 19++[wB c]++us 28,[],1000⟩
def lB.l3 (a b:Int):Option tz9:=PL E 123 3 ⟨[wI a,U,U,U,U,U,U,wI b]++us 48,[],1000⟩
def lB.l4 (a b:Int):Option tz9:=PL E 123 4 ⟨[wI a,U,U,U,U,U,U,wI b]++us 48,[],1000⟩
def lB.l5 (a b c:Int):Option tz9:=PL E 123 5 ⟨[U,U,U,U,U,U,U,wI a,wI b,wI c]++us 46,[],1000⟩
def oH.f (a:ByteArray) (b:Int):Option (ByteArray×Unit):=RN E 193 (a,b,())
def uD.f (a b:Int):Option (ByteArray×Unit):=RN E 124 (a,b,())
def kH.f (a:Int):Option tz6:=RN E 56 (a,())
def lG.f (a:List ByteArray) (b:ByteArray):Option (ByteArray×Unit):=RN E 121 (a,b,())
def kE.f (a:List (Int×Int×Unit)):Option (ByteArray×Unit):=RN E 58 (a,())
def kE.l1 (a:List (Int×Int×Unit)) (b c:Int) (d:List ByteArray):Option (ByteArray×Unit):=PL E 58 1 ⟨[U,U,U,(.lf (.o 0)),U,U,U,(.lf (.v (.row 30 ty3) a)),wI b,wI c]++us 23,[(0,(.row 9 .str d))],1000⟩
def kE.l2 (a:ByteArray) (b:List (Int×Int×Unit)) (c d:Int) (e:List ByteArray):Option (ByteArray×Unit):=PL E 58 2 ⟨[U,U,U,(.lf (.o 0)),U,U,(.lf (.v .str a)),(.lf (.v (.row 30 ty3) b)),wI c,wI d]++us 23,[(0,(.row 9 .str e))],1000⟩
def iF.f (a b:ByteArray) (c:Bool) (d:ByteArray×Unit):Option ((ByteArray×Unit)×Unit):=RN E 100001 (a,b,c,d,())
def lE.f (a:List Int):Option (ByteArray×Unit):=RN E 55 (a,())
def lE.l1 (a:List Int) (b c:Int) (d:List ByteArray):Option (ByteArray×Unit):=PL E 55 1 ⟨[U,U,U,(.lf (.o 0)),U,U,(.lf (.v ty1 a)),wI b,wI c]++us 11,[(0,(.row 9 .str d))],1000⟩
def vE.f (a:ByteArray) (b:List Int) (c:((ByteArray×Unit)×Unit)×Unit):Option ((((ByteArray×Unit)×Unit)×Unit)×Unit):=RN E 100002 (a,b,c,())
def uJ.f (a:d25):Option tz6:=RN E 13 (a,())
def tA.f (a b:List Int):Option (Bool×Unit):=RN E 60 (a,b,())
def tA.l1 (a b:List Int) (c d:Int):Option (Bool×Unit):=PL E 60 1 ⟨[(.lf (.v ty1 a)),(.lf (.v ty1 b))]++us 10++[wI c,wI d]++us 12,[],1000⟩
def uA.f (a b:List (Int×Int×Unit)):Option (Bool×Unit):=RN E 61 (a,b,())
def uA.l1 (a b:List (Int×Int×Unit)) (c d:Int):Option (Bool×Unit):=PL E 61 1 ⟨[(.lf (.v (.row 30 ty3) a)),(.lf (.v (.row 30 ty3) b))]++us 10++[wI c,wI d]++us 12,[],1000⟩
def bE.f (a b:d25):Option (Bool×Unit):=RN E 14 (a,b,())
def bE.l1 (a:Bool) (b c d e f:Int) (g:Bool) (h i j k:List Int) (l:List (Int×Int×Unit)) (m n o p:List Int) (q r s t u:Int) (w:Bool) (x y z A:List Int) (B:List (Int×Int×Unit)) (C D F G:List Int):Option (Bool×Unit):=PL E 14 1 ⟨[U,U,wP 0 0,wP 1 0]++us 40++[wB a]++us 61,[(0,(.box 25 [vI b,vI c,vI d,vI e,vI f,(.v .bool g),(.v ty1 h),(.v ty1 i),(.v ty1 j),(.v ty1 k),(.v (.row 30 ty3) l),(.v ty1 m),(.v ty1 n),(.v ty1 o),(.v ty1 p)])),(1,(.box 25 [vI q,vI r,vI s,vI t,vI u,(.v .bool w),(.v ty1 x),(.v ty1 y),(.v ty1 z),(.v ty1 A),(.v (.row 30 ty3) B),(.v ty1 C),(.v ty1 D),(.v ty1 F),(.v ty1 G)]))],1000⟩
def uE.f (a:List Int):Option ((List Int)×Unit):=RN E 76 (a,())
def mW.f (a:d25) (b c:Int):Option (d101×Bool×Unit):=RN E 65 (a,b,c,())
def pH.f (a:d25×Int×d97×Int×Unit) (b:Int):Option (Int×Int×Unit):=RN E 205 (a,b,())
def dL.f (a:d101) (b:Int):Option (Bool×Unit):=RN E 206 (a,b,())
def fE.f (a:d101) (b:Int):Option (Bool×Unit):=RN E 208 (a,b,())
def jI.f (a:Int):Option (Bool×Unit):=RN E 220 (a,())
def bJ.f (a b:Int):Option (Bool×Unit):=RN E 145 (a,b,())
def qF.f (a:Int):Option (Bool×Unit):=RN E 146 (a,())
def bB.f (a:List Int) (b:Int):Option (Int×Bool×Unit):=RN E 81 (a,b,())
def bB.l1 (a:List Int) (b c d e:Int):Option (Int×Bool×Unit):=PL E 81 1 ⟨[(.lf (.v ty1 a)),wI b,U,U,U,U,wI c,wI d,wI e]++us 45,[],1000⟩
def bT.f (a:d101) (b:List Int):Option ((List Int)×Unit):=RN E 272 (a,b,())
def bK.f (a:d101) (b c d e:Int) (g:Unit):Option tz13:=RN E 100003 (a,b,c,d,e,g,())
def dW.f (a:d101) (b c:Int):Option ((List Int)×Unit):=RN E 273 (a,b,c,())
def sG.f (a:List Int) (b c:Int×Unit) (d:(((List Int)×Unit)×(Int×Unit)×Unit)×Unit):Option tz15:=RN E 100007 (a,b,c,d,())
def vA.f (a:d101) (b c d e g:Int) (h:(Int×Unit)×(Int×Unit)×tz4×Unit):Option (Bool×tz1×Unit):=RN E 100006 (a,b,c,d,e,g,h,())
def vA.l1 (a b c d e f:Int) (g:List Int) (h:d101):Option (Bool×tz1×Unit):=PL E 100006 1 ⟨[U,U,U,wI a,U,U,(.lf (.fn 136 [0,1,2])),wP 7 0,U,U,U,U,U,U,U,U,U,wI b,U,wI c]++us 43,[(0,(.box 3 [vI d])),(1,(.box 3 [vI e])),(2,(.box 94 [(.fn 130 [3,5])])),(3,(.box 22 [(.o 6)])),(5,(.box 3 [vI f])),(6,(.row 3 ty0 g)),(7,(.box 101 (vM1 h)))],1000⟩
def vA.l2 (a b c:Int) (d:Bool) (e f g:Int) (h:List Int) (i:d101):Option (Bool×tz1×Unit):=PL E 100006 2 ⟨[U,U,U,wI a,U,U,(.lf (.fn 136 [0,1,2])),wP 7 0,U,U,U,U,U,U,U,U,U,wI b,U,wI c]++us 42++[wB d],[(0,(.box 3 [vI e])),(1,(.box 3 [vI f])),(2,(.box 94 [(.fn 130 [3,5])])),(3,(.box 22 [(.o 6)])),(5,(.box 3 [vI g])),(6,(.row 3 ty0 h)),(7,(.box 101 (vM1 i)))],1000⟩
def gB.f (a:d101) (b c:Int) (d:(Int×Unit)×(Int×Unit)×tz4×Unit):Option (tz1×Unit):=RN E 100005 (a,b,c,d,())
def gB.l1 (a b c d e f:Int) (g:List Int) (h:d101):Option (tz1×Unit):=PL E 100005 1 ⟨[U,wI a,wI b,(.lf (.fn 136 [0,1,2])),wP 7 0,U,U,U,wI c]++us 30,[(0,(.box 3 [vI d])),(1,(.box 3 [vI e])),(2,(.box 94 [(.fn 130 [3,5])])),(3,(.box 22 [(.o 6)])),(5,(.box 3 [vI f])),(6,(.row 3 ty0 g)),(7,(.box 101 (vM1 h)))],1000⟩
def gB.l2 (a b c:Int) (d:Bool) (e f g:Int) (h:List Int) (i:d101):Option (tz1×Unit):=PL E 100005 2 ⟨[U,wI a,wI b,(.lf (.fn 136 [0,1,2])),wP 7 0,U,U,U,U,U,wI c]++us 24++[wB d]++us 3,[(0,(.box 3 [vI e])),(1,(.box 3 [vI f])),(2,(.box 94 [(.fn 130 [3,5])])),(3,(.box 22 [(.o 6)])),(5,(.box 3 [vI g])),(6,(.row 3 ty0 h)),(7,(.box 101 (vM1 i)))],1000⟩
def wM.f (a:d101) (b c:Int) (d:(Int×Unit)×(Int×Unit)×tz4×Unit):Option (tz1×Unit):=RN E 100009 (a,b,c,d,())
def sD.f (a:d101) (b c:Int) (d:((List Int)×Unit)×(Int×Unit)×Unit):Option tz4:=RN E 100004 (a,b,c,d,())
def sD.l1 (a:Int) (b:List Int) (c:d101) (d e:Int):Option tz4:=PL E 100004 1 ⟨[U,U,U,(.lf (.fn 130 [0,2])),wP 4 0,wP 5 0,wP 6 0,wP 7 0]++us 29,[(0,(.box 22 [(.o 3)])),(2,(.box 3 [vI a])),(3,(.row 3 ty0 b)),(4,(.box 101 (vM1 c))),(5,(.box 3 [vI d])),(6,(.box 3 [vI e])),(7,(.box 94 [(.fn 130 [0,2])]))],1000⟩
def aF.f (a:d101) (b:d25) (c d e:Int):Option ((List Int)×Unit):=RN E 66 (a,b,c,d,e,())
def aF.l1 (a b:Int) (c:d101) (d:Int) (e:List Int):Option ((List Int)×Unit):=PL E 66 1 ⟨[U,U,wI a,wI b,U,wP 0 0,U,U,U,wP 1 0,U,wP 2 0]++us 13,[(0,(.box 101 (vM1 c))),(1,(.box 3 [vI d])),(2,(.box 22 [(.o 3)])),(3,(.row 3 ty0 e))],1000⟩
def gK.f (a:d25) (b c d:Int):Option tz3:=RN E 17 (a,b,c,d,())
def xF.f (a:Int):Option (Int×Unit):=RN E 84 (a,())
def wJ.f (a:Int):Option (Bool×Unit):=RN E 92 (a,())
def jC.f (a:List Int):Option (Bool×Unit):=RN E 93 (a,())
def jC.l1 (a b:List Int) (c d:Int):Option (Bool×Unit):=PL E 93 1 ⟨[(.lf (.v ty1 a)),U,U,U,U,(.lf (.v ty1 b)),wI c,wI d]++us 24,[],1000⟩
def jC.l2 (a b:List Int) (c d:Int) (e:Bool):Option (Bool×Unit):=PL E 93 2 ⟨[(.lf (.v ty1 a)),U,U,U,U,(.lf (.v ty1 b)),wI c,wI d]++us 19++[wB e]++us 4,[],1000⟩
def vD.f (a:d46):Option (Bool×Unit):=RN E 36 (a,())
def vD.l1 (a:Bool) (b:d46):Option (Bool×Unit):=PL E 36 1 ⟨[U,wP 0 0]++us 36++[wB a]++us 9,[(0,(.box 46 (lv46 b)))],1000⟩
def xH.f (a:Int) (b:Int×Int×Int×Bool×Int×Int×Int×Int×Int×Bool×(List Int)×(List Int)×(List Int)×(List Int)×tz2×(List Int)×(List Int)×(List Int)×(List Int)×(List Int)×(List Int)×Unit) (c:Int×Unit):Option (Bool×tz0×(Int×Unit)×Unit):=RN E 100014 (a,b,c,())
def jB.f (a:List Int) (b:tz0×(Int×Unit)×Unit):Option (Int×(List Int)×(tz0×(Int×Unit)×Unit)×Unit):=RN E 100013 (a,b,())
def jB.l1 (a b:Int) (c:List Int) (d:d46) (e:Int):Option (Int×(List Int)×(tz0×(Int×Unit)×Unit)×Unit):=PL E 100013 1 ⟨[(.lf (.o 0)),(.lf (.fn 80 [1,2])),U,U,U,U,U,wI a,wI b]++us 10,[(0,(.row 3 ty0 c)),(1,(.box 46 (lv46 d))),(2,(.box 3 [vI e]))],1000⟩
def mA.f (a:List Int) (b:tz0×(Int×Unit)×Unit):Option tz12:=RN E 100012 (a,b,())
def mA.l1 (a:List Int) (b:d46) (c:Int):Option tz12:=PL E 100012 1 ⟨[U,U,U,U,(.lf (.o 0))]++us 37,[(0,(.row 3 ty0 a)),(1,(.box 46 (lv46 b))),(2,(.box 3 [vI c]))],1000⟩
def mA.l2 (a b:Int) (c:List Int) (d:d46) (e:Int):Option tz12:=PL E 100012 2 ⟨[(.lf (.o 0)),(.lf (.fn 80 [1,2])),U,U,U,wI a,wI b]++us 35,[(0,(.row 3 ty0 c)),(1,(.box 46 (lv46 d))),(2,(.box 3 [vI e]))],1000⟩
def mA.l3 (a:d46) (b:Int) (c:List Int):Option tz12:=PL E 100012 3 ⟨[U,U,U,U,(.lf (.o 3))]++us 37,[(1,(.box 46 (lv46 a))),(2,(.box 3 [vI b])),(3,(.row 3 ty0 c))],1000⟩
def mE.f (a:d46) (b:Int):Option tz3:=RN E 29 (a,b,())
def mE.l1 (a:List Int) (b:d46) (c:Int):Option tz3:=PL E 29 1 ⟨[U,U,wP 0 0,wP 1 0,U,U,(.lf (.v ty1 a))]++us 38,[(0,(.box 46 (lv46 b))),(1,(.box 3 [vI c]))],1000⟩
def mE.l1a (a:d46) (b:Int) (c:List Int):Option tz3:=PL E 29 1 ⟨[U,U,wP 0 0,wP 1 0,U,U,(.lf (.o 2))]++us 38,[(0,(.box 46 (lv46 a))),(1,(.box 3 [vI b])),(2,(.row 3 ty0 c))],1000⟩
def kC1.f (a:Int×tz2×(List d97)×Int×Unit):Option (Bool×Unit):=RN E 83 (a,())
def aU.f (a:Int×tz2×(List d97)×Int×Unit) (b:Int):Option (Int×Unit):=RN E 39 (a,b,())
def gE.f (a:List (Int×Int×Unit)):Option (tz2×Unit):=RN E 87 (a,())
def gE.l1 (a:List (Int×Int×Unit)) (b c:Int) (d:List (Int×Int×Unit)):Option (tz2×Unit):=PL E 87 1 ⟨[U,U,U,(.lf (.o 0)),U,U,U,(.lf (.v (.row 68 ty3) a)),wI b,wI c]++us 38,[(0,(.row 68 ty3 d))],1000⟩
def gE.l2 (b:Int) (c:List (Int×Int×Unit)) (d e:Int) (f:Bool) (g:List (Int×Int×Unit)) (a:Int×Int×Unit):Option (tz2×Unit):=PL E 87 2 ⟨[U,U,U,(.lf (.o 0)),U,wP 1 0,wI b,(.lf (.v (.row 68 ty3) c)),wI d,wI e]++us 17++[wB f]++us 20,[(0,(.row 68 ty3 g)),(1,(.box 68 [(.v ty0 a.1),(.v ty0 a.2.1)]))],1000⟩
def rC.f (a:List (Int×Int×Unit)) (b:Unit):Option (tz2×Unit×Unit):=RN E 100015 (a,b,())
def dD.f (a:d46) (b:List (Int×tz2×(List d97)×Int×Unit)) (c:Int):Option (tz2×Int×Unit):=RN E 31 (a,b,c,())
def dD.l1 (a:List (Int×tz2×(List d97)×Int×Unit)) (b:Int) (c:Bool) (d:d46):Option (tz2×Int×Unit):=PL E 31 1 ⟨[U,(.lf (.v (.row 66 ty8) a)),wI b,wP 0 0]++us 38++[wB c]++us 40,[(0,(.box 46 (lv46 d)))],1000⟩
def dD.l2 (a:List (Int×tz2×(List d97)×Int×Unit)) (b:Int) (c:List Int) (d e:Int) (f:d46) (g:List (Int×Int×Unit)):Option (tz2×Int×Unit):=PL E 31 2 ⟨[U,(.lf (.v (.row 66 ty8) a)),wI b,wP 0 0,U,U,U,U,U,U,(.lf (.o 1))]++us 42++[(.lf (.v ty1 c)),wI d,wI e]++us 27,[(0,(.box 46 (lv46 f))),(1,(.row 68 ty3 g))],1000⟩
def tC.f (a b:List (Int×Int×Unit)):Option (Bool×Unit):=RN E 33 (a,b,())
def tC.l1 (a b:List (Int×Int×Unit)) (c:Int):Option (Bool×Unit):=PL E 33 1 ⟨[(.lf (.v (.row 68 ty3) a)),(.lf (.v (.row 68 ty3) b)),U,U,U,wI c]++us 35,[],1000⟩
def tC.l2 (a b:List (Int×Int×Unit)) (c:Int) (d:Bool):Option (Bool×Unit):=PL E 33 2 ⟨[(.lf (.v (.row 68 ty3) a)),(.lf (.v (.row 68 ty3) b)),U,U,U,wI c]++us 34++[wB d],[],1000⟩
def eD.f (a:Int):Option (ByteArray×Unit):=RN E 99 (a,())
def nD.f (a b:ByteArray):Option (Bool×Unit):=RN E 109 (a,b,())
def yJ.f (a:Int):Option (Bool×Unit):=RN E 233 (a,())
def yB.f (a:List Int):Option (Int×Unit):=RN E 166 (a,())
def yB.l1 (a b:List Int) (c d:Int):Option (Int×Unit):=PL E 166 1 ⟨[(.lf (.v (.row 5 (.int .u8)) a)),U,U,U,U,U,(.lf (.v (.row 5 (.int .u8)) b)),wI c,wI d]++us 42,[],1000⟩
def yB.l2 (a:List Int) (b c:Int) (d:Bool) (e:List Int) (f g:Int):Option (Int×Unit):=PL E 166 2 ⟨[(.lf (.v (.row 5 (.int .u8)) a)),U,U,wI b,(.lf (.v (.int .u8) c)),wB d,(.lf (.v (.row 5 (.int .u8)) e)),wI f,wI g]++us 42,[],1000⟩
def yB.l3 (a:List Int) (b:Int) (c:List Int) (d e:Int) (f:Bool):Option (Int×Unit):=PL E 166 3 ⟨[(.lf (.v (.row 5 (.int .u8)) a)),U,U,wI b,U,U,(.lf (.v (.row 5 (.int .u8)) c)),wI d,wI e]++us 39++[wB f]++us 2,[],1000⟩
def vF.f (a b:ByteArray):Option (Bool×Unit):=RN E 291 (a,b,())
def oF.f (a b:ByteArray):Option (ByteArray×Unit):=RN E 235 (a,b,())
def yF.f (a b:ByteArray):Option (ByteArray×Unit):=RN E 167 (a,b,())
def lC.f (a:List Int):Option tz5:=RN E 108 (a,())
def lC.l1 (a:List ByteArray):Option tz5:=PL E 108 1 ⟨[U,U,U,U,U,U,(.lf (.v (.row 9 .str) a))]++us 52,[],1000⟩
def lC.l2 (a:List ByteArray) (b c:Int) (d:List ByteArray):Option tz5:=PL E 108 2 ⟨[U,U,U,U,U,U,U,U,(.lf (.o 0))]++us 24++[(.lf (.v (.row 9 .str) a)),wI b,wI c]++us 23,[(0,(.row 9 .str d))],1000⟩
def dE.f (a:ByteArray):Option (Int×Int×Bool×Unit):=RN E 169 (a,())
def qD.f (a:Int) (b:ByteArray):Option (ByteArray×Unit):=RN E 159 (a,b,())
def mD.f (a:Int):Option tz6:=RN E 98 (a,())
def mD.l1 (a:Int) (b:Bool):Option tz6:=PL E 98 1 ⟨[wI a]++us 11++[wB b]++us 36,[],1000⟩
def gA.f (a:ByteArray):Option (Int×Int×Unit):=RN E 170 (a,())
def gA.l1 (a:ByteArray) (b c d e:Int):Option (Int×Int×Unit):=PL E 170 1 ⟨[(.lf (.v .str a)),U,U,U,wI b,wI c,U,U,U,U,U,U,U,U,U,wI d,wI e]++us 63,[],1000⟩
def gA.l3 (a:ByteArray) (b c d e f g:Int):Option (Int×Int×Unit):=PL E 170 3 ⟨[(.lf (.v .str a)),U,U,U,wI b,wI c,wI d,wI e,U,U,U,U,U,U,U,wI f,wI g]++us 63,[],1000⟩
def gA.l2 (a:ByteArray) (b c d e f:Int) (g:Bool):Option (Int×Int×Unit):=PL E 170 2 ⟨[(.lf (.v .str a)),U,U,U,wI b,wI c,wI d,U,U,U,U,U,U,U,U,wI e,wI f]++us 15++[wB g]++us 47,[],1000⟩
def gA.l5 (a:Int) (b:Bool):Option (Int×Int×Unit):=PL E 170 5 ⟨[U,U,U,U,wI a]++us 73++[wB b]++us 1,[],1000⟩
def gA.l4 (a:ByteArray) (b c d e f g:Int) (h:Bool):Option (Int×Int×Unit):=PL E 170 4 ⟨[(.lf (.v .str a)),U,U,U,wI b,U,wI c,wI d,wI e,U,U,U,U,U,U,wI f,wI g]++us 41++[wB h]++us 21,[],1000⟩
def qA.f (a:ByteArray):Option tz10:=RN E 171 (a,())
def qA.l1 (a:List ByteArray) (b c:Int) (d:List Int):Option tz10:=PL E 171 1 ⟨[U,U,U,U,(.lf (.o 0)),U,U,U,U,U,(.lf (.v (.row 9 .str) a)),wI b,wI c]++us 34,[(0,(.row 3 ty0 d))],1000⟩
def qA.l2 (a:Int) (b:List ByteArray) (c d:Int) (e:Bool) (f:List Int):Option tz10:=PL E 171 2 ⟨[U,U,U,U,(.lf (.o 0)),U,U,wI a,U,U,(.lf (.v (.row 9 .str) b)),wI c,wI d]++us 27++[wB e]++us 6,[(0,(.row 3 ty0 f))],1000⟩
def qA.l3 (a:Int) (b:List ByteArray) (c d:Int) (e:List Int):Option tz10:=PL E 171 3 ⟨[U,U,U,U,(.lf (.o 0)),U,U,wI a,U,U,(.lf (.v (.row 9 .str) b)),wI c,wI d]++us 34,[(0,(.row 3 ty0 e))],1000⟩
def rD.f (a:d46) (b:Int) (c:ByteArray):Option (Bool×d46×Unit):=RN E 110 (a,b,c,())
def lA.f (a:List Int):Option tz7:=RN E 44 (a,())
def lA.l1 (a:List ByteArray) (b:Int) (c:List ByteArray) (d e f g h:Int) (i:Bool) (j k l m n:Int) (o:Bool) (p q r:Int) (s:Bool) (t u w x y:Int) (z:Bool):Option tz7:=PL E 44 1 ⟨[U,U,wP 0 0,U,U,(.lf (.v (.row 9 .str) a)),U,U,wP 1 0,wI b]++us 14++[(.lf (.v (.row 9 .str) c)),wI d,wI e]++us 56,[(0,(.box 46 [vI f,vI g,vI h,(.v .bool i),vI j,vI k,vI l,vI m,vI n,(.v .bool o),.nl,.nl,.nl,.nl,.nl,.nl,.nl,.nl,.nl,.nl,.nl])),(1,(.box 46 [vI p,vI q,vI r,(.v .bool s),vI t,vI u,vI w,vI x,vI y,(.v .bool z),.nl,.nl,.nl,.nl,.nl,.nl,.nl,.nl,.nl,.nl,.nl]))],1000⟩
def lA.l2 (a:List ByteArray) (b:Int) (c:ByteArray) (d:Int) (e:List ByteArray) (f g h i j:Int) (k:Bool) (l m n o p:Int) (q:Bool) (r s t:Int) (u:Bool) (w x y z A:Int) (B:Bool):Option tz7:=PL E 44 2 ⟨[U,U,wP 0 0,U,U,(.lf (.v (.row 9 .str) a)),U,U,wP 1 0,U,wI b,(.lf (.v .str c)),wI d]++us 11++[(.lf (.v (.row 9 .str) e)),wI f,wI g]++us 56,[(0,(.box 46 [vI h,vI i,vI j,(.v .bool k),vI l,vI m,vI n,vI o,vI p,(.v .bool q),.nl,.nl,.nl,.nl,.nl,.nl,.nl,.nl,.nl,.nl,.nl])),(1,(.box 46 [vI r,vI s,vI t,(.v .bool u),vI w,vI x,vI y,vI z,vI A,(.v .bool B),.nl,.nl,.nl,.nl,.nl,.nl,.nl,.nl,.nl,.nl,.nl]))],1000⟩
def lA.l3 (a:List ByteArray) (b:Int) (c:ByteArray) (d:Int) (e:List ByteArray) (f g:Int) (h:Bool) (i j k:Int) (l:Bool) (m n o p q:Int) (r:Bool) (s t u:Int) (w:Bool) (x y z A B:Int) (C:Bool):Option tz7:=PL E 44 3 ⟨[U,U,wP 0 0,U,U,(.lf (.v (.row 9 .str) a)),U,U,wP 1 0,U,wI b,(.lf (.v .str c)),wI d]++us 11++[(.lf (.v (.row 9 .str) e)),wI f,wI g]++us 17++[wB h]++us 38,[(0,(.box 46 [vI i,vI j,vI k,(.v .bool l),vI m,vI n,vI o,vI p,vI q,(.v .bool r),.nl,.nl,.nl,.nl,.nl,.nl,.nl,.nl,.nl,.nl,.nl])),(1,(.box 46 [vI s,vI t,vI u,(.v .bool w),vI x,vI y,vI z,vI A,vI B,(.v .bool C),.nl,.nl,.nl,.nl,.nl,.nl,.nl,.nl,.nl,.nl,.nl]))],1000⟩
def lA.l4 (a:List ByteArray) (b:Int) (c:ByteArray) (d:Int) (e:List ByteArray) (f g h i j:Int) (k:Bool) (l m n o p:Int) (q:Bool) (r s t:Int) (u:Bool) (w x y z A:Int) (B:Bool):Option tz7:=PL E 44 4 ⟨[U,U,wP 0 0,U,U,(.lf (.v (.row 9 .str) a)),U,U,wP 1 0,U,wI b,(.lf (.v .str c)),wI d]++us 11++[(.lf (.v (.row 9 .str) e)),wI f,wI g]++us 56,[(0,(.box 46 [vI h,vI i,vI j,(.v .bool k),vI l,vI m,vI n,vI o,vI p,(.v .bool q),.nl,.nl,.nl,.nl,.nl,.nl,.nl,.nl,.nl,.nl,.nl])),(1,(.box 46 [vI r,vI s,vI t,(.v .bool u),vI w,vI x,vI y,vI z,vI A,(.v .bool B),.nl,.nl,.nl,.nl,.nl,.nl,.nl,.nl,.nl,.nl,.nl]))],1000⟩
def lA.l5 (a:List ByteArray) (b c:Int) (d:List ByteArray) (e f:Int) (g:Bool) (h i j:Int) (k:Bool) (l m n o p:Int) (q:Bool) (r s t:Int) (u:Bool) (w x y z A:Int) (B:Bool):Option tz7:=PL E 44 5 ⟨[U,U,wP 0 0,U,U,(.lf (.v (.row 9 .str) a)),U,U,wP 1 0,U,wI b,U,wI c]++us 11++[(.lf (.v (.row 9 .str) d)),wI e,wI f]++us 38++[wB g]++us 17,[(0,(.box 46 [vI h,vI i,vI j,(.v .bool k),vI l,vI m,vI n,vI o,vI p,(.v .bool q),.nl,.nl,.nl,.nl,.nl,.nl,.nl,.nl,.nl,.nl,.nl])),(1,(.box 46 [vI r,vI s,vI t,(.v .bool u),vI w,vI x,vI y,vI z,vI A,(.v .bool B),.nl,.nl,.nl,.nl,.nl,.nl,.nl,.nl,.nl,.nl,.nl]))],1000⟩
def lA.l5a (a:List ByteArray) (b c:Int) (d:List ByteArray) (e f:Int) (g:Bool) (h i j:Int) (k:Bool) (l m n o p:Int) (q:Bool) (r:d46):Option tz7:=PL E 44 5 ⟨[U,U,wP 0 0,U,U,(.lf (.v (.row 9 .str) a)),U,U,wP 1 0,U,wI b,U,wI c]++us 11++[(.lf (.v (.row 9 .str) d)),wI e,wI f]++us 38++[wB g]++us 17,[(0,(.box 46 [vI h,vI i,vI j,(.v .bool k),vI l,vI m,vI n,vI o,vI p,(.v .bool q),.nl,.nl,.nl,.nl,.nl,.nl,.nl,.nl,.nl,.nl,.nl])),(1,(.box 46 (lv46 r)))],1000⟩
def lA.l1a (a:List ByteArray) (b:Int) (c:List ByteArray) (d e f g h:Int) (i:Bool) (j k l m n:Int) (o:Bool) (p:d46):Option tz7:=PL E 44 1 ⟨[U,U,wP 0 0,U,U,(.lf (.v (.row 9 .str) a)),U,U,wP 1 0,wI b]++us 14++[(.lf (.v (.row 9 .str) c)),wI d,wI e]++us 56,[(0,(.box 46 [vI f,vI g,vI h,(.v .bool i),vI j,vI k,vI l,vI m,vI n,(.v .bool o),.nl,.nl,.nl,.nl,.nl,.nl,.nl,.nl,.nl,.nl,.nl])),(1,(.box 46 (lv46 p)))],1000⟩
def lA.l2a (a:List ByteArray) (b:Int) (c:ByteArray) (d:Int) (e:List ByteArray) (f g h i j:Int) (k:Bool) (l m n o p:Int) (q:Bool) (r:d46):Option tz7:=PL E 44 2 ⟨[U,U,wP 0 0,U,U,(.lf (.v (.row 9 .str) a)),U,U,wP 1 0,U,wI b,(.lf (.v .str c)),wI d]++us 11++[(.lf (.v (.row 9 .str) e)),wI f,wI g]++us 56,[(0,(.box 46 [vI h,vI i,vI j,(.v .bool k),vI l,vI m,vI n,vI o,vI p,(.v .bool q),.nl,.nl,.nl,.nl,.nl,.nl,.nl,.nl,.nl,.nl,.nl])),(1,(.box 46 (lv46 r)))],1000⟩
def lA.l3a (a:List ByteArray) (b:Int) (c:ByteArray) (d:Int) (e:List ByteArray) (f g:Int) (h:Bool) (i j k:Int) (l:Bool) (m n o p q:Int) (r:Bool) (s:d46):Option tz7:=PL E 44 3 ⟨[U,U,wP 0 0,U,U,(.lf (.v (.row 9 .str) a)),U,U,wP 1 0,U,wI b,(.lf (.v .str c)),wI d]++us 11++[(.lf (.v (.row 9 .str) e)),wI f,wI g]++us 17++[wB h]++us 38,[(0,(.box 46 [vI i,vI j,vI k,(.v .bool l),vI m,vI n,vI o,vI p,vI q,(.v .bool r),.nl,.nl,.nl,.nl,.nl,.nl,.nl,.nl,.nl,.nl,.nl])),(1,(.box 46 (lv46 s)))],1000⟩
def lA.l4a (a:List ByteArray) (b:Int) (c:ByteArray) (d:Int) (e:List ByteArray) (f g h i j:Int) (k:Bool) (l m n o p:Int) (q:Bool) (r:d46):Option tz7:=PL E 44 4 ⟨[U,U,wP 0 0,U,U,(.lf (.v (.row 9 .str) a)),U,U,wP 1 0,U,wI b,(.lf (.v .str c)),wI d]++us 11++[(.lf (.v (.row 9 .str) e)),wI f,wI g]++us 56,[(0,(.box 46 [vI h,vI i,vI j,(.v .bool k),vI l,vI m,vI n,vI o,vI p,(.v .bool q),.nl,.nl,.nl,.nl,.nl,.nl,.nl,.nl,.nl,.nl,.nl])),(1,(.box 46 (lv46 r)))],1000⟩
def nG.f :Option (Bool×Unit):=RN E 24 ()
def lF.f (a:d46):Option (Bool×Unit):=RN E 25 (a,())
def wC.f (a b:List Int):Option (Bool×Unit):=RN E 22 (a,b,())
def wC.l1 (a b:List Int) (c:Int):Option (Bool×Unit):=PL E 22 1 ⟨[(.lf (.v ty1 a)),(.lf (.v ty1 b)),U,U,U,wI c]++us 20,[],1000⟩
def cD.f (a b:List (Int×Int×Unit)):Option (Bool×Unit):=RN E 72 (a,b,())
def cD.l1 (a b:List (Int×Int×Unit)) (c:Int):Option (Bool×Unit):=PL E 72 1 ⟨[(.lf (.v (.row 30 ty3) a)),(.lf (.v (.row 30 ty3) b)),U,U,U,wI c]++us 35,[],1000⟩
def cD.l2 (a b:List (Int×Int×Unit)) (c:Int) (d:Bool):Option (Bool×Unit):=PL E 72 2 ⟨[(.lf (.v (.row 30 ty3) a)),(.lf (.v (.row 30 ty3) b)),U,U,U,wI c]++us 34++[wB d],[],1000⟩
def sH.f (a b:d25):Option (Bool×Unit):=RN E 23 (a,b,())
def rG.f (a b:d46):Option (Bool×Unit):=RN E 34 (a,b,())
def cE.f (a:List Int):Option ((List Int)×Unit):=RN E 41 (a,())
def cE.l1 (a:List Int):Option ((List Int)×Unit):=PL E 41 1 ⟨[U,U,(.lf (.o 0))]++us 3,[(0,(.row 5 (.int .u8) a))],1000⟩
def tF.f (a:List Int):Option (ByteArray×Unit):=RN E 100 (a,())
def tF.l1 (a:List Int) (b c:Int) (d:List ByteArray):Option (ByteArray×Unit):=PL E 100 1 ⟨[U,U,U,(.lf (.o 0)),U,U,U,U,(.lf (.v ty1 a)),wI b,wI c]++us 15,[(0,(.row 9 .str d))],1000⟩
def eH.f (a:ByteArray):Option (Bool×Unit):=RN E 160 (a,())
def eH.l1 (a:ByteArray) (b c:Int):Option (Bool×Unit):=PL E 160 1 ⟨[(.lf (.v .str a)),U,U,U,U,wI b,wI c]++us 15,[],1000⟩
def uB.f (a:List ByteArray):Option tz3:=RN E 101 (a,())
def uB.l1 (a b:List ByteArray) (c d:Int):Option tz3:=PL E 101 1 ⟨[(.lf (.v (.row 9 .str) a)),U,U,U,U,U,U,U,U,U,(.lf (.v (.row 9 .str) b)),wI c,wI d]++us 39,[],1000⟩
def uB.l2 (a:List ByteArray) (b c:Int) (d:List Int):Option tz3:=PL E 101 2 ⟨[U,U,U,U,U,U,(.lf (.o 0))]++us 13++[(.lf (.v (.row 9 .str) a)),wI b,wI c]++us 29,[(0,(.row 5 (.int .u8) d))],1000⟩
def uB.l3 (a:ByteArray) (b:Int) (c:List ByteArray) (d e:Int) (f:List Int):Option tz3:=PL E 101 3 ⟨[U,U,U,U,U,U,(.lf (.o 0)),U,(.lf (.v .str a)),wI b]++us 10++[(.lf (.v (.row 9 .str) c)),wI d,wI e]++us 29,[(0,(.row 5 (.int .u8) f))],1000⟩
def mC.f (a:d46):Option tz3:=RN E 42 (a,())
def mC.l1 (a:d46) (b:List ByteArray):Option tz3:=PL E 42 1 ⟨[U,wP 0 0,U,U,U,U,U,U,(.lf (.o 1))]++us 71,[(0,(.box 46 (lv46 a))),(1,(.row 9 .str b))],1000⟩
def mC.l2 (a:d46) (b:List ByteArray):Option tz3:=PL E 42 2 ⟨[U,wP 0 0,U,U,U,U,U,U,(.lf (.o 1))]++us 71,[(0,(.box 46 (lv46 a))),(1,(.row 9 .str b))],1000⟩
def mC.l3 (a:List ByteArray):Option tz3:=PL E 42 3 ⟨[U,U,U,U,U,U,U,U,(.lf (.o 0))]++us 71,[(0,(.row 9 .str a))],1000⟩
def zG.f (a:Int):Option (Bool×Unit):=RN E 75 (a,())
def zD.f (a:List Int):Option (Bool×Unit):=RN E 178 (a,())
def zD.l1 (a:List Int) (b:Int):Option (Bool×Unit):=PL E 178 1 ⟨[(.lf (.v ty1 a)),U,U,wI b]++us 16,[],1000⟩
def eB.f (a:List Int) (b c:Int) (d:Bool):Option (Bool×Unit):=RN E 139 (a,b,c,d,())
def eB.l1 (a:List Int) (b c:Int) (d:Bool) (e:Int):Option (Bool×Unit):=PL E 139 1 ⟨[(.lf (.v ty1 a)),wI b,wI c,wB d,U,U,U,U,U,wI e]++us 38,[],1000⟩
def eB.l2 (a:List Int) (b c:Int) (d:Bool) (e:Int) (f:Bool):Option (Bool×Unit):=PL E 139 2 ⟨[(.lf (.v ty1 a)),wI b,wI c,wB d,U,U,U,U,U,wI e]++us 30++[wB f]++us 7,[],1000⟩
def dB.f (a:List (Int×Int×Unit)):Option (Bool×Unit):=RN E 140 (a,())
def dB.l1 (a:List (Int×Int×Unit)) (b:Int):Option (Bool×Unit):=PL E 140 1 ⟨[(.lf (.v (.row 30 ty3) a)),U,U,wI b]++us 85,[],1000⟩
def dB.l2 (a:List (Int×Int×Unit)) (b:Int) (c:Bool):Option (Bool×Unit):=PL E 140 2 ⟨[(.lf (.v (.row 30 ty3) a)),U,U,wI b]++us 81++[wB c]++us 3,[],1000⟩
def yC.f (a:List (Int×Int×Unit)):Option (Bool×Unit):=RN E 141 (a,())
def yC.l1 (a:List (Int×Int×Unit)) (b:Int):Option (Bool×Unit):=PL E 141 1 ⟨[(.lf (.v (.row 30 ty3) a)),U,U,wI b]++us 12,[],1000⟩
def bA.f (a:d25):Option (Bool×Unit):=RN E 74 (a,())
def bA.l1 (a:Bool) (b c d e f:Int) (g:Bool) (h i j k:List Int) (l:List (Int×Int×Unit)) (m n o p:List Int):Option (Bool×Unit):=PL E 74 1 ⟨[U,wP 0 0]++us 39++[wB a]++us 189,[(0,(.box 25 [vI b,vI c,vI d,vI e,vI f,(.v .bool g),(.v ty1 h),(.v ty1 i),(.v ty1 j),(.v ty1 k),(.v (.row 30 ty3) l),(.v ty1 m),(.v ty1 n),(.v ty1 o),(.v ty1 p)]))],1000⟩
def bA.l2 (a:Bool) (b c d e f:Int) (g:Bool) (h i j k:List Int) (l:List (Int×Int×Unit)) (m n o p:List Int):Option (Bool×Unit):=PL E 74 2 ⟨[U,wP 0 0]++us 62++[wB a]++us 166,[(0,(.box 25 [vI b,vI c,vI d,vI e,vI f,(.v .bool g),(.v ty1 h),(.v ty1 i),(.v ty1 j),(.v ty1 k),(.v (.row 30 ty3) l),(.v ty1 m),(.v ty1 n),(.v ty1 o),(.v ty1 p)]))],1000⟩
def bA.l3 (a b c d e:Int) (f:Bool) (g h i j:List Int) (k:List (Int×Int×Unit)) (l m n o:List Int):Option (Bool×Unit):=PL E 74 3 ⟨[U,wP 0 0]++us 229,[(0,(.box 25 [vI a,vI b,vI c,vI d,vI e,(.v .bool f),(.v ty1 g),(.v ty1 h),(.v ty1 i),(.v ty1 j),(.v (.row 30 ty3) k),(.v ty1 l),(.v ty1 m),(.v ty1 n),(.v ty1 o)]))],1000⟩
def bA.l4 (a:Bool) (b c d e f:Int) (g:Bool) (h i j k:List Int) (l:List (Int×Int×Unit)) (m n o p:List Int):Option (Bool×Unit):=PL E 74 4 ⟨[U,wP 0 0]++us 114++[wB a]++us 114,[(0,(.box 25 [vI b,vI c,vI d,vI e,vI f,(.v .bool g),(.v ty1 h),(.v ty1 i),(.v ty1 j),(.v ty1 k),(.v (.row 30 ty3) l),(.v ty1 m),(.v ty1 n),(.v ty1 o),(.v ty1 p)]))],1000⟩
def bA.l5 (a:Bool) (b c d e f:Int) (g:Bool) (h i j k:List Int) (l:List (Int×Int×Unit)) (m n o p:List Int):Option (Bool×Unit):=PL E 74 5 ⟨[U,wP 0 0]++us 150++[wB a]++us 78,[(0,(.box 25 [vI b,vI c,vI d,vI e,vI f,(.v .bool g),(.v ty1 h),(.v ty1 i),(.v ty1 j),(.v ty1 k),(.v (.row 30 ty3) l),(.v ty1 m),(.v ty1 n),(.v ty1 o),(.v ty1 p)]))],1000⟩
def bA.l6 (a b c d e:Int) (f:Bool) (g h i j:List Int) (k:List (Int×Int×Unit)) (l m n o:List Int):Option (Bool×Unit):=PL E 74 6 ⟨[U,wP 0 0]++us 229,[(0,(.box 25 [vI a,vI b,vI c,vI d,vI e,(.v .bool f),(.v ty1 g),(.v ty1 h),(.v ty1 i),(.v ty1 j),(.v (.row 30 ty3) k),(.v ty1 l),(.v ty1 m),(.v ty1 n),(.v ty1 o)]))],1000⟩
def bA.l7 (a:Bool) (b c d e f:Int) (g:Bool) (h i j k:List Int) (l:List (Int×Int×Unit)) (m n o p:List Int):Option (Bool×Unit):=PL E 74 7 ⟨[U,wP 0 0]++us 169++[wB a]++us 59,[(0,(.box 25 [vI b,vI c,vI d,vI e,vI f,(.v .bool g),(.v ty1 h),(.v ty1 i),(.v ty1 j),(.v ty1 k),(.v (.row 30 ty3) l),(.v ty1 m),(.v ty1 n),(.v ty1 o),(.v ty1 p)]))],1000⟩
def bA.l8 (a b c d e:Int) (f:Bool) (g h i j:List Int) (k:List (Int×Int×Unit)) (l m n o:List Int):Option (Bool×Unit):=PL E 74 8 ⟨[U,wP 0 0]++us 229,[(0,(.box 25 [vI a,vI b,vI c,vI d,vI e,(.v .bool f),(.v ty1 g),(.v ty1 h),(.v ty1 i),(.v ty1 j),(.v (.row 30 ty3) k),(.v ty1 l),(.v ty1 m),(.v ty1 n),(.v ty1 o)]))],1000⟩
def bA.l9 (a:Bool) (b c d e f:Int) (g:Bool) (h i j k:List Int) (l:List (Int×Int×Unit)) (m n o p:List Int):Option (Bool×Unit):=PL E 74 9 ⟨[U,wP 0 0]++us 208++[wB a]++us 20,[(0,(.box 25 [vI b,vI c,vI d,vI e,vI f,(.v .bool g),(.v ty1 h),(.v ty1 i),(.v ty1 j),(.v ty1 k),(.v (.row 30 ty3) l),(.v ty1 m),(.v ty1 n),(.v ty1 o),(.v ty1 p)]))],1000⟩
def bA.l10 (a b c d e:Int) (f:Bool) (g h i j:List Int) (k:List (Int×Int×Unit)) (l m n o:List Int):Option (Bool×Unit):=PL E 74 10 ⟨[U,wP 0 0]++us 229,[(0,(.box 25 [vI a,vI b,vI c,vI d,vI e,(.v .bool f),(.v ty1 g),(.v ty1 h),(.v ty1 i),(.v ty1 j),(.v (.row 30 ty3) k),(.v ty1 l),(.v ty1 m),(.v ty1 n),(.v ty1 o)]))],1000⟩
def wF.f (a b:Int):Option (Int×Unit):=RN E 199 (a,b,())
def zE.f (a:Int):Option (Int×Unit):=RN E 153 (a,())
def aJ.f (a:Int):Option (Bool×Unit):=RN E 263 (a,())
def cB.f (a b:Int):Option (Int×Unit):=RN E 230 (a,b,())
def cB.l1 (a b:Int) (c:Bool):Option (Int×Unit):=PL E 230 1 ⟨[wI a,U,U,U,U,wI b,wB c]++us 16,[],1000⟩
def cB.l2 (a b:Int) (c:Bool):Option (Int×Unit):=PL E 230 2 ⟨[wI a,U,U,U,U,wI b,U,U,U,U,U,U,U,U,wB c]++us 8,[],1000⟩
def zH.f (a b c:Int):Option (Bool×Unit):=RN E 229 (a,b,c,())
def nE.f (a b c:Int):Option (Int×Int×Unit):=RN E 151 (a,b,c,())
def nE.l1 (a b c d:Int):Option (Int×Int×Unit):=PL E 151 1 ⟨[wI a,wI b,U,U,U,U,U,U,wI c,wI d]++us 21,[],1000⟩
def iC.f (a b c d e g:Int):Option (Int×Int×Unit):=RN E 88 (a,b,c,d,e,g,())
def iC.l1 (a b c d:Int) (e:Bool):Option (Int×Int×Unit):=PL E 88 1 ⟨[U,U,U,wI a,wI b,wI c,U,U,U,U,U,U,U,U,wI d]++us 33++[wB e]++us 10,[],1000⟩
def dH.f (a:Int):Option (Bool×Unit):=RN E 113 (a,())
def wD.f (a:List Int):Option (Bool×Unit):=RN E 114 (a,())
def wD.l1 (a:List Int) (b:Int):Option (Bool×Unit):=PL E 114 1 ⟨[(.lf (.v ty1 a)),U,U,wI b]++us 19,[],1000⟩
def vB.f (a:d46):Option (Bool×Unit):=RN E 47 (a,())
def vB.l1 (a:Bool) (b:d46):Option (Bool×Unit):=PL E 47 1 ⟨[U,wP 0 0]++us 36++[wB a]++us 9,[(0,(.box 46 (lv46 b)))],1000⟩
def aK.f (a:Int):Option (Int×Int×Unit):=RN E 131 (a,())
def cO.f (a:Int):Option (Bool×Unit):=RN E 234 (a,())
def sC.f (a:Int):Option tz9:=RN E 161 (a,())
def sC.l1 (a b:Int):Option tz9:=PL E 161 1 ⟨[wI a,U,U,U,U,U,wI b]++us 37,[],1000⟩
def sC.l2 (a b c:Int):Option tz9:=PL E 161 2 ⟨[U,U,U,U,U,U,wI a,wI b,wI c]++us 35,[],1000⟩
def bC.f (a b:Int):Option (ByteArray×Unit):=RN E 162 (a,b,())
def bC.l1 (a b c:Int) (d:List Int):Option (ByteArray×Unit):=PL E 162 1 ⟨[wI a,wI b,U,U,U,(.lf (.o 0)),wI c]++us 16,[(0,(.row 5 (.int .u8) d))],1000⟩
def kG.f (a:Int):Option tz6:=RN E 102 (a,())
def yD.f (a:Int):Option (ByteArray×Unit):=RN E 104 (a,())
def sA.f (a:Int):Option tz6:=RN E 103 (a,())
def sA.l1 (a:Int) (b:Bool):Option tz6:=PL E 103 1 ⟨[wI a]++us 10++[wB b]++us 52,[],1000⟩
def sA.l2 (a:Int) (b:ByteArray):Option tz6:=PL E 103 2 ⟨[wI a,U,U,U,(.lf (.v .str b))]++us 59,[],1000⟩
def sA.l3 (a:ByteArray) (b:Int):Option tz6:=PL E 103 3 ⟨[U,U,U,U,(.lf (.v .str a)),wI b]++us 58,[],1000⟩
def sA.l4 (a:ByteArray) (b:Int):Option tz6:=PL E 103 4 ⟨[U,U,U,U,(.lf (.v .str a)),wI b]++us 58,[],1000⟩
def fH.f :Option tz8:=RN E 163 ()
def dC.f (a:ByteArray) (b:List Int):Option (ByteArray×Unit):=RN E 164 (a,b,())
def dC.l1 (a:ByteArray) (b:List Int) (c:ByteArray) (d:Int):Option (ByteArray×Unit):=PL E 164 1 ⟨[(.lf (.v .str a)),(.lf (.v ty1 b)),U,U,U,(.lf (.v .str c)),wI d]++us 24,[],1000⟩
def dC.l2 (a:ByteArray) (b:List Int) (c:ByteArray) (d:Int):Option (ByteArray×Unit):=PL E 164 2 ⟨[(.lf (.v .str a)),(.lf (.v ty1 b)),U,U,U,(.lf (.v .str c)),wI d]++us 24,[],1000⟩
def gF.f :Option tz8:=RN E 165 ()
def pA.f (a:d25):Option tz6:=RN E 105 (a,())
def pA.l1 (a:ByteArray) (b c d e f:Int) (g:Bool) (h i j k:List Int) (l:List (Int×Int×Unit)) (m n o p:List Int):Option tz6:=PL E 105 1 ⟨[U,wP 0 0,U,U,(.lf (.v .str a))]++us 128,[(0,(.box 25 [vI b,vI c,vI d,vI e,vI f,(.v .bool g),(.v ty1 h),(.v ty1 i),(.v ty1 j),(.v ty1 k),(.v (.row 30 ty3) l),(.v ty1 m),(.v ty1 n),(.v ty1 o),(.v ty1 p)]))],1000⟩
def pA.l2 (a:ByteArray) (b c d e f:Int) (g:Bool) (h i j k:List Int) (l:List (Int×Int×Unit)) (m n o p:List Int):Option tz6:=PL E 105 2 ⟨[U,wP 0 0,U,U,(.lf (.v .str a))]++us 128,[(0,(.box 25 [vI b,vI c,vI d,vI e,vI f,(.v .bool g),(.v ty1 h),(.v ty1 i),(.v ty1 j),(.v ty1 k),(.v (.row 30 ty3) l),(.v ty1 m),(.v ty1 n),(.v ty1 o),(.v ty1 p)]))],1000⟩
def pA.l3 (a:ByteArray) (b c d e f:Int) (g:Bool) (h i j k:List Int) (l:List (Int×Int×Unit)) (m n o p:List Int):Option tz6:=PL E 105 3 ⟨[U,wP 0 0,U,U,(.lf (.v .str a))]++us 128,[(0,(.box 25 [vI b,vI c,vI d,vI e,vI f,(.v .bool g),(.v ty1 h),(.v ty1 i),(.v ty1 j),(.v ty1 k),(.v (.row 30 ty3) l),(.v ty1 m),(.v ty1 n),(.v ty1 o),(.v ty1 p)]))],1000⟩
def pA.l4 (a:ByteArray) (b c d e f g:Int) (h:Bool) (i j k l:List Int) (m:List (Int×Int×Unit)) (n o p q:List Int):Option tz6:=PL E 105 4 ⟨[U,wP 0 0,U,U,(.lf (.v .str a)),U,U,wI b]++us 125,[(0,(.box 25 [vI c,vI d,vI e,vI f,vI g,(.v .bool h),(.v ty1 i),(.v ty1 j),(.v ty1 k),(.v ty1 l),(.v (.row 30 ty3) m),(.v ty1 n),(.v ty1 o),(.v ty1 p),(.v ty1 q)]))],1000⟩
def pA.l5 (a:ByteArray) (b c d e f g:Int) (h:Bool) (i j k l:List Int) (m:List (Int×Int×Unit)) (n o p q:List Int):Option tz6:=PL E 105 5 ⟨[U,wP 0 0,U,U,(.lf (.v .str a)),U,U,wI b]++us 125,[(0,(.box 25 [vI c,vI d,vI e,vI f,vI g,(.v .bool h),(.v ty1 i),(.v ty1 j),(.v ty1 k),(.v ty1 l),(.v (.row 30 ty3) m),(.v ty1 n),(.v ty1 o),(.v ty1 p),(.v ty1 q)]))],1000⟩
def pA.l6 (a:ByteArray) (b c d e f g:Int) (h:Bool) (i j k l:List Int) (m:List (Int×Int×Unit)) (n o p q:List Int):Option tz6:=PL E 105 6 ⟨[U,wP 0 0,U,U,(.lf (.v .str a)),U,U,wI b]++us 125,[(0,(.box 25 [vI c,vI d,vI e,vI f,vI g,(.v .bool h),(.v ty1 i),(.v ty1 j),(.v ty1 k),(.v ty1 l),(.v (.row 30 ty3) m),(.v ty1 n),(.v ty1 o),(.v ty1 p),(.v ty1 q)]))],1000⟩
def oD.f (a:List Int):Option (ByteArray×Unit):=RN E 106 (a,())
def oD.l1 (a:List Int) (b:ByteArray) (c:Int):Option (ByteArray×Unit):=PL E 106 1 ⟨[(.lf (.v ty1 a)),U,U,(.lf (.v .str b)),wI c]++us 24,[],1000⟩
def kA.f (a:List ByteArray):Option tz3:=RN E 107 (a,())
def kA.l1 (a:List ByteArray) (b:Int) (c:List Int):Option tz3:=PL E 107 1 ⟨[(.lf (.v (.row 9 .str) a)),U,U,U,(.lf (.o 0)),wI b]++us 85,[(0,(.row 5 (.int .u8) c))],1000⟩
def kA.l2 (a:List ByteArray) (b:Int) (c:Bool) (d:List Int):Option tz3:=PL E 107 2 ⟨[(.lf (.v (.row 9 .str) a)),U,U,U,(.lf (.o 0)),wI b]++us 23++[wB c]++us 61,[(0,(.row 5 (.int .u8) d))],1000⟩
def kA.l5 (a:List ByteArray) (b:Int) (c:List Int):Option tz3:=PL E 107 5 ⟨[(.lf (.v (.row 9 .str) a)),U,U,U,(.lf (.o 0)),U,U,wI b]++us 83,[(0,(.row 5 (.int .u8) c))],1000⟩
def kA.l3 (a:List ByteArray) (b c:Int) (d:List Int):Option tz3:=PL E 107 3 ⟨[(.lf (.v (.row 9 .str) a)),U,U,U,(.lf (.o 0)),wI b,wI c]++us 84,[(0,(.row 5 (.int .u8) d))],1000⟩
def kA.l6 (a:List ByteArray) (b:Int) (c:ByteArray) (d:Int) (e:List Int):Option tz3:=PL E 107 6 ⟨[(.lf (.v (.row 9 .str) a)),U,U,U,(.lf (.o 0)),U,U,wI b,(.lf (.v .str c)),wI d]++us 81,[(0,(.row 5 (.int .u8) e))],1000⟩
def kA.l4 (a:List ByteArray) (b c:Int) (d:Bool) (e:List Int):Option tz3:=PL E 107 4 ⟨[(.lf (.v (.row 9 .str) a)),U,U,U,(.lf (.o 0)),wI b,wI c]++us 47++[wB d]++us 36,[(0,(.row 5 (.int .u8) e))],1000⟩
def pB.f (a:d46):Option tz3:=RN E 43 (a,())
def pB.l1 (a:d46) (b:List ByteArray):Option tz3:=PL E 43 1 ⟨[U,wP 0 0,U,U,U,U,U,U,(.lf (.o 1))]++us 66,[(0,(.box 46 (lv46 a))),(1,(.row 9 .str b))],1000⟩
def pB.l2 (a:d46) (b:List ByteArray):Option tz3:=PL E 43 2 ⟨[U,wP 0 0,U,U,U,U,U,U,(.lf (.o 1))]++us 66,[(0,(.box 46 (lv46 a))),(1,(.row 9 .str b))],1000⟩
def pB.l3 (a:List ByteArray):Option tz3:=PL E 43 3 ⟨[U,U,U,U,U,U,U,U,(.lf (.o 0))]++us 66,[(0,(.row 9 .str a))],1000⟩
def cA.f (a:List Int):Option tz5:=RN E 111 (a,())
def cA.l1 (a:List Int) (b:Int):Option tz5:=PL E 111 1 ⟨[(.lf (.v (.row 5 (.int .u8)) a)),U,U,U,U,wI b]++us 148,[],1000⟩
def cA.l2 (a:List Int) (b:Int) (c:Bool):Option tz5:=PL E 111 2 ⟨[(.lf (.v (.row 5 (.int .u8)) a)),U,U,U,U,wI b,wB c]++us 147,[],1000⟩
def cA.l4 (a:List Int) (b c:Int) (d:List ByteArray):Option tz5:=PL E 111 4 ⟨[(.lf (.v (.row 5 (.int .u8)) a)),U,U,U,U,U,U,(.lf (.o 0)),wI b,wI c]++us 144,[(0,(.row 9 .str d))],1000⟩
def cA.l3 (a:List Int) (b:Int) (c:Bool):Option tz5:=PL E 111 3 ⟨[(.lf (.v (.row 5 (.int .u8)) a)),U,U,U,U,wI b]++us 68++[wB c]++us 79,[],1000⟩
def cA.l5 (a:List Int) (b c:Int) (d:Bool) (e:List ByteArray):Option tz5:=PL E 111 5 ⟨[(.lf (.v (.row 5 (.int .u8)) a)),U,U,U,U,U,U,(.lf (.o 0)),wI b,wI c]++us 93++[wB d]++us 50,[(0,(.row 9 .str e))],1000⟩
def cA.l6 (a:List Int) (b c:Int) (d:List ByteArray):Option tz5:=PL E 111 6 ⟨[(.lf (.v (.row 5 (.int .u8)) a)),U,U,U,U,U,U,(.lf (.o 0)),wI b,wI c]++us 144,[(0,(.row 9 .str d))],1000⟩
def cA.l7 (a:List Int) (b c d:Int) (e:Bool) (f:List ByteArray):Option tz5:=PL E 111 7 ⟨[(.lf (.v (.row 5 (.int .u8)) a)),U,U,U,U,U,U,(.lf (.o 0)),wI b,wI c,wI d]++us 110++[wB e]++us 32,[(0,(.row 9 .str f))],1000⟩
def cA.l8 (a:List Int) (b c d:Int) (e:List ByteArray):Option tz5:=PL E 111 8 ⟨[(.lf (.v (.row 5 (.int .u8)) a)),U,U,U,U,U,U,(.lf (.o 0)),wI b,wI c,wI d]++us 143,[(0,(.row 9 .str e))],1000⟩
def cA.l9 (a:List Int) (b:Int) (c:ByteArray) (d:Bool) (e:List ByteArray):Option tz5:=PL E 111 9 ⟨[(.lf (.v (.row 5 (.int .u8)) a)),U,U,U,U,U,U,(.lf (.o 0)),U,wI b,U,(.lf (.v .str c))]++us 124++[wB d]++us 17,[(0,(.row 9 .str e))],1000⟩
def zA.f (a:ByteArray):Option tz16:=RN E 172 (a,())
def zA.l1 (a:ByteArray) (b:Int):Option tz16:=PL E 172 1 ⟨[(.lf (.v .str a)),U,U,U,U,U,wI b]++us 39,[],1000⟩
def zA.l2 (a:ByteArray) (b c:Int):Option tz16:=PL E 172 2 ⟨[(.lf (.v .str a)),U,U,U,U,U,wI b,wI c]++us 38,[],1000⟩
def xA.f (a:ByteArray):Option (Int×Bool×Unit):=RN E 173 (a,())
def xA.l1 (a:ByteArray) (b:Bool):Option (Int×Bool×Unit):=PL E 173 1 ⟨[(.lf (.v .str a)),U,U,U,wB b]++us 63,[],1000⟩
def xA.l2 (a:ByteArray) (b:Bool) (c:ByteArray):Option (Int×Bool×Unit):=PL E 173 2 ⟨[(.lf (.v .str a)),U,U,U,wB b,(.lf (.v .str c))]++us 62,[],1000⟩
def xA.l3 (a:ByteArray) (b:Bool) (c:ByteArray) (d:Bool):Option (Int×Bool×Unit):=PL E 173 3 ⟨[(.lf (.v .str a)),U,U,U,wB b,(.lf (.v .str c))]++us 22++[wB d]++us 39,[],1000⟩
def xA.l4 (a:ByteArray) (b:Bool) (c:ByteArray) (d e:Int):Option (Int×Bool×Unit):=PL E 173 4 ⟨[(.lf (.v .str a)),U,U,U,wB b,(.lf (.v .str c)),wI d,wI e]++us 60,[],1000⟩
def xA.l5 (a:ByteArray) (b:Bool) (c:ByteArray) (d e f:Int) (g:Bool):Option (Int×Bool×Unit):=PL E 173 5 ⟨[(.lf (.v .str a)),U,U,U,wB b,(.lf (.v .str c)),wI d,wI e,wI f]++us 43++[wB g]++us 15,[],1000⟩
def xA.l6 (a:ByteArray) (b:Int):Option (Int×Bool×Unit):=PL E 173 6 ⟨[(.lf (.v .str a)),U,U,U,U,U,wI b]++us 61,[],1000⟩
def kB.f (a:ByteArray):Option (Int×Unit):=RN E 238 (a,())
def kB.l1 (a:ByteArray) (b c:Int):Option (Int×Unit):=PL E 238 1 ⟨[(.lf (.v .str a)),U,U,wI b,wI c]++us 25,[],1000⟩
def kB.l2 (a:ByteArray) (b c:Int) (d:Bool):Option (Int×Unit):=PL E 238 2 ⟨[(.lf (.v .str a)),U,U,wI b,wI c]++us 15++[wB d]++us 9,[],1000⟩
def mB.f (a:ByteArray):Option (Int×Int×Unit):=RN E 174 (a,())
def mB.l1 (a:ByteArray) (b:Bool):Option (Int×Int×Unit):=PL E 174 1 ⟨[(.lf (.v .str a))]++us 15++[wB b]++us 51,[],1000⟩
def mB.l2 (a:Int) (b:List Int):Option (Int×Int×Unit):=PL E 174 2 ⟨[U,U,U,U,(.lf (.o 0)),wI a]++us 62,[(0,(.row 3 ty0 b))],1000⟩
def eA.f (a:ByteArray):Option (Int×Int×Unit):=RN E 175 (a,())
def eA.l1 (a:ByteArray) (b c d:Int):Option (Int×Int×Unit):=PL E 175 1 ⟨[(.lf (.v .str a)),U,U,U,wI b,wI c,wI d]++us 68,[],1000⟩
def eA.l2 (a:ByteArray) (b c d e f:Int) (g:Bool):Option (Int×Int×Unit):=PL E 175 2 ⟨[(.lf (.v .str a)),U,U,U,wI b,wI c,wI d,wI e,(.lf (.v (.int .u8) f))]++us 16++[wB g]++us 49,[],1000⟩
def eA.l4 (a:Int) (b:Bool):Option (Int×Int×Unit):=PL E 175 4 ⟨[U,U,U,U,wI a]++us 68++[wB b]++us 1,[],1000⟩
def eA.l3 (a:ByteArray) (b c d e:Int):Option (Int×Int×Unit):=PL E 175 3 ⟨[(.lf (.v .str a)),U,U,U,wI b,wI c,wI d,wI e]++us 67,[],1000⟩
def rB.f (a:ByteArray) (b:Int):Option tz8:=RN E 239 (a,b,())
def rB.l1 (a:ByteArray) (b c d:Int) (e:List ByteArray):Option tz8:=PL E 239 1 ⟨[(.lf (.v .str a)),(.lf (.v (.int .u8) b)),U,U,U,(.lf (.o 0)),wI c,wI d]++us 27,[(0,(.row 9 .str e))],1000⟩
def rB.l2 (a:ByteArray) (b c d:Int) (e:Bool) (f:List ByteArray):Option tz8:=PL E 239 2 ⟨[(.lf (.v .str a)),(.lf (.v (.int .u8) b)),U,U,U,(.lf (.o 0)),wI c,wI d]++us 16++[wB e]++us 10,[(0,(.row 9 .str f))],1000⟩
def cC.f (a:List ByteArray) (b:ByteArray):Option (Int×Unit):=RN E 240 (a,b,())
def cC.l1 (a:List ByteArray) (b:ByteArray) (c:Int):Option (Int×Unit):=PL E 240 1 ⟨[(.lf (.v (.row 9 .str) a)),(.lf (.v .str b)),U,U,U,wI c]++us 17,[],1000⟩
def cC.l2 (a:List ByteArray) (b:ByteArray) (c:Int) (d:Bool):Option (Int×Unit):=PL E 240 2 ⟨[(.lf (.v (.row 9 .str) a)),(.lf (.v .str b)),U,U,U,wI c]++us 15++[wB d]++us 1,[],1000⟩
def eE.f (a:ByteArray):Option (Int×Bool×Unit):=RN E 295 (a,())
def oA.f (a:List Int):Option ((List Int)×Unit):=RN E 35 (a,())
def oA.l1 (a:List Int) (b:Int) (c:List Int):Option ((List Int)×Unit):=PL E 35 1 ⟨[(.lf (.v ty1 a)),U,U,(.lf (.o 0)),wI b]++us 53,[(0,(.row 3 ty0 c))],1000⟩
def oA.l2 (a:List Int) (b c:Int) (d:List Int):Option ((List Int)×Unit):=PL E 35 2 ⟨[(.lf (.v ty1 a)),U,U,(.lf (.o 0)),wI b,wI c]++us 52,[(0,(.row 3 ty0 d))],1000⟩
def oA.l3 (a:List Int) (b c:Int) (d:Bool) (e:List Int):Option ((List Int)×Unit):=PL E 35 3 ⟨[(.lf (.v ty1 a)),U,U,(.lf (.o 0)),wI b,wI c]++us 20++[wB d]++us 31,[(0,(.row 3 ty0 e))],1000⟩
def oA.l4 (a:List Int) (b c:Int) (d:List Int):Option ((List Int)×Unit):=PL E 35 4 ⟨[(.lf (.v ty1 a)),U,U,(.lf (.o 0)),wI b,wI c]++us 52,[(0,(.row 3 ty0 d))],1000⟩
def oA.l5 (a:List Int) (b c:Int) (d:Bool) (e:List Int):Option ((List Int)×Unit):=PL E 35 5 ⟨[(.lf (.v ty1 a)),U,U,(.lf (.o 0)),wI b,wI c]++us 37++[wB d]++us 14,[(0,(.row 3 ty0 e))],1000⟩
def oA.l6 (a:List Int) (b c:Int) (d:List Int):Option ((List Int)×Unit):=PL E 35 6 ⟨[(.lf (.v ty1 a)),U,U,(.lf (.o 0)),wI b,wI c]++us 52,[(0,(.row 3 ty0 d))],1000⟩
def qB.f (a:ByteArray):Option tz10:=RN E 296 (a,())
def qB.l1 (a:List ByteArray) (b:Int) (c:List Int):Option tz10:=PL E 296 1 ⟨[U,U,U,U,(.lf (.v (.row 9 .str) a)),(.lf (.o 0)),wI b]++us 29,[(0,(.row 3 ty0 c))],1000⟩
def fA.f (a:ByteArray):Option (tz2×Bool×Unit):=RN E 297 (a,())
def fA.l1 (a:List ByteArray) (b:Int):Option (tz2×Bool×Unit):=PL E 297 1 ⟨[U,U,U,U,(.lf (.v (.row 9 .str) a)),(.lf .nl),wI b]++us 99,[],1000⟩
def fA.l2 (a:List ByteArray) (b c d e:Int) (f:Bool):Option (tz2×Bool×Unit):=PL E 297 2 ⟨[U,U,U,U,(.lf (.v (.row 9 .str) a)),(.lf .nl),wI b,wI c,wI d,wI e,wB f]++us 95,[],1000⟩
def fA.l5 (a:List Int) (b:Int) (c:List (Int×Int×Unit)):Option (tz2×Bool×Unit):=PL E 297 5 ⟨[U,U,U,U,U,(.lf (.v ty1 a)),U,U,U,U,U,(.lf (.o 0)),wI b]++us 93,[(0,(.row 30 ty3 c))],1000⟩
def fA.l3 (a:List ByteArray) (b c d:Int) (e:Bool):Option (tz2×Bool×Unit):=PL E 297 3 ⟨[U,U,U,U,(.lf (.v (.row 9 .str) a)),(.lf .nl),wI b,U,wI c,wI d]++us 60++[wB e]++us 35,[],1000⟩
def fA.l4 (a:List ByteArray) (b c d:Int):Option (tz2×Bool×Unit):=PL E 297 4 ⟨[U,U,U,U,(.lf (.v (.row 9 .str) a)),(.lf .nl),wI b,U,wI c,wI d]++us 96,[],1000⟩
def fA.l1a (a:List ByteArray) (b:Int) (c:List Int):Option (tz2×Bool×Unit):=PL E 297 1 ⟨[U,U,U,U,(.lf (.v (.row 9 .str) a)),(.lf (.o 0)),wI b]++us 99,[(0,(.row 3 ty0 c))],1000⟩
def fA.l2a (a:List ByteArray) (b c d e:Int) (f:Bool) (g:List Int):Option (tz2×Bool×Unit):=PL E 297 2 ⟨[U,U,U,U,(.lf (.v (.row 9 .str) a)),(.lf (.o 0)),wI b,wI c,wI d,wI e,wB f]++us 95,[(0,(.row 3 ty0 g))],1000⟩
def fA.l3a (a:List ByteArray) (b c d:Int) (e:Bool) (f:List Int):Option (tz2×Bool×Unit):=PL E 297 3 ⟨[U,U,U,U,(.lf (.v (.row 9 .str) a)),(.lf (.o 0)),wI b,U,wI c,wI d]++us 60++[wB e]++us 35,[(0,(.row 3 ty0 f))],1000⟩
def fA.l4a (a:List ByteArray) (b c d:Int) (e:List Int):Option (tz2×Bool×Unit):=PL E 297 4 ⟨[U,U,U,U,(.lf (.v (.row 9 .str) a)),(.lf (.o 0)),wI b,U,wI c,wI d]++us 96,[(0,(.row 3 ty0 e))],1000⟩
def xB.f (a:d25) (b c:ByteArray):Option (Bool×d25×Unit):=RN E 241 (a,b,c,())
def aB.f (a:ByteArray):Option tz11:=RN E 176 (a,())
def aB.l1 (a:List ByteArray) (b c d e f g:Int) (h:Bool) (i j k l m:Int) (n:Bool) (p:List ByteArray):Option tz11:=PL E 176 1 ⟨[U,U,wP 0 0,U,U,wP 1 0,(.lf (.o 2)),(.lf (.v (.row 9 .str) a)),wI b]++us 64,[(0,(.box 25 [vI c,vI d,vI e,vI f,vI g,(.v .bool h),.nl,.nl,.nl,.nl,.nl,.nl,.nl,.nl,.nl])),(1,(.box 25 [vI i,vI j,vI k,vI l,vI m,(.v .bool n),.nl,.nl,.nl,.nl,.nl,.nl,.nl,.nl,.nl])),(2,(.row 9 .str p))],1000⟩
def aB.l2 (a:List ByteArray) (b:Int) (c:List ByteArray) (d:Bool) (e f g h i:Int) (j:Bool) (k l m n p:Int) (q:Bool) (r:List ByteArray):Option tz11:=PL E 176 2 ⟨[U,U,wP 0 0,U,U,wP 1 0,(.lf (.o 2)),(.lf (.v (.row 9 .str) a)),wI b,(.lf (.v (.row 9 .str) c))]++us 28++[wB d]++us 34,[(0,(.box 25 [vI e,vI f,vI g,vI h,vI i,(.v .bool j),.nl,.nl,.nl,.nl,.nl,.nl,.nl,.nl,.nl])),(1,(.box 25 [vI k,vI l,vI m,vI n,vI p,(.v .bool q),.nl,.nl,.nl,.nl,.nl,.nl,.nl,.nl,.nl])),(2,(.row 9 .str r))],1000⟩
def aB.l1a (a:List ByteArray) (b c d e f g:Int) (h:Bool) (i j k l m:Int) (n:Bool) (p q r s:List Int) (t:List (Int×Int×Unit)) (u w x y:List Int) (z:List ByteArray):Option tz11:=PL E 176 1 ⟨[U,U,wP 0 0,U,U,wP 1 0,(.lf (.o 2)),(.lf (.v (.row 9 .str) a)),wI b]++us 64,[(0,(.box 25 [vI c,vI d,vI e,vI f,vI g,(.v .bool h),.nl,.nl,.nl,.nl,.nl,.nl,.nl,.nl,.nl])),(1,(.box 25 [vI i,vI j,vI k,vI l,vI m,(.v .bool n),(.v ty1 p),(.v ty1 q),(.v ty1 r),(.v ty1 s),(.v (.row 30 ty3) t),(.v ty1 u),(.v ty1 w),(.v ty1 x),(.v ty1 y)])),(2,(.row 9 .str z))],1000⟩
def aB.l2a (a:List ByteArray) (b:Int) (c:List ByteArray) (d:Bool) (e f g h i:Int) (j:Bool) (k l m n p:Int) (q:Bool) (r s t u:List Int) (w:List (Int×Int×Unit)) (x y z A:List Int) (B:List ByteArray):Option tz11:=PL E 176 2 ⟨[U,U,wP 0 0,U,U,wP 1 0,(.lf (.o 2)),(.lf (.v (.row 9 .str) a)),wI b,(.lf (.v (.row 9 .str) c))]++us 28++[wB d]++us 34,[(0,(.box 25 [vI e,vI f,vI g,vI h,vI i,(.v .bool j),.nl,.nl,.nl,.nl,.nl,.nl,.nl,.nl,.nl])),(1,(.box 25 [vI k,vI l,vI m,vI n,vI p,(.v .bool q),(.v ty1 r),(.v ty1 s),(.v ty1 t),(.v ty1 u),(.v (.row 30 ty3) w),(.v ty1 x),(.v ty1 y),(.v ty1 z),(.v ty1 A)])),(2,(.row 9 .str B))],1000⟩
def jD.f (a:ByteArray):Option tz10:=RN E 177 (a,())
def jD.l1 (a:List ByteArray) (b:Int) (c:List Int):Option tz10:=PL E 177 1 ⟨[U,U,U,U,(.lf (.v (.row 9 .str) a)),(.lf (.o 0)),wI b]++us 30,[(0,(.row 3 ty0 c))],1000⟩
def aA.f (a:d46) (b:ByteArray) (c:Int):Option (Int×d46×Unit):=RN E 112 (a,b,c,())
def aA.l1 (a:ByteArray) (b:Int) (c d e:ByteArray) (f:Bool) (g h:Int) (i:d46) (j:List ByteArray):Option (Int×d46×Unit):=PL E 112 1 ⟨[wP 0 0,(.lf (.v .str a)),wI b,U,U,U,U,(.lf (.v .str c)),(.lf (.v .str d)),(.lf (.v .str e)),wB f,(.lf (.o 1)),wI g,wI h]++us 165,[(0,(.box 46 (lv46 i))),(1,(.row 9 .str j))],1000⟩
def aA.l2 (a:ByteArray) (b:Int) (c d e:ByteArray) (f:Bool) (g h:Int) (i:Bool) (j:d46) (k:List ByteArray):Option (Int×d46×Unit):=PL E 112 2 ⟨[wP 0 0,(.lf (.v .str a)),wI b,U,U,U,U,(.lf (.v .str c)),(.lf (.v .str d)),(.lf (.v .str e)),wB f,(.lf (.o 1)),wI g,wI h]++us 25++[wB i]++us 139,[(0,(.box 46 (lv46 j))),(1,(.row 9 .str k))],1000⟩
def aA.l3 (a b:ByteArray) (c:Bool) (d:Int) (e:Bool) (f:d46):Option (Int×d46×Unit):=PL E 112 3 ⟨[wP 0 0,U,U,U,U,U,U,U,(.lf (.v .str a)),(.lf (.v .str b)),wB c,U,wI d]++us 67++[wB e]++us 98,[(0,(.box 46 (lv46 f)))],1000⟩
def aA.l4 (a b:ByteArray) (c:Bool) (d:Int) (e:d46):Option (Int×d46×Unit):=PL E 112 4 ⟨[wP 0 0,U,U,U,U,U,U,U,(.lf (.v .str a)),(.lf (.v .str b)),wB c,U,wI d]++us 166,[(0,(.box 46 (lv46 e)))],1000⟩
def aA.l5 (a b:ByteArray) (c:Bool) (d e:Int) (f g:Bool) (h:d46):Option (Int×d46×Unit):=PL E 112 5 ⟨[wP 0 0,U,U,U,U,U,U,U,(.lf (.v .str a)),(.lf (.v .str b)),wB c,U,wI d,U,U,wI e,wB f]++us 74++[wB g]++us 87,[(0,(.box 46 (lv46 h)))],1000⟩
def aA.l9 (a:Bool) (b c:Int) (d:d46):Option (Int×d46×Unit):=PL E 112 9 ⟨us 10++[wB a,U,wI b,U,wI c]++us 164,[(0,(.box 46 (lv46 d)))],1000⟩
def aA.l6 (a b:ByteArray) (c:Bool) (d e:Int) (f:Bool) (g:d46):Option (Int×d46×Unit):=PL E 112 6 ⟨[wP 0 0,U,U,U,U,U,U,U,(.lf (.v .str a)),(.lf (.v .str b)),wB c,U,wI d,U,U,wI e,wB f]++us 162,[(0,(.box 46 (lv46 g)))],1000⟩
def aA.l10 (a:Int) (b:Bool) (c:d46):Option (Int×d46×Unit):=PL E 112 10 ⟨us 12++[wI a]++us 164++[wB b]++us 1,[(0,(.box 46 (lv46 c)))],1000⟩
def aA.l7 (a:ByteArray) (b:Bool) (c d:Int) (e:Bool) (f:d46):Option (Int×d46×Unit):=PL E 112 7 ⟨[wP 0 0,U,U,U,U,U,U,U,U,(.lf (.v .str a)),wB b,U,wI c,U,U,wI d]++us 99++[wB e]++us 63,[(0,(.box 46 (lv46 f)))],1000⟩
def aA.l8 (a:ByteArray) (b:Bool) (c d:Int) (e:d46):Option (Int×d46×Unit):=PL E 112 8 ⟨[wP 0 0,U,U,U,U,U,U,U,U,(.lf (.v .str a)),wB b,U,wI c,U,U,wI d]++us 163,[(0,(.box 46 (lv46 e)))],1000⟩
def qC.f (a:List Int):Option tz7:=RN E 45 (a,())
def qC.l1 (a:List ByteArray) (b c d e f:Int) (g:Bool) (h i j k l:Int) (m:Bool) (n o p:Int) (q:Bool) (r s t u w:Int) (x:Bool):Option tz7:=PL E 45 1 ⟨[U,U,wP 0 0,U,U,(.lf (.v (.row 9 .str) a)),U,U,wP 1 0,wI b,wI c]++us 37,[(0,(.box 46 [vI d,vI e,vI f,(.v .bool g),vI h,vI i,vI j,vI k,vI l,(.v .bool m),.nl,.nl,.nl,.nl,.nl,.nl,.nl,.nl,.nl,.nl,.nl])),(1,(.box 46 [vI n,vI o,vI p,(.v .bool q),vI r,vI s,vI t,vI u,vI w,(.v .bool x),.nl,.nl,.nl,.nl,.nl,.nl,.nl,.nl,.nl,.nl,.nl]))],1000⟩
def qC.l1a (a:List ByteArray) (b c d e f:Int) (g:Bool) (h i j k l:Int) (m:Bool) (n:d46):Option tz7:=PL E 45 1 ⟨[U,U,wP 0 0,U,U,(.lf (.v (.row 9 .str) a)),U,U,wP 1 0,wI b,wI c]++us 37,[(0,(.box 46 [vI d,vI e,vI f,(.v .bool g),vI h,vI i,vI j,vI k,vI l,(.v .bool m),.nl,.nl,.nl,.nl,.nl,.nl,.nl,.nl,.nl,.nl,.nl])),(1,(.box 46 (lv46 n)))],1000⟩
def cJ.f (a b:List Int):Option (Bool×Unit):=RN E 46 (a,b,())
def pN.f (a b:d46):Option (Bool×Unit):=RN E 48 (a,b,())
def pC.f (a b:d46) (c:List Int):Option (Bool×Unit):=RN E 8 (a,b,c,())
def pC.l1 (a:List Int) (b:Bool) (c d:d46):Option (Bool×Unit):=PL E 8 1 ⟨[U,U,(.lf (.v (.row 5 (.int .u8)) a)),wP 0 0,wP 1 0]++us 27++[wB b]++us 72,[(0,(.box 46 (lv46 c))),(1,(.box 46 (lv46 d)))],1000⟩
end
end Go.GV.YtegmfagkklekaaaGreatDoor

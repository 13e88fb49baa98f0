/- What functions compute, and the law run. -/
import Derived.Test.YtgaghkafmeelhaaGreatWalk1
import Derived.Test.YtgaghkafmeelhaaGreatVm10
set_option linter.constructorNameAsVariable false
set_option linter.unusedVariables false
set_option linter.unusedSimpArgs false
set_option linter.unnecessarySimpa false
noncomputable section
namespace Go.Proofs.YtgaghkafmeelhaaGreat
open Go.Vm
set_option maxRecDepth 100000
set_option linter.unusedVariables false
def U8:List (Nat×E7):=[(391,(A5 T false [537,29] (B7r (Fmx 537))).dir),(186,(A5 T false [29] (B7r (Fsm 43))).dir),(313,C0G T 29),(374,A9T),(317,A6B),(92,(A5 T false [106,106] (Fad 125)).dir),(42,(A5 T false [106,106] (Fcp 3)).dir),(237,Y5),(238,Y5),(321,Y5),(341,Y5),(387,B3B)]
theorem B0V:D8 Tryz.prog T U8:=⟨P4.see (P4.at A41 (by kernel_rfl)),P4.see (P4.at A3r (by kernel_rfl)),B7t (u8:=5) (by kernel_rfl) (by kernel_rfl) Tryz.func313 (by kernel_rfl) (by kernel_rfl) (by kernel_rfl) (by kernel_rfl),B3c Tryz.func374 (by kernel_rfl) (by kernel_rfl) (by kernel_rfl) (by kernel_rfl),B1j Tryz.func317 (by kernel_rfl) (by kernel_rfl) (by kernel_rfl) (by kernel_rfl),P4.at A3s (by kernel_rfl),P4.at A3s (by kernel_rfl),B6S,B6T,B6U,B6V,B1J,trivial⟩
def D4o:List V:=[.l [bl [66,89,78,65,77,69,48,49,0,0,0,0,0,0,0,0]]]
def D4p:List Rs:=[.d 43 (bl [71,66,67,0,176,13,250,203,11,148,245,98,82,20,154,254,250,249,227,81,47,171,162,140,8,214,161,174,225,191,151,8])]
theorem D4q:ob (A9 Tryz.prog T U8 100000 60 254 (A6 T [334] D4o) (fun _=>none) 0) (fun out=>A7 T false [.d 43] out)=some D4p:=by kernel_rfl
def D4r:List V:=[.l [bl [66,89,78,65,77,69,48,49,1,0,0,0,0,0,0,0]]]
def D4s:List Rs:=[.d 43 (bl [179,131,144,54,252,253,66,41,208,173,43,136,173,134,160,110,75,169,135,124,160,72,58,186,177,179,10,195,54,68,158,250])]
theorem D4t:ob (A9 Tryz.prog T U8 100000 60 254 (A6 T [334] D4r) (fun _=>none) 0) (fun out=>A7 T false [.d 43] out)=some D4s:=by kernel_rfl
def D4u:List V:=[.l [bl [179,131,144,54,252,253,66,41,208,173,43,136,173,134,160,110,75,169,135,124,160,72,58,186,177,179,10,195,54,68,158,250],bl [1,0,0,0,1,0]]]
def D4v:List Rs:=[.d 43 (bl [19,50,224,205,10,199,4,162,2,23,157,220,228,35,189,112,155,109,234,237,62,254,160,34,187,214,247,142,233,178,85,121])]
theorem D4w:ob (A9 Tryz.prog T U8 100000 60 254 (A6 T [334] D4u) (fun _=>none) 0) (fun out=>A7 T false [.d 43] out)=some D4v:=by kernel_rfl
def D4x:List V:=[.l [bl [1,0,0,0,1,0,0,0,0,0,0,0,0,0,0,0,0,0,0,0,0,0,0,0,0,0,0,0,0,0,0,0,0,0,0,0,0,255,255,255,255,6,98,121,110,97,109,101,0,0,0,0,1,0,0,0,0,0,0,0,0,1,106,0,0,0,0]]]
def D4y:List Rs:=[.d 43 (bl [164,185,97,247,26,133,138,169,23,177,220,56,79,124,5,84,3,78,40,106,254,139,168,156,129,38,228,241,249,101,157,231])]
theorem D4z:ob (A9 Tryz.prog T U8 100000 60 254 (A6 T [334] D4x) (fun _=>none) 0) (fun out=>A7 T false [.d 43] out)=some D4y:=by kernel_rfl
def D4A:List V:=[.l [bl [164,185,97,247,26,133,138,169,23,177,220,56,79,124,5,84,3,78,40,106,254,139,168,156,129,38,228,241,249,101,157,231]]]
def D4B:List Rs:=[.d 43 (bl [27,228,96,192,24,233,156,161,112,96,39,161,242,105,12,172,218,72,254,74,38,146,230,38,152,188,212,98,137,78,137,234])]
theorem D4C:ob (A9 Tryz.prog T U8 100000 60 254 (A6 T [334] D4A) (fun _=>none) 0) (fun out=>A7 T false [.d 43] out)=some D4B:=by kernel_rfl
def D4D:List V:=[.l [bl [1,0,0,0,0,0,0,0,0,0,0,0,0,0,0,0,0,0,0,0,0,0,0,0,0,0,0,0,0,0,0,0,0,0,0,0,27,228,96,192,24,233,156,161,112,96,39,161,242,105,12,172,218,72,254,74,38,146,230,38,152,188,212,98,137,78,137,234,0,202,154,59,255,255,127,32,0,0,0,0]]]
def D4E:List Rs:=[.d 43 (bl [30,142,222,220,65,59,120,14,231,129,242,81,22,124,166,126,57,108,10,92,117,197,61,184,88,189,119,47,216,235,59,136])]
theorem D4F:ob (A9 Tryz.prog T U8 100000 60 254 (A6 T [334] D4D) (fun _=>none) 0) (fun out=>A7 T false [.d 43] out)=some D4E:=by kernel_rfl
def D4G:List V:=[.l [bl [30,142,222,220,65,59,120,14,231,129,242,81,22,124,166,126,57,108,10,92,117,197,61,184,88,189,119,47,216,235,59,136]]]
def D4H:List Rs:=[.d 43 (bl [5,255,175,132,180,223,70,118,53,239,142,198,68,68,87,192,226,0,188,189,184,250,48,242,15,177,159,234,32,101,91,46])]
theorem D4I:ob (A9 Tryz.prog T U8 100000 60 254 (A6 T [334] D4G) (fun _=>none) 0) (fun out=>A7 T false [.d 43] out)=some D4H:=by kernel_rfl
def D4J:List V:=[.l [bl [1,0,0,0,1,0,0,0,0,0,0,0,0,0,0,0,0,0,0,0,0,0,0,0,0,0,0,0,0,0,0,0,0,0,0,0,0,255,255,255,255,3,0,2,1,0,0,0,0,1,0,242,5,42,1,0,0,0,1,84,0,0,0,0]]]
def D4K:List Rs:=[.d 43 (bl [199,32,105,214,232,221,104,150,44,24,184,10,141,18,46,123,245,214,133,175,236,250,193,165,5,52,44,168,42,142,190,28])]
theorem D4L:ob (A9 Tryz.prog T U8 100000 60 254 (A6 T [334] D4J) (fun _=>none) 0) (fun out=>A7 T false [.d 43] out)=some D4K:=by kernel_rfl
def D4M:List V:=[.l [bl [199,32,105,214,232,221,104,150,44,24,184,10,141,18,46,123,245,214,133,175,236,250,193,165,5,52,44,168,42,142,190,28]]]
def D4N:List Rs:=[.d 43 (bl [197,242,206,186,112,14,237,35,183,160,216,139,18,14,218,103,73,246,64,217,154,84,75,71,160,156,243,65,167,171,88,229])]
theorem D4O:ob (A9 Tryz.prog T U8 100000 60 254 (A6 T [334] D4M) (fun _=>none) 0) (fun out=>A7 T false [.d 43] out)=some D4N:=by kernel_rfl
def D4P:List V:=[.l [bl [1,0,0,0,181,145,218,91,169,255,171,72,53,108,154,0,38,222,25,76,113,197,114,223,201,231,138,109,71,218,106,36,168,19,193,79,197,242,206,186,112,14,237,35,183,160,216,139,18,14,218,103,73,246,64,217,154,84,75,71,160,156,243,65,167,171,88,229,0,206,154,59,255,255,127,32,2,0,0,0]]]
def D4Q:List Rs:=[.d 43 (bl [71,156,136,68,95,78,160,235,100,194,37,0,47,61,160,28,198,237,254,117,89,101,3,27,225,132,223,215,33,243,161,183])]
theorem D4R:ob (A9 Tryz.prog T U8 100000 60 254 (A6 T [334] D4P) (fun _=>none) 0) (fun out=>A7 T false [.d 43] out)=some D4Q:=by kernel_rfl
def C2z:List V:=[.l [bl [71,156,136,68,95,78,160,235,100,194,37,0,47,61,160,28,198,237,254,117,89,101,3,27,225,132,223,215,33,243,161,183]]]
def C2A:List Rs:=[.d 43 (bl [116,44,159,131,171,150,255,29,58,79,102,7,86,220,242,184,107,215,107,117,58,186,117,71,63,25,214,122,242,240,149,40])]
theorem D0c:ob (A9 Tryz.prog T U8 100000 60 254 (A6 T [334] C2z) (fun _=>none) 0) (fun out=>A7 T false [.d 43] out)=some C2A:=by kernel_rfl
def C2B:List V:=[.l [bl [1,0,0,0,1,0,0,0,0,0,0,0,0,0,0,0,0,0,0,0,0,0,0,0,0,0,0,0,0,0,0,0,0,0,0,0,0,255,255,255,255,3,0,1,0,0,0,0,0,1,0,242,5,42,1,0,0,0,1,84,0,0,0,0]]]
def C2C:List Rs:=[.d 43 (bl [159,3,3,255,228,3,77,126,56,191,73,98,12,101,215,30,225,105,4,59,169,152,224,194,185,41,215,188,246,173,158,92])]
theorem D0d:ob (A9 Tryz.prog T U8 100000 60 254 (A6 T [334] C2B) (fun _=>none) 0) (fun out=>A7 T false [.d 43] out)=some C2C:=by kernel_rfl
def C2D:List V:=[.l [bl [159,3,3,255,228,3,77,126,56,191,73,98,12,101,215,30,225,105,4,59,169,152,224,194,185,41,215,188,246,173,158,92]]]
def C2E:List Rs:=[.d 43 (bl [197,145,24,66,65,162,21,197,16,131,212,246,251,127,118,111,176,14,12,26,164,250,213,32,222,249,71,113,220,84,82,218])]
theorem D0e:ob (A9 Tryz.prog T U8 100000 60 254 (A6 T [334] C2D) (fun _=>none) 0) (fun out=>A7 T false [.d 43] out)=some C2E:=by kernel_rfl
def C2F:List V:=[.l [bl [1,0,0,0,5,255,175,132,180,223,70,118,53,239,142,198,68,68,87,192,226,0,188,189,184,250,48,242,15,177,159,234,32,101,91,46,197,145,24,66,65,162,21,197,16,131,212,246,251,127,118,111,176,14,12,26,164,250,213,32,222,249,71,113,220,84,82,218,0,204,154,59,255,255,127,32,0,0,0,0]]]
def C2G:List Rs:=[.d 43 (bl [98,251,102,181,255,141,213,130,154,110,215,17,86,173,103,4,166,244,137,32,220,237,191,230,205,6,55,30,48,154,206,14])]
theorem D0f:ob (A9 Tryz.prog T U8 100000 60 254 (A6 T [334] C2F) (fun _=>none) 0) (fun out=>A7 T false [.d 43] out)=some C2G:=by kernel_rfl
def C2H:List V:=[.l [bl [98,251,102,181,255,141,213,130,154,110,215,17,86,173,103,4,166,244,137,32,220,237,191,230,205,6,55,30,48,154,206,14]]]
def C2I:List Rs:=[.d 43 (bl [181,145,218,91,169,255,171,72,53,108,154,0,38,222,25,76,113,197,114,223,201,231,138,109,71,218,106,36,168,19,193,79])]
theorem D0g:ob (A9 Tryz.prog T U8 100000 60 254 (A6 T [334] C2H) (fun _=>none) 0) (fun out=>A7 T false [.d 43] out)=some C2I:=by kernel_rfl
def C2J:List V:=[.l [bl [19,50,224,205,10,199,4,162,2,23,157,220,228,35,189,112,155,109,234,237,62,254,160,34,187,214,247,142,233,178,85,121],bl [23,1,0,0,2,4,5,98,0,0,0,1,1,145,1,0,0,0,5,255,175,132,180,223,70,118,53,239,142,198,68,68,87,192,226,0,188,189,184,250,48,242,15,177,159,234,32,101,91,46,197,145,24,66,65,162,21,197,16,131,212,246,251,127,118,111,176,14,12,26,164,250,213,32,222,249,71,113,220,84,82,218,0,204,154,59,255,255,127,32,0,0,0,0,1,1,0,0,0,1,0,0,0,0,0,0,0,0,0,0,0,0,0,0,0,0,0,0,0,0,0,0,0,0,0,0,0,0,0,0,0,0,255,255,255,255,3,0,1,0,0,0,0,0,1,0,242,5,42,1,0,0,0,1,84,0,0,0,0,37,99,197,145,24,66,65,162,21,197,16,131,212,246,251,127,118,111,176,14,12,26,164,250,213,32,222,249,71,113,220,84,82,218,0,0,0,0,1,11,3,0,242,5,42,1,0,0,0,1,84,1,116,1,32,181,145,218,91,169,255,171,72,53,108,154,0,38,222,25,76,113,197,114,223,201,231,138,109,71,218,106,36,168,19,193,79,33,117,181,145,218,91,169,255,171,72,53,108,154,0,38,222,25,76,113,197,114,223,201,231,138,109,71,218,106,36,168,19,193,79,1,2,1,0]]]
def C2K:List Rs:=[.d 43 (bl [30,210,116,140,133,199,116,93,7,160,94,167,40,195,41,142,154,146,70,243,228,199,40,162,18,41,189,222,136,18,182,228])]
theorem D0h:ob (A9 Tryz.prog T U8 100000 60 254 (A6 T [334] C2J) (fun _=>none) 0) (fun out=>A7 T false [.d 43] out)=some C2K:=by kernel_rfl
def C2L:List V:=[.l [bl [30,210,116,140,133,199,116,93,7,160,94,167,40,195,41,142,154,146,70,243,228,199,40,162,18,41,189,222,136,18,182,228],bl [23,1,0,0,2,4,5,98,0,0,0,2,1,145,1,0,0,0,181,145,218,91,169,255,171,72,53,108,154,0,38,222,25,76,113,197,114,223,201,231,138,109,71,218,106,36,168,19,193,79,197,242,206,186,112,14,237,35,183,160,216,139,18,14,218,103,73,246,64,217,154,84,75,71,160,156,243,65,167,171,88,229,0,206,154,59,255,255,127,32,2,0,0,0,1,1,0,0,0,1,0,0,0,0,0,0,0,0,0,0,0,0,0,0,0,0,0,0,0,0,0,0,0,0,0,0,0,0,0,0,0,0,255,255,255,255,3,0,2,1,0,0,0,0,1,0,242,5,42,1,0,0,0,1,84,0,0,0,0,37,99,197,242,206,186,112,14,237,35,183,160,216,139,18,14,218,103,73,246,64,217,154,84,75,71,160,156,243,65,167,171,88,229,0,0,0,0,1,11,5,0,242,5,42,1,0,0,0,1,84,1,116,1,32,116,44,159,131,171,150,255,29,58,79,102,7,86,220,242,184,107,215,107,117,58,186,117,71,63,25,214,122,242,240,149,40,33,117,116,44,159,131,171,150,255,29,58,79,102,7,86,220,242,184,107,215,107,117,58,186,117,71,63,25,214,122,242,240,149,40,1,2,1,0]]]
def C2M:List Rs:=[.d 43 (bl [172,151,238,17,238,159,191,44,171,135,17,106,62,202,79,249,238,97,225,152,231,32,45,39,213,246,44,31,117,81,215,189])]
theorem D0i:ob (A9 Tryz.prog T U8 100000 60 254 (A6 T [334] C2L) (fun _=>none) 0) (fun out=>A7 T false [.d 43] out)=some C2M:=by kernel_rfl
def C2N:List V:=[.l [bl [66,89,78,65,77,69,48,49,2,0,0,0,0,0,0,0]]]
def C2O:List Rs:=[.d 43 (bl [146,231,198,188,58,223,5,192,58,204,191,232,179,118,187,151,164,222,50,239,132,10,233,149,142,41,248,94,150,105,221,182])]
theorem D0j:ob (A9 Tryz.prog T U8 100000 60 254 (A6 T [334] C2N) (fun _=>none) 0) (fun out=>A7 T false [.d 43] out)=some C2O:=by kernel_rfl
def C2P:List V:=[.l [bl [146,231,198,188,58,223,5,192,58,204,191,232,179,118,187,151,164,222,50,239,132,10,233,149,142,41,248,94,150,105,221,182],bl [1,0,0,0,1,0]]]
def C2Q:List Rs:=[.d 43 (bl [188,51,254,114,33,151,86,235,203,233,214,174,181,105,242,13,114,189,235,121,151,168,155,8,180,237,95,219,65,154,250,245])]
theorem D0k:ob (A9 Tryz.prog T U8 100000 60 254 (A6 T [334] C2P) (fun _=>none) 0) (fun out=>A7 T false [.d 43] out)=some C2Q:=by kernel_rfl
def tb0:List (List V×List Rs):=[(D4o,D4p),(D4r,D4s),(D4u,D4v),(D4x,D4y),(D4A,D4B),(D4D,D4E),(D4G,D4H),(D4J,D4K),(D4M,D4N),(D4P,D4Q),(C2z,C2A),(C2B,C2C),(C2D,C2E),(C2F,C2G),(C2H,C2I),(C2J,C2K),(C2L,C2M),(C2N,C2O),(C2P,C2Q)]
theorem D9k:B2 Tryz.prog T 254 (A5 T false [334] (B7 tb0)).dir:=B4 (rk:=[.d 43]) (B3 (fu:=100000) (d:=60) follows C5 B0V) (by kernel_rfl) ⟨D4q,D4t,D4w,D4z,D4C,D4F,D4I,D4L,D4O,D4R,D0c,D0d,D0e,D0f,D0g,D0h,D0i,D0j,D0k,trivial⟩
def A4L:List (Nat×E7):=(254,(A5 T false [334] (B7 tb0)).dir)::U8
theorem B0W:D8 Tryz.prog T A4L:=⟨D9k,B0V⟩
def D4S:List V:=[.l [bl [1,0,0,0,1,0,0,0,0,0,0,0,0,0,0,0,0,0,0,0,0,0,0,0,0,0,0,0,0,0,0,0,0,0,0,0,0,255,255,255,255,6,98,121,110,97,109,101,0,0,0,0,1,0,0,0,0,0,0,0,0,1,106,0,0,0,0]]]
def D4T:List Rs:=[.d 43 (bl [27,228,96,192,24,233,156,161,112,96,39,161,242,105,12,172,218,72,254,74,38,146,230,38,152,188,212,98,137,78,137,234])]
theorem D4U:ob (A9 Tryz.prog T A4L 100000 60 139 (A6 T [334] D4S) (fun _=>none) 0) (fun out=>A7 T false [.d 43] out)=some D4T:=by kernel_rfl
def D4V:List V:=[.l [bl [1,0,0,0,0,0,0,0,0,0,0,0,0,0,0,0,0,0,0,0,0,0,0,0,0,0,0,0,0,0,0,0,0,0,0,0,27,228,96,192,24,233,156,161,112,96,39,161,242,105,12,172,218,72,254,74,38,146,230,38,152,188,212,98,137,78,137,234,0,202,154,59,255,255,127,32,0,0,0,0]]]
def D4W:List Rs:=[.d 43 (bl [5,255,175,132,180,223,70,118,53,239,142,198,68,68,87,192,226,0,188,189,184,250,48,242,15,177,159,234,32,101,91,46])]
theorem D4X:ob (A9 Tryz.prog T A4L 100000 60 139 (A6 T [334] D4V) (fun _=>none) 0) (fun out=>A7 T false [.d 43] out)=some D4W:=by kernel_rfl
def D4Y:List V:=[.l [bl [1,0,0,0,1,0,0,0,0,0,0,0,0,0,0,0,0,0,0,0,0,0,0,0,0,0,0,0,0,0,0,0,0,0,0,0,0,255,255,255,255,3,0,2,1,0,0,0,0,1,0,242,5,42,1,0,0,0,1,84,0,0,0,0]]]
def D4Z:List Rs:=[.d 43 (bl [197,242,206,186,112,14,237,35,183,160,216,139,18,14,218,103,73,246,64,217,154,84,75,71,160,156,243,65,167,171,88,229])]
theorem D40:ob (A9 Tryz.prog T A4L 100000 60 139 (A6 T [334] D4Y) (fun _=>none) 0) (fun out=>A7 T false [.d 43] out)=some D4Z:=by kernel_rfl
def D41:List V:=[.l [bl [1,0,0,0,181,145,218,91,169,255,171,72,53,108,154,0,38,222,25,76,113,197,114,223,201,231,138,109,71,218,106,36,168,19,193,79,197,242,206,186,112,14,237,35,183,160,216,139,18,14,218,103,73,246,64,217,154,84,75,71,160,156,243,65,167,171,88,229,0,206,154,59,255,255,127,32,2,0,0,0]]]
def D42:List Rs:=[.d 43 (bl [116,44,159,131,171,150,255,29,58,79,102,7,86,220,242,184,107,215,107,117,58,186,117,71,63,25,214,122,242,240,149,40])]
theorem D43:ob (A9 Tryz.prog T A4L 100000 60 139 (A6 T [334] D41) (fun _=>none) 0) (fun out=>A7 T false [.d 43] out)=some D42:=by kernel_rfl
def D44:List V:=[.l [bl [1,0,0,0,1,0,0,0,0,0,0,0,0,0,0,0,0,0,0,0,0,0,0,0,0,0,0,0,0,0,0,0,0,0,0,0,0,255,255,255,255,3,0,1,0,0,0,0,0,1,0,242,5,42,1,0,0,0,1,84,0,0,0,0]]]
def D45:List Rs:=[.d 43 (bl [197,145,24,66,65,162,21,197,16,131,212,246,251,127,118,111,176,14,12,26,164,250,213,32,222,249,71,113,220,84,82,218])]
theorem D46:ob (A9 Tryz.prog T A4L 100000 60 139 (A6 T [334] D44) (fun _=>none) 0) (fun out=>A7 T false [.d 43] out)=some D45:=by kernel_rfl
def D47:List V:=[.l [bl [1,0,0,0,5,255,175,132,180,223,70,118,53,239,142,198,68,68,87,192,226,0,188,189,184,250,48,242,15,177,159,234,32,101,91,46,197,145,24,66,65,162,21,197,16,131,212,246,251,127,118,111,176,14,12,26,164,250,213,32,222,249,71,113,220,84,82,218,0,204,154,59,255,255,127,32,0,0,0,0]]]
def D48:List Rs:=[.d 43 (bl [181,145,218,91,169,255,171,72,53,108,154,0,38,222,25,76,113,197,114,223,201,231,138,109,71,218,106,36,168,19,193,79])]
theorem D49:ob (A9 Tryz.prog T A4L 100000 60 139 (A6 T [334] D47) (fun _=>none) 0) (fun out=>A7 T false [.d 43] out)=some D48:=by kernel_rfl
def tb1:List (List V×List Rs):=[(D4S,D4T),(D4V,D4W),(D4Y,D4Z),(D41,D42),(D44,D45),(D47,D48)]
theorem D9l:B2 Tryz.prog T 139 (A5 T false [334] (B7 tb1)).dir:=B4 (rk:=[.d 43]) (B3 (fu:=100000) (d:=60) follows C5 B0W) (by kernel_rfl) ⟨D4U,D4X,D40,D43,D46,D49,trivial⟩
def A2R:List (Nat×E7):=(139,(A5 T false [334] (B7 tb1)).dir)::A4L
theorem B0X:D8 Tryz.prog T A2R:=⟨D9l,B0W⟩
def D5a:List V:=[bl [1,0,0,0,1,0,0,0,0,0,0,0,0,0,0,0,0,0,0,0,0,0,0,0,0,0,0,0,0,0,0,0,0,0,0,0,0,255,255,255,255,6,98,121,110,97,109,101,0,0,0,0,1,0,0,0,0,0,0,0,0,1,106,0,0,0,0]]
def D5b:List Rs:=[.d 43 (bl [27,228,96,192,24,233,156,161,112,96,39,161,242,105,12,172,218,72,254,74,38,146,230,38,152,188,212,98,137,78,137,234])]
theorem D5c:ob (A9 Tryz.prog T A2R 100000 60 85 (A6 T [29] D5a) (fun _=>none) 0) (fun out=>A7 T false [.d 43] out)=some D5b:=by kernel_rfl
def D5d:List V:=[bl [1,0,0,0,0,0,0,0,0,0,0,0,0,0,0,0,0,0,0,0,0,0,0,0,0,0,0,0,0,0,0,0,0,0,0,0,27,228,96,192,24,233,156,161,112,96,39,161,242,105,12,172,218,72,254,74,38,146,230,38,152,188,212,98,137,78,137,234,0,202,154,59,255,255,127,32,0,0,0,0]]
def D5e:List Rs:=[.d 43 (bl [5,255,175,132,180,223,70,118,53,239,142,198,68,68,87,192,226,0,188,189,184,250,48,242,15,177,159,234,32,101,91,46])]
theorem D5f:ob (A9 Tryz.prog T A2R 100000 60 85 (A6 T [29] D5d) (fun _=>none) 0) (fun out=>A7 T false [.d 43] out)=some D5e:=by kernel_rfl
def D5g:List V:=[bl [1,0,0,0,1,0,0,0,0,0,0,0,0,0,0,0,0,0,0,0,0,0,0,0,0,0,0,0,0,0,0,0,0,0,0,0,0,255,255,255,255,3,0,1,0,0,0,0,0,1,0,242,5,42,1,0,0,0,1,84,0,0,0,0]]
def D5h:List Rs:=[.d 43 (bl [197,145,24,66,65,162,21,197,16,131,212,246,251,127,118,111,176,14,12,26,164,250,213,32,222,249,71,113,220,84,82,218])]
theorem D5i:ob (A9 Tryz.prog T A2R 100000 60 85 (A6 T [29] D5g) (fun _=>none) 0) (fun out=>A7 T false [.d 43] out)=some D5h:=by kernel_rfl
def D5j:List V:=[bl [1,0,0,0,5,255,175,132,180,223,70,118,53,239,142,198,68,68,87,192,226,0,188,189,184,250,48,242,15,177,159,234,32,101,91,46,197,145,24,66,65,162,21,197,16,131,212,246,251,127,118,111,176,14,12,26,164,250,213,32,222,249,71,113,220,84,82,218,0,204,154,59,255,255,127,32,0,0,0,0]]
def D5k:List Rs:=[.d 43 (bl [181,145,218,91,169,255,171,72,53,108,154,0,38,222,25,76,113,197,114,223,201,231,138,109,71,218,106,36,168,19,193,79])]
theorem D5l:ob (A9 Tryz.prog T A2R 100000 60 85 (A6 T [29] D5j) (fun _=>none) 0) (fun out=>A7 T false [.d 43] out)=some D5k:=by kernel_rfl
def D5m:List V:=[bl [1,0,0,0,1,0,0,0,0,0,0,0,0,0,0,0,0,0,0,0,0,0,0,0,0,0,0,0,0,0,0,0,0,0,0,0,0,255,255,255,255,3,0,2,1,0,0,0,0,1,0,242,5,42,1,0,0,0,1,84,0,0,0,0]]
def D5n:List Rs:=[.d 43 (bl [197,242,206,186,112,14,237,35,183,160,216,139,18,14,218,103,73,246,64,217,154,84,75,71,160,156,243,65,167,171,88,229])]
theorem D5o:ob (A9 Tryz.prog T A2R 100000 60 85 (A6 T [29] D5m) (fun _=>none) 0) (fun out=>A7 T false [.d 43] out)=some D5n:=by kernel_rfl
def D5p:List V:=[bl [1,0,0,0,181,145,218,91,169,255,171,72,53,108,154,0,38,222,25,76,113,197,114,223,201,231,138,109,71,218,106,36,168,19,193,79,197,242,206,186,112,14,237,35,183,160,216,139,18,14,218,103,73,246,64,217,154,84,75,71,160,156,243,65,167,171,88,229,0,206,154,59,255,255,127,32,0,0,0,0]]
def D5q:List Rs:=[.d 43 (bl [13,222,41,134,91,179,213,10,70,54,252,80,70,223,36,202,186,41,92,226,191,208,151,73,117,139,81,72,236,85,142,209])]
theorem D5r:ob (A9 Tryz.prog T A2R 100000 60 85 (A6 T [29] D5p) (fun _=>none) 0) (fun out=>A7 T false [.d 43] out)=some D5q:=by kernel_rfl
def D5s:List V:=[bl [1,0,0,0,181,145,218,91,169,255,171,72,53,108,154,0,38,222,25,76,113,197,114,223,201,231,138,109,71,218,106,36,168,19,193,79,197,242,206,186,112,14,237,35,183,160,216,139,18,14,218,103,73,246,64,217,154,84,75,71,160,156,243,65,167,171,88,229,0,206,154,59,255,255,127,32,1,0,0,0]]
def D5t:List Rs:=[.d 43 (bl [43,85,65,215,155,221,181,132,102,143,150,59,23,143,161,93,169,230,125,183,237,49,51,180,140,75,227,76,162,158,102,176])]
theorem D5u:ob (A9 Tryz.prog T A2R 100000 60 85 (A6 T [29] D5s) (fun _=>none) 0) (fun out=>A7 T false [.d 43] out)=some D5t:=by kernel_rfl
def D5v:List V:=[bl [1,0,0,0,181,145,218,91,169,255,171,72,53,108,154,0,38,222,25,76,113,197,114,223,201,231,138,109,71,218,106,36,168,19,193,79,197,242,206,186,112,14,237,35,183,160,216,139,18,14,218,103,73,246,64,217,154,84,75,71,160,156,243,65,167,171,88,229,0,206,154,59,255,255,127,32,2,0,0,0]]
def D5w:List Rs:=[.d 43 (bl [116,44,159,131,171,150,255,29,58,79,102,7,86,220,242,184,107,215,107,117,58,186,117,71,63,25,214,122,242,240,149,40])]
theorem D5x:ob (A9 Tryz.prog T A2R 100000 60 85 (A6 T [29] D5v) (fun _=>none) 0) (fun out=>A7 T false [.d 43] out)=some D5w:=by kernel_rfl
def tb2:List (List V×List Rs):=[(D5a,D5b),(D5d,D5e),(D5g,D5h),(D5j,D5k),(D5m,D5n),(D5p,D5q),(D5s,D5t),(D5v,D5w)]
theorem D9m:B2 Tryz.prog T 85 (A5 T false [29] (B7 tb2)).dir:=B4 (rk:=[.d 43]) (B3 (fu:=100000) (d:=60) follows C5 B0X) (by kernel_rfl) ⟨D5c,D5f,D5i,D5l,D5o,D5r,D5u,D5x,trivial⟩
def L9:List (Nat×E7):=(85,(A5 T false [29] (B7 tb2)).dir)::A2R
theorem B0Y:D8 Tryz.prog T L9:=⟨D9m,B0X⟩
def D5y:List V:=[bl [65535,127],.l [.i 256]]
def D5z:List Rs:=[.r 125 (bl [65280,32767,0]:V).els false]
theorem D5A:ob (A9 Tryz.prog T L9 100000 60 183 (A6 T [106,106] D5y) (fun _=>none) 0) (fun out=>A7 T false [.r 125] out)=some D5z:=by kernel_rfl
def D5B:List V:=[bl [65280,32767,0],.l [.i 256]]
def D5C:List Rs:=[.r 125 (bl [0,65535,127,0]:V).els false]
theorem D5D:ob (A9 Tryz.prog T L9 100000 60 183 (A6 T [106,106] D5B) (fun _=>none) 0) (fun out=>A7 T false [.r 125] out)=some D5C:=by kernel_rfl
def D5E:List V:=[bl [0,65535,127,0],.l [.i 256]]
def D5F:List Rs:=[.r 125 (bl [0,65280,32767,0,0]:V).els false]
theorem D5G:ob (A9 Tryz.prog T L9 100000 60 183 (A6 T [106,106] D5E) (fun _=>none) 0) (fun out=>A7 T false [.r 125] out)=some D5F:=by kernel_rfl
def D5H:List V:=[bl [0,65280,32767,0,0],.l [.i 256]]
def D5I:List Rs:=[.r 125 (bl [0,0,65535,127,0,0]:V).els false]
theorem D5J:ob (A9 Tryz.prog T L9 100000 60 183 (A6 T [106,106] D5H) (fun _=>none) 0) (fun out=>A7 T false [.r 125] out)=some D5I:=by kernel_rfl
def D5K:List V:=[bl [0,0,65535,127,0,0],.l [.i 256]]
def D5L:List Rs:=[.r 125 (bl [0,0,65280,32767,0,0,0]:V).els false]
theorem D5M:ob (A9 Tryz.prog T L9 100000 60 183 (A6 T [106,106] D5K) (fun _=>none) 0) (fun out=>A7 T false [.r 125] out)=some D5L:=by kernel_rfl
def D5N:List V:=[bl [0,0,65280,32767,0,0,0],.l [.i 256]]
def D5O:List Rs:=[.r 125 (bl [0,0,0,65535,127,0,0,0]:V).els false]
theorem D5P:ob (A9 Tryz.prog T L9 100000 60 183 (A6 T [106,106] D5N) (fun _=>none) 0) (fun out=>A7 T false [.r 125] out)=some D5O:=by kernel_rfl
def D5Q:List V:=[bl [0,0,0,65535,127,0,0,0],.l [.i 256]]
def D5R:List Rs:=[.r 125 (bl [0,0,0,65280,32767,0,0,0,0]:V).els false]
theorem D5S:ob (A9 Tryz.prog T L9 100000 60 183 (A6 T [106,106] D5Q) (fun _=>none) 0) (fun out=>A7 T false [.r 125] out)=some D5R:=by kernel_rfl
def D5T:List V:=[bl [0,0,0,65280,32767,0,0,0,0],.l [.i 256]]
def D5U:List Rs:=[.r 125 (bl [0,0,0,0,65535,127,0,0,0,0]:V).els false]
theorem D5V:ob (A9 Tryz.prog T L9 100000 60 183 (A6 T [106,106] D5T) (fun _=>none) 0) (fun out=>A7 T false [.r 125] out)=some D5U:=by kernel_rfl
def D5W:List V:=[bl [0,0,0,0,65535,127,0,0,0,0],.l [.i 256]]
def D5X:List Rs:=[.r 125 (bl [0,0,0,0,65280,32767,0,0,0,0,0]:V).els false]
theorem D5Y:ob (A9 Tryz.prog T L9 100000 60 183 (A6 T [106,106] D5W) (fun _=>none) 0) (fun out=>A7 T false [.r 125] out)=some D5X:=by kernel_rfl
def D5Z:List V:=[bl [0,0,0,0,65280,32767,0,0,0,0,0],.l [.i 256]]
def D50:List Rs:=[.r 125 (bl [0,0,0,0,0,65535,127,0,0,0,0,0]:V).els false]
theorem D51:ob (A9 Tryz.prog T L9 100000 60 183 (A6 T [106,106] D5Z) (fun _=>none) 0) (fun out=>A7 T false [.r 125] out)=some D50:=by kernel_rfl
def C2R:List V:=[bl [0,0,0,0,0,65535,127,0,0,0,0,0],.l [.i 256]]
def C2S:List Rs:=[.r 125 (bl [0,0,0,0,0,65280,32767,0,0,0,0,0,0]:V).els false]
theorem D0l:ob (A9 Tryz.prog T L9 100000 60 183 (A6 T [106,106] C2R) (fun _=>none) 0) (fun out=>A7 T false [.r 125] out)=some C2S:=by kernel_rfl
def C2T:List V:=[bl [0,0,0,0,0,65280,32767,0,0,0,0,0,0],.l [.i 256]]
def C2U:List Rs:=[.r 125 (bl [0,0,0,0,0,0,65535,127,0,0,0,0,0,0]:V).els false]
theorem D0m:ob (A9 Tryz.prog T L9 100000 60 183 (A6 T [106,106] C2T) (fun _=>none) 0) (fun out=>A7 T false [.r 125] out)=some C2U:=by kernel_rfl
def C2V:List V:=[bl [0,0,0,0,0,0,65535,127,0,0,0,0,0,0],.l [.i 256]]
def C2W:List Rs:=[.r 125 (bl [0,0,0,0,0,0,65280,32767,0,0,0,0,0,0,0]:V).els false]
theorem D0n:ob (A9 Tryz.prog T L9 100000 60 183 (A6 T [106,106] C2V) (fun _=>none) 0) (fun out=>A7 T false [.r 125] out)=some C2W:=by kernel_rfl
def C2X:List V:=[bl [0,0,0,0,0,0,65280,32767,0,0,0,0,0,0,0],.l [.i 256]]
def C2Y:List Rs:=[.r 125 (bl [0,0,0,0,0,0,0,65535,127,0,0,0,0,0,0,0]:V).els false]
theorem D0o:ob (A9 Tryz.prog T L9 100000 60 183 (A6 T [106,106] C2X) (fun _=>none) 0) (fun out=>A7 T false [.r 125] out)=some C2Y:=by kernel_rfl
def C2Z:List V:=[bl [0,0,0,0,0,0,0,65535,127,0,0,0,0,0,0,0],.l [.i 256]]
def C20:List Rs:=[.r 125 (bl [0,0,0,0,0,0,0,65280,32767,0,0,0,0,0,0,0,0]:V).els false]
theorem D0p:ob (A9 Tryz.prog T L9 100000 60 183 (A6 T [106,106] C2Z) (fun _=>none) 0) (fun out=>A7 T false [.r 125] out)=some C20:=by kernel_rfl
def C21:List V:=[bl [0,0,0,0,0,0,0,65280,32767,0,0,0,0,0,0,0,0],.l [.i 256]]
def C22:List Rs:=[.r 125 (bl [0,0,0,0,0,0,0,0,65535,127,0,0,0,0,0,0,0,0]:V).els false]
theorem D0q:ob (A9 Tryz.prog T L9 100000 60 183 (A6 T [106,106] C21) (fun _=>none) 0) (fun out=>A7 T false [.r 125] out)=some C22:=by kernel_rfl
def C23:List V:=[bl [0,0,0,0,0,0,0,0,65535,127,0,0,0,0,0,0,0,0],.l [.i 256]]
def C24:List Rs:=[.r 125 (bl [0,0,0,0,0,0,0,0,65280,32767,0,0,0,0,0,0,0,0,0]:V).els false]
theorem D0r:ob (A9 Tryz.prog T L9 100000 60 183 (A6 T [106,106] C23) (fun _=>none) 0) (fun out=>A7 T false [.r 125] out)=some C24:=by kernel_rfl
def C25:List V:=[bl [0,0,0,0,0,0,0,0,65280,32767,0,0,0,0,0,0,0,0,0],.l [.i 256]]
def C26:List Rs:=[.r 125 (bl [0,0,0,0,0,0,0,0,0,65535,127,0,0,0,0,0,0,0,0,0]:V).els false]
theorem D0s:ob (A9 Tryz.prog T L9 100000 60 183 (A6 T [106,106] C25) (fun _=>none) 0) (fun out=>A7 T false [.r 125] out)=some C26:=by kernel_rfl
def C27:List V:=[bl [0,0,0,0,0,0,0,0,0,65535,127,0,0,0,0,0,0,0,0,0],.l [.i 256]]
def C28:List Rs:=[.r 125 (bl [0,0,0,0,0,0,0,0,0,65280,32767,0,0,0,0,0,0,0,0,0,0]:V).els false]
theorem D0t:ob (A9 Tryz.prog T L9 100000 60 183 (A6 T [106,106] C27) (fun _=>none) 0) (fun out=>A7 T false [.r 125] out)=some C28:=by kernel_rfl
def C29:List V:=[bl [0,0,0,0,0,0,0,0,0,65280,32767,0,0,0,0,0,0,0,0,0,0],.l [.i 256]]
def C3a:List Rs:=[.r 125 (bl [0,0,0,0,0,0,0,0,0,0,65535,127,0,0,0,0,0,0,0,0,0,0]:V).els false]
theorem D0u:ob (A9 Tryz.prog T L9 100000 60 183 (A6 T [106,106] C29) (fun _=>none) 0) (fun out=>A7 T false [.r 125] out)=some C3a:=by kernel_rfl
def C3b:List V:=[bl [0,0,0,0,0,0,0,0,0,0,65535,127,0,0,0,0,0,0,0,0,0,0],.l [.i 256]]
def C3c:List Rs:=[.r 125 (bl [0,0,0,0,0,0,0,0,0,0,65280,32767,0,0,0,0,0,0,0,0,0,0,0]:V).els false]
theorem D0v:ob (A9 Tryz.prog T L9 100000 60 183 (A6 T [106,106] C3b) (fun _=>none) 0) (fun out=>A7 T false [.r 125] out)=some C3c:=by kernel_rfl
def C3d:List V:=[bl [0,0,0,0,0,0,0,0,0,0,65280,32767,0,0,0,0,0,0,0,0,0,0,0],.l [.i 256]]
def C3e:List Rs:=[.r 125 (bl [0,0,0,0,0,0,0,0,0,0,0,65535,127,0,0,0,0,0,0,0,0,0,0,0]:V).els false]
theorem D0w:ob (A9 Tryz.prog T L9 100000 60 183 (A6 T [106,106] C3d) (fun _=>none) 0) (fun out=>A7 T false [.r 125] out)=some C3e:=by kernel_rfl
def C3f:List V:=[bl [0,0,0,0,0,0,0,0,0,0,0,65535,127,0,0,0,0,0,0,0,0,0,0,0],.l [.i 256]]
def C3g:List Rs:=[.r 125 (bl [0,0,0,0,0,0,0,0,0,0,0,65280,32767,0,0,0,0,0,0,0,0,0,0,0,0]:V).els false]
theorem D0x:ob (A9 Tryz.prog T L9 100000 60 183 (A6 T [106,106] C3f) (fun _=>none) 0) (fun out=>A7 T false [.r 125] out)=some C3g:=by kernel_rfl
def C3h:List V:=[bl [0,0,0,0,0,0,0,0,0,0,0,65280,32767,0,0,0,0,0,0,0,0,0,0,0,0],.l [.i 256]]
def C3i:List Rs:=[.r 125 (bl [0,0,0,0,0,0,0,0,0,0,0,0,65535,127,0,0,0,0,0,0,0,0,0,0,0,0]:V).els false]
theorem D0y:ob (A9 Tryz.prog T L9 100000 60 183 (A6 T [106,106] C3h) (fun _=>none) 0) (fun out=>A7 T false [.r 125] out)=some C3i:=by kernel_rfl
def C3j:List V:=[bl [0,0,0,0,0,0,0,0,0,0,0,0,65535,127,0,0,0,0,0,0,0,0,0,0,0,0],.l [.i 256]]
def C3k:List Rs:=[.r 125 (bl [0,0,0,0,0,0,0,0,0,0,0,0,65280,32767,0,0,0,0,0,0,0,0,0,0,0,0,0]:V).els false]
theorem D0z:ob (A9 Tryz.prog T L9 100000 60 183 (A6 T [106,106] C3j) (fun _=>none) 0) (fun out=>A7 T false [.r 125] out)=some C3k:=by kernel_rfl
def C3l:List V:=[bl [0,0,0,0,0,0,0,0,0,0,0,0,65280,32767,0,0,0,0,0,0,0,0,0,0,0,0,0],.l [.i 256]]
def C3m:List Rs:=[.r 125 (bl [0,0,0,0,0,0,0,0,0,0,0,0,0,65535,127,0,0,0,0,0,0,0,0,0,0,0,0,0]:V).els false]
theorem D0A:ob (A9 Tryz.prog T L9 100000 60 183 (A6 T [106,106] C3l) (fun _=>none) 0) (fun out=>A7 T false [.r 125] out)=some C3m:=by kernel_rfl
def C3n:List V:=[bl [0,0,0,0,0,0,0,0,0,0,0,0,0,65535,127,0,0,0,0,0,0,0,0,0,0,0,0,0],.l [.i 256]]
def C3o:List Rs:=[.r 125 (bl [0,0,0,0,0,0,0,0,0,0,0,0,0,65280,32767,0,0,0,0,0,0,0,0,0,0,0,0,0,0]:V).els false]
theorem D0B:ob (A9 Tryz.prog T L9 100000 60 183 (A6 T [106,106] C3n) (fun _=>none) 0) (fun out=>A7 T false [.r 125] out)=some C3o:=by kernel_rfl
def C3p:List V:=[bl [0,0,0,0,0,0,0,0,0,0,0,0,0,65280,32767,0,0,0,0,0,0,0,0,0,0,0,0,0,0],.l [.i 256]]
def C3q:List Rs:=[.r 125 (bl [0,0,0,0,0,0,0,0,0,0,0,0,0,0,65535,127,0,0,0,0,0,0,0,0,0,0,0,0,0,0]:V).els false]
theorem D0C:ob (A9 Tryz.prog T L9 100000 60 183 (A6 T [106,106] C3p) (fun _=>none) 0) (fun out=>A7 T false [.r 125] out)=some C3q:=by kernel_rfl
def C3r:List V:=[bl [0,0,0,0,0,0,0,0,0,0,0,0,0,0,65535,127,0,0,0,0,0,0,0,0,0,0,0,0,0,0],.l [.i 256]]
def C3s:List Rs:=[.r 125 (bl [0,0,0,0,0,0,0,0,0,0,0,0,0,0,65280,32767,0,0,0,0,0,0,0,0,0,0,0,0,0,0,0]:V).els false]
theorem D0D:ob (A9 Tryz.prog T L9 100000 60 183 (A6 T [106,106] C3r) (fun _=>none) 0) (fun out=>A7 T false [.r 125] out)=some C3s:=by kernel_rfl
def tb3:List (List V×List Rs):=[(D5y,D5z),(D5B,D5C),(D5E,D5F),(D5H,D5I),(D5K,D5L),(D5N,D5O),(D5Q,D5R),(D5T,D5U),(D5W,D5X),(D5Z,D50),(C2R,C2S),(C2T,C2U),(C2V,C2W),(C2X,C2Y),(C2Z,C20),(C21,C22),(C23,C24),(C25,C26),(C27,C28),(C29,C3a),(C3b,C3c),(C3d,C3e),(C3f,C3g),(C3h,C3i),(C3j,C3k),(C3l,C3m),(C3n,C3o),(C3p,C3q),(C3r,C3s)]
theorem D9n:B2 Tryz.prog T 183 (A5 T false [106,106] (B7 tb3)).dir:=B4 (rk:=[.r 125]) (B3 (fu:=100000) (d:=60) follows C5 B0Y) (by kernel_rfl) ⟨D5A,D5D,D5G,D5J,D5M,D5P,D5S,D5V,D5Y,D51,D0l,D0m,D0n,D0o,D0p,D0q,D0r,D0s,D0t,D0u,D0v,D0w,D0x,D0y,D0z,D0A,D0B,D0C,D0D,trivial⟩
def B8m:List (Nat×E7):=(183,(A5 T false [106,106] (B7 tb3)).dir)::L9
theorem B0Z:D8 Tryz.prog T B8m:=⟨D9n,B0Y⟩
def D52:List V:=[bl [0,0,0,0,0,0,0,0,0,0,0,0,0,0,0,32768],bl [1,0,0,0,0,0,0,0,0,0,0,0,0,0,65280,32767,0,0,0,0,0,0,0,0,0,0,0,0,0,0,0]]
def D53:List Rs:=[.r 125 (bl [65535,65535,65535,65535,65535,65535,65535,65535,65535,65535,65535,65535,65535,65535,255,0]:V).els false]
theorem D54:ob (A9 Tryz.prog T B8m 100000 60 284 (A6 T [106,106] D52) (fun _=>none) 0) (fun out=>A7 T false [.r 125] out)=some D53:=by kernel_rfl
def tb4:List (List V×List Rs):=[(D52,D53)]
theorem D9o:B2 Tryz.prog T 284 (A5 T false [106,106] (B7 tb4)).dir:=B4 (rk:=[.r 125]) (B3 (fu:=100000) (d:=60) follows C5 B0Z) (by kernel_rfl) ⟨D54,trivial⟩
def B8n:List (Nat×E7):=(284,(A5 T false [106,106] (B7 tb4)).dir)::B8m
theorem B00:D8 Tryz.prog T B8n:=⟨D9o,B0Z⟩
def D55:List V:=[.i 256]
def D56:List Rs:=[.r 125 (bl [0,0,0,0,0,0,0,0,0,0,0,0,0,0,0,0,1]:V).els false]
theorem D57:ob (A9 Tryz.prog T B8n 100000 60 172 (A6 T [3] D55) (fun _=>none) 0) (fun out=>A7 T false [.r 125] out)=some D56:=by kernel_rfl
def tb5:List (List V×List Rs):=[(D55,D56)]
theorem D9p:B2 Tryz.prog T 172 (A5 T false [3] (B7 tb5)).dir:=B4 (rk:=[.r 125]) (B3 (fu:=100000) (d:=60) follows C5 B00) (by kernel_rfl) ⟨D57,trivial⟩
def B8o:List (Nat×E7):=(172,(A5 T false [3] (B7 tb5)).dir)::B8n
theorem B01:D8 Tryz.prog T B8o:=⟨D9p,B00⟩
def D58:List V:=[bl [0,0,0,0,0,0,0,0,0,0,0,0,0,0,65280,32767,0,0,0,0,0,0,0,0,0,0,0,0,0,0,0]]
def D59:List Rs:=[.d 3 (.i 255)]
theorem D6a:ob (A9 Tryz.prog T B8o 100000 60 283 (A6 T [106] D58) (fun _=>none) 0) (fun out=>A7 T false [.d 3] out)=some D59:=by kernel_rfl
def tb6:List (List V×List Rs):=[(D58,D59)]
theorem D9q:B2 Tryz.prog T 283 (A5 T false [106] (B7 tb6)).dir:=B4 (rk:=[.d 3]) (B3 (fu:=100000) (d:=60) follows C5 B01) (by kernel_rfl) ⟨D6a,trivial⟩
def B8p:List (Nat×E7):=(283,(A5 T false [106] (B7 tb6)).dir)::B8o
theorem B02:D8 Tryz.prog T B8p:=⟨D9q,B01⟩
def D6b:List V:=[bl [0,0,0,0,0,0,0,0,0,0,0,0,0,0,0,0,1],bl [1,0,0,0,0,0,0,0,0,0,0,0,0,0,65280,32767,0,0,0,0,0,0,0,0,0,0,0,0,0,0,0]]
def D6c:List Rs:=[.r 125 (bl [2,0,0,0,0,0,0,0,0,0,0,0,0,0,0,0,0]:V).els false,.d 106 (bl [65534,65535,65535,65535,65535,65535,65535,65535,65535,65535,65535,65535,65535,65535,511])]
theorem D6d:ob (A9 Tryz.prog T B8p 100000 60 171 (A6 T [106,106] D6b) (fun _=>none) 0) (fun out=>A7 T true [.r 125,.d 106] out)=some D6c:=by kernel_rfl
def tb7:List (List V×List Rs):=[(D6b,D6c)]
theorem D9r:B2 Tryz.prog T 171 (A5 T true [106,106] (B7 tb7)).dir:=B4 (rk:=[.r 125,.d 106]) (B3 (fu:=100000) (d:=60) follows C5 B02) (by kernel_rfl) ⟨D6d,trivial⟩
def A1Y:List (Nat×E7):=(171,(A5 T true [106,106] (B7 tb7)).dir)::B8p
theorem B03:D8 Tryz.prog T A1Y:=⟨D9r,B02⟩
def D6e:List V:=[.i 1,.i 4]
def D6f:List Rs:=[.r 5 (bl [1,0,0,0]:V).els false]
theorem D6g:ob (A9 Tryz.prog T A1Y 100000 60 94 (A6 T [125,3] D6e) (fun _=>none) 0) (fun out=>A7 T false [.r 5] out)=some D6f:=by kernel_rfl
def D6h:List V:=[.i 4294967295,.i 4]
def D6i:List Rs:=[.r 5 (bl [255,255,255,255]:V).els false]
theorem D6j:ob (A9 Tryz.prog T A1Y 100000 60 94 (A6 T [125,3] D6h) (fun _=>none) 0) (fun out=>A7 T false [.r 5] out)=some D6i:=by kernel_rfl
def D6k:List V:=[.i 0,.i 4]
def D6l:List Rs:=[.r 5 (bl [0,0,0,0]:V).els false]
theorem D6m:ob (A9 Tryz.prog T A1Y 100000 60 94 (A6 T [125,3] D6k) (fun _=>none) 0) (fun out=>A7 T false [.r 5] out)=some D6l:=by kernel_rfl
def D6n:List V:=[.i 0,.i 8]
def D6o:List Rs:=[.r 5 (bl [0,0,0,0,0,0,0,0]:V).els false]
theorem D6p:ob (A9 Tryz.prog T A1Y 100000 60 94 (A6 T [125,3] D6n) (fun _=>none) 0) (fun out=>A7 T false [.r 5] out)=some D6o:=by kernel_rfl
def D6q:List V:=[.i 1000000000,.i 4]
def D6r:List Rs:=[.r 5 (bl [0,202,154,59]:V).els false]
theorem D6s:ob (A9 Tryz.prog T A1Y 100000 60 94 (A6 T [125,3] D6q) (fun _=>none) 0) (fun out=>A7 T false [.r 5] out)=some D6r:=by kernel_rfl
def D6t:List V:=[.i 545259519,.i 4]
def D6u:List Rs:=[.r 5 (bl [255,255,127,32]:V).els false]
theorem D6v:ob (A9 Tryz.prog T A1Y 100000 60 94 (A6 T [125,3] D6t) (fun _=>none) 0) (fun out=>A7 T false [.r 5] out)=some D6u:=by kernel_rfl
def D6w:List V:=[.i 5000000000,.i 8]
def D6x:List Rs:=[.r 5 (bl [0,242,5,42,1,0,0,0]:V).els false]
theorem D6y:ob (A9 Tryz.prog T A1Y 100000 60 94 (A6 T [125,3] D6w) (fun _=>none) 0) (fun out=>A7 T false [.r 5] out)=some D6x:=by kernel_rfl
def D6z:List V:=[.i 1000000512,.i 4]
def D6A:List Rs:=[.r 5 (bl [0,204,154,59]:V).els false]
theorem D6B:ob (A9 Tryz.prog T A1Y 100000 60 94 (A6 T [125,3] D6z) (fun _=>none) 0) (fun out=>A7 T false [.r 5] out)=some D6A:=by kernel_rfl
def D6C:List V:=[.i 1000001024,.i 4]
def D6D:List Rs:=[.r 5 (bl [0,206,154,59]:V).els false]
theorem D6E:ob (A9 Tryz.prog T A1Y 100000 60 94 (A6 T [125,3] D6C) (fun _=>none) 0) (fun out=>A7 T false [.r 5] out)=some D6D:=by kernel_rfl
def D6F:List V:=[.i 2,.i 4]
def D6G:List Rs:=[.r 5 (bl [2,0,0,0]:V).els false]
theorem D6H:ob (A9 Tryz.prog T A1Y 100000 60 94 (A6 T [125,3] D6F) (fun _=>none) 0) (fun out=>A7 T false [.r 5] out)=some D6G:=by kernel_rfl
def tb8:List (List V×List Rs):=[(D6e,D6f),(D6h,D6i),(D6k,D6l),(D6n,D6o),(D6q,D6r),(D6t,D6u),(D6w,D6x),(D6z,D6A),(D6C,D6D),(D6F,D6G)]
theorem D9s:B2 Tryz.prog T 94 (A5 T false [125,3] (B7 tb8)).dir:=B4 (rk:=[.r 5]) (B3 (fu:=100000) (d:=60) follows C5 B03) (by kernel_rfl) ⟨D6g,D6j,D6m,D6p,D6s,D6v,D6y,D6B,D6E,D6H,trivial⟩
def B04:List (Nat×E7):=(94,(A5 T false [125,3] (B7 tb8)).dir)::A1Y
theorem B05:D8 Tryz.prog T B04:=⟨D9s,B03⟩
def D6I:List V:=[.i 1]
def D6J:List Rs:=[.r 5 [.i 1] false]
theorem D6K:ob (A9 Tryz.prog T B04 100000 60 46 (A6 T [125] D6I) (fun _=>none) 0) (fun out=>A7 T false [.r 5] out)=some D6J:=by kernel_rfl
def D6L:List V:=[.i 6]
def D6M:List Rs:=[.r 5 [.i 6] false]
theorem D6N:ob (A9 Tryz.prog T B04 100000 60 46 (A6 T [125] D6L) (fun _=>none) 0) (fun out=>A7 T false [.r 5] out)=some D6M:=by kernel_rfl
def D6O:List V:=[.i 3]
def D6P:List Rs:=[.r 5 [.i 3] false]
theorem D6Q:ob (A9 Tryz.prog T B04 100000 60 46 (A6 T [125] D6O) (fun _=>none) 0) (fun out=>A7 T false [.r 5] out)=some D6P:=by kernel_rfl
def tb9:List (List V×List Rs):=[(D6I,D6J),(D6L,D6M),(D6O,D6P)]
theorem D9t:B2 Tryz.prog T 46 (A5 T false [125] (B7 tb9)).dir:=B4 (rk:=[.r 5]) (B3 (fu:=100000) (d:=60) follows C5 B05) (by kernel_rfl) ⟨D6K,D6N,D6Q,trivial⟩
def B2s:List (Nat×E7):=(46,(A5 T false [125] (B7 tb9)).dir)::B04
theorem A7v:D8 Tryz.prog T B2s:=⟨D9t,B05⟩
def C3t:List V:=[bl [65535,127],.i 29]
def C3u:List Rs:=[.r 125 (bl [0,0,0,0,0,0,0,0,0,0,0,0,0,0,65280,32767,0,0,0,0,0,0,0,0,0,0,0,0,0,0,0]:V).els false]
theorem D0E:ob (A9 Tryz.prog T B2s 100000 60 282 (A6 T [106,3] C3t) (fun _=>none) 0) (fun out=>A7 T false [.r 125] out)=some C3u:=by kernel_rfl
def D6R:List (List V×List Rs):=[(C3t,C3u)]
theorem D6S:B2 Tryz.prog T 282 (A5 T false [106,3] (B7 D6R)).dir:=B4 (rk:=[.r 125]) (B3 (fu:=100000) (d:=60) follows C5 A7v) (by kernel_rfl) ⟨D0E,trivial⟩
def B2t:List (Nat×E7):=(282,(A5 T false [106,3] (B7 D6R)).dir)::B2s
theorem A7w:D8 Tryz.prog T B2t:=⟨D6S,A7v⟩
def C3v:List V:=[]
def C3w:List Rs:=[.r 125 (bl [0,0,0,0,0,0,0,0,0,0,0,0,0,0,65280,32767,0,0,0,0,0,0,0,0,0,0,0,0,0,0,0]:V).els false]
theorem D0F:ob (A9 Tryz.prog T B2t 100000 60 184 (A6 T [] C3v) (fun _=>none) 0) (fun out=>A7 T false [.r 125] out)=some C3w:=by kernel_rfl
def D6T:List (List V×List Rs):=[(C3v,C3w)]
theorem D6U:B2 Tryz.prog T 184 (A5 T false [] (B7 D6T)).dir:=B4 (rk:=[.r 125]) (B3 (fu:=100000) (d:=60) follows C5 A7w) (by kernel_rfl) ⟨D0F,trivial⟩
def B2u:List (Nat×E7):=(184,(A5 T false [] (B7 D6T)).dir)::B2t
theorem A7x:D8 Tryz.prog T B2u:=⟨D6U,A7w⟩
def C3x:List V:=[.i 545259519]
def C3y:List Rs:=[.r 125 (bl [0,0,0,0,0,0,0,0,0,0,0,0,0,0,65280,32767,0,0,0,0,0,0,0,0,0,0,0,0,0,0,0]:V).els false,.d 3 (.i 0)]
theorem D0G:ob (A9 Tryz.prog T B2u 100000 60 170 (A6 T [41] C3x) (fun _=>none) 0) (fun out=>A7 T false [.r 125,.d 3] out)=some C3y:=by kernel_rfl
def D6V:List (List V×List Rs):=[(C3x,C3y)]
theorem D6W:B2 Tryz.prog T 170 (A5 T false [41] (B7 D6V)).dir:=B4 (rk:=[.r 125,.d 3]) (B3 (fu:=100000) (d:=60) follows C5 A7x) (by kernel_rfl) ⟨D0G,trivial⟩
def B2v:List (Nat×E7):=(170,(A5 T false [41] (B7 D6V)).dir)::B2u
theorem A7y:D8 Tryz.prog T B2v:=⟨D6W,A7x⟩
def C3z:List V:=[.i 545259519]
def C3A:List Rs:=[.r 125 (bl [2,0,0,0,0,0,0,0,0,0,0,0,0,0,0,0,0]:V).els false]
theorem D0H:ob (A9 Tryz.prog T B2v 100000 60 69 (A6 T [41] C3z) (fun _=>none) 0) (fun out=>A7 T false [.r 125] out)=some C3A:=by kernel_rfl
def D6X:List (List V×List Rs):=[(C3z,C3A)]
theorem D6Y:B2 Tryz.prog T 69 (A5 T false [41] (B7 D6X)).dir:=B4 (rk:=[.r 125]) (B3 (fu:=100000) (d:=60) follows C5 A7y) (by kernel_rfl) ⟨D0H,trivial⟩
def A4l:List (Nat×E7):=(69,(A5 T false [41] (B7 D6X)).dir)::B2v
theorem A7z:D8 Tryz.prog T A4l:=⟨D6Y,A7y⟩
def C3B:List V:=[.l [.i 1,bl [5,255,175,132,180,223,70,118,53,239,142,198,68,68,87,192,226,0,188,189,184,250,48,242,15,177,159,234,32,101,91,46],bl [197,145,24,66,65,162,21,197,16,131,212,246,251,127,118,111,176,14,12,26,164,250,213,32,222,249,71,113,220,84,82,218],.i 1000000512,.i 545259519,.i 0]]
def C3C:List Rs:=[.d 4 (.b true)]
theorem D0I:ob (A9 Tryz.prog T A4l 100000 60 86 (A6 T [45] C3B) (fun _=>none) 0) (fun out=>A7 T false [.d 4] out)=some C3C:=by kernel_rfl
def C3D:List V:=[.l [.i 1,bl [181,145,218,91,169,255,171,72,53,108,154,0,38,222,25,76,113,197,114,223,201,231,138,109,71,218,106,36,168,19,193,79],bl [197,242,206,186,112,14,237,35,183,160,216,139,18,14,218,103,73,246,64,217,154,84,75,71,160,156,243,65,167,171,88,229],.i 1000001024,.i 545259519,.i 0]]
def C3E:List Rs:=[.d 4 (.b false)]
theorem D0J:ob (A9 Tryz.prog T A4l 100000 60 86 (A6 T [45] C3D) (fun _=>none) 0) (fun out=>A7 T false [.d 4] out)=some C3E:=by kernel_rfl
def C3F:List V:=[.l [.i 1,bl [181,145,218,91,169,255,171,72,53,108,154,0,38,222,25,76,113,197,114,223,201,231,138,109,71,218,106,36,168,19,193,79],bl [197,242,206,186,112,14,237,35,183,160,216,139,18,14,218,103,73,246,64,217,154,84,75,71,160,156,243,65,167,171,88,229],.i 1000001024,.i 545259519,.i 1]]
def C3G:List Rs:=[.d 4 (.b false)]
theorem D0K:ob (A9 Tryz.prog T A4l 100000 60 86 (A6 T [45] C3F) (fun _=>none) 0) (fun out=>A7 T false [.d 4] out)=some C3G:=by kernel_rfl
def C3H:List V:=[.l [.i 1,bl [181,145,218,91,169,255,171,72,53,108,154,0,38,222,25,76,113,197,114,223,201,231,138,109,71,218,106,36,168,19,193,79],bl [197,242,206,186,112,14,237,35,183,160,216,139,18,14,218,103,73,246,64,217,154,84,75,71,160,156,243,65,167,171,88,229],.i 1000001024,.i 545259519,.i 2]]
def C3I:List Rs:=[.d 4 (.b true)]
theorem D0L:ob (A9 Tryz.prog T A4l 100000 60 86 (A6 T [45] C3H) (fun _=>none) 0) (fun out=>A7 T false [.d 4] out)=some C3I:=by kernel_rfl
def D6Z:List (List V×List Rs):=[(C3B,C3C),(C3D,C3E),(C3F,C3G),(C3H,C3I)]
theorem D60:B2 Tryz.prog T 86 (A5 T false [45] (B7 D6Z)).dir:=B4 (rk:=[.d 4]) (B3 (fu:=100000) (d:=60) follows C5 A7z) (by kernel_rfl) ⟨D0I,D0J,D0K,D0L,trivial⟩
def A6b:List (Nat×E7):=(86,(A5 T false [45] (B7 D6Z)).dir)::A4l
theorem A7A:D8 Tryz.prog T A6b:=⟨D60,A7z⟩
def C3J:List V:=[.l [.i 1,.l [.l [.l [bl [0,0,0,0,0,0,0,0,0,0,0,0,0,0,0,0,0,0,0,0,0,0,0,0,0,0,0,0,0,0,0,0],.i 4294967295],bl [98,121,110,97,109,101],.i 0]],.l [.l [.i 0,.l [.i 106]]],.i 0]]
def C3K:List Rs:=[.r 5 (bl [1,0,0,0,1,0,0,0,0,0,0,0,0,0,0,0,0,0,0,0,0,0,0,0,0,0,0,0,0,0,0,0,0,0,0,0,0,255,255,255,255,6,98,121,110,97,109,101,0,0,0,0,1,0,0,0,0,0,0,0,0,1,106,0,0,0,0]:V).els false]
theorem D0M:ob (A9 Tryz.prog T A6b 100000 60 47 (A6 T [95] C3J) (fun _=>none) 0) (fun out=>A7 T false [.r 5] out)=some C3K:=by kernel_rfl
def C3L:List V:=[.l [.i 1,.l [.l [.l [bl [0,0,0,0,0,0,0,0,0,0,0,0,0,0,0,0,0,0,0,0,0,0,0,0,0,0,0,0,0,0,0,0],.i 4294967295],bl [0,1,0],.i 0]],.l [.l [.i 5000000000,.l [.i 84]]],.i 0]]
def C3M:List Rs:=[.r 5 (bl [1,0,0,0,1,0,0,0,0,0,0,0,0,0,0,0,0,0,0,0,0,0,0,0,0,0,0,0,0,0,0,0,0,0,0,0,0,255,255,255,255,3,0,1,0,0,0,0,0,1,0,242,5,42,1,0,0,0,1,84,0,0,0,0]:V).els false]
theorem D0N:ob (A9 Tryz.prog T A6b 100000 60 47 (A6 T [95] C3L) (fun _=>none) 0) (fun out=>A7 T false [.r 5] out)=some C3M:=by kernel_rfl
def C3N:List V:=[.l [.i 1,.l [.l [.l [bl [0,0,0,0,0,0,0,0,0,0,0,0,0,0,0,0,0,0,0,0,0,0,0,0,0,0,0,0,0,0,0,0],.i 4294967295],bl [0,2,1],.i 0]],.l [.l [.i 5000000000,.l [.i 84]]],.i 0]]
def C3O:List Rs:=[.r 5 (bl [1,0,0,0,1,0,0,0,0,0,0,0,0,0,0,0,0,0,0,0,0,0,0,0,0,0,0,0,0,0,0,0,0,0,0,0,0,255,255,255,255,3,0,2,1,0,0,0,0,1,0,242,5,42,1,0,0,0,1,84,0,0,0,0]:V).els false]
theorem D0O:ob (A9 Tryz.prog T A6b 100000 60 47 (A6 T [95] C3N) (fun _=>none) 0) (fun out=>A7 T false [.r 5] out)=some C3O:=by kernel_rfl
def D61:List (List V×List Rs):=[(C3J,C3K),(C3L,C3M),(C3N,C3O)]
theorem D62:B2 Tryz.prog T 47 (A5 T false [95] (B7 D61)).dir:=B4 (rk:=[.r 5]) (B3 (fu:=100000) (d:=60) follows C5 A7A) (by kernel_rfl) ⟨D0M,D0N,D0O,trivial⟩
def A6c:List (Nat×E7):=(47,(A5 T false [95] (B7 D61)).dir)::A6b
theorem A7B:D8 Tryz.prog T A6c:=⟨D62,A7A⟩
def C3P:List V:=[.l [.i 1,.l [.l [.l [bl [0,0,0,0,0,0,0,0,0,0,0,0,0,0,0,0,0,0,0,0,0,0,0,0,0,0,0,0,0,0,0,0],.i 4294967295],bl [98,121,110,97,109,101],.i 0]],.l [.l [.i 0,.l [.i 106]]],.i 0]]
def C3Q:List Rs:=[.d 43 (bl [27,228,96,192,24,233,156,161,112,96,39,161,242,105,12,172,218,72,254,74,38,146,230,38,152,188,212,98,137,78,137,234])]
theorem D0P:ob (A9 Tryz.prog T A6c 100000 60 70 (A6 T [95] C3P) (fun _=>none) 0) (fun out=>A7 T false [.d 43] out)=some C3Q:=by kernel_rfl
def C3R:List V:=[.l [.i 1,.l [.l [.l [bl [0,0,0,0,0,0,0,0,0,0,0,0,0,0,0,0,0,0,0,0,0,0,0,0,0,0,0,0,0,0,0,0],.i 4294967295],bl [0,1,0],.i 0]],.l [.l [.i 5000000000,.l [.i 84]]],.i 0]]
def C3S:List Rs:=[.d 43 (bl [197,145,24,66,65,162,21,197,16,131,212,246,251,127,118,111,176,14,12,26,164,250,213,32,222,249,71,113,220,84,82,218])]
theorem D0Q:ob (A9 Tryz.prog T A6c 100000 60 70 (A6 T [95] C3R) (fun _=>none) 0) (fun out=>A7 T false [.d 43] out)=some C3S:=by kernel_rfl
def C3T:List V:=[.l [.i 1,.l [.l [.l [bl [0,0,0,0,0,0,0,0,0,0,0,0,0,0,0,0,0,0,0,0,0,0,0,0,0,0,0,0,0,0,0,0],.i 4294967295],bl [0,2,1],.i 0]],.l [.l [.i 5000000000,.l [.i 84]]],.i 0]]
def C3U:List Rs:=[.d 43 (bl [197,242,206,186,112,14,237,35,183,160,216,139,18,14,218,103,73,246,64,217,154,84,75,71,160,156,243,65,167,171,88,229])]
theorem D0R:ob (A9 Tryz.prog T A6c 100000 60 70 (A6 T [95] C3T) (fun _=>none) 0) (fun out=>A7 T false [.d 43] out)=some C3U:=by kernel_rfl
def D63:List (List V×List Rs):=[(C3P,C3Q),(C3R,C3S),(C3T,C3U)]
theorem D64:B2 Tryz.prog T 70 (A5 T false [95] (B7 D63)).dir:=B4 (rk:=[.d 43]) (B3 (fu:=100000) (d:=60) follows C5 A7B) (by kernel_rfl) ⟨D0P,D0Q,D0R,trivial⟩
def B2w:List (Nat×E7):=(70,(A5 T false [95] (B7 D63)).dir)::A6c
theorem A7C:D8 Tryz.prog T B2w:=⟨D64,A7B⟩
def C3V:List V:=[.l [.i 1,.l [.l [.l [bl [0,0,0,0,0,0,0,0,0,0,0,0,0,0,0,0,0,0,0,0,0,0,0,0,0,0,0,0,0,0,0,0],.i 4294967295],bl [0,1,0],.i 0]],.l [.l [.i 5000000000,.l [.i 84]]],.i 0]]
def C3W:List Rs:=[.d 3 (.i 0)]
theorem D0S:ob (A9 Tryz.prog T B2w 100000 60 32 (A6 T [95] C3V) (fun _=>none) 0) (fun out=>A7 T false [.d 3] out)=some C3W:=by kernel_rfl
def D65:List (List V×List Rs):=[(C3V,C3W)]
theorem D66:B2 Tryz.prog T 32 (A5 T false [95] (B7 D65)).dir:=B4 (rk:=[.d 3]) (B3 (fu:=100000) (d:=60) follows C5 A7C) (by kernel_rfl) ⟨D0S,trivial⟩
def A27:List (Nat×E7):=(32,(A5 T false [95] (B7 D65)).dir)::B2w
theorem A7D:D8 Tryz.prog T A27:=⟨D66,A7C⟩
def C3X:List V:=[.l [.i 1,bl [0,0,0,0,0,0,0,0,0,0,0,0,0,0,0,0,0,0,0,0,0,0,0,0,0,0,0,0,0,0,0,0],bl [27,228,96,192,24,233,156,161,112,96,39,161,242,105,12,172,218,72,254,74,38,146,230,38,152,188,212,98,137,78,137,234],.i 1000000000,.i 545259519,.i 0]]
def C3Y:List Rs:=[.r 5 (bl [1,0,0,0,0,0,0,0,0,0,0,0,0,0,0,0,0,0,0,0,0,0,0,0,0,0,0,0,0,0,0,0,0,0,0,0,27,228,96,192,24,233,156,161,112,96,39,161,242,105,12,172,218,72,254,74,38,146,230,38,152,188,212,98,137,78,137,234,0,202,154,59,255,255,127,32,0,0,0,0]:V).els false]
theorem D0T:ob (A9 Tryz.prog T A27 100000 60 45 (A6 T [45] C3X) (fun _=>none) 0) (fun out=>A7 T false [.r 5] out)=some C3Y:=by kernel_rfl
def C3Z:List V:=[.l [.i 1,bl [5,255,175,132,180,223,70,118,53,239,142,198,68,68,87,192,226,0,188,189,184,250,48,242,15,177,159,234,32,101,91,46],bl [197,145,24,66,65,162,21,197,16,131,212,246,251,127,118,111,176,14,12,26,164,250,213,32,222,249,71,113,220,84,82,218],.i 1000000512,.i 545259519,.i 0]]
def C30:List Rs:=[.r 5 (bl [1,0,0,0,5,255,175,132,180,223,70,118,53,239,142,198,68,68,87,192,226,0,188,189,184,250,48,242,15,177,159,234,32,101,91,46,197,145,24,66,65,162,21,197,16,131,212,246,251,127,118,111,176,14,12,26,164,250,213,32,222,249,71,113,220,84,82,218,0,204,154,59,255,255,127,32,0,0,0,0]:V).els false]
theorem D0U:ob (A9 Tryz.prog T A27 100000 60 45 (A6 T [45] C3Z) (fun _=>none) 0) (fun out=>A7 T false [.r 5] out)=some C30:=by kernel_rfl
def C31:List V:=[.l [.i 1,bl [181,145,218,91,169,255,171,72,53,108,154,0,38,222,25,76,113,197,114,223,201,231,138,109,71,218,106,36,168,19,193,79],bl [197,242,206,186,112,14,237,35,183,160,216,139,18,14,218,103,73,246,64,217,154,84,75,71,160,156,243,65,167,171,88,229],.i 1000001024,.i 545259519,.i 0]]
def C32:List Rs:=[.r 5 (bl [1,0,0,0,181,145,218,91,169,255,171,72,53,108,154,0,38,222,25,76,113,197,114,223,201,231,138,109,71,218,106,36,168,19,193,79,197,242,206,186,112,14,237,35,183,160,216,139,18,14,218,103,73,246,64,217,154,84,75,71,160,156,243,65,167,171,88,229,0,206,154,59,255,255,127,32,0,0,0,0]:V).els false]
theorem D0V:ob (A9 Tryz.prog T A27 100000 60 45 (A6 T [45] C31) (fun _=>none) 0) (fun out=>A7 T false [.r 5] out)=some C32:=by kernel_rfl
def C33:List V:=[.l [.i 1,bl [181,145,218,91,169,255,171,72,53,108,154,0,38,222,25,76,113,197,114,223,201,231,138,109,71,218,106,36,168,19,193,79],bl [197,242,206,186,112,14,237,35,183,160,216,139,18,14,218,103,73,246,64,217,154,84,75,71,160,156,243,65,167,171,88,229],.i 1000001024,.i 545259519,.i 1]]
def C34:List Rs:=[.r 5 (bl [1,0,0,0,181,145,218,91,169,255,171,72,53,108,154,0,38,222,25,76,113,197,114,223,201,231,138,109,71,218,106,36,168,19,193,79,197,242,206,186,112,14,237,35,183,160,216,139,18,14,218,103,73,246,64,217,154,84,75,71,160,156,243,65,167,171,88,229,0,206,154,59,255,255,127,32,1,0,0,0]:V).els false]
theorem D0W:ob (A9 Tryz.prog T A27 100000 60 45 (A6 T [45] C33) (fun _=>none) 0) (fun out=>A7 T false [.r 5] out)=some C34:=by kernel_rfl
def C35:List V:=[.l [.i 1,bl [181,145,218,91,169,255,171,72,53,108,154,0,38,222,25,76,113,197,114,223,201,231,138,109,71,218,106,36,168,19,193,79],bl [197,242,206,186,112,14,237,35,183,160,216,139,18,14,218,103,73,246,64,217,154,84,75,71,160,156,243,65,167,171,88,229],.i 1000001024,.i 545259519,.i 2]]
def C36:List Rs:=[.r 5 (bl [1,0,0,0,181,145,218,91,169,255,171,72,53,108,154,0,38,222,25,76,113,197,114,223,201,231,138,109,71,218,106,36,168,19,193,79,197,242,206,186,112,14,237,35,183,160,216,139,18,14,218,103,73,246,64,217,154,84,75,71,160,156,243,65,167,171,88,229,0,206,154,59,255,255,127,32,2,0,0,0]:V).els false]
theorem D0X:ob (A9 Tryz.prog T A27 100000 60 45 (A6 T [45] C35) (fun _=>none) 0) (fun out=>A7 T false [.r 5] out)=some C36:=by kernel_rfl
def D67:List (List V×List Rs):=[(C3X,C3Y),(C3Z,C30),(C31,C32),(C33,C34),(C35,C36)]
theorem D68:B2 Tryz.prog T 45 (A5 T false [45] (B7 D67)).dir:=B4 (rk:=[.r 5]) (B3 (fu:=100000) (d:=60) follows C5 A7D) (by kernel_rfl) ⟨D0T,D0U,D0V,D0W,D0X,trivial⟩
def A28:List (Nat×E7):=(45,(A5 T false [45] (B7 D67)).dir)::A27
theorem A7E:D8 Tryz.prog T A28:=⟨D68,A7D⟩
def C37:List V:=[.l [.i 1,bl [0,0,0,0,0,0,0,0,0,0,0,0,0,0,0,0,0,0,0,0,0,0,0,0,0,0,0,0,0,0,0,0],bl [27,228,96,192,24,233,156,161,112,96,39,161,242,105,12,172,218,72,254,74,38,146,230,38,152,188,212,98,137,78,137,234],.i 1000000000,.i 545259519,.i 0]]
def C38:List Rs:=[.d 43 (bl [5,255,175,132,180,223,70,118,53,239,142,198,68,68,87,192,226,0,188,189,184,250,48,242,15,177,159,234,32,101,91,46])]
theorem D0Y:ob (A9 Tryz.prog T A28 100000 60 68 (A6 T [45] C37) (fun _=>none) 0) (fun out=>A7 T false [.d 43] out)=some C38:=by kernel_rfl
def C39:List V:=[.l [.i 1,bl [5,255,175,132,180,223,70,118,53,239,142,198,68,68,87,192,226,0,188,189,184,250,48,242,15,177,159,234,32,101,91,46],bl [197,145,24,66,65,162,21,197,16,131,212,246,251,127,118,111,176,14,12,26,164,250,213,32,222,249,71,113,220,84,82,218],.i 1000000512,.i 545259519,.i 0]]
def C4a:List Rs:=[.d 43 (bl [181,145,218,91,169,255,171,72,53,108,154,0,38,222,25,76,113,197,114,223,201,231,138,109,71,218,106,36,168,19,193,79])]
theorem D0Z:ob (A9 Tryz.prog T A28 100000 60 68 (A6 T [45] C39) (fun _=>none) 0) (fun out=>A7 T false [.d 43] out)=some C4a:=by kernel_rfl
def C4b:List V:=[.l [.i 1,bl [181,145,218,91,169,255,171,72,53,108,154,0,38,222,25,76,113,197,114,223,201,231,138,109,71,218,106,36,168,19,193,79],bl [197,242,206,186,112,14,237,35,183,160,216,139,18,14,218,103,73,246,64,217,154,84,75,71,160,156,243,65,167,171,88,229],.i 1000001024,.i 545259519,.i 0]]
def C4c:List Rs:=[.d 43 (bl [13,222,41,134,91,179,213,10,70,54,252,80,70,223,36,202,186,41,92,226,191,208,151,73,117,139,81,72,236,85,142,209])]
theorem D00:ob (A9 Tryz.prog T A28 100000 60 68 (A6 T [45] C4b) (fun _=>none) 0) (fun out=>A7 T false [.d 43] out)=some C4c:=by kernel_rfl
def C4d:List V:=[.l [.i 1,bl [181,145,218,91,169,255,171,72,53,108,154,0,38,222,25,76,113,197,114,223,201,231,138,109,71,218,106,36,168,19,193,79],bl [197,242,206,186,112,14,237,35,183,160,216,139,18,14,218,103,73,246,64,217,154,84,75,71,160,156,243,65,167,171,88,229],.i 1000001024,.i 545259519,.i 1]]
def C4e:List Rs:=[.d 43 (bl [43,85,65,215,155,221,181,132,102,143,150,59,23,143,161,93,169,230,125,183,237,49,51,180,140,75,227,76,162,158,102,176])]
theorem D01:ob (A9 Tryz.prog T A28 100000 60 68 (A6 T [45] C4d) (fun _=>none) 0) (fun out=>A7 T false [.d 43] out)=some C4e:=by kernel_rfl
def C4f:List V:=[.l [.i 1,bl [181,145,218,91,169,255,171,72,53,108,154,0,38,222,25,76,113,197,114,223,201,231,138,109,71,218,106,36,168,19,193,79],bl [197,242,206,186,112,14,237,35,183,160,216,139,18,14,218,103,73,246,64,217,154,84,75,71,160,156,243,65,167,171,88,229],.i 1000001024,.i 545259519,.i 2]]
def C4g:List Rs:=[.d 43 (bl [116,44,159,131,171,150,255,29,58,79,102,7,86,220,242,184,107,215,107,117,58,186,117,71,63,25,214,122,242,240,149,40])]
theorem D02:ob (A9 Tryz.prog T A28 100000 60 68 (A6 T [45] C4f) (fun _=>none) 0) (fun out=>A7 T false [.d 43] out)=some C4g:=by kernel_rfl
def D69:List (List V×List Rs):=[(C37,C38),(C39,C4a),(C4b,C4c),(C4d,C4e),(C4f,C4g)]
theorem D7a:B2 Tryz.prog T 68 (A5 T false [45] (B7 D69)).dir:=B4 (rk:=[.d 43]) (B3 (fu:=100000) (d:=60) follows C5 A7E) (by kernel_rfl) ⟨D0Y,D0Z,D00,D01,D02,trivial⟩
def A6d:List (Nat×E7):=(68,(A5 T false [45] (B7 D69)).dir)::A28
theorem A7F:D8 Tryz.prog T A6d:=⟨D7a,A7E⟩
def C4h:List V:=[.l [.l [.i 0,bl [0,0,0,0,0,0,0,0,0,0,0,0,0,0,0,0,0,0,0,0,0,0,0,0,0,0,0,0,0,0,0,0],bl [0,0,0,0,0,0,0,0,0,0,0,0,0,0,0,0,0,0,0,0,0,0,0,0,0,0,0,0,0,0,0,0],.i 0,.i 0,.i 0],.l [.l [.i 1,.l [.l [.l [bl [0,0,0,0,0,0,0,0,0,0,0,0,0,0,0,0,0,0,0,0,0,0,0,0,0,0,0,0,0,0,0,0],.i 4294967295],bl [0,1,0],.i 0]],.l [.l [.i 5000000000,.l [.i 84]]],.i 0]]]]
def C4i:List Rs:=[.r 43 [bl [197,145,24,66,65,162,21,197,16,131,212,246,251,127,118,111,176,14,12,26,164,250,213,32,222,249,71,113,220,84,82,218]] false]
theorem D03:ob (A9 Tryz.prog T A6d 100000 60 36 (A6 T [48] C4h) (fun _=>none) 0) (fun out=>A7 T false [.r 43] out)=some C4i:=by kernel_rfl
def C4j:List V:=[.l [.l [.i 1,bl [5,255,175,132,180,223,70,118,53,239,142,198,68,68,87,192,226,0,188,189,184,250,48,242,15,177,159,234,32,101,91,46],bl [197,145,24,66,65,162,21,197,16,131,212,246,251,127,118,111,176,14,12,26,164,250,213,32,222,249,71,113,220,84,82,218],.i 1000000512,.i 545259519,.i 0],.l [.l [.i 1,.l [.l [.l [bl [0,0,0,0,0,0,0,0,0,0,0,0,0,0,0,0,0,0,0,0,0,0,0,0,0,0,0,0,0,0,0,0],.i 4294967295],bl [0,1,0],.i 0]],.l [.l [.i 5000000000,.l [.i 84]]],.i 0]]]]
def C4k:List Rs:=[.r 43 [bl [197,145,24,66,65,162,21,197,16,131,212,246,251,127,118,111,176,14,12,26,164,250,213,32,222,249,71,113,220,84,82,218]] false]
theorem D04:ob (A9 Tryz.prog T A6d 100000 60 36 (A6 T [48] C4j) (fun _=>none) 0) (fun out=>A7 T false [.r 43] out)=some C4k:=by kernel_rfl
def C4l:List V:=[.l [.l [.i 0,bl [0,0,0,0,0,0,0,0,0,0,0,0,0,0,0,0,0,0,0,0,0,0,0,0,0,0,0,0,0,0,0,0],bl [0,0,0,0,0,0,0,0,0,0,0,0,0,0,0,0,0,0,0,0,0,0,0,0,0,0,0,0,0,0,0,0],.i 0,.i 0,.i 0],.l [.l [.i 1,.l [.l [.l [bl [0,0,0,0,0,0,0,0,0,0,0,0,0,0,0,0,0,0,0,0,0,0,0,0,0,0,0,0,0,0,0,0],.i 4294967295],bl [0,2,1],.i 0]],.l [.l [.i 5000000000,.l [.i 84]]],.i 0]]]]
def C4m:List Rs:=[.r 43 [bl [197,242,206,186,112,14,237,35,183,160,216,139,18,14,218,103,73,246,64,217,154,84,75,71,160,156,243,65,167,171,88,229]] false]
theorem D05:ob (A9 Tryz.prog T A6d 100000 60 36 (A6 T [48] C4l) (fun _=>none) 0) (fun out=>A7 T false [.r 43] out)=some C4m:=by kernel_rfl
def D7b:List (List V×List Rs):=[(C4h,C4i),(C4j,C4k),(C4l,C4m)]
theorem D7c:B2 Tryz.prog T 36 (A5 T false [48] (B7 D7b)).dir:=B4 (rk:=[.r 43]) (B3 (fu:=100000) (d:=60) follows C5 A7F) (by kernel_rfl) ⟨D03,D04,D05,trivial⟩
def A9r:List (Nat×E7):=(36,(A5 T false [48] (B7 D7b)).dir)::A6d
theorem A7G:D8 Tryz.prog T A9r:=⟨D7c,A7F⟩
def C4n:List V:=[.l [bl [197,145,24,66,65,162,21,197,16,131,212,246,251,127,118,111,176,14,12,26,164,250,213,32,222,249,71,113,220,84,82,218]]]
def C4o:List Rs:=[.d 43 (bl [197,145,24,66,65,162,21,197,16,131,212,246,251,127,118,111,176,14,12,26,164,250,213,32,222,249,71,113,220,84,82,218]),.d 4 (.b false)]
theorem D06:ob (A9 Tryz.prog T A9r 100000 60 35 (A6 T [111] C4n) (fun _=>none) 0) (fun out=>A7 T false [.d 43,.d 4] out)=some C4o:=by kernel_rfl
def C4p:List V:=[.l [bl [197,242,206,186,112,14,237,35,183,160,216,139,18,14,218,103,73,246,64,217,154,84,75,71,160,156,243,65,167,171,88,229]]]
def C4q:List Rs:=[.d 43 (bl [197,242,206,186,112,14,237,35,183,160,216,139,18,14,218,103,73,246,64,217,154,84,75,71,160,156,243,65,167,171,88,229]),.d 4 (.b false)]
theorem D07:ob (A9 Tryz.prog T A9r 100000 60 35 (A6 T [111] C4p) (fun _=>none) 0) (fun out=>A7 T false [.d 43,.d 4] out)=some C4q:=by kernel_rfl
def D7d:List (List V×List Rs):=[(C4n,C4o),(C4p,C4q)]
theorem D7e:B2 Tryz.prog T 35 (A5 T false [111] (B7 D7d)).dir:=B4 (rk:=[.d 43,.d 4]) (B3 (fu:=100000) (d:=60) follows C5 A7G) (by kernel_rfl) ⟨D06,D07,trivial⟩
def A9s:List (Nat×E7):=(35,(A5 T false [111] (B7 D7d)).dir)::A9r
theorem A7H:D8 Tryz.prog T A9s:=⟨D7e,A7G⟩
def C4r:List V:=[.l [.l [.i 1,bl [5,255,175,132,180,223,70,118,53,239,142,198,68,68,87,192,226,0,188,189,184,250,48,242,15,177,159,234,32,101,91,46],bl [197,145,24,66,65,162,21,197,16,131,212,246,251,127,118,111,176,14,12,26,164,250,213,32,222,249,71,113,220,84,82,218],.i 1000000512,.i 545259519,.i 0],.l [.l [.i 1,.l [.l [.l [bl [0,0,0,0,0,0,0,0,0,0,0,0,0,0,0,0,0,0,0,0,0,0,0,0,0,0,0,0,0,0,0,0],.i 4294967295],bl [0,1,0],.i 0]],.l [.l [.i 5000000000,.l [.i 84]]],.i 0]]]]
def C4s:List Rs:=[.r 5 (bl [1,0,0,0,5,255,175,132,180,223,70,118,53,239,142,198,68,68,87,192,226,0,188,189,184,250,48,242,15,177,159,234,32,101,91,46,197,145,24,66,65,162,21,197,16,131,212,246,251,127,118,111,176,14,12,26,164,250,213,32,222,249,71,113,220,84,82,218,0,204,154,59,255,255,127,32,0,0,0,0,1,1,0,0,0,1,0,0,0,0,0,0,0,0,0,0,0,0,0,0,0,0,0,0,0,0,0,0,0,0,0,0,0,0,0,0,0,0,255,255,255,255,3,0,1,0,0,0,0,0,1,0,242,5,42,1,0,0,0,1,84,0,0,0,0]:V).els false]
theorem D08:ob (A9 Tryz.prog T A9s 100000 60 15 (A6 T [48] C4r) (fun _=>none) 0) (fun out=>A7 T false [.r 5] out)=some C4s:=by kernel_rfl
def C4t:List V:=[.l [.l [.i 1,bl [181,145,218,91,169,255,171,72,53,108,154,0,38,222,25,76,113,197,114,223,201,231,138,109,71,218,106,36,168,19,193,79],bl [197,242,206,186,112,14,237,35,183,160,216,139,18,14,218,103,73,246,64,217,154,84,75,71,160,156,243,65,167,171,88,229],.i 1000001024,.i 545259519,.i 2],.l [.l [.i 1,.l [.l [.l [bl [0,0,0,0,0,0,0,0,0,0,0,0,0,0,0,0,0,0,0,0,0,0,0,0,0,0,0,0,0,0,0,0],.i 4294967295],bl [0,2,1],.i 0]],.l [.l [.i 5000000000,.l [.i 84]]],.i 0]]]]
def C4u:List Rs:=[.r 5 (bl [1,0,0,0,181,145,218,91,169,255,171,72,53,108,154,0,38,222,25,76,113,197,114,223,201,231,138,109,71,218,106,36,168,19,193,79,197,242,206,186,112,14,237,35,183,160,216,139,18,14,218,103,73,246,64,217,154,84,75,71,160,156,243,65,167,171,88,229,0,206,154,59,255,255,127,32,2,0,0,0,1,1,0,0,0,1,0,0,0,0,0,0,0,0,0,0,0,0,0,0,0,0,0,0,0,0,0,0,0,0,0,0,0,0,0,0,0,0,255,255,255,255,3,0,2,1,0,0,0,0,1,0,242,5,42,1,0,0,0,1,84,0,0,0,0]:V).els false]
theorem D09:ob (A9 Tryz.prog T A9s 100000 60 15 (A6 T [48] C4t) (fun _=>none) 0) (fun out=>A7 T false [.r 5] out)=some C4u:=by kernel_rfl
def D7f:List (List V×List Rs):=[(C4r,C4s),(C4t,C4u)]
theorem D7g:B2 Tryz.prog T 15 (A5 T false [48] (B7 D7f)).dir:=B4 (rk:=[.r 5]) (B3 (fu:=100000) (d:=60) follows C5 A7H) (by kernel_rfl) ⟨D08,D09,trivial⟩
def B2x:List (Nat×E7):=(15,(A5 T false [48] (B7 D7f)).dir)::A9s
theorem A7I:D8 Tryz.prog T B2x:=⟨D7g,A7H⟩
def C4v:List V:=[bl [1,0,0,0,5,255,175,132,180,223,70,118,53,239,142,198,68,68,87,192,226,0,188,189,184,250,48,242,15,177,159,234,32,101,91,46,197,145,24,66,65,162,21,197,16,131,212,246,251,127,118,111,176,14,12,26,164,250,213,32,222,249,71,113,220,84,82,218,0,204,154,59,255,255,127,32,0,0,0,0,1,1,0,0,0,1,0,0,0,0,0,0,0,0,0,0,0,0,0,0,0,0,0,0,0,0,0,0,0,0,0,0,0,0,0,0,0,0,255,255,255,255,3,0,1,0,0,0,0,0,1,0,242,5,42,1,0,0,0,1,84,0,0,0,0]]
def C4w:List Rs:=[.d 48 (.l [.l [.i 1,bl [5,255,175,132,180,223,70,118,53,239,142,198,68,68,87,192,226,0,188,189,184,250,48,242,15,177,159,234,32,101,91,46],bl [197,145,24,66,65,162,21,197,16,131,212,246,251,127,118,111,176,14,12,26,164,250,213,32,222,249,71,113,220,84,82,218],.i 1000000512,.i 545259519,.i 0],.l [.l [.i 1,.l [.l [.l [bl [0,0,0,0,0,0,0,0,0,0,0,0,0,0,0,0,0,0,0,0,0,0,0,0,0,0,0,0,0,0,0,0],.i 4294967295],bl [0,1,0],.i 0]],.l [.l [.i 5000000000,.l [.i 84]]],.i 0]]]),.d 3 (.i 0)]
theorem D1a:ob (A9 Tryz.prog T B2x 100000 60 38 (A6 T [29] C4v) (fun _=>none) 0) (fun out=>A7 T true [.d 48,.d 3] out)=some C4w:=by kernel_rfl
def D7h:List (List V×List Rs):=[(C4v,C4w)]
theorem D7i:B2 Tryz.prog T 38 (A5 T true [29] (B7 D7h)).dir:=B4 (rk:=[.d 48,.d 3]) (B3 (fu:=100000) (d:=60) follows C5 A7I) (by kernel_rfl) ⟨D1a,trivial⟩
def B2y:List (Nat×E7):=(38,(A5 T true [29] (B7 D7h)).dir)::B2x
theorem A7J:D8 Tryz.prog T B2y:=⟨D7i,A7I⟩
def C4x:List V:=[.l [.l [.i 1,bl [5,255,175,132,180,223,70,118,53,239,142,198,68,68,87,192,226,0,188,189,184,250,48,242,15,177,159,234,32,101,91,46],bl [197,145,24,66,65,162,21,197,16,131,212,246,251,127,118,111,176,14,12,26,164,250,213,32,222,249,71,113,220,84,82,218],.i 1000000512,.i 545259519,.i 0],.l [.l [.i 1,.l [.l [.l [bl [0,0,0,0,0,0,0,0,0,0,0,0,0,0,0,0,0,0,0,0,0,0,0,0,0,0,0,0,0,0,0,0],.i 4294967295],bl [0,1,0],.i 0]],.l [.l [.i 5000000000,.l [.i 84]]],.i 0]]]]
def C4y:List Rs:=[.d 3 (.i 0)]
theorem D1b:ob (A9 Tryz.prog T B2y 100000 60 39 (A6 T [48] C4x) (fun _=>none) 0) (fun out=>A7 T false [.d 3] out)=some C4y:=by kernel_rfl
def D7j:List (List V×List Rs):=[(C4x,C4y)]
theorem D7k:B2 Tryz.prog T 39 (A5 T false [48] (B7 D7j)).dir:=B4 (rk:=[.d 3]) (B3 (fu:=100000) (d:=60) follows C5 A7J) (by kernel_rfl) ⟨D1b,trivial⟩
def B2z:List (Nat×E7):=(39,(A5 T false [48] (B7 D7j)).dir)::B2y
theorem A7K:D8 Tryz.prog T B2z:=⟨D7k,A7J⟩
def C4z:List V:=[.l [.n,.n],.l [.l [.i 1,bl [5,255,175,132,180,223,70,118,53,239,142,198,68,68,87,192,226,0,188,189,184,250,48,242,15,177,159,234,32,101,91,46],bl [197,145,24,66,65,162,21,197,16,131,212,246,251,127,118,111,176,14,12,26,164,250,213,32,222,249,71,113,220,84,82,218],.i 1000000512,.i 545259519,.i 0],.l [.l [.i 1,.l [.l [.l [bl [0,0,0,0,0,0,0,0,0,0,0,0,0,0,0,0,0,0,0,0,0,0,0,0,0,0,0,0,0,0,0,0],.i 4294967295],bl [0,1,0],.i 0]],.l [.l [.i 5000000000,.l [.i 84]]],.i 0]]],.i 1]
def C4A:List Rs:=[.d 80 (.l [.l [.l [.l [bl [197,145,24,66,65,162,21,197,16,131,212,246,251,127,118,111,176,14,12,26,164,250,213,32,222,249,71,113,220,84,82,218],.i 0],.l [.l [.i 5000000000,.l [.i 84]],.i 1,.b true]]],.n]),.r 77 [.l []] false,.d 3 (.i 0)]
theorem D1c:ob (A9 Tryz.prog T B2z 100000 60 72 (A6 T [80,48,2] C4z) (fun _=>none) 0) (fun out=>A7 T true [.d 80,.r 77,.d 3] out)=some C4A:=by kernel_rfl
def D7l:List (List V×List Rs):=[(C4z,C4A)]
theorem D7m:B2 Tryz.prog T 72 (A5 T true [80,48,2] (B7 D7l)).dir:=B4 (rk:=[.d 80,.r 77,.d 3]) (B3 (fu:=100000) (d:=60) follows C5 A7K) (by kernel_rfl) ⟨D1c,trivial⟩
def B2A:List (Nat×E7):=(72,(A5 T true [80,48,2] (B7 D7l)).dir)::B2z
theorem A7L:D8 Tryz.prog T B2A:=⟨D7m,A7K⟩
def C4B:List V:=[]
def C4C:List Rs:=[.d 48 (.l [.l [.i 1,bl [0,0,0,0,0,0,0,0,0,0,0,0,0,0,0,0,0,0,0,0,0,0,0,0,0,0,0,0,0,0,0,0],bl [27,228,96,192,24,233,156,161,112,96,39,161,242,105,12,172,218,72,254,74,38,146,230,38,152,188,212,98,137,78,137,234],.i 1000000000,.i 545259519,.i 0],.l [.l [.i 1,.l [.l [.l [bl [0,0,0,0,0,0,0,0,0,0,0,0,0,0,0,0,0,0,0,0,0,0,0,0,0,0,0,0,0,0,0,0],.i 4294967295],bl [98,121,110,97,109,101],.i 0]],.l [.l [.i 0,.l [.i 106]]],.i 0]]])]
theorem D1d:ob (A9 Tryz.prog T B2A 100000 60 27 (A6 T [] C4B) (fun _=>none) 0) (fun out=>A7 T true [.d 48] out)=some C4C:=by kernel_rfl
def D7n:List (List V×List Rs):=[(C4B,C4C)]
theorem D7o:B2 Tryz.prog T 27 (A5 T true [] (B7 D7n)).dir:=B4 (rk:=[.d 48]) (B3 (fu:=100000) (d:=60) follows C5 A7L) (by kernel_rfl) ⟨D1d,trivial⟩
def B2B:List (Nat×E7):=(27,(A5 T true [] (B7 D7n)).dir)::B2A
theorem A7M:D8 Tryz.prog T B2B:=⟨D7o,A7L⟩
def C4D:List V:=[]
def C4E:List Rs:=[.r 108 [.l [.l [.i 1,bl [0,0,0,0,0,0,0,0,0,0,0,0,0,0,0,0,0,0,0,0,0,0,0,0,0,0,0,0,0,0,0,0],bl [27,228,96,192,24,233,156,161,112,96,39,161,242,105,12,172,218,72,254,74,38,146,230,38,152,188,212,98,137,78,137,234],.i 1000000000,.i 545259519,.i 0],bl [5,255,175,132,180,223,70,118,53,239,142,198,68,68,87,192,226,0,188,189,184,250,48,242,15,177,159,234,32,101,91,46],.i (-1),.b false,bl [2,0,0,0,0,0,0,0,0,0,0,0,0,0,0,0,0]]] false]
theorem D1e:ob (A9 Tryz.prog T B2B 100000 60 26 (A6 T [] C4D) (fun _=>none) 0) (fun out=>A7 T true [.r 108] out)=some C4E:=by kernel_rfl
def D7p:List (List V×List Rs):=[(C4D,C4E)]
theorem D7q:B2 Tryz.prog T 26 (A5 T true [] (B7 D7p)).dir:=B4 (rk:=[.r 108]) (B3 (fu:=100000) (d:=60) follows C5 A7M) (by kernel_rfl) ⟨D1e,trivial⟩
def A29:List (Nat×E7):=(26,(A5 T true [] (B7 D7p)).dir)::B2B
theorem A7N:D8 Tryz.prog T A29:=⟨D7q,A7M⟩
def C4F:List V:=[.l [.l [.l [.i 1,bl [0,0,0,0,0,0,0,0,0,0,0,0,0,0,0,0,0,0,0,0,0,0,0,0,0,0,0,0,0,0,0,0],bl [27,228,96,192,24,233,156,161,112,96,39,161,242,105,12,172,218,72,254,74,38,146,230,38,152,188,212,98,137,78,137,234],.i 1000000000,.i 545259519,.i 0],bl [5,255,175,132,180,223,70,118,53,239,142,198,68,68,87,192,226,0,188,189,184,250,48,242,15,177,159,234,32,101,91,46],.i (-1),.b false,bl [2,0,0,0,0,0,0,0,0,0,0,0,0,0,0,0,0]]],.i (-1)]
def C4G:List Rs:=[.r 3 [] false]
theorem D1f:ob (A9 Tryz.prog T A29 100000 60 71 (A6 T [36,3] C4F) (fun _=>none) 0) (fun out=>A7 T false [.r 3] out)=some C4G:=by kernel_rfl
def C4H:List V:=[.l [.l [.l [.i 1,bl [0,0,0,0,0,0,0,0,0,0,0,0,0,0,0,0,0,0,0,0,0,0,0,0,0,0,0,0,0,0,0,0],bl [27,228,96,192,24,233,156,161,112,96,39,161,242,105,12,172,218,72,254,74,38,146,230,38,152,188,212,98,137,78,137,234],.i 1000000000,.i 545259519,.i 0],bl [5,255,175,132,180,223,70,118,53,239,142,198,68,68,87,192,226,0,188,189,184,250,48,242,15,177,159,234,32,101,91,46],.i (-1),.b false,bl [2,0,0,0,0,0,0,0,0,0,0,0,0,0,0,0,0]]],.i 0]
def C4I:List Rs:=[.r 3 [.i 0] false]
theorem D1g:ob (A9 Tryz.prog T A29 100000 60 71 (A6 T [36,3] C4H) (fun _=>none) 0) (fun out=>A7 T false [.r 3] out)=some C4I:=by kernel_rfl
def C4J:List V:=[.l [.l [.l [.i 1,bl [0,0,0,0,0,0,0,0,0,0,0,0,0,0,0,0,0,0,0,0,0,0,0,0,0,0,0,0,0,0,0,0],bl [27,228,96,192,24,233,156,161,112,96,39,161,242,105,12,172,218,72,254,74,38,146,230,38,152,188,212,98,137,78,137,234],.i 1000000000,.i 545259519,.i 0],bl [5,255,175,132,180,223,70,118,53,239,142,198,68,68,87,192,226,0,188,189,184,250,48,242,15,177,159,234,32,101,91,46],.i (-1),.b false,bl [2,0,0,0,0,0,0,0,0,0,0,0,0,0,0,0,0]],.l [.l [.i 1,bl [5,255,175,132,180,223,70,118,53,239,142,198,68,68,87,192,226,0,188,189,184,250,48,242,15,177,159,234,32,101,91,46],bl [197,145,24,66,65,162,21,197,16,131,212,246,251,127,118,111,176,14,12,26,164,250,213,32,222,249,71,113,220,84,82,218],.i 1000000512,.i 545259519,.i 0],bl [181,145,218,91,169,255,171,72,53,108,154,0,38,222,25,76,113,197,114,223,201,231,138,109,71,218,106,36,168,19,193,79],.i 0,.b false,bl [4,0,0,0,0,0,0,0,0,0,0,0,0,0,0,0,0]]],.i (-1)]
def C4K:List Rs:=[.r 3 [] false]
theorem D1h:ob (A9 Tryz.prog T A29 100000 60 71 (A6 T [36,3] C4J) (fun _=>none) 0) (fun out=>A7 T false [.r 3] out)=some C4K:=by kernel_rfl
def C4L:List V:=[.l [.l [.l [.i 1,bl [0,0,0,0,0,0,0,0,0,0,0,0,0,0,0,0,0,0,0,0,0,0,0,0,0,0,0,0,0,0,0,0],bl [27,228,96,192,24,233,156,161,112,96,39,161,242,105,12,172,218,72,254,74,38,146,230,38,152,188,212,98,137,78,137,234],.i 1000000000,.i 545259519,.i 0],bl [5,255,175,132,180,223,70,118,53,239,142,198,68,68,87,192,226,0,188,189,184,250,48,242,15,177,159,234,32,101,91,46],.i (-1),.b false,bl [2,0,0,0,0,0,0,0,0,0,0,0,0,0,0,0,0]],.l [.l [.i 1,bl [5,255,175,132,180,223,70,118,53,239,142,198,68,68,87,192,226,0,188,189,184,250,48,242,15,177,159,234,32,101,91,46],bl [197,145,24,66,65,162,21,197,16,131,212,246,251,127,118,111,176,14,12,26,164,250,213,32,222,249,71,113,220,84,82,218],.i 1000000512,.i 545259519,.i 0],bl [181,145,218,91,169,255,171,72,53,108,154,0,38,222,25,76,113,197,114,223,201,231,138,109,71,218,106,36,168,19,193,79],.i 0,.b false,bl [4,0,0,0,0,0,0,0,0,0,0,0,0,0,0,0,0]]],.i 0]
def C4M:List Rs:=[.r 3 [.i 0] false]
theorem D1i:ob (A9 Tryz.prog T A29 100000 60 71 (A6 T [36,3] C4L) (fun _=>none) 0) (fun out=>A7 T false [.r 3] out)=some C4M:=by kernel_rfl
def C4N:List V:=[.l [.l [.l [.i 1,bl [0,0,0,0,0,0,0,0,0,0,0,0,0,0,0,0,0,0,0,0,0,0,0,0,0,0,0,0,0,0,0,0],bl [27,228,96,192,24,233,156,161,112,96,39,161,242,105,12,172,218,72,254,74,38,146,230,38,152,188,212,98,137,78,137,234],.i 1000000000,.i 545259519,.i 0],bl [5,255,175,132,180,223,70,118,53,239,142,198,68,68,87,192,226,0,188,189,184,250,48,242,15,177,159,234,32,101,91,46],.i (-1),.b false,bl [2,0,0,0,0,0,0,0,0,0,0,0,0,0,0,0,0]],.l [.l [.i 1,bl [5,255,175,132,180,223,70,118,53,239,142,198,68,68,87,192,226,0,188,189,184,250,48,242,15,177,159,234,32,101,91,46],bl [197,145,24,66,65,162,21,197,16,131,212,246,251,127,118,111,176,14,12,26,164,250,213,32,222,249,71,113,220,84,82,218],.i 1000000512,.i 545259519,.i 0],bl [181,145,218,91,169,255,171,72,53,108,154,0,38,222,25,76,113,197,114,223,201,231,138,109,71,218,106,36,168,19,193,79],.i 0,.b false,bl [4,0,0,0,0,0,0,0,0,0,0,0,0,0,0,0,0]]],.i 1]
def C4O:List Rs:=[.r 3 (bl [0,1]:V).els false]
theorem D1j:ob (A9 Tryz.prog T A29 100000 60 71 (A6 T [36,3] C4N) (fun _=>none) 0) (fun out=>A7 T false [.r 3] out)=some C4O:=by kernel_rfl
def D7r:List (List V×List Rs):=[(C4F,C4G),(C4H,C4I),(C4J,C4K),(C4L,C4M),(C4N,C4O)]
theorem D7s:B2 Tryz.prog T 71 (A5 T false [36,3] (B7 D7r)).dir:=B4 (rk:=[.r 3]) (B3 (fu:=100000) (d:=60) follows C5 A7N) (by kernel_rfl) ⟨D1f,D1g,D1h,D1i,D1j,trivial⟩
def A9t:List (Nat×E7):=(71,(A5 T false [36,3] (B7 D7r)).dir)::A29
theorem A7O:D8 Tryz.prog T A9t:=⟨D7s,A7N⟩
def C4P:List V:=[.l [.l [.l [.i 1,bl [0,0,0,0,0,0,0,0,0,0,0,0,0,0,0,0,0,0,0,0,0,0,0,0,0,0,0,0,0,0,0,0],bl [27,228,96,192,24,233,156,161,112,96,39,161,242,105,12,172,218,72,254,74,38,146,230,38,152,188,212,98,137,78,137,234],.i 1000000000,.i 545259519,.i 0],bl [5,255,175,132,180,223,70,118,53,239,142,198,68,68,87,192,226,0,188,189,184,250,48,242,15,177,159,234,32,101,91,46],.i (-1),.b false,bl [2,0,0,0,0,0,0,0,0,0,0,0,0,0,0,0,0]]],bl [5,255,175,132,180,223,70,118,53,239,142,198,68,68,87,192,226,0,188,189,184,250,48,242,15,177,159,234,32,101,91,46]]
def C4Q:List Rs:=[.d 41 (.i 545259519),.d 41 (.i 1000000000),.d 3 (.i 0)]
theorem D1k:ob (A9 Tryz.prog T A9t 100000 60 34 (A6 T [36,43] C4P) (fun _=>none) 0) (fun out=>A7 T false [.d 41,.d 41,.d 3] out)=some C4Q:=by kernel_rfl
def C4R:List V:=[.l [.l [.l [.i 1,bl [0,0,0,0,0,0,0,0,0,0,0,0,0,0,0,0,0,0,0,0,0,0,0,0,0,0,0,0,0,0,0,0],bl [27,228,96,192,24,233,156,161,112,96,39,161,242,105,12,172,218,72,254,74,38,146,230,38,152,188,212,98,137,78,137,234],.i 1000000000,.i 545259519,.i 0],bl [5,255,175,132,180,223,70,118,53,239,142,198,68,68,87,192,226,0,188,189,184,250,48,242,15,177,159,234,32,101,91,46],.i (-1),.b false,bl [2,0,0,0,0,0,0,0,0,0,0,0,0,0,0,0,0]],.l [.l [.i 1,bl [5,255,175,132,180,223,70,118,53,239,142,198,68,68,87,192,226,0,188,189,184,250,48,242,15,177,159,234,32,101,91,46],bl [197,145,24,66,65,162,21,197,16,131,212,246,251,127,118,111,176,14,12,26,164,250,213,32,222,249,71,113,220,84,82,218],.i 1000000512,.i 545259519,.i 0],bl [181,145,218,91,169,255,171,72,53,108,154,0,38,222,25,76,113,197,114,223,201,231,138,109,71,218,106,36,168,19,193,79],.i 0,.b false,bl [4,0,0,0,0,0,0,0,0,0,0,0,0,0,0,0,0]]],bl [181,145,218,91,169,255,171,72,53,108,154,0,38,222,25,76,113,197,114,223,201,231,138,109,71,218,106,36,168,19,193,79]]
def C4S:List Rs:=[.d 41 (.i 545259519),.d 41 (.i 1000000512),.d 3 (.i 0)]
theorem D1l:ob (A9 Tryz.prog T A9t 100000 60 34 (A6 T [36,43] C4R) (fun _=>none) 0) (fun out=>A7 T false [.d 41,.d 41,.d 3] out)=some C4S:=by kernel_rfl
def D7t:List (List V×List Rs):=[(C4P,C4Q),(C4R,C4S)]
theorem D7u:B2 Tryz.prog T 34 (A5 T false [36,43] (B7 D7t)).dir:=B4 (rk:=[.d 41,.d 41,.d 3]) (B3 (fu:=100000) (d:=60) follows C5 A7O) (by kernel_rfl) ⟨D1k,D1l,trivial⟩
def A9u:List (Nat×E7):=(34,(A5 T false [36,43] (B7 D7t)).dir)::A9t
theorem A7P:D8 Tryz.prog T A9u:=⟨D7u,A7O⟩
def C4T:List V:=[.l [.i 1,bl [5,255,175,132,180,223,70,118,53,239,142,198,68,68,87,192,226,0,188,189,184,250,48,242,15,177,159,234,32,101,91,46],bl [197,145,24,66,65,162,21,197,16,131,212,246,251,127,118,111,176,14,12,26,164,250,213,32,222,249,71,113,220,84,82,218],.i 1000000512,.i 545259519,.i 0]]
def C4U:List Rs:=[.d 45 (.l [.i 1,bl [5,255,175,132,180,223,70,118,53,239,142,198,68,68,87,192,226,0,188,189,184,250,48,242,15,177,159,234,32,101,91,46],bl [197,145,24,66,65,162,21,197,16,131,212,246,251,127,118,111,176,14,12,26,164,250,213,32,222,249,71,113,220,84,82,218],.i 1000000512,.i 545259519,.i 0])]
theorem D1m:ob (A9 Tryz.prog T A9u 100000 60 37 (A6 T [45] C4T) (fun _=>none) 0) (fun out=>A7 T false [.d 45] out)=some C4U:=by kernel_rfl
def C4V:List V:=[.l [.i 1,bl [181,145,218,91,169,255,171,72,53,108,154,0,38,222,25,76,113,197,114,223,201,231,138,109,71,218,106,36,168,19,193,79],bl [197,242,206,186,112,14,237,35,183,160,216,139,18,14,218,103,73,246,64,217,154,84,75,71,160,156,243,65,167,171,88,229],.i 1000001024,.i 545259519,.i 0]]
def C4W:List Rs:=[.d 45 (.l [.i 1,bl [181,145,218,91,169,255,171,72,53,108,154,0,38,222,25,76,113,197,114,223,201,231,138,109,71,218,106,36,168,19,193,79],bl [197,242,206,186,112,14,237,35,183,160,216,139,18,14,218,103,73,246,64,217,154,84,75,71,160,156,243,65,167,171,88,229],.i 1000001024,.i 545259519,.i 2])]
theorem D1n:ob (A9 Tryz.prog T A9u 100000 60 37 (A6 T [45] C4V) (fun _=>none) 0) (fun out=>A7 T false [.d 45] out)=some C4W:=by kernel_rfl
def D7v:List (List V×List Rs):=[(C4T,C4U),(C4V,C4W)]
theorem D7w:B2 Tryz.prog T 37 (A5 T false [45] (B7 D7v)).dir:=B4 (rk:=[.d 45]) (B3 (fu:=100000) (d:=60) follows C5 A7P) (by kernel_rfl) ⟨D1m,D1n,trivial⟩
def B2C:List (Nat×E7):=(37,(A5 T false [45] (B7 D7v)).dir)::A9u
theorem A7Q:D8 Tryz.prog T B2C:=⟨D7w,A7P⟩
def C4X:List V:=[.l [.l [.l [.i 1,bl [0,0,0,0,0,0,0,0,0,0,0,0,0,0,0,0,0,0,0,0,0,0,0,0,0,0,0,0,0,0,0,0],bl [27,228,96,192,24,233,156,161,112,96,39,161,242,105,12,172,218,72,254,74,38,146,230,38,152,188,212,98,137,78,137,234],.i 1000000000,.i 545259519,.i 0],bl [5,255,175,132,180,223,70,118,53,239,142,198,68,68,87,192,226,0,188,189,184,250,48,242,15,177,159,234,32,101,91,46],.i (-1),.b false,bl [2,0,0,0,0,0,0,0,0,0,0,0,0,0,0,0,0]]],.l [.i 1,bl [5,255,175,132,180,223,70,118,53,239,142,198,68,68,87,192,226,0,188,189,184,250,48,242,15,177,159,234,32,101,91,46],bl [197,145,24,66,65,162,21,197,16,131,212,246,251,127,118,111,176,14,12,26,164,250,213,32,222,249,71,113,220,84,82,218],.i 1000000512,.i 545259519,.i 0]]
def C4Y:List Rs:=[.r 108 (.l [.l [.l [.i 1,bl [0,0,0,0,0,0,0,0,0,0,0,0,0,0,0,0,0,0,0,0,0,0,0,0,0,0,0,0,0,0,0,0],bl [27,228,96,192,24,233,156,161,112,96,39,161,242,105,12,172,218,72,254,74,38,146,230,38,152,188,212,98,137,78,137,234],.i 1000000000,.i 545259519,.i 0],bl [5,255,175,132,180,223,70,118,53,239,142,198,68,68,87,192,226,0,188,189,184,250,48,242,15,177,159,234,32,101,91,46],.i (-1),.b false,bl [2,0,0,0,0,0,0,0,0,0,0,0,0,0,0,0,0]],.l [.l [.i 1,bl [5,255,175,132,180,223,70,118,53,239,142,198,68,68,87,192,226,0,188,189,184,250,48,242,15,177,159,234,32,101,91,46],bl [197,145,24,66,65,162,21,197,16,131,212,246,251,127,118,111,176,14,12,26,164,250,213,32,222,249,71,113,220,84,82,218],.i 1000000512,.i 545259519,.i 0],bl [181,145,218,91,169,255,171,72,53,108,154,0,38,222,25,76,113,197,114,223,201,231,138,109,71,218,106,36,168,19,193,79],.i 0,.b false,bl [4,0,0,0,0,0,0,0,0,0,0,0,0,0,0,0,0]]]:V).els false,.d 3 (.i 0)]
theorem D1o:ob (A9 Tryz.prog T B2C 100000 60 40 (A6 T [36,45] C4X) (fun _=>none) 0) (fun out=>A7 T true [.r 108,.d 3] out)=some C4Y:=by kernel_rfl
def D7x:List (List V×List Rs):=[(C4X,C4Y)]
theorem D7y:B2 Tryz.prog T 40 (A5 T true [36,45] (B7 D7x)).dir:=B4 (rk:=[.r 108,.d 3]) (B3 (fu:=100000) (d:=60) follows C5 A7Q) (by kernel_rfl) ⟨D1o,trivial⟩
def B2D:List (Nat×E7):=(40,(A5 T true [36,45] (B7 D7x)).dir)::B2C
theorem A7R:D8 Tryz.prog T B2D:=⟨D7y,A7Q⟩
def C4Z:List V:=[.l [.l [.l [.i 1,bl [0,0,0,0,0,0,0,0,0,0,0,0,0,0,0,0,0,0,0,0,0,0,0,0,0,0,0,0,0,0,0,0],bl [27,228,96,192,24,233,156,161,112,96,39,161,242,105,12,172,218,72,254,74,38,146,230,38,152,188,212,98,137,78,137,234],.i 1000000000,.i 545259519,.i 0],bl [5,255,175,132,180,223,70,118,53,239,142,198,68,68,87,192,226,0,188,189,184,250,48,242,15,177,159,234,32,101,91,46],.i (-1),.b false,bl [2,0,0,0,0,0,0,0,0,0,0,0,0,0,0,0,0]],.l [.l [.i 1,bl [5,255,175,132,180,223,70,118,53,239,142,198,68,68,87,192,226,0,188,189,184,250,48,242,15,177,159,234,32,101,91,46],bl [197,145,24,66,65,162,21,197,16,131,212,246,251,127,118,111,176,14,12,26,164,250,213,32,222,249,71,113,220,84,82,218],.i 1000000512,.i 545259519,.i 0],bl [181,145,218,91,169,255,171,72,53,108,154,0,38,222,25,76,113,197,114,223,201,231,138,109,71,218,106,36,168,19,193,79],.i 0,.b false,bl [4,0,0,0,0,0,0,0,0,0,0,0,0,0,0,0,0]]]]
def C40:List Rs:=[.d 3 (.i 1)]
theorem D1p:ob (A9 Tryz.prog T B2D 100000 60 41 (A6 T [36] C4Z) (fun _=>none) 0) (fun out=>A7 T false [.d 3] out)=some C40:=by kernel_rfl
def D7z:List (List V×List Rs):=[(C4Z,C40)]
theorem D7A:B2 Tryz.prog T 41 (A5 T false [36] (B7 D7z)).dir:=B4 (rk:=[.d 3]) (B3 (fu:=100000) (d:=60) follows C5 A7R) (by kernel_rfl) ⟨D1p,trivial⟩
def B2E:List (Nat×E7):=(41,(A5 T false [36] (B7 D7z)).dir)::B2D
theorem A7S:D8 Tryz.prog T B2E:=⟨D7A,A7R⟩
def C41:List V:=[]
def C42:List Rs:=[.d 39 (.l [.l [.l [.l [.i 1,bl [0,0,0,0,0,0,0,0,0,0,0,0,0,0,0,0,0,0,0,0,0,0,0,0,0,0,0,0,0,0,0,0],bl [27,228,96,192,24,233,156,161,112,96,39,161,242,105,12,172,218,72,254,74,38,146,230,38,152,188,212,98,137,78,137,234],.i 1000000000,.i 545259519,.i 0],bl [5,255,175,132,180,223,70,118,53,239,142,198,68,68,87,192,226,0,188,189,184,250,48,242,15,177,159,234,32,101,91,46],.i (-1),.b false,bl [2,0,0,0,0,0,0,0,0,0,0,0,0,0,0,0,0]]],.l [.l [.l [.i 1,bl [0,0,0,0,0,0,0,0,0,0,0,0,0,0,0,0,0,0,0,0,0,0,0,0,0,0,0,0,0,0,0,0],bl [27,228,96,192,24,233,156,161,112,96,39,161,242,105,12,172,218,72,254,74,38,146,230,38,152,188,212,98,137,78,137,234],.i 1000000000,.i 545259519,.i 0],.l [.l [.i 1,.l [.l [.l [bl [0,0,0,0,0,0,0,0,0,0,0,0,0,0,0,0,0,0,0,0,0,0,0,0,0,0,0,0,0,0,0,0],.i 4294967295],bl [98,121,110,97,109,101],.i 0]],.l [.l [.i 0,.l [.i 106]]],.i 0]]]],.i 0])]
theorem D1q:ob (A9 Tryz.prog T B2E 100000 60 12 (A6 T [] C41) (fun _=>none) 0) (fun out=>A7 T true [.d 39] out)=some C42:=by kernel_rfl
def D7B:List (List V×List Rs):=[(C41,C42)]
theorem D7C:B2 Tryz.prog T 12 (A5 T true [] (B7 D7B)).dir:=B4 (rk:=[.d 39]) (B3 (fu:=100000) (d:=60) follows C5 A7S) (by kernel_rfl) ⟨D1q,trivial⟩
def A6e:List (Nat×E7):=(12,(A5 T true [] (B7 D7B)).dir)::B2E
theorem A7T:D8 Tryz.prog T A6e:=⟨D7C,A7S⟩
def C43:List V:=[.l [.l [.l [.l [.i 1,bl [0,0,0,0,0,0,0,0,0,0,0,0,0,0,0,0,0,0,0,0,0,0,0,0,0,0,0,0,0,0,0,0],bl [27,228,96,192,24,233,156,161,112,96,39,161,242,105,12,172,218,72,254,74,38,146,230,38,152,188,212,98,137,78,137,234],.i 1000000000,.i 545259519,.i 0],bl [5,255,175,132,180,223,70,118,53,239,142,198,68,68,87,192,226,0,188,189,184,250,48,242,15,177,159,234,32,101,91,46],.i (-1),.b false,bl [2,0,0,0,0,0,0,0,0,0,0,0,0,0,0,0,0]]],.l [.l [.l [.i 1,bl [0,0,0,0,0,0,0,0,0,0,0,0,0,0,0,0,0,0,0,0,0,0,0,0,0,0,0,0,0,0,0,0],bl [27,228,96,192,24,233,156,161,112,96,39,161,242,105,12,172,218,72,254,74,38,146,230,38,152,188,212,98,137,78,137,234],.i 1000000000,.i 545259519,.i 0],.l [.l [.i 1,.l [.l [.l [bl [0,0,0,0,0,0,0,0,0,0,0,0,0,0,0,0,0,0,0,0,0,0,0,0,0,0,0,0,0,0,0,0],.i 4294967295],bl [98,121,110,97,109,101],.i 0]],.l [.l [.i 0,.l [.i 106]]],.i 0]]]],.i 0],.i 0]
def C44:List Rs:=[.d 80 (.l [.n,.n]),.r 179 [] false,.d 3 (.i (-1)),.d 3 (.i 0)]
theorem D1r:ob (A9 Tryz.prog T A6e 100000 60 28 (A6 T [39,3] C43) (fun _=>none) 0) (fun out=>A7 T true [.d 80,.r 179,.d 3,.d 3] out)=some C44:=by kernel_rfl
def C45:List V:=[.l [.l [.l [.l [.i 1,bl [0,0,0,0,0,0,0,0,0,0,0,0,0,0,0,0,0,0,0,0,0,0,0,0,0,0,0,0,0,0,0,0],bl [27,228,96,192,24,233,156,161,112,96,39,161,242,105,12,172,218,72,254,74,38,146,230,38,152,188,212,98,137,78,137,234],.i 1000000000,.i 545259519,.i 0],bl [5,255,175,132,180,223,70,118,53,239,142,198,68,68,87,192,226,0,188,189,184,250,48,242,15,177,159,234,32,101,91,46],.i (-1),.b false,bl [2,0,0,0,0,0,0,0,0,0,0,0,0,0,0,0,0]],.l [.l [.i 1,bl [5,255,175,132,180,223,70,118,53,239,142,198,68,68,87,192,226,0,188,189,184,250,48,242,15,177,159,234,32,101,91,46],bl [197,145,24,66,65,162,21,197,16,131,212,246,251,127,118,111,176,14,12,26,164,250,213,32,222,249,71,113,220,84,82,218],.i 1000000512,.i 545259519,.i 0],bl [181,145,218,91,169,255,171,72,53,108,154,0,38,222,25,76,113,197,114,223,201,231,138,109,71,218,106,36,168,19,193,79],.i 0,.b false,bl [4,0,0,0,0,0,0,0,0,0,0,0,0,0,0,0,0]]],.l [.l [.l [.i 1,bl [0,0,0,0,0,0,0,0,0,0,0,0,0,0,0,0,0,0,0,0,0,0,0,0,0,0,0,0,0,0,0,0],bl [27,228,96,192,24,233,156,161,112,96,39,161,242,105,12,172,218,72,254,74,38,146,230,38,152,188,212,98,137,78,137,234],.i 1000000000,.i 545259519,.i 0],.l [.l [.i 1,.l [.l [.l [bl [0,0,0,0,0,0,0,0,0,0,0,0,0,0,0,0,0,0,0,0,0,0,0,0,0,0,0,0,0,0,0,0],.i 4294967295],bl [98,121,110,97,109,101],.i 0]],.l [.l [.i 0,.l [.i 106]]],.i 0]]],.l [.l [.i 1,bl [5,255,175,132,180,223,70,118,53,239,142,198,68,68,87,192,226,0,188,189,184,250,48,242,15,177,159,234,32,101,91,46],bl [197,145,24,66,65,162,21,197,16,131,212,246,251,127,118,111,176,14,12,26,164,250,213,32,222,249,71,113,220,84,82,218],.i 1000000512,.i 545259519,.i 0],.l [.l [.i 1,.l [.l [.l [bl [0,0,0,0,0,0,0,0,0,0,0,0,0,0,0,0,0,0,0,0,0,0,0,0,0,0,0,0,0,0,0,0],.i 4294967295],bl [0,1,0],.i 0]],.l [.l [.i 5000000000,.l [.i 84]]],.i 0]]]],.i 0],.i 1]
def C46:List Rs:=[.d 80 (.l [.l [.l [.l [bl [197,145,24,66,65,162,21,197,16,131,212,246,251,127,118,111,176,14,12,26,164,250,213,32,222,249,71,113,220,84,82,218],.i 0],.l [.l [.i 5000000000,.l [.i 84]],.i 1,.b true]]],.n]),.r 179 [.l [.l []]] false,.d 3 (.i (-1)),.d 3 (.i 0)]
theorem D1s:ob (A9 Tryz.prog T A6e 100000 60 28 (A6 T [39,3] C45) (fun _=>none) 0) (fun out=>A7 T true [.d 80,.r 179,.d 3,.d 3] out)=some C46:=by kernel_rfl
def C47:List V:=[.l [.l [.l [.l [.i 1,bl [0,0,0,0,0,0,0,0,0,0,0,0,0,0,0,0,0,0,0,0,0,0,0,0,0,0,0,0,0,0,0,0],bl [27,228,96,192,24,233,156,161,112,96,39,161,242,105,12,172,218,72,254,74,38,146,230,38,152,188,212,98,137,78,137,234],.i 1000000000,.i 545259519,.i 0],bl [5,255,175,132,180,223,70,118,53,239,142,198,68,68,87,192,226,0,188,189,184,250,48,242,15,177,159,234,32,101,91,46],.i (-1),.b false,bl [2,0,0,0,0,0,0,0,0,0,0,0,0,0,0,0,0]],.l [.l [.i 1,bl [5,255,175,132,180,223,70,118,53,239,142,198,68,68,87,192,226,0,188,189,184,250,48,242,15,177,159,234,32,101,91,46],bl [197,145,24,66,65,162,21,197,16,131,212,246,251,127,118,111,176,14,12,26,164,250,213,32,222,249,71,113,220,84,82,218],.i 1000000512,.i 545259519,.i 0],bl [181,145,218,91,169,255,171,72,53,108,154,0,38,222,25,76,113,197,114,223,201,231,138,109,71,218,106,36,168,19,193,79],.i 0,.b false,bl [4,0,0,0,0,0,0,0,0,0,0,0,0,0,0,0,0]]],.l [.l [.l [.i 1,bl [0,0,0,0,0,0,0,0,0,0,0,0,0,0,0,0,0,0,0,0,0,0,0,0,0,0,0,0,0,0,0,0],bl [27,228,96,192,24,233,156,161,112,96,39,161,242,105,12,172,218,72,254,74,38,146,230,38,152,188,212,98,137,78,137,234],.i 1000000000,.i 545259519,.i 0],.l [.l [.i 1,.l [.l [.l [bl [0,0,0,0,0,0,0,0,0,0,0,0,0,0,0,0,0,0,0,0,0,0,0,0,0,0,0,0,0,0,0,0],.i 4294967295],bl [98,121,110,97,109,101],.i 0]],.l [.l [.i 0,.l [.i 106]]],.i 0]]],.l [.l [.i 1,bl [5,255,175,132,180,223,70,118,53,239,142,198,68,68,87,192,226,0,188,189,184,250,48,242,15,177,159,234,32,101,91,46],bl [197,145,24,66,65,162,21,197,16,131,212,246,251,127,118,111,176,14,12,26,164,250,213,32,222,249,71,113,220,84,82,218],.i 1000000512,.i 545259519,.i 0],.l [.l [.i 1,.l [.l [.l [bl [0,0,0,0,0,0,0,0,0,0,0,0,0,0,0,0,0,0,0,0,0,0,0,0,0,0,0,0,0,0,0,0],.i 4294967295],bl [0,1,0],.i 0]],.l [.l [.i 5000000000,.l [.i 84]]],.i 0]]]],.i 1],.i 1]
def C48:List Rs:=[.d 80 (.l [.l [.l [.l [bl [197,145,24,66,65,162,21,197,16,131,212,246,251,127,118,111,176,14,12,26,164,250,213,32,222,249,71,113,220,84,82,218],.i 0],.l [.l [.i 5000000000,.l [.i 84]],.i 1,.b true]]],.n]),.r 179 [.l [.l []]] false,.d 3 (.i (-1)),.d 3 (.i 0)]
theorem D1t:ob (A9 Tryz.prog T A6e 100000 60 28 (A6 T [39,3] C47) (fun _=>none) 0) (fun out=>A7 T true [.d 80,.r 179,.d 3,.d 3] out)=some C48:=by kernel_rfl
def D7D:List (List V×List Rs):=[(C43,C44),(C45,C46),(C47,C48)]
theorem D7E:B2 Tryz.prog T 28 (A5 T true [39,3] (B7 D7D)).dir:=B4 (rk:=[.d 80,.r 179,.d 3,.d 3]) (B3 (fu:=100000) (d:=60) follows C5 A7T) (by kernel_rfl) ⟨D1r,D1s,D1t,trivial⟩
def A9v:List (Nat×E7):=(28,(A5 T true [39,3] (B7 D7D)).dir)::A6e
theorem A7U:D8 Tryz.prog T A9v:=⟨D7E,A7T⟩
def C49:List V:=[.l [.l [.l [.l [.i 1,bl [0,0,0,0,0,0,0,0,0,0,0,0,0,0,0,0,0,0,0,0,0,0,0,0,0,0,0,0,0,0,0,0],bl [27,228,96,192,24,233,156,161,112,96,39,161,242,105,12,172,218,72,254,74,38,146,230,38,152,188,212,98,137,78,137,234],.i 1000000000,.i 545259519,.i 0],bl [5,255,175,132,180,223,70,118,53,239,142,198,68,68,87,192,226,0,188,189,184,250,48,242,15,177,159,234,32,101,91,46],.i (-1),.b false,bl [2,0,0,0,0,0,0,0,0,0,0,0,0,0,0,0,0]]],.l [.l [.l [.i 1,bl [0,0,0,0,0,0,0,0,0,0,0,0,0,0,0,0,0,0,0,0,0,0,0,0,0,0,0,0,0,0,0,0],bl [27,228,96,192,24,233,156,161,112,96,39,161,242,105,12,172,218,72,254,74,38,146,230,38,152,188,212,98,137,78,137,234],.i 1000000000,.i 545259519,.i 0],.l [.l [.i 1,.l [.l [.l [bl [0,0,0,0,0,0,0,0,0,0,0,0,0,0,0,0,0,0,0,0,0,0,0,0,0,0,0,0,0,0,0,0],.i 4294967295],bl [98,121,110,97,109,101],.i 0]],.l [.l [.i 0,.l [.i 106]]],.i 0]]]],.i 0],.l [.i 0,.i 0,.i 0,.n],.i 1]
def C5a:List Rs:=[.d 48 (.l [.l [.i 1,bl [5,255,175,132,180,223,70,118,53,239,142,198,68,68,87,192,226,0,188,189,184,250,48,242,15,177,159,234,32,101,91,46],bl [197,145,24,66,65,162,21,197,16,131,212,246,251,127,118,111,176,14,12,26,164,250,213,32,222,249,71,113,220,84,82,218],.i 1000000512,.i 545259519,.i 0],.l [.l [.i 1,.l [.l [.l [bl [0,0,0,0,0,0,0,0,0,0,0,0,0,0,0,0,0,0,0,0,0,0,0,0,0,0,0,0,0,0,0,0],.i 4294967295],bl [0,1,0],.i 0]],.l [.l [.i 5000000000,.l [.i 84]]],.i 0]]])]
theorem D1u:ob (A9 Tryz.prog T A9v 100000 60 13 (A6 T [39,53,3] C49) (fun _=>none) 0) (fun out=>A7 T true [.d 48] out)=some C5a:=by kernel_rfl
def C5b:List V:=[.l [.l [.l [.l [.i 1,bl [0,0,0,0,0,0,0,0,0,0,0,0,0,0,0,0,0,0,0,0,0,0,0,0,0,0,0,0,0,0,0,0],bl [27,228,96,192,24,233,156,161,112,96,39,161,242,105,12,172,218,72,254,74,38,146,230,38,152,188,212,98,137,78,137,234],.i 1000000000,.i 545259519,.i 0],bl [5,255,175,132,180,223,70,118,53,239,142,198,68,68,87,192,226,0,188,189,184,250,48,242,15,177,159,234,32,101,91,46],.i (-1),.b false,bl [2,0,0,0,0,0,0,0,0,0,0,0,0,0,0,0,0]],.l [.l [.i 1,bl [5,255,175,132,180,223,70,118,53,239,142,198,68,68,87,192,226,0,188,189,184,250,48,242,15,177,159,234,32,101,91,46],bl [197,145,24,66,65,162,21,197,16,131,212,246,251,127,118,111,176,14,12,26,164,250,213,32,222,249,71,113,220,84,82,218],.i 1000000512,.i 545259519,.i 0],bl [181,145,218,91,169,255,171,72,53,108,154,0,38,222,25,76,113,197,114,223,201,231,138,109,71,218,106,36,168,19,193,79],.i 0,.b false,bl [4,0,0,0,0,0,0,0,0,0,0,0,0,0,0,0,0]]],.l [.l [.l [.i 1,bl [0,0,0,0,0,0,0,0,0,0,0,0,0,0,0,0,0,0,0,0,0,0,0,0,0,0,0,0,0,0,0,0],bl [27,228,96,192,24,233,156,161,112,96,39,161,242,105,12,172,218,72,254,74,38,146,230,38,152,188,212,98,137,78,137,234],.i 1000000000,.i 545259519,.i 0],.l [.l [.i 1,.l [.l [.l [bl [0,0,0,0,0,0,0,0,0,0,0,0,0,0,0,0,0,0,0,0,0,0,0,0,0,0,0,0,0,0,0,0],.i 4294967295],bl [98,121,110,97,109,101],.i 0]],.l [.l [.i 0,.l [.i 106]]],.i 0]]],.l [.l [.i 1,bl [5,255,175,132,180,223,70,118,53,239,142,198,68,68,87,192,226,0,188,189,184,250,48,242,15,177,159,234,32,101,91,46],bl [197,145,24,66,65,162,21,197,16,131,212,246,251,127,118,111,176,14,12,26,164,250,213,32,222,249,71,113,220,84,82,218],.i 1000000512,.i 545259519,.i 0],.l [.l [.i 1,.l [.l [.l [bl [0,0,0,0,0,0,0,0,0,0,0,0,0,0,0,0,0,0,0,0,0,0,0,0,0,0,0,0,0,0,0,0],.i 4294967295],bl [0,1,0],.i 0]],.l [.l [.i 5000000000,.l [.i 84]]],.i 0]]]],.i 1],.l [.i 1,.i 0,.i 0,.n],.i 2]
def C5c:List Rs:=[.d 48 (.l [.l [.i 1,bl [181,145,218,91,169,255,171,72,53,108,154,0,38,222,25,76,113,197,114,223,201,231,138,109,71,218,106,36,168,19,193,79],bl [197,242,206,186,112,14,237,35,183,160,216,139,18,14,218,103,73,246,64,217,154,84,75,71,160,156,243,65,167,171,88,229],.i 1000001024,.i 545259519,.i 2],.l [.l [.i 1,.l [.l [.l [bl [0,0,0,0,0,0,0,0,0,0,0,0,0,0,0,0,0,0,0,0,0,0,0,0,0,0,0,0,0,0,0,0],.i 4294967295],bl [0,2,1],.i 0]],.l [.l [.i 5000000000,.l [.i 84]]],.i 0]]])]
theorem D1v:ob (A9 Tryz.prog T A9v 100000 60 13 (A6 T [39,53,3] C5b) (fun _=>none) 0) (fun out=>A7 T true [.d 48] out)=some C5c:=by kernel_rfl
def D7F:List (List V×List Rs):=[(C49,C5a),(C5b,C5c)]
theorem D7G:B2 Tryz.prog T 13 (A5 T true [39,53,3] (B7 D7F)).dir:=B4 (rk:=[.d 48]) (B3 (fu:=100000) (d:=60) follows C5 A7U) (by kernel_rfl) ⟨D1u,D1v,trivial⟩
def B2F:List (Nat×E7):=(13,(A5 T true [39,53,3] (B7 D7F)).dir)::A9v
theorem A7V:D8 Tryz.prog T B2F:=⟨D7G,A7U⟩
def C5d:List V:=[.l [.l [.l [.l [.i 1,bl [0,0,0,0,0,0,0,0,0,0,0,0,0,0,0,0,0,0,0,0,0,0,0,0,0,0,0,0,0,0,0,0],bl [27,228,96,192,24,233,156,161,112,96,39,161,242,105,12,172,218,72,254,74,38,146,230,38,152,188,212,98,137,78,137,234],.i 1000000000,.i 545259519,.i 0],bl [5,255,175,132,180,223,70,118,53,239,142,198,68,68,87,192,226,0,188,189,184,250,48,242,15,177,159,234,32,101,91,46],.i (-1),.b false,bl [2,0,0,0,0,0,0,0,0,0,0,0,0,0,0,0,0]]],.l [.l [.l [.i 1,bl [0,0,0,0,0,0,0,0,0,0,0,0,0,0,0,0,0,0,0,0,0,0,0,0,0,0,0,0,0,0,0,0],bl [27,228,96,192,24,233,156,161,112,96,39,161,242,105,12,172,218,72,254,74,38,146,230,38,152,188,212,98,137,78,137,234],.i 1000000000,.i 545259519,.i 0],.l [.l [.i 1,.l [.l [.l [bl [0,0,0,0,0,0,0,0,0,0,0,0,0,0,0,0,0,0,0,0,0,0,0,0,0,0,0,0,0,0,0,0],.i 4294967295],bl [98,121,110,97,109,101],.i 0]],.l [.l [.i 0,.l [.i 106]]],.i 0]]]],.i 0],.l [.l [.i 1,bl [5,255,175,132,180,223,70,118,53,239,142,198,68,68,87,192,226,0,188,189,184,250,48,242,15,177,159,234,32,101,91,46],bl [197,145,24,66,65,162,21,197,16,131,212,246,251,127,118,111,176,14,12,26,164,250,213,32,222,249,71,113,220,84,82,218],.i 1000000512,.i 545259519,.i 0],.l [.l [.i 1,.l [.l [.l [bl [0,0,0,0,0,0,0,0,0,0,0,0,0,0,0,0,0,0,0,0,0,0,0,0,0,0,0,0,0,0,0,0],.i 4294967295],bl [0,1,0],.i 0]],.l [.l [.i 5000000000,.l [.i 84]]],.i 0]]]]
def C5e:List Rs:=[.d 39 (.l [.l [.l [.l [.i 1,bl [0,0,0,0,0,0,0,0,0,0,0,0,0,0,0,0,0,0,0,0,0,0,0,0,0,0,0,0,0,0,0,0],bl [27,228,96,192,24,233,156,161,112,96,39,161,242,105,12,172,218,72,254,74,38,146,230,38,152,188,212,98,137,78,137,234],.i 1000000000,.i 545259519,.i 0],bl [5,255,175,132,180,223,70,118,53,239,142,198,68,68,87,192,226,0,188,189,184,250,48,242,15,177,159,234,32,101,91,46],.i (-1),.b false,bl [2,0,0,0,0,0,0,0,0,0,0,0,0,0,0,0,0]],.l [.l [.i 1,bl [5,255,175,132,180,223,70,118,53,239,142,198,68,68,87,192,226,0,188,189,184,250,48,242,15,177,159,234,32,101,91,46],bl [197,145,24,66,65,162,21,197,16,131,212,246,251,127,118,111,176,14,12,26,164,250,213,32,222,249,71,113,220,84,82,218],.i 1000000512,.i 545259519,.i 0],bl [181,145,218,91,169,255,171,72,53,108,154,0,38,222,25,76,113,197,114,223,201,231,138,109,71,218,106,36,168,19,193,79],.i 0,.b false,bl [4,0,0,0,0,0,0,0,0,0,0,0,0,0,0,0,0]]],.l [.l [.l [.i 1,bl [0,0,0,0,0,0,0,0,0,0,0,0,0,0,0,0,0,0,0,0,0,0,0,0,0,0,0,0,0,0,0,0],bl [27,228,96,192,24,233,156,161,112,96,39,161,242,105,12,172,218,72,254,74,38,146,230,38,152,188,212,98,137,78,137,234],.i 1000000000,.i 545259519,.i 0],.l [.l [.i 1,.l [.l [.l [bl [0,0,0,0,0,0,0,0,0,0,0,0,0,0,0,0,0,0,0,0,0,0,0,0,0,0,0,0,0,0,0,0],.i 4294967295],bl [98,121,110,97,109,101],.i 0]],.l [.l [.i 0,.l [.i 106]]],.i 0]]],.l [.l [.i 1,bl [5,255,175,132,180,223,70,118,53,239,142,198,68,68,87,192,226,0,188,189,184,250,48,242,15,177,159,234,32,101,91,46],bl [197,145,24,66,65,162,21,197,16,131,212,246,251,127,118,111,176,14,12,26,164,250,213,32,222,249,71,113,220,84,82,218],.i 1000000512,.i 545259519,.i 0],.l [.l [.i 1,.l [.l [.l [bl [0,0,0,0,0,0,0,0,0,0,0,0,0,0,0,0,0,0,0,0,0,0,0,0,0,0,0,0,0,0,0,0],.i 4294967295],bl [0,1,0],.i 0]],.l [.l [.i 5000000000,.l [.i 84]]],.i 0]]]],.i 1]),.d 3 (.i 0)]
theorem D1w:ob (A9 Tryz.prog T B2F 100000 60 14 (A6 T [39,48] C5d) (fun _=>none) 0) (fun out=>A7 T true [.d 39,.d 3] out)=some C5e:=by kernel_rfl
def D7H:List (List V×List Rs):=[(C5d,C5e)]
theorem D7I:B2 Tryz.prog T 14 (A5 T true [39,48] (B7 D7H)).dir:=B4 (rk:=[.d 39,.d 3]) (B3 (fu:=100000) (d:=60) follows C5 A7V) (by kernel_rfl) ⟨D1w,trivial⟩
def A9w:List (Nat×E7):=(14,(A5 T true [39,48] (B7 D7H)).dir)::B2F
theorem A7W:D8 Tryz.prog T A9w:=⟨D7I,A7V⟩
def C5f:List V:=[.i 8388607]
def C5g:List Rs:=[.d 223 (bl [8388607,0,0,0])]
theorem D1x:ob (A9 Tryz.prog T A9w 100000 60 228 (A6 T [125] C5f) (fun _=>none) 0) (fun out=>A7 T false [.d 223] out)=some C5g:=by kernel_rfl
def C5h:List V:=[.i 1]
def C5i:List Rs:=[.d 223 (bl [1,0,0,0])]
theorem D1y:ob (A9 Tryz.prog T A9w 100000 60 228 (A6 T [125] C5h) (fun _=>none) 0) (fun out=>A7 T false [.d 223] out)=some C5i:=by kernel_rfl
def D7J:List (List V×List Rs):=[(C5f,C5g),(C5h,C5i)]
theorem D7K:B2 Tryz.prog T 228 (A5 T false [125] (B7 D7J)).dir:=B4 (rk:=[.d 223]) (B3 (fu:=100000) (d:=60) follows C5 A7W) (by kernel_rfl) ⟨D1x,D1y,trivial⟩
def A9x:List (Nat×E7):=(228,(A5 T false [125] (B7 D7J)).dir)::A9w
theorem A7X:D8 Tryz.prog T A9x:=⟨D7K,A7W⟩
def C5j:List V:=[bl [40,149,240,242,122,214,25,63,71,117,186,58,117,107,215,107,184,242,220,86,7,102,79,58,29,255,150,171,131,159,44,116]]
def C5k:List Rs:=[.d 223 (bl [2161612009552948340,13326956509392162618,5149226509208901483,2924508457280608575])]
theorem D1z:ob (A9 Tryz.prog T A9x 100000 60 126 (A6 T [42] C5j) (fun _=>none) 0) (fun out=>A7 T false [.d 223] out)=some C5k:=by kernel_rfl
def C5l:List V:=[bl [79,193,19,168,36,106,218,71,109,138,231,201,223,114,197,113,76,25,222,38,0,154,108,53,72,171,255,169,91,218,145,181]]
def C5m:List Rs:=[.d 223 (bl [5236560094603940277,5483658276100533301,7893376151143499121,5746896212387879495])]
theorem D1A:ob (A9 Tryz.prog T A9x 100000 60 126 (A6 T [42] C5l) (fun _=>none) 0) (fun out=>A7 T false [.d 223] out)=some C5m:=by kernel_rfl
def D7L:List (List V×List Rs):=[(C5j,C5k),(C5l,C5m)]
theorem D7M:B2 Tryz.prog T 126 (A5 T false [42] (B7 D7L)).dir:=B4 (rk:=[.d 223]) (B3 (fu:=100000) (d:=60) follows C5 A7X) (by kernel_rfl) ⟨D1z,D1A,trivial⟩
def A6f:List (Nat×E7):=(126,(A5 T false [42] (B7 D7L)).dir)::A9x
theorem A7Y:D8 Tryz.prog T A6f:=⟨D7M,A7X⟩
def C5n:List V:=[bl [8388607,0,0,0],.i 232]
def C5o:List Rs:=[.d 223 (bl [0,0,0,9223370937343148032])]
theorem D1B:ob (A9 Tryz.prog T A6f 100000 60 230 (A6 T [223,3] C5n) (fun _=>none) 0) (fun out=>A7 T false [.d 223] out)=some C5o:=by kernel_rfl
def C5p:List V:=[bl [1,0,0,9223370937343148032],.i 1]
def C5q:List Rs:=[.d 223 (bl [2,0,0,18446741874686296064])]
theorem D1C:ob (A9 Tryz.prog T A6f 100000 60 230 (A6 T [223,3] C5p) (fun _=>none) 0) (fun out=>A7 T false [.d 223] out)=some C5q:=by kernel_rfl
def C5r:List V:=[bl [1,0,0,9223370937343148032],.i 0]
def C5s:List Rs:=[.d 223 (bl [1,0,0,9223370937343148032])]
theorem D1D:ob (A9 Tryz.prog T A6f 100000 60 230 (A6 T [223,3] C5r) (fun _=>none) 0) (fun out=>A7 T false [.d 223] out)=some C5s:=by kernel_rfl
def D7N:List (List V×List Rs):=[(C5n,C5o),(C5p,C5q),(C5r,C5s)]
theorem D7O:B2 Tryz.prog T 230 (A5 T false [223,3] (B7 D7N)).dir:=B4 (rk:=[.d 223]) (B3 (fu:=100000) (d:=60) follows C5 A7Y) (by kernel_rfl) ⟨D1B,D1C,D1D,trivial⟩
def B2G:List (Nat×E7):=(230,(A5 T false [223,3] (B7 D7N)).dir)::A6f
theorem A7Z:D8 Tryz.prog T B2G:=⟨D7O,A7Y⟩
def C5t:List V:=[bl [8388607,0,0,0],.i (-232)]
def C5u:List Rs:=[.d 223 (bl [8388607,0,0,0])]
theorem D1E:ob (A9 Tryz.prog T B2G 100000 60 229 (A6 T [223,3] C5t) (fun _=>none) 0) (fun out=>A7 T false [.d 223] out)=some C5u:=by kernel_rfl
def D7P:List (List V×List Rs):=[(C5t,C5u)]
theorem D7Q:B2 Tryz.prog T 229 (A5 T false [223,3] (B7 D7P)).dir:=B4 (rk:=[.d 223]) (B3 (fu:=100000) (d:=60) follows C5 A7Z) (by kernel_rfl) ⟨D1E,trivial⟩
def Y2:List (Nat×E7):=(229,(A5 T false [223,3] (B7 D7P)).dir)::B2G
theorem A70:D8 Tryz.prog T Y2:=⟨D7Q,A7Z⟩
def C5v:List V:=[bl [0,0,0,9223370937343148032],bl [0,0,0,9223370937343148032]]
def C5w:List Rs:=[.d 223 (bl [0,0,0,0]),.d 4 (.b false)]
theorem D1F:ob (A9 Tryz.prog T Y2 100000 60 233 (A6 T [223,223] C5v) (fun _=>none) 0) (fun out=>A7 T false [.d 223,.d 4] out)=some C5w:=by kernel_rfl
def C5x:List V:=[bl [0,0,0,0],bl [1,0,0,9223370937343148032]]
def C5y:List Rs:=[.d 223 (bl [18446744073709551615,18446744073709551615,18446744073709551615,9223373136366403583]),.d 4 (.b true)]
theorem D1G:ob (A9 Tryz.prog T Y2 100000 60 233 (A6 T [223,223] C5x) (fun _=>none) 0) (fun out=>A7 T false [.d 223,.d 4] out)=some C5y:=by kernel_rfl
def C5z:List V:=[bl [18446744073709551615,18446744073709551615,18446744073709551615,9223373136366403583],bl [2,0,0,18446741874686296064]]
def C5A:List Rs:=[.d 223 (bl [18446744073709551613,18446744073709551615,18446744073709551615,9223375335389659135]),.d 4 (.b true)]
theorem D1H:ob (A9 Tryz.prog T Y2 100000 60 233 (A6 T [223,223] C5z) (fun _=>none) 0) (fun out=>A7 T false [.d 223,.d 4] out)=some C5A:=by kernel_rfl
def C5B:List V:=[bl [18446744073709551615,18446744073709551615,18446744073709551615,9223373136366403583],bl [1,0,0,9223370937343148032]]
def C5C:List Rs:=[.d 223 (bl [18446744073709551614,18446744073709551615,18446744073709551615,2199023255551]),.d 4 (.b false)]
theorem D1I:ob (A9 Tryz.prog T Y2 100000 60 233 (A6 T [223,223] C5B) (fun _=>none) 0) (fun out=>A7 T false [.d 223,.d 4] out)=some C5C:=by kernel_rfl
def C5D:List V:=[bl [2,0,0,0],bl [2,0,0,0]]
def C5E:List Rs:=[.d 223 (bl [0,0,0,0]),.d 4 (.b false)]
theorem D1J:ob (A9 Tryz.prog T Y2 100000 60 233 (A6 T [223,223] C5D) (fun _=>none) 0) (fun out=>A7 T false [.d 223,.d 4] out)=some C5E:=by kernel_rfl
def C5F:List V:=[bl [0,0,0,9223370937343148032],bl [2161612009552948340,13326956509392162618,5149226509208901483,2924508457280608575]]
def C5G:List Rs:=[.d 223 (bl [16285132064156603276,5119787564317388997,13297517564500650132,6298862480062539456]),.d 4 (.b false)]
theorem D1K:ob (A9 Tryz.prog T Y2 100000 60 233 (A6 T [223,223] C5F) (fun _=>none) 0) (fun out=>A7 T false [.d 223,.d 4] out)=some C5G:=by kernel_rfl
def C5H:List V:=[bl [0,0,0,9223370937343148032],bl [5236560094603940277,5483658276100533301,7893376151143499121,5746896212387879495]]
def C5I:List Rs:=[.d 223 (bl [13210183979105611339,12963085797609018314,10553367922566052494,3476474724955268536]),.d 4 (.b false)]
theorem D1L:ob (A9 Tryz.prog T Y2 100000 60 233 (A6 T [223,223] C5H) (fun _=>none) 0) (fun out=>A7 T false [.d 223,.d 4] out)=some C5I:=by kernel_rfl
def C5J:List V:=[bl [2,0,0,0],bl [4,0,0,0]]
def C5K:List Rs:=[.d 223 (bl [18446744073709551614,18446744073709551615,18446744073709551615,18446744073709551615]),.d 4 (.b true)]
theorem D1M:ob (A9 Tryz.prog T Y2 100000 60 233 (A6 T [223,223] C5J) (fun _=>none) 0) (fun out=>A7 T false [.d 223,.d 4] out)=some C5K:=by kernel_rfl
def C5L:List V:=[bl [4,0,0,0],bl [4,0,0,0]]
def C5M:List Rs:=[.d 223 (bl [0,0,0,0]),.d 4 (.b false)]
theorem D1N:ob (A9 Tryz.prog T Y2 100000 60 233 (A6 T [223,223] C5L) (fun _=>none) 0) (fun out=>A7 T false [.d 223,.d 4] out)=some C5M:=by kernel_rfl
def C5N:List V:=[bl [4,0,0,0],bl [6,0,0,0]]
def C5O:List Rs:=[.d 223 (bl [18446744073709551614,18446744073709551615,18446744073709551615,18446744073709551615]),.d 4 (.b true)]
theorem D1O:ob (A9 Tryz.prog T Y2 100000 60 233 (A6 T [223,223] C5N) (fun _=>none) 0) (fun out=>A7 T false [.d 223,.d 4] out)=some C5O:=by kernel_rfl
def B8q:List V:=[bl [6,0,0,0],bl [6,0,0,0]]
def B8r:List Rs:=[.d 223 (bl [0,0,0,0]),.d 4 (.b false)]
theorem C1x:ob (A9 Tryz.prog T Y2 100000 60 233 (A6 T [223,223] B8q) (fun _=>none) 0) (fun out=>A7 T false [.d 223,.d 4] out)=some B8r:=by kernel_rfl
def D7R:List (List V×List Rs):=[(C5v,C5w),(C5x,C5y),(C5z,C5A),(C5B,C5C),(C5D,C5E),(C5F,C5G),(C5H,C5I),(C5J,C5K),(C5L,C5M),(C5N,C5O),(B8q,B8r)]
theorem D7S:B2 Tryz.prog T 233 (A5 T false [223,223] (B7 D7R)).dir:=B4 (rk:=[.d 223,.d 4]) (B3 (fu:=100000) (d:=60) follows C5 A70) (by kernel_rfl) ⟨D1F,D1G,D1H,D1I,D1J,D1K,D1L,D1M,D1N,D1O,C1x,trivial⟩
def A4m:List (Nat×E7):=(233,(A5 T false [223,223] (B7 D7R)).dir)::Y2
theorem A71:D8 Tryz.prog T A4m:=⟨D7S,A70⟩
def C5P:List V:=[bl [0,0,0,9223370937343148032],bl [1,0,0,0]]
def C5Q:List Rs:=[.d 223 (bl [1,0,0,9223370937343148032]),.d 4 (.b false)]
theorem D1P:ob (A9 Tryz.prog T A4m 100000 60 323 (A6 T [223,223] C5P) (fun _=>none) 0) (fun out=>A7 T false [.d 223,.d 4] out)=some C5Q:=by kernel_rfl
def C5R:List V:=[bl [1,0,0,0],bl [1,0,0,0]]
def C5S:List Rs:=[.d 223 (bl [2,0,0,0]),.d 4 (.b false)]
theorem D1Q:ob (A9 Tryz.prog T A4m 100000 60 323 (A6 T [223,223] C5R) (fun _=>none) 0) (fun out=>A7 T false [.d 223,.d 4] out)=some C5S:=by kernel_rfl
def C5T:List V:=[bl [2,0,0,0],bl [2,0,0,0]]
def C5U:List Rs:=[.d 223 (bl [4,0,0,0]),.d 4 (.b false)]
theorem D1R:ob (A9 Tryz.prog T A4m 100000 60 323 (A6 T [223,223] C5T) (fun _=>none) 0) (fun out=>A7 T false [.d 223,.d 4] out)=some C5U:=by kernel_rfl
def C5V:List V:=[bl [4,0,0,0],bl [2,0,0,0]]
def C5W:List Rs:=[.d 223 (bl [6,0,0,0]),.d 4 (.b false)]
theorem D1S:ob (A9 Tryz.prog T A4m 100000 60 323 (A6 T [223,223] C5V) (fun _=>none) 0) (fun out=>A7 T false [.d 223,.d 4] out)=some C5W:=by kernel_rfl
def D7T:List (List V×List Rs):=[(C5P,C5Q),(C5R,C5S),(C5T,C5U),(C5V,C5W)]
theorem D7U:B2 Tryz.prog T 323 (A5 T false [223,223] (B7 D7T)).dir:=B4 (rk:=[.d 223,.d 4]) (B3 (fu:=100000) (d:=60) follows C5 A71) (by kernel_rfl) ⟨D1P,D1Q,D1R,D1S,trivial⟩
def A0c:List (Nat×E7):=(323,(A5 T false [223,223] (B7 D7T)).dir)::A4m
theorem A72:D8 Tryz.prog T A0c:=⟨D7U,A71⟩
def C5X:List V:=[bl [0,0,0,9223370937343148032],bl [0,0,0,9223370937343148032]]
def C5Y:List Rs:=[.d 4 (.b false)]
theorem D1T:ob (A9 Tryz.prog T A0c 100000 60 125 (A6 T [223,223] C5X) (fun _=>none) 0) (fun out=>A7 T false [.d 4] out)=some C5Y:=by kernel_rfl
def C5Z:List V:=[bl [18446744073709551615,18446744073709551615,18446744073709551615,9223373136366403583],bl [2,0,0,18446741874686296064]]
def C50:List Rs:=[.d 4 (.b true)]
theorem D1U:ob (A9 Tryz.prog T A0c 100000 60 125 (A6 T [223,223] C5Z) (fun _=>none) 0) (fun out=>A7 T false [.d 4] out)=some C50:=by kernel_rfl
def C51:List V:=[bl [18446744073709551615,18446744073709551615,18446744073709551615,9223373136366403583],bl [1,0,0,9223370937343148032]]
def C52:List Rs:=[.d 4 (.b false)]
theorem D1V:ob (A9 Tryz.prog T A0c 100000 60 125 (A6 T [223,223] C51) (fun _=>none) 0) (fun out=>A7 T false [.d 4] out)=some C52:=by kernel_rfl
def C53:List V:=[bl [2,0,0,0],bl [2,0,0,0]]
def C54:List Rs:=[.d 4 (.b false)]
theorem D1W:ob (A9 Tryz.prog T A0c 100000 60 125 (A6 T [223,223] C53) (fun _=>none) 0) (fun out=>A7 T false [.d 4] out)=some C54:=by kernel_rfl
def C55:List V:=[bl [0,0,0,9223370937343148032],bl [2161612009552948340,13326956509392162618,5149226509208901483,2924508457280608575]]
def C56:List Rs:=[.d 4 (.b false)]
theorem D1X:ob (A9 Tryz.prog T A0c 100000 60 125 (A6 T [223,223] C55) (fun _=>none) 0) (fun out=>A7 T false [.d 4] out)=some C56:=by kernel_rfl
def C57:List V:=[bl [0,0,0,9223370937343148032],bl [5236560094603940277,5483658276100533301,7893376151143499121,5746896212387879495]]
def C58:List Rs:=[.d 4 (.b false)]
theorem D1Y:ob (A9 Tryz.prog T A0c 100000 60 125 (A6 T [223,223] C57) (fun _=>none) 0) (fun out=>A7 T false [.d 4] out)=some C58:=by kernel_rfl
def C59:List V:=[bl [2,0,0,0],bl [4,0,0,0]]
def C6a:List Rs:=[.d 4 (.b true)]
theorem D1Z:ob (A9 Tryz.prog T A0c 100000 60 125 (A6 T [223,223] C59) (fun _=>none) 0) (fun out=>A7 T false [.d 4] out)=some C6a:=by kernel_rfl
def C6b:List V:=[bl [4,0,0,0],bl [4,0,0,0]]
def C6c:List Rs:=[.d 4 (.b false)]
theorem D10:ob (A9 Tryz.prog T A0c 100000 60 125 (A6 T [223,223] C6b) (fun _=>none) 0) (fun out=>A7 T false [.d 4] out)=some C6c:=by kernel_rfl
def C6d:List V:=[bl [4,0,0,0],bl [6,0,0,0]]
def C6e:List Rs:=[.d 4 (.b true)]
theorem D11:ob (A9 Tryz.prog T A0c 100000 60 125 (A6 T [223,223] C6d) (fun _=>none) 0) (fun out=>A7 T false [.d 4] out)=some C6e:=by kernel_rfl
def C6f:List V:=[bl [6,0,0,0],bl [6,0,0,0]]
def C6g:List Rs:=[.d 4 (.b false)]
theorem D12:ob (A9 Tryz.prog T A0c 100000 60 125 (A6 T [223,223] C6f) (fun _=>none) 0) (fun out=>A7 T false [.d 4] out)=some C6g:=by kernel_rfl
def D7V:List (List V×List Rs):=[(C5X,C5Y),(C5Z,C50),(C51,C52),(C53,C54),(C55,C56),(C57,C58),(C59,C6a),(C6b,C6c),(C6d,C6e),(C6f,C6g)]
theorem D7W:B2 Tryz.prog T 125 (A5 T false [223,223] (B7 D7V)).dir:=B4 (rk:=[.d 4]) (B3 (fu:=100000) (d:=60) follows C5 A72) (by kernel_rfl) ⟨D1T,D1U,D1V,D1W,D1X,D1Y,D1Z,D10,D11,D12,trivial⟩
def A6g:List (Nat×E7):=(125,(A5 T false [223,223] (B7 D7V)).dir)::A0c
theorem A73:D8 Tryz.prog T A6g:=⟨D7W,A72⟩
def C6h:List V:=[bl [8388607,0,0,0]]
def C6i:List Rs:=[.d 3 (.i 23)]
theorem D13:ob (A9 Tryz.prog T A6g 100000 60 231 (A6 T [223] C6h) (fun _=>none) 0) (fun out=>A7 T false [.d 3] out)=some C6i:=by kernel_rfl
def C6j:List V:=[bl [18446744073709551615,18446744073709551615,18446744073709551615,9223373136366403583]]
def C6k:List Rs:=[.d 3 (.i 256)]
theorem D14:ob (A9 Tryz.prog T A6g 100000 60 231 (A6 T [223] C6j) (fun _=>none) 0) (fun out=>A7 T false [.d 3] out)=some C6k:=by kernel_rfl
def C6l:List V:=[bl [1,0,0,9223370937343148032]]
def C6m:List Rs:=[.d 3 (.i 255)]
theorem D15:ob (A9 Tryz.prog T A6g 100000 60 231 (A6 T [223] C6l) (fun _=>none) 0) (fun out=>A7 T false [.d 3] out)=some C6m:=by kernel_rfl
def D7X:List (List V×List Rs):=[(C6h,C6i),(C6j,C6k),(C6l,C6m)]
theorem D7Y:B2 Tryz.prog T 231 (A5 T false [223] (B7 D7X)).dir:=B4 (rk:=[.d 3]) (B3 (fu:=100000) (d:=60) follows C5 A73) (by kernel_rfl) ⟨D13,D14,D15,trivial⟩
def B2H:List (Nat×E7):=(231,(A5 T false [223] (B7 D7X)).dir)::A6g
theorem A74:D8 Tryz.prog T B2H:=⟨D7Y,A73⟩
def C6n:List V:=[bl [18446744073709551615,18446744073709551615,18446744073709551615,9223373136366403583],bl [1,0,0,9223370937343148032]]
def C6o:List Rs:=[.d 223 (bl [1,0,0,0]),.d 223 (bl [18446744073709551614,18446744073709551615,18446744073709551615,2199023255551])]
theorem D16:ob (A9 Tryz.prog T B2H 100000 60 368 (A6 T [223,223] C6n) (fun _=>none) 0) (fun out=>A7 T false [.d 223,.d 223] out)=some C6o:=by kernel_rfl
def D7Z:List (List V×List Rs):=[(C6n,C6o)]
theorem D70:B2 Tryz.prog T 368 (A5 T false [223,223] (B7 D7Z)).dir:=B4 (rk:=[.d 223,.d 223]) (B3 (fu:=100000) (d:=60) follows C5 A74) (by kernel_rfl) ⟨D16,trivial⟩
def B2I:List (Nat×E7):=(368,(A5 T false [223,223] (B7 D7Z)).dir)::B2H
theorem A75:D8 Tryz.prog T B2I:=⟨D70,A74⟩
def C6p:List V:=[]
def C6q:List Rs:=[.d 223 (bl [0,0,0,9223370937343148032])]
theorem D17:ob (A9 Tryz.prog T B2I 100000 60 232 (A6 T [] C6p) (fun _=>none) 0) (fun out=>A7 T false [.d 223] out)=some C6q:=by kernel_rfl
def D71:List (List V×List Rs):=[(C6p,C6q)]
theorem D72:B2 Tryz.prog T 232 (A5 T false [] (B7 D71)).dir:=B4 (rk:=[.d 223]) (B3 (fu:=100000) (d:=60) follows C5 A75) (by kernel_rfl) ⟨D17,trivial⟩
def B2J:List (Nat×E7):=(232,(A5 T false [] (B7 D71)).dir)::B2I
theorem A76:D8 Tryz.prog T B2J:=⟨D72,A75⟩
def C6r:List V:=[.i 545259519]
def C6s:List Rs:=[.d 223 (bl [0,0,0,9223370937343148032]),.d 24 (.i 0)]
theorem D18:ob (A9 Tryz.prog T B2J 100000 60 123 (A6 T [41] C6r) (fun _=>none) 0) (fun out=>A7 T false [.d 223,.d 24] out)=some C6s:=by kernel_rfl
def D73:List (List V×List Rs):=[(C6r,C6s)]
theorem D74:B2 Tryz.prog T 123 (A5 T false [41] (B7 D73)).dir:=B4 (rk:=[.d 223,.d 24]) (B3 (fu:=100000) (d:=60) follows C5 A76) (by kernel_rfl) ⟨D18,trivial⟩
def B2K:List (Nat×E7):=(123,(A5 T false [41] (B7 D73)).dir)::B2J
theorem A77:D8 Tryz.prog T B2K:=⟨D74,A76⟩
def C6t:List V:=[.i 545259519]
def C6u:List Rs:=[.d 223 (bl [2,0,0,0])]
theorem D19:ob (A9 Tryz.prog T B2K 100000 60 309 (A6 T [41] C6t) (fun _=>none) 0) (fun out=>A7 T false [.d 223] out)=some C6u:=by kernel_rfl
def D75:List (List V×List Rs):=[(C6t,C6u)]
theorem D76:B2 Tryz.prog T 309 (A5 T false [41] (B7 D75)).dir:=B4 (rk:=[.d 223]) (B3 (fu:=100000) (d:=60) follows C5 A77) (by kernel_rfl) ⟨D19,trivial⟩
def A9y:List (Nat×E7):=(309,(A5 T false [41] (B7 D75)).dir)::B2K
theorem A78:D8 Tryz.prog T A9y:=⟨D76,A77⟩
def C6v:List V:=[.l [.i 1,bl [181,145,218,91,169,255,171,72,53,108,154,0,38,222,25,76,113,197,114,223,201,231,138,109,71,218,106,36,168,19,193,79],bl [197,242,206,186,112,14,237,35,183,160,216,139,18,14,218,103,73,246,64,217,154,84,75,71,160,156,243,65,167,171,88,229],.i 1000001024,.i 545259519,.i 2]]
def C6w:List Rs:=[.d 4 (.b true)]
theorem D2a:ob (A9 Tryz.prog T A9y 100000 60 56 (A6 T [45] C6v) (fun _=>none) 0) (fun out=>A7 T false [.d 4] out)=some C6w:=by kernel_rfl
def C6x:List V:=[.l [.i 1,bl [5,255,175,132,180,223,70,118,53,239,142,198,68,68,87,192,226,0,188,189,184,250,48,242,15,177,159,234,32,101,91,46],bl [197,145,24,66,65,162,21,197,16,131,212,246,251,127,118,111,176,14,12,26,164,250,213,32,222,249,71,113,220,84,82,218],.i 1000000512,.i 545259519,.i 0]]
def C6y:List Rs:=[.d 4 (.b true)]
theorem D2b:ob (A9 Tryz.prog T A9y 100000 60 56 (A6 T [45] C6x) (fun _=>none) 0) (fun out=>A7 T false [.d 4] out)=some C6y:=by kernel_rfl
def D77:List (List V×List Rs):=[(C6v,C6w),(C6x,C6y)]
theorem D78:B2 Tryz.prog T 56 (A5 T false [45] (B7 D77)).dir:=B4 (rk:=[.d 4]) (B3 (fu:=100000) (d:=60) follows C5 A78) (by kernel_rfl) ⟨D2a,D2b,trivial⟩
def A6h:List (Nat×E7):=(56,(A5 T false [45] (B7 D77)).dir)::A9y
theorem A79:D8 Tryz.prog T A6h:=⟨D78,A78⟩
def C6z:List V:=[.l [.i 1,.l [.l [.l [bl [0,0,0,0,0,0,0,0,0,0,0,0,0,0,0,0,0,0,0,0,0,0,0,0,0,0,0,0,0,0,0,0],.i 4294967295],bl [98,121,110,97,109,101],.i 0]],.l [.l [.i 0,.l [.i 106]]],.i 0]]
def C6A:List Rs:=[.r 5 (bl [1,0,0,0,1,0,0,0,0,0,0,0,0,0,0,0,0,0,0,0,0,0,0,0,0,0,0,0,0,0,0,0,0,0,0,0,0,255,255,255,255,6,98,121,110,97,109,101,0,0,0,0,1,0,0,0,0,0,0,0,0,1,106,0,0,0,0]:V).els false]
theorem D2c:ob (A9 Tryz.prog T A6h 100000 60 152 (A6 T [95] C6z) (fun _=>none) 0) (fun out=>A7 T false [.r 5] out)=some C6A:=by kernel_rfl
def C6B:List V:=[.l [.i 1,.l [.l [.l [bl [0,0,0,0,0,0,0,0,0,0,0,0,0,0,0,0,0,0,0,0,0,0,0,0,0,0,0,0,0,0,0,0],.i 4294967295],bl [0,2,1],.i 0]],.l [.l [.i 5000000000,.l [.i 84]]],.i 0]]
def C6C:List Rs:=[.r 5 (bl [1,0,0,0,1,0,0,0,0,0,0,0,0,0,0,0,0,0,0,0,0,0,0,0,0,0,0,0,0,0,0,0,0,0,0,0,0,255,255,255,255,3,0,2,1,0,0,0,0,1,0,242,5,42,1,0,0,0,1,84,0,0,0,0]:V).els false]
theorem D2d:ob (A9 Tryz.prog T A6h 100000 60 152 (A6 T [95] C6B) (fun _=>none) 0) (fun out=>A7 T false [.r 5] out)=some C6C:=by kernel_rfl
def C6D:List V:=[.l [.i 1,.l [.l [.l [bl [0,0,0,0,0,0,0,0,0,0,0,0,0,0,0,0,0,0,0,0,0,0,0,0,0,0,0,0,0,0,0,0],.i 4294967295],bl [0,1,0],.i 0]],.l [.l [.i 5000000000,.l [.i 84]]],.i 0]]
def C6E:List Rs:=[.r 5 (bl [1,0,0,0,1,0,0,0,0,0,0,0,0,0,0,0,0,0,0,0,0,0,0,0,0,0,0,0,0,0,0,0,0,0,0,0,0,255,255,255,255,3,0,1,0,0,0,0,0,1,0,242,5,42,1,0,0,0,1,84,0,0,0,0]:V).els false]
theorem D2e:ob (A9 Tryz.prog T A6h 100000 60 152 (A6 T [95] C6D) (fun _=>none) 0) (fun out=>A7 T false [.r 5] out)=some C6E:=by kernel_rfl
def D79:List (List V×List Rs):=[(C6z,C6A),(C6B,C6C),(C6D,C6E)]
theorem D8a:B2 Tryz.prog T 152 (A5 T false [95] (B7 D79)).dir:=B4 (rk:=[.r 5]) (B3 (fu:=100000) (d:=60) follows C5 A79) (by kernel_rfl) ⟨D2c,D2d,D2e,trivial⟩
def A6i:List (Nat×E7):=(152,(A5 T false [95] (B7 D79)).dir)::A6h
theorem A8a:D8 Tryz.prog T A6i:=⟨D8a,A79⟩
def C6F:List V:=[.l [.i 1,.l [.l [.l [bl [0,0,0,0,0,0,0,0,0,0,0,0,0,0,0,0,0,0,0,0,0,0,0,0,0,0,0,0,0,0,0,0],.i 4294967295],bl [98,121,110,97,109,101],.i 0]],.l [.l [.i 0,.l [.i 106]]],.i 0]]
def C6G:List Rs:=[.d 43 (bl [27,228,96,192,24,233,156,161,112,96,39,161,242,105,12,172,218,72,254,74,38,146,230,38,152,188,212,98,137,78,137,234])]
theorem D2f:ob (A9 Tryz.prog T A6i 100000 60 226 (A6 T [95] C6F) (fun _=>none) 0) (fun out=>A7 T false [.d 43] out)=some C6G:=by kernel_rfl
def C6H:List V:=[.l [.i 1,.l [.l [.l [bl [0,0,0,0,0,0,0,0,0,0,0,0,0,0,0,0,0,0,0,0,0,0,0,0,0,0,0,0,0,0,0,0],.i 4294967295],bl [0,2,1],.i 0]],.l [.l [.i 5000000000,.l [.i 84]]],.i 0]]
def C6I:List Rs:=[.d 43 (bl [197,242,206,186,112,14,237,35,183,160,216,139,18,14,218,103,73,246,64,217,154,84,75,71,160,156,243,65,167,171,88,229])]
theorem D2g:ob (A9 Tryz.prog T A6i 100000 60 226 (A6 T [95] C6H) (fun _=>none) 0) (fun out=>A7 T false [.d 43] out)=some C6I:=by kernel_rfl
def C6J:List V:=[.l [.i 1,.l [.l [.l [bl [0,0,0,0,0,0,0,0,0,0,0,0,0,0,0,0,0,0,0,0,0,0,0,0,0,0,0,0,0,0,0,0],.i 4294967295],bl [0,1,0],.i 0]],.l [.l [.i 5000000000,.l [.i 84]]],.i 0]]
def C6K:List Rs:=[.d 43 (bl [197,145,24,66,65,162,21,197,16,131,212,246,251,127,118,111,176,14,12,26,164,250,213,32,222,249,71,113,220,84,82,218])]
theorem D2h:ob (A9 Tryz.prog T A6i 100000 60 226 (A6 T [95] C6J) (fun _=>none) 0) (fun out=>A7 T false [.d 43] out)=some C6K:=by kernel_rfl
def D8b:List (List V×List Rs):=[(C6F,C6G),(C6H,C6I),(C6J,C6K)]
theorem D8c:B2 Tryz.prog T 226 (A5 T false [95] (B7 D8b)).dir:=B4 (rk:=[.d 43]) (B3 (fu:=100000) (d:=60) follows C5 A8a) (by kernel_rfl) ⟨D2f,D2g,D2h,trivial⟩
def B2L:List (Nat×E7):=(226,(A5 T false [95] (B7 D8b)).dir)::A6i
theorem A8b:D8 Tryz.prog T B2L:=⟨D8c,A8a⟩
def C6L:List V:=[.l []]
def C6M:List Rs:=[.d 95 (.l [.i 0,.n,.n,.i 0]),.d 24 (.i 61)]
theorem D2i:ob (A9 Tryz.prog T B2L 100000 60 64 (A6 T [29] C6L) (fun _=>none) 0) (fun out=>A7 T true [.d 95,.d 24] out)=some C6M:=by kernel_rfl
def D8d:List (List V×List Rs):=[(C6L,C6M)]
theorem D8e:B2 Tryz.prog T 64 (A5 T true [29] (B7 D8d)).dir:=B4 (rk:=[.d 95,.d 24]) (B3 (fu:=100000) (d:=60) follows C5 A8b) (by kernel_rfl) ⟨D2i,trivial⟩
def A9z:List (Nat×E7):=(64,(A5 T true [29] (B7 D8d)).dir)::B2L
theorem A8c:D8 Tryz.prog T A9z:=⟨D8e,A8b⟩
def C6N:List V:=[.l [.i 1,.l [.l [.l [bl [0,0,0,0,0,0,0,0,0,0,0,0,0,0,0,0,0,0,0,0,0,0,0,0,0,0,0,0,0,0,0,0],.i 4294967295],bl [0,2,1],.i 0]],.l [.l [.i 5000000000,.l [.i 84]]],.i 0]]
def C6O:List Rs:=[.d 24 (.i 0)]
theorem D2j:ob (A9 Tryz.prog T A9z 100000 60 119 (A6 T [95] C6N) (fun _=>none) 0) (fun out=>A7 T false [.d 24] out)=some C6O:=by kernel_rfl
def C6P:List V:=[.l [.i 1,.l [.l [.l [bl [0,0,0,0,0,0,0,0,0,0,0,0,0,0,0,0,0,0,0,0,0,0,0,0,0,0,0,0,0,0,0,0],.i 4294967295],bl [0,1,0],.i 0]],.l [.l [.i 5000000000,.l [.i 84]]],.i 0]]
def C6Q:List Rs:=[.d 24 (.i 0)]
theorem D2k:ob (A9 Tryz.prog T A9z 100000 60 119 (A6 T [95] C6P) (fun _=>none) 0) (fun out=>A7 T false [.d 24] out)=some C6Q:=by kernel_rfl
def D8f:List (List V×List Rs):=[(C6N,C6O),(C6P,C6Q)]
theorem D8g:B2 Tryz.prog T 119 (A5 T false [95] (B7 D8f)).dir:=B4 (rk:=[.d 24]) (B3 (fu:=100000) (d:=60) follows C5 A8c) (by kernel_rfl) ⟨D2j,D2k,trivial⟩
def A9A:List (Nat×E7):=(119,(A5 T false [95] (B7 D8f)).dir)::A9z
theorem A8d:D8 Tryz.prog T A9A:=⟨D8g,A8c⟩
def C6R:List V:=[.l [.i 1,.l [.l [.l [bl [0,0,0,0,0,0,0,0,0,0,0,0,0,0,0,0,0,0,0,0,0,0,0,0,0,0,0,0,0,0,0,0],.i 4294967295],bl [0,2,1],.i 0]],.l [.l [.i 5000000000,.l [.i 84]]],.i 0]]
def C6S:List Rs:=[.d 4 (.b true)]
theorem D2l:ob (A9 Tryz.prog T A9A 100000 60 118 (A6 T [95] C6R) (fun _=>none) 0) (fun out=>A7 T false [.d 4] out)=some C6S:=by kernel_rfl
def C6T:List V:=[.l [.i 1,.l [.l [.l [bl [0,0,0,0,0,0,0,0,0,0,0,0,0,0,0,0,0,0,0,0,0,0,0,0,0,0,0,0,0,0,0,0],.i 4294967295],bl [0,1,0],.i 0]],.l [.l [.i 5000000000,.l [.i 84]]],.i 0]]
def C6U:List Rs:=[.d 4 (.b true)]
theorem D2m:ob (A9 Tryz.prog T A9A 100000 60 118 (A6 T [95] C6T) (fun _=>none) 0) (fun out=>A7 T false [.d 4] out)=some C6U:=by kernel_rfl
def D8h:List (List V×List Rs):=[(C6R,C6S),(C6T,C6U)]
theorem D8i:B2 Tryz.prog T 118 (A5 T false [95] (B7 D8h)).dir:=B4 (rk:=[.d 4]) (B3 (fu:=100000) (d:=60) follows C5 A8d) (by kernel_rfl) ⟨D2l,D2m,trivial⟩
def A6j:List (Nat×E7):=(118,(A5 T false [95] (B7 D8h)).dir)::A9A
theorem A8e:D8 Tryz.prog T A6j:=⟨D8i,A8d⟩
def C6V:List V:=[.l [bl [0,0,0,0,0,0,0,0,0,0,0,0,0,0,0,0,0,0,0,0,0,0,0,0,0,0,0,0,0,0,0,0],.i 4294967295]]
def C6W:List Rs:=[.r 5 (bl [0,0,0,0,0,0,0,0,0,0,0,0,0,0,0,0,0,0,0,0,0,0,0,0,0,0,0,0,0,0,0,0,255,255,255,255]:V).els false]
theorem D2n:ob (A9 Tryz.prog T A6j 100000 60 269 (A6 T [86] C6V) (fun _=>none) 0) (fun out=>A7 T false [.r 5] out)=some C6W:=by kernel_rfl
def C6X:List V:=[.l [bl [197,145,24,66,65,162,21,197,16,131,212,246,251,127,118,111,176,14,12,26,164,250,213,32,222,249,71,113,220,84,82,218],.i 0]]
def C6Y:List Rs:=[.r 5 (bl [197,145,24,66,65,162,21,197,16,131,212,246,251,127,118,111,176,14,12,26,164,250,213,32,222,249,71,113,220,84,82,218,0,0,0,0]:V).els false]
theorem D2o:ob (A9 Tryz.prog T A6j 100000 60 269 (A6 T [86] C6X) (fun _=>none) 0) (fun out=>A7 T false [.r 5] out)=some C6Y:=by kernel_rfl
def C6Z:List V:=[.l [bl [197,242,206,186,112,14,237,35,183,160,216,139,18,14,218,103,73,246,64,217,154,84,75,71,160,156,243,65,167,171,88,229],.i 0]]
def C60:List Rs:=[.r 5 (bl [197,242,206,186,112,14,237,35,183,160,216,139,18,14,218,103,73,246,64,217,154,84,75,71,160,156,243,65,167,171,88,229,0,0,0,0]:V).els false]
theorem D2p:ob (A9 Tryz.prog T A6j 100000 60 269 (A6 T [86] C6Z) (fun _=>none) 0) (fun out=>A7 T false [.r 5] out)=some C60:=by kernel_rfl
def D8j:List (List V×List Rs):=[(C6V,C6W),(C6X,C6Y),(C6Z,C60)]
theorem D8k:B2 Tryz.prog T 269 (A5 T false [86] (B7 D8j)).dir:=B4 (rk:=[.r 5]) (B3 (fu:=100000) (d:=60) follows C5 A8e) (by kernel_rfl) ⟨D2n,D2o,D2p,trivial⟩
def A9B:List (Nat×E7):=(269,(A5 T false [86] (B7 D8j)).dir)::A6j
theorem A8f:D8 Tryz.prog T A9B:=⟨D8k,A8e⟩
def C61:List V:=[.l [.i 0,.l [.i 106]]]
def C62:List Rs:=[.r 5 (bl [0,0,0,0,0,0,0,0,1,106]:V).els false]
theorem D2q:ob (A9 Tryz.prog T A9B 100000 60 270 (A6 T [92] C61) (fun _=>none) 0) (fun out=>A7 T false [.r 5] out)=some C62:=by kernel_rfl
def C63:List V:=[.l [.i 5000000000,.l [.i 84]]]
def C64:List Rs:=[.r 5 (bl [0,242,5,42,1,0,0,0,1,84]:V).els false]
theorem D2r:ob (A9 Tryz.prog T A9B 100000 60 270 (A6 T [92] C63) (fun _=>none) 0) (fun out=>A7 T false [.r 5] out)=some C64:=by kernel_rfl
def D8l:List (List V×List Rs):=[(C61,C62),(C63,C64)]
theorem D8m:B2 Tryz.prog T 270 (A5 T false [92] (B7 D8l)).dir:=B4 (rk:=[.r 5]) (B3 (fu:=100000) (d:=60) follows C5 A8f) (by kernel_rfl) ⟨D2q,D2r,trivial⟩
def A9C:List (Nat×E7):=(270,(A5 T false [92] (B7 D8l)).dir)::A9B
theorem A8g:D8 Tryz.prog T A9C:=⟨D8m,A8f⟩
def C65:List V:=[.l [.l [.i 5000000000,.l [.i 84]],.i 1,.b true]]
def C66:List Rs:=[.r 5 (bl [3,0,242,5,42,1,0,0,0,1,84]:V).els false]
theorem D2s:ob (A9 Tryz.prog T A9C 100000 60 164 (A6 T [184] C65) (fun _=>none) 0) (fun out=>A7 T false [.r 5] out)=some C66:=by kernel_rfl
def C67:List V:=[.l [.l [.i 5000000000,.l [.i 84]],.i 2,.b true]]
def C68:List Rs:=[.r 5 (bl [5,0,242,5,42,1,0,0,0,1,84]:V).els false]
theorem D2t:ob (A9 Tryz.prog T A9C 100000 60 164 (A6 T [184] C67) (fun _=>none) 0) (fun out=>A7 T false [.r 5] out)=some C68:=by kernel_rfl
def D8n:List (List V×List Rs):=[(C65,C66),(C67,C68)]
theorem D8o:B2 Tryz.prog T 164 (A5 T false [184] (B7 D8n)).dir:=B4 (rk:=[.r 5]) (B3 (fu:=100000) (d:=60) follows C5 A8g) (by kernel_rfl) ⟨D2s,D2t,trivial⟩
def A6k:List (Nat×E7):=(164,(A5 T false [184] (B7 D8n)).dir)::A9C
theorem A8h:D8 Tryz.prog T A6k:=⟨D8o,A8g⟩
def C69:List V:=[.l [.i 1,bl [0,0,0,0,0,0,0,0,0,0,0,0,0,0,0,0,0,0,0,0,0,0,0,0,0,0,0,0,0,0,0,0],bl [27,228,96,192,24,233,156,161,112,96,39,161,242,105,12,172,218,72,254,74,38,146,230,38,152,188,212,98,137,78,137,234],.i 1000000000,.i 545259519,.i 0]]
def C7a:List Rs:=[.r 5 (bl [1,0,0,0,0,0,0,0,0,0,0,0,0,0,0,0,0,0,0,0,0,0,0,0,0,0,0,0,0,0,0,0,0,0,0,0,27,228,96,192,24,233,156,161,112,96,39,161,242,105,12,172,218,72,254,74,38,146,230,38,152,188,212,98,137,78,137,234,0,202,154,59,255,255,127,32,0,0,0,0]:V).els false]
theorem D2u:ob (A9 Tryz.prog T A6k 100000 60 140 (A6 T [45] C69) (fun _=>none) 0) (fun out=>A7 T false [.r 5] out)=some C7a:=by kernel_rfl
def C7b:List V:=[.l [.i 1,bl [181,145,218,91,169,255,171,72,53,108,154,0,38,222,25,76,113,197,114,223,201,231,138,109,71,218,106,36,168,19,193,79],bl [197,242,206,186,112,14,237,35,183,160,216,139,18,14,218,103,73,246,64,217,154,84,75,71,160,156,243,65,167,171,88,229],.i 1000001024,.i 545259519,.i 2]]
def C7c:List Rs:=[.r 5 (bl [1,0,0,0,181,145,218,91,169,255,171,72,53,108,154,0,38,222,25,76,113,197,114,223,201,231,138,109,71,218,106,36,168,19,193,79,197,242,206,186,112,14,237,35,183,160,216,139,18,14,218,103,73,246,64,217,154,84,75,71,160,156,243,65,167,171,88,229,0,206,154,59,255,255,127,32,2,0,0,0]:V).els false]
theorem D2v:ob (A9 Tryz.prog T A6k 100000 60 140 (A6 T [45] C7b) (fun _=>none) 0) (fun out=>A7 T false [.r 5] out)=some C7c:=by kernel_rfl
def C7d:List V:=[.l [.i 1,bl [5,255,175,132,180,223,70,118,53,239,142,198,68,68,87,192,226,0,188,189,184,250,48,242,15,177,159,234,32,101,91,46],bl [197,145,24,66,65,162,21,197,16,131,212,246,251,127,118,111,176,14,12,26,164,250,213,32,222,249,71,113,220,84,82,218],.i 1000000512,.i 545259519,.i 0]]
def C7e:List Rs:=[.r 5 (bl [1,0,0,0,5,255,175,132,180,223,70,118,53,239,142,198,68,68,87,192,226,0,188,189,184,250,48,242,15,177,159,234,32,101,91,46,197,145,24,66,65,162,21,197,16,131,212,246,251,127,118,111,176,14,12,26,164,250,213,32,222,249,71,113,220,84,82,218,0,204,154,59,255,255,127,32,0,0,0,0]:V).els false]
theorem D2w:ob (A9 Tryz.prog T A6k 100000 60 140 (A6 T [45] C7d) (fun _=>none) 0) (fun out=>A7 T false [.r 5] out)=some C7e:=by kernel_rfl
def D8p:List (List V×List Rs):=[(C69,C7a),(C7b,C7c),(C7d,C7e)]
theorem D8q:B2 Tryz.prog T 140 (A5 T false [45] (B7 D8p)).dir:=B4 (rk:=[.r 5]) (B3 (fu:=100000) (d:=60) follows C5 A8h) (by kernel_rfl) ⟨D2u,D2v,D2w,trivial⟩
def A6l:List (Nat×E7):=(140,(A5 T false [45] (B7 D8p)).dir)::A6k
theorem A8i:D8 Tryz.prog T A6l:=⟨D8q,A8h⟩
def C7f:List V:=[.l [.i 1,bl [0,0,0,0,0,0,0,0,0,0,0,0,0,0,0,0,0,0,0,0,0,0,0,0,0,0,0,0,0,0,0,0],bl [27,228,96,192,24,233,156,161,112,96,39,161,242,105,12,172,218,72,254,74,38,146,230,38,152,188,212,98,137,78,137,234],.i 1000000000,.i 545259519,.i 0]]
def C7g:List Rs:=[.d 43 (bl [5,255,175,132,180,223,70,118,53,239,142,198,68,68,87,192,226,0,188,189,184,250,48,242,15,177,159,234,32,101,91,46])]
theorem D2x:ob (A9 Tryz.prog T A6l 100000 60 59 (A6 T [45] C7f) (fun _=>none) 0) (fun out=>A7 T false [.d 43] out)=some C7g:=by kernel_rfl
def C7h:List V:=[.l [.i 1,bl [181,145,218,91,169,255,171,72,53,108,154,0,38,222,25,76,113,197,114,223,201,231,138,109,71,218,106,36,168,19,193,79],bl [197,242,206,186,112,14,237,35,183,160,216,139,18,14,218,103,73,246,64,217,154,84,75,71,160,156,243,65,167,171,88,229],.i 1000001024,.i 545259519,.i 2]]
def C7i:List Rs:=[.d 43 (bl [116,44,159,131,171,150,255,29,58,79,102,7,86,220,242,184,107,215,107,117,58,186,117,71,63,25,214,122,242,240,149,40])]
theorem D2y:ob (A9 Tryz.prog T A6l 100000 60 59 (A6 T [45] C7h) (fun _=>none) 0) (fun out=>A7 T false [.d 43] out)=some C7i:=by kernel_rfl
def C7j:List V:=[.l [.i 1,bl [5,255,175,132,180,223,70,118,53,239,142,198,68,68,87,192,226,0,188,189,184,250,48,242,15,177,159,234,32,101,91,46],bl [197,145,24,66,65,162,21,197,16,131,212,246,251,127,118,111,176,14,12,26,164,250,213,32,222,249,71,113,220,84,82,218],.i 1000000512,.i 545259519,.i 0]]
def C7k:List Rs:=[.d 43 (bl [181,145,218,91,169,255,171,72,53,108,154,0,38,222,25,76,113,197,114,223,201,231,138,109,71,218,106,36,168,19,193,79])]
theorem D2z:ob (A9 Tryz.prog T A6l 100000 60 59 (A6 T [45] C7j) (fun _=>none) 0) (fun out=>A7 T false [.d 43] out)=some C7k:=by kernel_rfl
def D8r:List (List V×List Rs):=[(C7f,C7g),(C7h,C7i),(C7j,C7k)]
theorem D8s:B2 Tryz.prog T 59 (A5 T false [45] (B7 D8r)).dir:=B4 (rk:=[.d 43]) (B3 (fu:=100000) (d:=60) follows C5 A8i) (by kernel_rfl) ⟨D2x,D2y,D2z,trivial⟩
def A9D:List (Nat×E7):=(59,(A5 T false [45] (B7 D8r)).dir)::A6l
theorem A8j:D8 Tryz.prog T A9D:=⟨D8s,A8i⟩
def C7l:List V:=[.l [bl [197,242,206,186,112,14,237,35,183,160,216,139,18,14,218,103,73,246,64,217,154,84,75,71,160,156,243,65,167,171,88,229]]]
def C7m:List Rs:=[.d 43 (bl [197,242,206,186,112,14,237,35,183,160,216,139,18,14,218,103,73,246,64,217,154,84,75,71,160,156,243,65,167,171,88,229]),.d 4 (.b false)]
theorem D2A:ob (A9 Tryz.prog T A9D 100000 60 120 (A6 T [111] C7l) (fun _=>none) 0) (fun out=>A7 T false [.d 43,.d 4] out)=some C7m:=by kernel_rfl
def C7n:List V:=[.l [bl [197,145,24,66,65,162,21,197,16,131,212,246,251,127,118,111,176,14,12,26,164,250,213,32,222,249,71,113,220,84,82,218]]]
def C7o:List Rs:=[.d 43 (bl [197,145,24,66,65,162,21,197,16,131,212,246,251,127,118,111,176,14,12,26,164,250,213,32,222,249,71,113,220,84,82,218]),.d 4 (.b false)]
theorem D2B:ob (A9 Tryz.prog T A9D 100000 60 120 (A6 T [111] C7n) (fun _=>none) 0) (fun out=>A7 T false [.d 43,.d 4] out)=some C7o:=by kernel_rfl
def D8t:List (List V×List Rs):=[(C7l,C7m),(C7n,C7o)]
theorem D8u:B2 Tryz.prog T 120 (A5 T false [111] (B7 D8t)).dir:=B4 (rk:=[.d 43,.d 4]) (B3 (fu:=100000) (d:=60) follows C5 A8j) (by kernel_rfl) ⟨D2A,D2B,trivial⟩
def A9E:List (Nat×E7):=(120,(A5 T false [111] (B7 D8t)).dir)::A9D
theorem A8k:D8 Tryz.prog T A9E:=⟨D8u,A8j⟩
def C7p:List V:=[.l [.l [.i 1,bl [181,145,218,91,169,255,171,72,53,108,154,0,38,222,25,76,113,197,114,223,201,231,138,109,71,218,106,36,168,19,193,79],bl [197,242,206,186,112,14,237,35,183,160,216,139,18,14,218,103,73,246,64,217,154,84,75,71,160,156,243,65,167,171,88,229],.i 1000001024,.i 545259519,.i 2],.l [.l [.i 1,.l [.l [.l [bl [0,0,0,0,0,0,0,0,0,0,0,0,0,0,0,0,0,0,0,0,0,0,0,0,0,0,0,0,0,0,0,0],.i 4294967295],bl [0,2,1],.i 0]],.l [.l [.i 5000000000,.l [.i 84]]],.i 0]]]]
def C7q:List Rs:=[.r 43 [bl [197,242,206,186,112,14,237,35,183,160,216,139,18,14,218,103,73,246,64,217,154,84,75,71,160,156,243,65,167,171,88,229]] false]
theorem D2C:ob (A9 Tryz.prog T A9E 100000 60 121 (A6 T [48] C7p) (fun _=>none) 0) (fun out=>A7 T false [.r 43] out)=some C7q:=by kernel_rfl
def C7r:List V:=[.l [.l [.i 1,bl [5,255,175,132,180,223,70,118,53,239,142,198,68,68,87,192,226,0,188,189,184,250,48,242,15,177,159,234,32,101,91,46],bl [197,145,24,66,65,162,21,197,16,131,212,246,251,127,118,111,176,14,12,26,164,250,213,32,222,249,71,113,220,84,82,218],.i 1000000512,.i 545259519,.i 0],.l [.l [.i 1,.l [.l [.l [bl [0,0,0,0,0,0,0,0,0,0,0,0,0,0,0,0,0,0,0,0,0,0,0,0,0,0,0,0,0,0,0,0],.i 4294967295],bl [0,1,0],.i 0]],.l [.l [.i 5000000000,.l [.i 84]]],.i 0]]]]
def C7s:List Rs:=[.r 43 [bl [197,145,24,66,65,162,21,197,16,131,212,246,251,127,118,111,176,14,12,26,164,250,213,32,222,249,71,113,220,84,82,218]] false]
theorem D2D:ob (A9 Tryz.prog T A9E 100000 60 121 (A6 T [48] C7r) (fun _=>none) 0) (fun out=>A7 T false [.r 43] out)=some C7s:=by kernel_rfl
def D8v:List (List V×List Rs):=[(C7p,C7q),(C7r,C7s)]
theorem D8w:B2 Tryz.prog T 121 (A5 T false [48] (B7 D8v)).dir:=B4 (rk:=[.r 43]) (B3 (fu:=100000) (d:=60) follows C5 A8k) (by kernel_rfl) ⟨D2C,D2D,trivial⟩
def A6m:List (Nat×E7):=(121,(A5 T false [48] (B7 D8v)).dir)::A9E
theorem A8l:D8 Tryz.prog T A6m:=⟨D8w,A8k⟩
def C7t:List V:=[.l [.l [.i 1,bl [181,145,218,91,169,255,171,72,53,108,154,0,38,222,25,76,113,197,114,223,201,231,138,109,71,218,106,36,168,19,193,79],bl [197,242,206,186,112,14,237,35,183,160,216,139,18,14,218,103,73,246,64,217,154,84,75,71,160,156,243,65,167,171,88,229],.i 1000001024,.i 545259519,.i 2],.l [.l [.i 1,.l [.l [.l [bl [0,0,0,0,0,0,0,0,0,0,0,0,0,0,0,0,0,0,0,0,0,0,0,0,0,0,0,0,0,0,0,0],.i 4294967295],bl [0,2,1],.i 0]],.l [.l [.i 5000000000,.l [.i 84]]],.i 0]]]]
def C7u:List Rs:=[.r 5 (bl [1,0,0,0,181,145,218,91,169,255,171,72,53,108,154,0,38,222,25,76,113,197,114,223,201,231,138,109,71,218,106,36,168,19,193,79,197,242,206,186,112,14,237,35,183,160,216,139,18,14,218,103,73,246,64,217,154,84,75,71,160,156,243,65,167,171,88,229,0,206,154,59,255,255,127,32,2,0,0,0,1,1,0,0,0,1,0,0,0,0,0,0,0,0,0,0,0,0,0,0,0,0,0,0,0,0,0,0,0,0,0,0,0,0,0,0,0,0,255,255,255,255,3,0,2,1,0,0,0,0,1,0,242,5,42,1,0,0,0,1,84,0,0,0,0]:V).els false]
theorem D2E:ob (A9 Tryz.prog T A6m 100000 60 117 (A6 T [48] C7t) (fun _=>none) 0) (fun out=>A7 T false [.r 5] out)=some C7u:=by kernel_rfl
def C7v:List V:=[.l [.l [.i 1,bl [5,255,175,132,180,223,70,118,53,239,142,198,68,68,87,192,226,0,188,189,184,250,48,242,15,177,159,234,32,101,91,46],bl [197,145,24,66,65,162,21,197,16,131,212,246,251,127,118,111,176,14,12,26,164,250,213,32,222,249,71,113,220,84,82,218],.i 1000000512,.i 545259519,.i 0],.l [.l [.i 1,.l [.l [.l [bl [0,0,0,0,0,0,0,0,0,0,0,0,0,0,0,0,0,0,0,0,0,0,0,0,0,0,0,0,0,0,0,0],.i 4294967295],bl [0,1,0],.i 0]],.l [.l [.i 5000000000,.l [.i 84]]],.i 0]]]]
def C7w:List Rs:=[.r 5 (bl [1,0,0,0,5,255,175,132,180,223,70,118,53,239,142,198,68,68,87,192,226,0,188,189,184,250,48,242,15,177,159,234,32,101,91,46,197,145,24,66,65,162,21,197,16,131,212,246,251,127,118,111,176,14,12,26,164,250,213,32,222,249,71,113,220,84,82,218,0,204,154,59,255,255,127,32,0,0,0,0,1,1,0,0,0,1,0,0,0,0,0,0,0,0,0,0,0,0,0,0,0,0,0,0,0,0,0,0,0,0,0,0,0,0,0,0,0,0,255,255,255,255,3,0,1,0,0,0,0,0,1,0,242,5,42,1,0,0,0,1,84,0,0,0,0]:V).els false]
theorem D2F:ob (A9 Tryz.prog T A6m 100000 60 117 (A6 T [48] C7v) (fun _=>none) 0) (fun out=>A7 T false [.r 5] out)=some C7w:=by kernel_rfl
def C7x:List V:=[.l [.l [.i 1,bl [0,0,0,0,0,0,0,0,0,0,0,0,0,0,0,0,0,0,0,0,0,0,0,0,0,0,0,0,0,0,0,0],bl [27,228,96,192,24,233,156,161,112,96,39,161,242,105,12,172,218,72,254,74,38,146,230,38,152,188,212,98,137,78,137,234],.i 1000000000,.i 545259519,.i 0],.l [.l [.i 1,.l [.l [.l [bl [0,0,0,0,0,0,0,0,0,0,0,0,0,0,0,0,0,0,0,0,0,0,0,0,0,0,0,0,0,0,0,0],.i 4294967295],bl [98,121,110,97,109,101],.i 0]],.l [.l [.i 0,.l [.i 106]]],.i 0]]]]
def C7y:List Rs:=[.r 5 (bl [1,0,0,0,0,0,0,0,0,0,0,0,0,0,0,0,0,0,0,0,0,0,0,0,0,0,0,0,0,0,0,0,0,0,0,0,27,228,96,192,24,233,156,161,112,96,39,161,242,105,12,172,218,72,254,74,38,146,230,38,152,188,212,98,137,78,137,234,0,202,154,59,255,255,127,32,0,0,0,0,1,1,0,0,0,1,0,0,0,0,0,0,0,0,0,0,0,0,0,0,0,0,0,0,0,0,0,0,0,0,0,0,0,0,0,0,0,0,255,255,255,255,6,98,121,110,97,109,101,0,0,0,0,1,0,0,0,0,0,0,0,0,1,106,0,0,0,0]:V).els false]
theorem D2G:ob (A9 Tryz.prog T A6m 100000 60 117 (A6 T [48] C7x) (fun _=>none) 0) (fun out=>A7 T false [.r 5] out)=some C7y:=by kernel_rfl
def D8x:List (List V×List Rs):=[(C7t,C7u),(C7v,C7w),(C7x,C7y)]
theorem D8y:B2 Tryz.prog T 117 (A5 T false [48] (B7 D8x)).dir:=B4 (rk:=[.r 5]) (B3 (fu:=100000) (d:=60) follows C5 A8l) (by kernel_rfl) ⟨D2E,D2F,D2G,trivial⟩
def A4n:List (Nat×E7):=(117,(A5 T false [48] (B7 D8x)).dir)::A6m
theorem A8m:D8 Tryz.prog T A4n:=⟨D8y,A8l⟩
def C7z:List V:=[bl [1,0,0,0,181,145,218,91,169,255,171,72,53,108,154,0,38,222,25,76,113,197,114,223,201,231,138,109,71,218,106,36,168,19,193,79,197,242,206,186,112,14,237,35,183,160,216,139,18,14,218,103,73,246,64,217,154,84,75,71,160,156,243,65,167,171,88,229,0,206,154,59,255,255,127,32,2,0,0,0,1,1,0,0,0,1,0,0,0,0,0,0,0,0,0,0,0,0,0,0,0,0,0,0,0,0,0,0,0,0,0,0,0,0,0,0,0,0,255,255,255,255,3,0,2,1,0,0,0,0,1,0,242,5,42,1,0,0,0,1,84,0,0,0,0]]
def C7A:List Rs:=[.d 48 (.l [.l [.i 1,bl [181,145,218,91,169,255,171,72,53,108,154,0,38,222,25,76,113,197,114,223,201,231,138,109,71,218,106,36,168,19,193,79],bl [197,242,206,186,112,14,237,35,183,160,216,139,18,14,218,103,73,246,64,217,154,84,75,71,160,156,243,65,167,171,88,229],.i 1000001024,.i 545259519,.i 2],.l [.l [.i 1,.l [.l [.l [bl [0,0,0,0,0,0,0,0,0,0,0,0,0,0,0,0,0,0,0,0,0,0,0,0,0,0,0,0,0,0,0,0],.i 4294967295],bl [0,2,1],.i 0]],.l [.l [.i 5000000000,.l [.i 84]]],.i 0]]]),.d 24 (.i 0)]
theorem D2H:ob (A9 Tryz.prog T A4n 100000 60 53 (A6 T [29] C7z) (fun _=>none) 0) (fun out=>A7 T true [.d 48,.d 24] out)=some C7A:=by kernel_rfl
def C7B:List V:=[bl [1,0,0,0,5,255,175,132,180,223,70,118,53,239,142,198,68,68,87,192,226,0,188,189,184,250,48,242,15,177,159,234,32,101,91,46,197,145,24,66,65,162,21,197,16,131,212,246,251,127,118,111,176,14,12,26,164,250,213,32,222,249,71,113,220,84,82,218,0,204,154,59,255,255,127,32,0,0,0,0,1,1,0,0,0,1,0,0,0,0,0,0,0,0,0,0,0,0,0,0,0,0,0,0,0,0,0,0,0,0,0,0,0,0,0,0,0,0,255,255,255,255,3,0,1,0,0,0,0,0,1,0,242,5,42,1,0,0,0,1,84,0,0,0,0]]
def C7C:List Rs:=[.d 48 (.l [.l [.i 1,bl [5,255,175,132,180,223,70,118,53,239,142,198,68,68,87,192,226,0,188,189,184,250,48,242,15,177,159,234,32,101,91,46],bl [197,145,24,66,65,162,21,197,16,131,212,246,251,127,118,111,176,14,12,26,164,250,213,32,222,249,71,113,220,84,82,218],.i 1000000512,.i 545259519,.i 0],.l [.l [.i 1,.l [.l [.l [bl [0,0,0,0,0,0,0,0,0,0,0,0,0,0,0,0,0,0,0,0,0,0,0,0,0,0,0,0,0,0,0,0],.i 4294967295],bl [0,1,0],.i 0]],.l [.l [.i 5000000000,.l [.i 84]]],.i 0]]]),.d 24 (.i 0)]
theorem D2I:ob (A9 Tryz.prog T A4n 100000 60 53 (A6 T [29] C7B) (fun _=>none) 0) (fun out=>A7 T true [.d 48,.d 24] out)=some C7C:=by kernel_rfl
def C7D:List V:=[bl [1,0,0,0,0,0,0,0,0,0,0,0,0,0,0,0,0,0,0,0,0,0,0,0,0,0,0,0,0,0,0,0,0,0,0,0,27,228,96,192,24,233,156,161,112,96,39,161,242,105,12,172,218,72,254,74,38,146,230,38,152,188,212,98,137,78,137,234,0,202,154,59,255,255,127,32,0,0,0,0,1,1,0,0,0,1,0,0,0,0,0,0,0,0,0,0,0,0,0,0,0,0,0,0,0,0,0,0,0,0,0,0,0,0,0,0,0,0,255,255,255,255,6,98,121,110,97,109,101,0,0,0,0,1,0,0,0,0,0,0,0,0,1,106,0,0,0,0]]
def C7E:List Rs:=[.d 48 (.l [.l [.i 1,bl [0,0,0,0,0,0,0,0,0,0,0,0,0,0,0,0,0,0,0,0,0,0,0,0,0,0,0,0,0,0,0,0],bl [27,228,96,192,24,233,156,161,112,96,39,161,242,105,12,172,218,72,254,74,38,146,230,38,152,188,212,98,137,78,137,234],.i 1000000000,.i 545259519,.i 0],.l [.l [.i 1,.l [.l [.l [bl [0,0,0,0,0,0,0,0,0,0,0,0,0,0,0,0,0,0,0,0,0,0,0,0,0,0,0,0,0,0,0,0],.i 4294967295],bl [98,121,110,97,109,101],.i 0]],.l [.l [.i 0,.l [.i 106]]],.i 0]]]),.d 24 (.i 0)]
theorem D2J:ob (A9 Tryz.prog T A4n 100000 60 53 (A6 T [29] C7D) (fun _=>none) 0) (fun out=>A7 T true [.d 48,.d 24] out)=some C7E:=by kernel_rfl
def C7F:List V:=[.l []]
def C7G:List Rs:=[.d 48 (.l [.l [.i 0,bl [0,0,0,0,0,0,0,0,0,0,0,0,0,0,0,0,0,0,0,0,0,0,0,0,0,0,0,0,0,0,0,0],bl [0,0,0,0,0,0,0,0,0,0,0,0,0,0,0,0,0,0,0,0,0,0,0,0,0,0,0,0,0,0,0,0],.i 0,.i 0,.i 0],.n]),.d 24 (.i 61)]
theorem D2K:ob (A9 Tryz.prog T A4n 100000 60 53 (A6 T [29] C7F) (fun _=>none) 0) (fun out=>A7 T true [.d 48,.d 24] out)=some C7G:=by kernel_rfl
def D8z:List (List V×List Rs):=[(C7z,C7A),(C7B,C7C),(C7D,C7E),(C7F,C7G)]
theorem D8A:B2 Tryz.prog T 53 (A5 T true [29] (B7 D8z)).dir:=B4 (rk:=[.d 48,.d 24]) (B3 (fu:=100000) (d:=60) follows C5 A8m) (by kernel_rfl) ⟨D2H,D2I,D2J,D2K,trivial⟩
def A9F:List (Nat×E7):=(53,(A5 T true [29] (B7 D8z)).dir)::A4n
theorem A8n:D8 Tryz.prog T A9F:=⟨D8A,A8m⟩
def C7H:List V:=[.l [.l [.i 1,bl [181,145,218,91,169,255,171,72,53,108,154,0,38,222,25,76,113,197,114,223,201,231,138,109,71,218,106,36,168,19,193,79],bl [197,242,206,186,112,14,237,35,183,160,216,139,18,14,218,103,73,246,64,217,154,84,75,71,160,156,243,65,167,171,88,229],.i 1000001024,.i 545259519,.i 2],.l [.l [.i 1,.l [.l [.l [bl [0,0,0,0,0,0,0,0,0,0,0,0,0,0,0,0,0,0,0,0,0,0,0,0,0,0,0,0,0,0,0,0],.i 4294967295],bl [0,2,1],.i 0]],.l [.l [.i 5000000000,.l [.i 84]]],.i 0]]]]
def C7I:List Rs:=[.d 24 (.i 0)]
theorem D2L:ob (A9 Tryz.prog T A9F 100000 60 54 (A6 T [48] C7H) (fun _=>none) 0) (fun out=>A7 T false [.d 24] out)=some C7I:=by kernel_rfl
def C7J:List V:=[.l [.l [.i 1,bl [5,255,175,132,180,223,70,118,53,239,142,198,68,68,87,192,226,0,188,189,184,250,48,242,15,177,159,234,32,101,91,46],bl [197,145,24,66,65,162,21,197,16,131,212,246,251,127,118,111,176,14,12,26,164,250,213,32,222,249,71,113,220,84,82,218],.i 1000000512,.i 545259519,.i 0],.l [.l [.i 1,.l [.l [.l [bl [0,0,0,0,0,0,0,0,0,0,0,0,0,0,0,0,0,0,0,0,0,0,0,0,0,0,0,0,0,0,0,0],.i 4294967295],bl [0,1,0],.i 0]],.l [.l [.i 5000000000,.l [.i 84]]],.i 0]]]]
def C7K:List Rs:=[.d 24 (.i 0)]
theorem D2M:ob (A9 Tryz.prog T A9F 100000 60 54 (A6 T [48] C7J) (fun _=>none) 0) (fun out=>A7 T false [.d 24] out)=some C7K:=by kernel_rfl
def D8B:List (List V×List Rs):=[(C7H,C7I),(C7J,C7K)]
theorem D8C:B2 Tryz.prog T 54 (A5 T false [48] (B7 D8B)).dir:=B4 (rk:=[.d 24]) (B3 (fu:=100000) (d:=60) follows C5 A8n) (by kernel_rfl) ⟨D2L,D2M,trivial⟩
def B2M:List (Nat×E7):=(54,(A5 T false [48] (B7 D8B)).dir)::A9F
theorem A8o:D8 Tryz.prog T B2M:=⟨D8C,A8n⟩
def C7L:List V:=[]
def C7M:List Rs:=[.d 48 (.l [.l [.i 1,bl [0,0,0,0,0,0,0,0,0,0,0,0,0,0,0,0,0,0,0,0,0,0,0,0,0,0,0,0,0,0,0,0],bl [27,228,96,192,24,233,156,161,112,96,39,161,242,105,12,172,218,72,254,74,38,146,230,38,152,188,212,98,137,78,137,234],.i 1000000000,.i 545259519,.i 0],.l [.l [.i 1,.l [.l [.l [bl [0,0,0,0,0,0,0,0,0,0,0,0,0,0,0,0,0,0,0,0,0,0,0,0,0,0,0,0,0,0,0,0],.i 4294967295],bl [98,121,110,97,109,101],.i 0]],.l [.l [.i 0,.l [.i 106]]],.i 0]]])]
theorem D2N:ob (A9 Tryz.prog T B2M 100000 60 207 (A6 T [] C7L) (fun _=>none) 0) (fun out=>A7 T true [.d 48] out)=some C7M:=by kernel_rfl
def D8D:List (List V×List Rs):=[(C7L,C7M)]
theorem D8E:B2 Tryz.prog T 207 (A5 T true [] (B7 D8D)).dir:=B4 (rk:=[.d 48]) (B3 (fu:=100000) (d:=60) follows C5 A8o) (by kernel_rfl) ⟨D2N,trivial⟩
def A4o:List (Nat×E7):=(207,(A5 T true [] (B7 D8D)).dir)::B2M
theorem A8p:D8 Tryz.prog T A4o:=⟨D8E,A8o⟩
def C7N:List V:=[.n]
def C7O:List Rs:=[.r 5 [.i 0] false,.d 24 (.i 0)]
theorem D2O:ob (A9 Tryz.prog T A4o 100000 60 101 (A6 T [231] C7N) (fun _=>none) 0) (fun out=>A7 T false [.r 5,.d 24] out)=some C7O:=by kernel_rfl
def C7P:List V:=[.l [.l [bl [98,0,0,0,1],bl [1,0,0,0,5,255,175,132,180,223,70,118,53,239,142,198,68,68,87,192,226,0,188,189,184,250,48,242,15,177,159,234,32,101,91,46,197,145,24,66,65,162,21,197,16,131,212,246,251,127,118,111,176,14,12,26,164,250,213,32,222,249,71,113,220,84,82,218,0,204,154,59,255,255,127,32,0,0,0,0,1,1,0,0,0,1,0,0,0,0,0,0,0,0,0,0,0,0,0,0,0,0,0,0,0,0,0,0,0,0,0,0,0,0,0,0,0,0,255,255,255,255,3,0,1,0,0,0,0,0,1,0,242,5,42,1,0,0,0,1,84,0,0,0,0],.b false],.l [bl [99,197,145,24,66,65,162,21,197,16,131,212,246,251,127,118,111,176,14,12,26,164,250,213,32,222,249,71,113,220,84,82,218,0,0,0,0],bl [3,0,242,5,42,1,0,0,0,1,84],.b false],.l [.l [.i 116],bl [181,145,218,91,169,255,171,72,53,108,154,0,38,222,25,76,113,197,114,223,201,231,138,109,71,218,106,36,168,19,193,79],.b false],.l [bl [117,181,145,218,91,169,255,171,72,53,108,154,0,38,222,25,76,113,197,114,223,201,231,138,109,71,218,106,36,168,19,193,79],bl [1,0],.b false]]]
def C7Q:List Rs:=[.r 5 (bl [4,5,98,0,0,0,1,1,145,1,0,0,0,5,255,175,132,180,223,70,118,53,239,142,198,68,68,87,192,226,0,188,189,184,250,48,242,15,177,159,234,32,101,91,46,197,145,24,66,65,162,21,197,16,131,212,246,251,127,118,111,176,14,12,26,164,250,213,32,222,249,71,113,220,84,82,218,0,204,154,59,255,255,127,32,0,0,0,0,1,1,0,0,0,1,0,0,0,0,0,0,0,0,0,0,0,0,0,0,0,0,0,0,0,0,0,0,0,0,0,0,0,0,0,0,0,0,255,255,255,255,3,0,1,0,0,0,0,0,1,0,242,5,42,1,0,0,0,1,84,0,0,0,0,37,99,197,145,24,66,65,162,21,197,16,131,212,246,251,127,118,111,176,14,12,26,164,250,213,32,222,249,71,113,220,84,82,218,0,0,0,0,1,11,3,0,242,5,42,1,0,0,0,1,84,1,116,1,32,181,145,218,91,169,255,171,72,53,108,154,0,38,222,25,76,113,197,114,223,201,231,138,109,71,218,106,36,168,19,193,79,33,117,181,145,218,91,169,255,171,72,53,108,154,0,38,222,25,76,113,197,114,223,201,231,138,109,71,218,106,36,168,19,193,79,1,2,1,0]:V).els false,.d 24 (.i 0)]
theorem D2P:ob (A9 Tryz.prog T A4o 100000 60 101 (A6 T [231] C7P) (fun _=>none) 0) (fun out=>A7 T false [.r 5,.d 24] out)=some C7Q:=by kernel_rfl
def C7R:List V:=[.l [.l [bl [98,0,0,0,2],bl [1,0,0,0,181,145,218,91,169,255,171,72,53,108,154,0,38,222,25,76,113,197,114,223,201,231,138,109,71,218,106,36,168,19,193,79,197,242,206,186,112,14,237,35,183,160,216,139,18,14,218,103,73,246,64,217,154,84,75,71,160,156,243,65,167,171,88,229,0,206,154,59,255,255,127,32,2,0,0,0,1,1,0,0,0,1,0,0,0,0,0,0,0,0,0,0,0,0,0,0,0,0,0,0,0,0,0,0,0,0,0,0,0,0,0,0,0,0,255,255,255,255,3,0,2,1,0,0,0,0,1,0,242,5,42,1,0,0,0,1,84,0,0,0,0],.b false],.l [bl [99,197,242,206,186,112,14,237,35,183,160,216,139,18,14,218,103,73,246,64,217,154,84,75,71,160,156,243,65,167,171,88,229,0,0,0,0],bl [5,0,242,5,42,1,0,0,0,1,84],.b false],.l [.l [.i 116],bl [116,44,159,131,171,150,255,29,58,79,102,7,86,220,242,184,107,215,107,117,58,186,117,71,63,25,214,122,242,240,149,40],.b false],.l [bl [117,116,44,159,131,171,150,255,29,58,79,102,7,86,220,242,184,107,215,107,117,58,186,117,71,63,25,214,122,242,240,149,40],bl [1,0],.b false]]]
def C7S:List Rs:=[.r 5 (bl [4,5,98,0,0,0,2,1,145,1,0,0,0,181,145,218,91,169,255,171,72,53,108,154,0,38,222,25,76,113,197,114,223,201,231,138,109,71,218,106,36,168,19,193,79,197,242,206,186,112,14,237,35,183,160,216,139,18,14,218,103,73,246,64,217,154,84,75,71,160,156,243,65,167,171,88,229,0,206,154,59,255,255,127,32,2,0,0,0,1,1,0,0,0,1,0,0,0,0,0,0,0,0,0,0,0,0,0,0,0,0,0,0,0,0,0,0,0,0,0,0,0,0,0,0,0,0,255,255,255,255,3,0,2,1,0,0,0,0,1,0,242,5,42,1,0,0,0,1,84,0,0,0,0,37,99,197,242,206,186,112,14,237,35,183,160,216,139,18,14,218,103,73,246,64,217,154,84,75,71,160,156,243,65,167,171,88,229,0,0,0,0,1,11,5,0,242,5,42,1,0,0,0,1,84,1,116,1,32,116,44,159,131,171,150,255,29,58,79,102,7,86,220,242,184,107,215,107,117,58,186,117,71,63,25,214,122,242,240,149,40,33,117,116,44,159,131,171,150,255,29,58,79,102,7,86,220,242,184,107,215,107,117,58,186,117,71,63,25,214,122,242,240,149,40,1,2,1,0]:V).els false,.d 24 (.i 0)]
theorem D2Q:ob (A9 Tryz.prog T A4o 100000 60 101 (A6 T [231] C7R) (fun _=>none) 0) (fun out=>A7 T false [.r 5,.d 24] out)=some C7S:=by kernel_rfl
def C7T:List V:=[.l [.l [bl [98,0,0,0,1],bl [1,0,0,0,5,255,175,132,180,223,70,118,53,239,142,198,68,68,87,192,226,0,188,189,184,250,48,242,15,177,159,234,32,101,91,46,197,145,24,66,65,162,21,197,16,131,212,246,251,127,118,111,176,14,12,26,164,250,213,32,222,249,71,113,220,84,82,218,0,204,154,59,255,255,127,32,0,0,0,0,1,1,0,0,0,1,0,0,0,0,0,0,0,0,0,0,0,0,0,0,0,0,0,0,0,0,0,0,0,0,0,0,0,0,0,0,0,0,255,255,255,255,3,0,1,0,0,0,0,0,1,0,242,5,42,1,0,0,0,1,84,0,0,0,0],.b false],.l [bl [98,0,0,0,2],bl [1,0,0,0,181,145,218,91,169,255,171,72,53,108,154,0,38,222,25,76,113,197,114,223,201,231,138,109,71,218,106,36,168,19,193,79,197,242,206,186,112,14,237,35,183,160,216,139,18,14,218,103,73,246,64,217,154,84,75,71,160,156,243,65,167,171,88,229,0,206,154,59,255,255,127,32,2,0,0,0,1,1,0,0,0,1,0,0,0,0,0,0,0,0,0,0,0,0,0,0,0,0,0,0,0,0,0,0,0,0,0,0,0,0,0,0,0,0,255,255,255,255,3,0,2,1,0,0,0,0,1,0,242,5,42,1,0,0,0,1,84,0,0,0,0],.b false],.l [bl [99,197,145,24,66,65,162,21,197,16,131,212,246,251,127,118,111,176,14,12,26,164,250,213,32,222,249,71,113,220,84,82,218,0,0,0,0],bl [3,0,242,5,42,1,0,0,0,1,84],.b false],.l [bl [99,197,242,206,186,112,14,237,35,183,160,216,139,18,14,218,103,73,246,64,217,154,84,75,71,160,156,243,65,167,171,88,229,0,0,0,0],bl [5,0,242,5,42,1,0,0,0,1,84],.b false],.l [.l [.i 116],bl [116,44,159,131,171,150,255,29,58,79,102,7,86,220,242,184,107,215,107,117,58,186,117,71,63,25,214,122,242,240,149,40],.b false],.l [bl [117,116,44,159,131,171,150,255,29,58,79,102,7,86,220,242,184,107,215,107,117,58,186,117,71,63,25,214,122,242,240,149,40],bl [1,0],.b false],.l [bl [117,181,145,218,91,169,255,171,72,53,108,154,0,38,222,25,76,113,197,114,223,201,231,138,109,71,218,106,36,168,19,193,79],bl [1,0],.b false]]]
def C7U:List Rs:=[.r 5 (bl [7,5,98,0,0,0,1,1,145,1,0,0,0,5,255,175,132,180,223,70,118,53,239,142,198,68,68,87,192,226,0,188,189,184,250,48,242,15,177,159,234,32,101,91,46,197,145,24,66,65,162,21,197,16,131,212,246,251,127,118,111,176,14,12,26,164,250,213,32,222,249,71,113,220,84,82,218,0,204,154,59,255,255,127,32,0,0,0,0,1,1,0,0,0,1,0,0,0,0,0,0,0,0,0,0,0,0,0,0,0,0,0,0,0,0,0,0,0,0,0,0,0,0,0,0,0,0,255,255,255,255,3,0,1,0,0,0,0,0,1,0,242,5,42,1,0,0,0,1,84,0,0,0,0,5,98,0,0,0,2,1,145,1,0,0,0,181,145,218,91,169,255,171,72,53,108,154,0,38,222,25,76,113,197,114,223,201,231,138,109,71,218,106,36,168,19,193,79,197,242,206,186,112,14,237,35,183,160,216,139,18,14,218,103,73,246,64,217,154,84,75,71,160,156,243,65,167,171,88,229,0,206,154,59,255,255,127,32,2,0,0,0,1,1,0,0,0,1,0,0,0,0,0,0,0,0,0,0,0,0,0,0,0,0,0,0,0,0,0,0,0,0,0,0,0,0,0,0,0,0,255,255,255,255,3,0,2,1,0,0,0,0,1,0,242,5,42,1,0,0,0,1,84,0,0,0,0,37,99,197,145,24,66,65,162,21,197,16,131,212,246,251,127,118,111,176,14,12,26,164,250,213,32,222,249,71,113,220,84,82,218,0,0,0,0,1,11,3,0,242,5,42,1,0,0,0,1,84,37,99,197,242,206,186,112,14,237,35,183,160,216,139,18,14,218,103,73,246,64,217,154,84,75,71,160,156,243,65,167,171,88,229,0,0,0,0,1,11,5,0,242,5,42,1,0,0,0,1,84,1,116,1,32,116,44,159,131,171,150,255,29,58,79,102,7,86,220,242,184,107,215,107,117,58,186,117,71,63,25,214,122,242,240,149,40,33,117,116,44,159,131,171,150,255,29,58,79,102,7,86,220,242,184,107,215,107,117,58,186,117,71,63,25,214,122,242,240,149,40,1,2,1,0,33,117,181,145,218,91,169,255,171,72,53,108,154,0,38,222,25,76,113,197,114,223,201,231,138,109,71,218,106,36,168,19,193,79,1,2,1,0]:V).els false,.d 24 (.i 0)]
theorem D2R:ob (A9 Tryz.prog T A4o 100000 60 101 (A6 T [231] C7T) (fun _=>none) 0) (fun out=>A7 T false [.r 5,.d 24] out)=some C7U:=by kernel_rfl
def D8F:List (List V×List Rs):=[(C7N,C7O),(C7P,C7Q),(C7R,C7S),(C7T,C7U)]
theorem D8G:B2 Tryz.prog T 101 (A5 T false [231] (B7 D8F)).dir:=B4 (rk:=[.r 5,.d 24]) (B3 (fu:=100000) (d:=60) follows C5 A8p) (by kernel_rfl) ⟨D2O,D2P,D2Q,D2R,trivial⟩
def B2N:List (Nat×E7):=(101,(A5 T false [231] (B7 D8F)).dir)::A4o
theorem A8q:D8 Tryz.prog T B2N:=⟨D8G,A8p⟩
def C7V:List V:=[.l [.i 0]]
def C7W:List Rs:=[.r 249 [] true,.d 24 (.i 0)]
theorem D2S:ob (A9 Tryz.prog T B2N 100000 60 298 (A6 T [29] C7V) (fun _=>none) 0) (fun out=>A7 T true [.r 249,.d 24] out)=some C7W:=by kernel_rfl
def D8H:List (List V×List Rs):=[(C7V,C7W)]
theorem D8I:B2 Tryz.prog T 298 (A5 T true [29] (B7 D8H)).dir:=B4 (rk:=[.r 249,.d 24]) (B3 (fu:=100000) (d:=60) follows C5 A8q) (by kernel_rfl) ⟨D2S,trivial⟩
def A4p:List (Nat×E7):=(298,(A5 T true [29] (B7 D8H)).dir)::B2N
theorem A8r:D8 Tryz.prog T A4p:=⟨D8I,A8q⟩
def C7X:List V:=[.n,.n]
def C7Y:List Rs:=[.r 249 [] false]
theorem D2T:ob (A9 Tryz.prog T A4p 100000 60 244 (A6 T [231,231] C7X) (fun _=>none) 0) (fun out=>A7 T true [.r 249] out)=some C7Y:=by kernel_rfl
def C7Z:List V:=[.n,.l [.l [bl [98,0,0,0,1],bl [1,0,0,0,5,255,175,132,180,223,70,118,53,239,142,198,68,68,87,192,226,0,188,189,184,250,48,242,15,177,159,234,32,101,91,46,197,145,24,66,65,162,21,197,16,131,212,246,251,127,118,111,176,14,12,26,164,250,213,32,222,249,71,113,220,84,82,218,0,204,154,59,255,255,127,32,0,0,0,0,1,1,0,0,0,1,0,0,0,0,0,0,0,0,0,0,0,0,0,0,0,0,0,0,0,0,0,0,0,0,0,0,0,0,0,0,0,0,255,255,255,255,3,0,1,0,0,0,0,0,1,0,242,5,42,1,0,0,0,1,84,0,0,0,0],.b false],.l [bl [99,197,145,24,66,65,162,21,197,16,131,212,246,251,127,118,111,176,14,12,26,164,250,213,32,222,249,71,113,220,84,82,218,0,0,0,0],bl [3,0,242,5,42,1,0,0,0,1,84],.b false],.l [.l [.i 116],bl [181,145,218,91,169,255,171,72,53,108,154,0,38,222,25,76,113,197,114,223,201,231,138,109,71,218,106,36,168,19,193,79],.b false],.l [bl [117,181,145,218,91,169,255,171,72,53,108,154,0,38,222,25,76,113,197,114,223,201,231,138,109,71,218,106,36,168,19,193,79],bl [1,0],.b false]]]
def C70:List Rs:=[.r 249 (.l [.l [bl [98,0,0,0,1],bl [1,0,0,0,5,255,175,132,180,223,70,118,53,239,142,198,68,68,87,192,226,0,188,189,184,250,48,242,15,177,159,234,32,101,91,46,197,145,24,66,65,162,21,197,16,131,212,246,251,127,118,111,176,14,12,26,164,250,213,32,222,249,71,113,220,84,82,218,0,204,154,59,255,255,127,32,0,0,0,0,1,1,0,0,0,1,0,0,0,0,0,0,0,0,0,0,0,0,0,0,0,0,0,0,0,0,0,0,0,0,0,0,0,0,0,0,0,0,255,255,255,255,3,0,1,0,0,0,0,0,1,0,242,5,42,1,0,0,0,1,84,0,0,0,0],.b false],.l [bl [99,197,145,24,66,65,162,21,197,16,131,212,246,251,127,118,111,176,14,12,26,164,250,213,32,222,249,71,113,220,84,82,218,0,0,0,0],bl [3,0,242,5,42,1,0,0,0,1,84],.b false],.l [.l [.i 116],bl [181,145,218,91,169,255,171,72,53,108,154,0,38,222,25,76,113,197,114,223,201,231,138,109,71,218,106,36,168,19,193,79],.b false],.l [bl [117,181,145,218,91,169,255,171,72,53,108,154,0,38,222,25,76,113,197,114,223,201,231,138,109,71,218,106,36,168,19,193,79],bl [1,0],.b false]]:V).els false]
theorem D2U:ob (A9 Tryz.prog T A4p 100000 60 244 (A6 T [231,231] C7Z) (fun _=>none) 0) (fun out=>A7 T true [.r 249] out)=some C70:=by kernel_rfl
def C71:List V:=[.l [.l [bl [98,0,0,0,1],bl [1,0,0,0,5,255,175,132,180,223,70,118,53,239,142,198,68,68,87,192,226,0,188,189,184,250,48,242,15,177,159,234,32,101,91,46,197,145,24,66,65,162,21,197,16,131,212,246,251,127,118,111,176,14,12,26,164,250,213,32,222,249,71,113,220,84,82,218,0,204,154,59,255,255,127,32,0,0,0,0,1,1,0,0,0,1,0,0,0,0,0,0,0,0,0,0,0,0,0,0,0,0,0,0,0,0,0,0,0,0,0,0,0,0,0,0,0,0,255,255,255,255,3,0,1,0,0,0,0,0,1,0,242,5,42,1,0,0,0,1,84,0,0,0,0],.b false],.l [bl [99,197,145,24,66,65,162,21,197,16,131,212,246,251,127,118,111,176,14,12,26,164,250,213,32,222,249,71,113,220,84,82,218,0,0,0,0],bl [3,0,242,5,42,1,0,0,0,1,84],.b false],.l [.l [.i 116],bl [181,145,218,91,169,255,171,72,53,108,154,0,38,222,25,76,113,197,114,223,201,231,138,109,71,218,106,36,168,19,193,79],.b false],.l [bl [117,181,145,218,91,169,255,171,72,53,108,154,0,38,222,25,76,113,197,114,223,201,231,138,109,71,218,106,36,168,19,193,79],bl [1,0],.b false]],.n]
def C72:List Rs:=[.r 249 (.l [.l [bl [98,0,0,0,1],bl [1,0,0,0,5,255,175,132,180,223,70,118,53,239,142,198,68,68,87,192,226,0,188,189,184,250,48,242,15,177,159,234,32,101,91,46,197,145,24,66,65,162,21,197,16,131,212,246,251,127,118,111,176,14,12,26,164,250,213,32,222,249,71,113,220,84,82,218,0,204,154,59,255,255,127,32,0,0,0,0,1,1,0,0,0,1,0,0,0,0,0,0,0,0,0,0,0,0,0,0,0,0,0,0,0,0,0,0,0,0,0,0,0,0,0,0,0,0,255,255,255,255,3,0,1,0,0,0,0,0,1,0,242,5,42,1,0,0,0,1,84,0,0,0,0],.b false],.l [bl [99,197,145,24,66,65,162,21,197,16,131,212,246,251,127,118,111,176,14,12,26,164,250,213,32,222,249,71,113,220,84,82,218,0,0,0,0],bl [3,0,242,5,42,1,0,0,0,1,84],.b false],.l [.l [.i 116],bl [181,145,218,91,169,255,171,72,53,108,154,0,38,222,25,76,113,197,114,223,201,231,138,109,71,218,106,36,168,19,193,79],.b false],.l [bl [117,181,145,218,91,169,255,171,72,53,108,154,0,38,222,25,76,113,197,114,223,201,231,138,109,71,218,106,36,168,19,193,79],bl [1,0],.b false]]:V).els false]
theorem D2V:ob (A9 Tryz.prog T A4p 100000 60 244 (A6 T [231,231] C71) (fun _=>none) 0) (fun out=>A7 T true [.r 249] out)=some C72:=by kernel_rfl
def C73:List V:=[.l [.l [bl [98,0,0,0,1],bl [1,0,0,0,5,255,175,132,180,223,70,118,53,239,142,198,68,68,87,192,226,0,188,189,184,250,48,242,15,177,159,234,32,101,91,46,197,145,24,66,65,162,21,197,16,131,212,246,251,127,118,111,176,14,12,26,164,250,213,32,222,249,71,113,220,84,82,218,0,204,154,59,255,255,127,32,0,0,0,0,1,1,0,0,0,1,0,0,0,0,0,0,0,0,0,0,0,0,0,0,0,0,0,0,0,0,0,0,0,0,0,0,0,0,0,0,0,0,255,255,255,255,3,0,1,0,0,0,0,0,1,0,242,5,42,1,0,0,0,1,84,0,0,0,0],.b false],.l [bl [99,197,145,24,66,65,162,21,197,16,131,212,246,251,127,118,111,176,14,12,26,164,250,213,32,222,249,71,113,220,84,82,218,0,0,0,0],bl [3,0,242,5,42,1,0,0,0,1,84],.b false],.l [.l [.i 116],bl [181,145,218,91,169,255,171,72,53,108,154,0,38,222,25,76,113,197,114,223,201,231,138,109,71,218,106,36,168,19,193,79],.b false],.l [bl [117,181,145,218,91,169,255,171,72,53,108,154,0,38,222,25,76,113,197,114,223,201,231,138,109,71,218,106,36,168,19,193,79],bl [1,0],.b false]],.l [.l [bl [98,0,0,0,2],bl [1,0,0,0,181,145,218,91,169,255,171,72,53,108,154,0,38,222,25,76,113,197,114,223,201,231,138,109,71,218,106,36,168,19,193,79,197,242,206,186,112,14,237,35,183,160,216,139,18,14,218,103,73,246,64,217,154,84,75,71,160,156,243,65,167,171,88,229,0,206,154,59,255,255,127,32,2,0,0,0,1,1,0,0,0,1,0,0,0,0,0,0,0,0,0,0,0,0,0,0,0,0,0,0,0,0,0,0,0,0,0,0,0,0,0,0,0,0,255,255,255,255,3,0,2,1,0,0,0,0,1,0,242,5,42,1,0,0,0,1,84,0,0,0,0],.b false],.l [bl [99,197,242,206,186,112,14,237,35,183,160,216,139,18,14,218,103,73,246,64,217,154,84,75,71,160,156,243,65,167,171,88,229,0,0,0,0],bl [5,0,242,5,42,1,0,0,0,1,84],.b false],.l [.l [.i 116],bl [116,44,159,131,171,150,255,29,58,79,102,7,86,220,242,184,107,215,107,117,58,186,117,71,63,25,214,122,242,240,149,40],.b false],.l [bl [117,116,44,159,131,171,150,255,29,58,79,102,7,86,220,242,184,107,215,107,117,58,186,117,71,63,25,214,122,242,240,149,40],bl [1,0],.b false]]]
def C74:List Rs:=[.r 249 (.l [.l [bl [98,0,0,0,1],bl [1,0,0,0,5,255,175,132,180,223,70,118,53,239,142,198,68,68,87,192,226,0,188,189,184,250,48,242,15,177,159,234,32,101,91,46,197,145,24,66,65,162,21,197,16,131,212,246,251,127,118,111,176,14,12,26,164,250,213,32,222,249,71,113,220,84,82,218,0,204,154,59,255,255,127,32,0,0,0,0,1,1,0,0,0,1,0,0,0,0,0,0,0,0,0,0,0,0,0,0,0,0,0,0,0,0,0,0,0,0,0,0,0,0,0,0,0,0,255,255,255,255,3,0,1,0,0,0,0,0,1,0,242,5,42,1,0,0,0,1,84,0,0,0,0],.b false],.l [bl [98,0,0,0,2],bl [1,0,0,0,181,145,218,91,169,255,171,72,53,108,154,0,38,222,25,76,113,197,114,223,201,231,138,109,71,218,106,36,168,19,193,79,197,242,206,186,112,14,237,35,183,160,216,139,18,14,218,103,73,246,64,217,154,84,75,71,160,156,243,65,167,171,88,229,0,206,154,59,255,255,127,32,2,0,0,0,1,1,0,0,0,1,0,0,0,0,0,0,0,0,0,0,0,0,0,0,0,0,0,0,0,0,0,0,0,0,0,0,0,0,0,0,0,0,255,255,255,255,3,0,2,1,0,0,0,0,1,0,242,5,42,1,0,0,0,1,84,0,0,0,0],.b false],.l [bl [99,197,145,24,66,65,162,21,197,16,131,212,246,251,127,118,111,176,14,12,26,164,250,213,32,222,249,71,113,220,84,82,218,0,0,0,0],bl [3,0,242,5,42,1,0,0,0,1,84],.b false],.l [bl [99,197,242,206,186,112,14,237,35,183,160,216,139,18,14,218,103,73,246,64,217,154,84,75,71,160,156,243,65,167,171,88,229,0,0,0,0],bl [5,0,242,5,42,1,0,0,0,1,84],.b false],.l [.l [.i 116],bl [116,44,159,131,171,150,255,29,58,79,102,7,86,220,242,184,107,215,107,117,58,186,117,71,63,25,214,122,242,240,149,40],.b false],.l [bl [117,116,44,159,131,171,150,255,29,58,79,102,7,86,220,242,184,107,215,107,117,58,186,117,71,63,25,214,122,242,240,149,40],bl [1,0],.b false],.l [bl [117,181,145,218,91,169,255,171,72,53,108,154,0,38,222,25,76,113,197,114,223,201,231,138,109,71,218,106,36,168,19,193,79],bl [1,0],.b false]]:V).els false]
theorem D2W:ob (A9 Tryz.prog T A4p 100000 60 244 (A6 T [231,231] C73) (fun _=>none) 0) (fun out=>A7 T true [.r 249] out)=some C74:=by kernel_rfl
def D8J:List (List V×List Rs):=[(C7X,C7Y),(C7Z,C70),(C71,C72),(C73,C74)]
theorem D8K:B2 Tryz.prog T 244 (A5 T true [231,231] (B7 D8J)).dir:=B4 (rk:=[.r 249]) (B3 (fu:=100000) (d:=60) follows C5 A8r) (by kernel_rfl) ⟨D2T,D2U,D2V,D2W,trivial⟩
def B2O:List (Nat×E7):=(244,(A5 T true [231,231] (B7 D8J)).dir)::A4p
theorem A8s:D8 Tryz.prog T B2O:=⟨D8K,A8r⟩
def C75:List V:=[.l [.i 0],.l []]
def C76:List Rs:=[.r 249 [] true,.d 24 (.i 0)]
theorem D2X:ob (A9 Tryz.prog T B2O 100000 60 196 (A6 T [29,334] C75) (fun _=>none) 0) (fun out=>A7 T true [.r 249,.d 24] out)=some C76:=by kernel_rfl
def D8L:List (List V×List Rs):=[(C75,C76)]
theorem D8M:B2 Tryz.prog T 196 (A5 T true [29,334] (B7 D8L)).dir:=B4 (rk:=[.r 249,.d 24]) (B3 (fu:=100000) (d:=60) follows C5 A8s) (by kernel_rfl) ⟨D2X,trivial⟩
def A6n:List (Nat×E7):=(196,(A5 T true [29,334] (B7 D8L)).dir)::B2O
theorem A8t:D8 Tryz.prog T A6n:=⟨D8M,A8s⟩
def C77:List V:=[.i 0]
def C78:List Rs:=[.d 29 (bl [66,89,78,65,77,69,48,49,0,0,0,0,0,0,0,0,71,66,67,0,176,13,250,203,11,148,245,98,82,20,154,254,250,249,227,81,47,171,162,140,8,214,161,174,225,191,151,8]),.d 43 (bl [71,66,67,0,176,13,250,203,11,148,245,98,82,20,154,254,250,249,227,81,47,171,162,140,8,214,161,174,225,191,151,8])]
theorem D2Y:ob (A9 Tryz.prog T A6n 100000 60 201 (A6 T [125] C77) (fun _=>none) 0) (fun out=>A7 T true [.d 29,.d 43] out)=some C78:=by kernel_rfl
def C79:List V:=[.i 1]
def C8a:List Rs:=[.d 29 (bl [66,89,78,65,77,69,48,49,1,0,0,0,0,0,0,0,179,131,144,54,252,253,66,41,208,173,43,136,173,134,160,110,75,169,135,124,160,72,58,186,177,179,10,195,54,68,158,250]),.d 43 (bl [179,131,144,54,252,253,66,41,208,173,43,136,173,134,160,110,75,169,135,124,160,72,58,186,177,179,10,195,54,68,158,250])]
theorem D2Z:ob (A9 Tryz.prog T A6n 100000 60 201 (A6 T [125] C79) (fun _=>none) 0) (fun out=>A7 T true [.d 29,.d 43] out)=some C8a:=by kernel_rfl
def C8b:List V:=[.i 2]
def C8c:List Rs:=[.d 29 (bl [66,89,78,65,77,69,48,49,2,0,0,0,0,0,0,0,146,231,198,188,58,223,5,192,58,204,191,232,179,118,187,151,164,222,50,239,132,10,233,149,142,41,248,94,150,105,221,182]),.d 43 (bl [146,231,198,188,58,223,5,192,58,204,191,232,179,118,187,151,164,222,50,239,132,10,233,149,142,41,248,94,150,105,221,182])]
theorem D20:ob (A9 Tryz.prog T A6n 100000 60 201 (A6 T [125] C8b) (fun _=>none) 0) (fun out=>A7 T true [.d 29,.d 43] out)=some C8c:=by kernel_rfl
def D8N:List (List V×List Rs):=[(C77,C78),(C79,C8a),(C8b,C8c)]
theorem D8O:B2 Tryz.prog T 201 (A5 T true [125] (B7 D8N)).dir:=B4 (rk:=[.d 29,.d 43]) (B3 (fu:=100000) (d:=60) follows C5 A8t) (by kernel_rfl) ⟨D2Y,D2Z,D20,trivial⟩
def A6o:List (Nat×E7):=(201,(A5 T true [125] (B7 D8N)).dir)::A6n
theorem A8u:D8 Tryz.prog T A6o:=⟨D8O,A8t⟩
def C8d:List V:=[bl [0,0,0,0,0,0,0,0,0,0,0,0,0,0,0,0,0,0,0,0,0,0,0,0,0,0,0,0,0,0,0,0,0,0,0,0,0,0,0,0,0,0,0,0,0,0,0,0,0,0,0,0,0,0,0,0,0,0,0,0,0,0,0,0,0,0,0,0,0,0,0,0,0,0,0,0,0,0,0,0,0,0,0,0,0,0,0,0,0,0,0,0,0,0,0,0,0,0,0,0,0,0,0,0,0,0,0,0,0,0,0,0,0,0,0,0,0,0,0,0,0,0,0,0,0,0,0,0]]
def C8e:List Rs:=[.d 125 (.i 0)]
theorem D21:ob (A9 Tryz.prog T A6o 100000 60 305 (A6 T [171] C8d) (fun _=>none) 0) (fun out=>A7 T false [.d 125] out)=some C8e:=by kernel_rfl
def C8f:List V:=[bl [66,89,78,65,77,69,48,49,1,0,0,0,0,0,0,0,179,131,144,54,252,253,66,41,208,173,43,136,173,134,160,110,75,169,135,124,160,72,58,186,177,179,10,195,54,68,158,250,0,0,0,0,0,0,0,0,0,0,0,0,0,0,0,0,0,0,0,0,0,0,0,0,0,0,0,0,0,0,0,0,0,0,0,0,0,0,0,0,0,0,0,0,0,0,0,0,0,0,0,0,0,0,0,0,0,0,0,0,0,0,0,0,0,0,0,0,0,0,0,0,1,0,0,0,0,0,0,0]]
def C8g:List Rs:=[.d 125 (.i 1)]
theorem D22:ob (A9 Tryz.prog T A6o 100000 60 305 (A6 T [171] C8f) (fun _=>none) 0) (fun out=>A7 T false [.d 125] out)=some C8g:=by kernel_rfl
def C8h:List V:=[bl [1,0,0,0,1,0,19,50,224,205,10,199,4,162,2,23,157,220,228,35,189,112,155,109,234,237,62,254,160,34,187,214,247,142,233,178,85,121,0,0,0,0,0,0,0,0,0,0,0,0,0,0,0,0,0,0,0,0,0,0,0,0,0,0,0,0,0,0,0,0,0,0,0,0,0,0,0,0,0,0,0,0,0,0,0,0,0,0,0,0,0,0,0,0,0,0,0,0,0,0,0,0,0,0,0,0,0,0,0,0,0,0,0,0,0,0,0,0,0,0,1,0,0,0,0,0,0,0]]
def C8i:List Rs:=[.d 125 (.i 1)]
theorem D23:ob (A9 Tryz.prog T A6o 100000 60 305 (A6 T [171] C8h) (fun _=>none) 0) (fun out=>A7 T false [.d 125] out)=some C8i:=by kernel_rfl
def D8P:List (List V×List Rs):=[(C8d,C8e),(C8f,C8g),(C8h,C8i)]
theorem D8Q:B2 Tryz.prog T 305 (A5 T false [171] (B7 D8P)).dir:=B4 (rk:=[.d 125]) (B3 (fu:=100000) (d:=60) follows C5 A8u) (by kernel_rfl) ⟨D21,D22,D23,trivial⟩
def B2P:List (Nat×E7):=(305,(A5 T false [171] (B7 D8P)).dir)::A6o
theorem A8v:D8 Tryz.prog T B2P:=⟨D8Q,A8u⟩
def C8j:List V:=[bl [1,0,0,0,1,0,19,50,224,205,10,199,4,162,2,23,157,220,228,35,189,112,155,109,234,237,62,254,160,34,187,214,247,142,233,178,85,121,0,0,0,0,0,0,0,0,0,0,0,0,0,0,0,0,0,0,0,0,0,0,0,0,0,0,0,0,0,0,0,0,0,0,0,0,0,0,0,0,0,0,0,0,0,0,0,0,0,0,0,0,0,0,0,0,0,0,0,0,0,0,0,0,0,0,0,0,0,0,0,0,0,0,0,0,0,0,0,0,0,0],.i 1,bl [179,131,144,54,252,253,66,41,208,173,43,136,173,134,160,110,75,169,135,124,160,72,58,186,177,179,10,195,54,68,158,250]]
def C8k:List Rs:=[.r 5 [.i 0] false,.d 43 (bl [19,50,224,205,10,199,4,162,2,23,157,220,228,35,189,112,155,109,234,237,62,254,160,34,187,214,247,142,233,178,85,121]),.d 4 (.b true)]
theorem D24:ob (A9 Tryz.prog T B2P 100000 60 364 (A6 T [29,5,43] C8j) (fun _=>none) 0) (fun out=>A7 T false [.r 5,.d 43,.d 4] out)=some C8k:=by kernel_rfl
def D8R:List (List V×List Rs):=[(C8j,C8k)]
theorem D8S:B2 Tryz.prog T 364 (A5 T false [29,5,43] (B7 D8R)).dir:=B4 (rk:=[.r 5,.d 43,.d 4]) (B3 (fu:=100000) (d:=60) follows C5 A8v) (by kernel_rfl) ⟨D24,trivial⟩
def A4q:List (Nat×E7):=(364,(A5 T false [29,5,43] (B7 D8R)).dir)::B2P
theorem A8w:D8 Tryz.prog T A4q:=⟨D8S,A8v⟩
def C8l:List V:=[.i 1,.l [.i 0],bl [179,131,144,54,252,253,66,41,208,173,43,136,173,134,160,110,75,169,135,124,160,72,58,186,177,179,10,195,54,68,158,250]]
def C8m:List Rs:=[.d 29 (bl [1,0,0,0,1,0,19,50,224,205,10,199,4,162,2,23,157,220,228,35,189,112,155,109,234,237,62,254,160,34,187,214,247,142,233,178,85,121]),.d 43 (bl [19,50,224,205,10,199,4,162,2,23,157,220,228,35,189,112,155,109,234,237,62,254,160,34,187,214,247,142,233,178,85,121])]
theorem D25:ob (A9 Tryz.prog T A4q 100000 60 202 (A6 T [5,29,43] C8l) (fun _=>none) 0) (fun out=>A7 T true [.d 29,.d 43] out)=some C8m:=by kernel_rfl
def C8n:List V:=[.i 2,bl [4,5,98,0,0,0,1,1,145,1,0,0,0,5,255,175,132,180,223,70,118,53,239,142,198,68,68,87,192,226,0,188,189,184,250,48,242,15,177,159,234,32,101,91,46,197,145,24,66,65,162,21,197,16,131,212,246,251,127,118,111,176,14,12,26,164,250,213,32,222,249,71,113,220,84,82,218,0,204,154,59,255,255,127,32,0,0,0,0,1,1,0,0,0,1,0,0,0,0,0,0,0,0,0,0,0,0,0,0,0,0,0,0,0,0,0,0,0,0,0,0,0,0,0,0,0,0,255,255,255,255,3,0,1,0,0,0,0,0,1,0,242,5,42,1,0,0,0,1,84,0,0,0,0,37,99,197,145,24,66,65,162,21,197,16,131,212,246,251,127,118,111,176,14,12,26,164,250,213,32,222,249,71,113,220,84,82,218,0,0,0,0,1,11,3,0,242,5,42,1,0,0,0,1,84,1,116,1,32,181,145,218,91,169,255,171,72,53,108,154,0,38,222,25,76,113,197,114,223,201,231,138,109,71,218,106,36,168,19,193,79,33,117,181,145,218,91,169,255,171,72,53,108,154,0,38,222,25,76,113,197,114,223,201,231,138,109,71,218,106,36,168,19,193,79,1,2,1,0],bl [19,50,224,205,10,199,4,162,2,23,157,220,228,35,189,112,155,109,234,237,62,254,160,34,187,214,247,142,233,178,85,121]]
def C8o:List Rs:=[.d 29 (bl [23,1,0,0,2,4,5,98,0,0,0,1,1,145,1,0,0,0,5,255,175,132,180,223,70,118,53,239,142,198,68,68,87,192,226,0,188,189,184,250,48,242,15,177,159,234,32,101,91,46,197,145,24,66,65,162,21,197,16,131,212,246,251,127,118,111,176,14,12,26,164,250,213,32,222,249,71,113,220,84,82,218,0,204,154,59,255,255,127,32,0,0,0,0,1,1,0,0,0,1,0,0,0,0,0,0,0,0,0,0,0,0,0,0,0,0,0,0,0,0,0,0,0,0,0,0,0,0,0,0,0,0,255,255,255,255,3,0,1,0,0,0,0,0,1,0,242,5,42,1,0,0,0,1,84,0,0,0,0,37,99,197,145,24,66,65,162,21,197,16,131,212,246,251,127,118,111,176,14,12,26,164,250,213,32,222,249,71,113,220,84,82,218,0,0,0,0,1,11,3,0,242,5,42,1,0,0,0,1,84,1,116,1,32,181,145,218,91,169,255,171,72,53,108,154,0,38,222,25,76,113,197,114,223,201,231,138,109,71,218,106,36,168,19,193,79,33,117,181,145,218,91,169,255,171,72,53,108,154,0,38,222,25,76,113,197,114,223,201,231,138,109,71,218,106,36,168,19,193,79,1,2,1,0,30,210,116,140,133,199,116,93,7,160,94,167,40,195,41,142,154,146,70,243,228,199,40,162,18,41,189,222,136,18,182,228]),.d 43 (bl [30,210,116,140,133,199,116,93,7,160,94,167,40,195,41,142,154,146,70,243,228,199,40,162,18,41,189,222,136,18,182,228])]
theorem D26:ob (A9 Tryz.prog T A4q 100000 60 202 (A6 T [5,29,43] C8n) (fun _=>none) 0) (fun out=>A7 T true [.d 29,.d 43] out)=some C8o:=by kernel_rfl
def C8p:List V:=[.i 2,bl [4,5,98,0,0,0,2,1,145,1,0,0,0,181,145,218,91,169,255,171,72,53,108,154,0,38,222,25,76,113,197,114,223,201,231,138,109,71,218,106,36,168,19,193,79,197,242,206,186,112,14,237,35,183,160,216,139,18,14,218,103,73,246,64,217,154,84,75,71,160,156,243,65,167,171,88,229,0,206,154,59,255,255,127,32,2,0,0,0,1,1,0,0,0,1,0,0,0,0,0,0,0,0,0,0,0,0,0,0,0,0,0,0,0,0,0,0,0,0,0,0,0,0,0,0,0,0,255,255,255,255,3,0,2,1,0,0,0,0,1,0,242,5,42,1,0,0,0,1,84,0,0,0,0,37,99,197,242,206,186,112,14,237,35,183,160,216,139,18,14,218,103,73,246,64,217,154,84,75,71,160,156,243,65,167,171,88,229,0,0,0,0,1,11,5,0,242,5,42,1,0,0,0,1,84,1,116,1,32,116,44,159,131,171,150,255,29,58,79,102,7,86,220,242,184,107,215,107,117,58,186,117,71,63,25,214,122,242,240,149,40,33,117,116,44,159,131,171,150,255,29,58,79,102,7,86,220,242,184,107,215,107,117,58,186,117,71,63,25,214,122,242,240,149,40,1,2,1,0],bl [30,210,116,140,133,199,116,93,7,160,94,167,40,195,41,142,154,146,70,243,228,199,40,162,18,41,189,222,136,18,182,228]]
def C8q:List Rs:=[.d 29 (bl [23,1,0,0,2,4,5,98,0,0,0,2,1,145,1,0,0,0,181,145,218,91,169,255,171,72,53,108,154,0,38,222,25,76,113,197,114,223,201,231,138,109,71,218,106,36,168,19,193,79,197,242,206,186,112,14,237,35,183,160,216,139,18,14,218,103,73,246,64,217,154,84,75,71,160,156,243,65,167,171,88,229,0,206,154,59,255,255,127,32,2,0,0,0,1,1,0,0,0,1,0,0,0,0,0,0,0,0,0,0,0,0,0,0,0,0,0,0,0,0,0,0,0,0,0,0,0,0,0,0,0,0,255,255,255,255,3,0,2,1,0,0,0,0,1,0,242,5,42,1,0,0,0,1,84,0,0,0,0,37,99,197,242,206,186,112,14,237,35,183,160,216,139,18,14,218,103,73,246,64,217,154,84,75,71,160,156,243,65,167,171,88,229,0,0,0,0,1,11,5,0,242,5,42,1,0,0,0,1,84,1,116,1,32,116,44,159,131,171,150,255,29,58,79,102,7,86,220,242,184,107,215,107,117,58,186,117,71,63,25,214,122,242,240,149,40,33,117,116,44,159,131,171,150,255,29,58,79,102,7,86,220,242,184,107,215,107,117,58,186,117,71,63,25,214,122,242,240,149,40,1,2,1,0,172,151,238,17,238,159,191,44,171,135,17,106,62,202,79,249,238,97,225,152,231,32,45,39,213,246,44,31,117,81,215,189]),.d 43 (bl [172,151,238,17,238,159,191,44,171,135,17,106,62,202,79,249,238,97,225,152,231,32,45,39,213,246,44,31,117,81,215,189])]
theorem D27:ob (A9 Tryz.prog T A4q 100000 60 202 (A6 T [5,29,43] C8p) (fun _=>none) 0) (fun out=>A7 T true [.d 29,.d 43] out)=some C8q:=by kernel_rfl
def C8r:List V:=[.i 1,.l [.i 0],bl [146,231,198,188,58,223,5,192,58,204,191,232,179,118,187,151,164,222,50,239,132,10,233,149,142,41,248,94,150,105,221,182]]
def C8s:List Rs:=[.d 29 (bl [1,0,0,0,1,0,188,51,254,114,33,151,86,235,203,233,214,174,181,105,242,13,114,189,235,121,151,168,155,8,180,237,95,219,65,154,250,245]),.d 43 (bl [188,51,254,114,33,151,86,235,203,233,214,174,181,105,242,13,114,189,235,121,151,168,155,8,180,237,95,219,65,154,250,245])]
theorem D28:ob (A9 Tryz.prog T A4q 100000 60 202 (A6 T [5,29,43] C8r) (fun _=>none) 0) (fun out=>A7 T true [.d 29,.d 43] out)=some C8s:=by kernel_rfl
def D8T:List (List V×List Rs):=[(C8l,C8m),(C8n,C8o),(C8p,C8q),(C8r,C8s)]
theorem D8U:B2 Tryz.prog T 202 (A5 T true [5,29,43] (B7 D8T)).dir:=B4 (rk:=[.d 29,.d 43]) (B3 (fu:=100000) (d:=60) follows C5 A8w) (by kernel_rfl) ⟨D25,D26,D27,D28,trivial⟩
def A9G:List (Nat×E7):=(202,(A5 T true [5,29,43] (B7 D8T)).dir)::A4q
theorem A8x:D8 Tryz.prog T A9G:=⟨D8U,A8w⟩
def C8t:List V:=[.l [],.l [.l [bl [98,0,0,0,1],bl [1,0,0,0,5,255,175,132,180,223,70,118,53,239,142,198,68,68,87,192,226,0,188,189,184,250,48,242,15,177,159,234,32,101,91,46,197,145,24,66,65,162,21,197,16,131,212,246,251,127,118,111,176,14,12,26,164,250,213,32,222,249,71,113,220,84,82,218,0,204,154,59,255,255,127,32,0,0,0,0,1,1,0,0,0,1,0,0,0,0,0,0,0,0,0,0,0,0,0,0,0,0,0,0,0,0,0,0,0,0,0,0,0,0,0,0,0,0,255,255,255,255,3,0,1,0,0,0,0,0,1,0,242,5,42,1,0,0,0,1,84,0,0,0,0],.b false],.l [bl [99,197,145,24,66,65,162,21,197,16,131,212,246,251,127,118,111,176,14,12,26,164,250,213,32,222,249,71,113,220,84,82,218,0,0,0,0],bl [3,0,242,5,42,1,0,0,0,1,84],.b false],.l [.l [.i 116],bl [181,145,218,91,169,255,171,72,53,108,154,0,38,222,25,76,113,197,114,223,201,231,138,109,71,218,106,36,168,19,193,79],.b false],.l [bl [117,181,145,218,91,169,255,171,72,53,108,154,0,38,222,25,76,113,197,114,223,201,231,138,109,71,218,106,36,168,19,193,79],bl [1,0],.b false]]]
def C8u:List Rs:=[.r 249 (.l [.l [bl [98,0,0,0,1],bl [1,0,0,0,5,255,175,132,180,223,70,118,53,239,142,198,68,68,87,192,226,0,188,189,184,250,48,242,15,177,159,234,32,101,91,46,197,145,24,66,65,162,21,197,16,131,212,246,251,127,118,111,176,14,12,26,164,250,213,32,222,249,71,113,220,84,82,218,0,204,154,59,255,255,127,32,0,0,0,0,1,1,0,0,0,1,0,0,0,0,0,0,0,0,0,0,0,0,0,0,0,0,0,0,0,0,0,0,0,0,0,0,0,0,0,0,0,0,255,255,255,255,3,0,1,0,0,0,0,0,1,0,242,5,42,1,0,0,0,1,84,0,0,0,0],.b false],.l [bl [99,197,145,24,66,65,162,21,197,16,131,212,246,251,127,118,111,176,14,12,26,164,250,213,32,222,249,71,113,220,84,82,218,0,0,0,0],bl [3,0,242,5,42,1,0,0,0,1,84],.b false],.l [.l [.i 116],bl [181,145,218,91,169,255,171,72,53,108,154,0,38,222,25,76,113,197,114,223,201,231,138,109,71,218,106,36,168,19,193,79],.b false],.l [bl [117,181,145,218,91,169,255,171,72,53,108,154,0,38,222,25,76,113,197,114,223,201,231,138,109,71,218,106,36,168,19,193,79],bl [1,0],.b false]]:V).els false]
theorem D29:ob (A9 Tryz.prog T A9G 100000 60 135 (A6 T [231,231] C8t) (fun _=>none) 0) (fun out=>A7 T true [.r 249] out)=some C8u:=by kernel_rfl
def C8v:List V:=[.l [.l [bl [98,0,0,0,1],bl [1,0,0,0,5,255,175,132,180,223,70,118,53,239,142,198,68,68,87,192,226,0,188,189,184,250,48,242,15,177,159,234,32,101,91,46,197,145,24,66,65,162,21,197,16,131,212,246,251,127,118,111,176,14,12,26,164,250,213,32,222,249,71,113,220,84,82,218,0,204,154,59,255,255,127,32,0,0,0,0,1,1,0,0,0,1,0,0,0,0,0,0,0,0,0,0,0,0,0,0,0,0,0,0,0,0,0,0,0,0,0,0,0,0,0,0,0,0,255,255,255,255,3,0,1,0,0,0,0,0,1,0,242,5,42,1,0,0,0,1,84,0,0,0,0],.b false],.l [bl [99,197,145,24,66,65,162,21,197,16,131,212,246,251,127,118,111,176,14,12,26,164,250,213,32,222,249,71,113,220,84,82,218,0,0,0,0],bl [3,0,242,5,42,1,0,0,0,1,84],.b false],.l [.l [.i 116],bl [181,145,218,91,169,255,171,72,53,108,154,0,38,222,25,76,113,197,114,223,201,231,138,109,71,218,106,36,168,19,193,79],.b false],.l [bl [117,181,145,218,91,169,255,171,72,53,108,154,0,38,222,25,76,113,197,114,223,201,231,138,109,71,218,106,36,168,19,193,79],bl [1,0],.b false]],.l [.l [bl [98,0,0,0,1],bl [1,0,0,0,5,255,175,132,180,223,70,118,53,239,142,198,68,68,87,192,226,0,188,189,184,250,48,242,15,177,159,234,32,101,91,46,197,145,24,66,65,162,21,197,16,131,212,246,251,127,118,111,176,14,12,26,164,250,213,32,222,249,71,113,220,84,82,218,0,204,154,59,255,255,127,32,0,0,0,0,1,1,0,0,0,1,0,0,0,0,0,0,0,0,0,0,0,0,0,0,0,0,0,0,0,0,0,0,0,0,0,0,0,0,0,0,0,0,255,255,255,255,3,0,1,0,0,0,0,0,1,0,242,5,42,1,0,0,0,1,84,0,0,0,0],.b false],.l [bl [98,0,0,0,2],bl [1,0,0,0,181,145,218,91,169,255,171,72,53,108,154,0,38,222,25,76,113,197,114,223,201,231,138,109,71,218,106,36,168,19,193,79,197,242,206,186,112,14,237,35,183,160,216,139,18,14,218,103,73,246,64,217,154,84,75,71,160,156,243,65,167,171,88,229,0,206,154,59,255,255,127,32,2,0,0,0,1,1,0,0,0,1,0,0,0,0,0,0,0,0,0,0,0,0,0,0,0,0,0,0,0,0,0,0,0,0,0,0,0,0,0,0,0,0,255,255,255,255,3,0,2,1,0,0,0,0,1,0,242,5,42,1,0,0,0,1,84,0,0,0,0],.b false],.l [bl [99,197,145,24,66,65,162,21,197,16,131,212,246,251,127,118,111,176,14,12,26,164,250,213,32,222,249,71,113,220,84,82,218,0,0,0,0],bl [3,0,242,5,42,1,0,0,0,1,84],.b false],.l [bl [99,197,242,206,186,112,14,237,35,183,160,216,139,18,14,218,103,73,246,64,217,154,84,75,71,160,156,243,65,167,171,88,229,0,0,0,0],bl [5,0,242,5,42,1,0,0,0,1,84],.b false],.l [.l [.i 116],bl [116,44,159,131,171,150,255,29,58,79,102,7,86,220,242,184,107,215,107,117,58,186,117,71,63,25,214,122,242,240,149,40],.b false],.l [bl [117,116,44,159,131,171,150,255,29,58,79,102,7,86,220,242,184,107,215,107,117,58,186,117,71,63,25,214,122,242,240,149,40],bl [1,0],.b false],.l [bl [117,181,145,218,91,169,255,171,72,53,108,154,0,38,222,25,76,113,197,114,223,201,231,138,109,71,218,106,36,168,19,193,79],bl [1,0],.b false]]]
def C8w:List Rs:=[.r 249 (.l [.l [bl [98,0,0,0,2],bl [1,0,0,0,181,145,218,91,169,255,171,72,53,108,154,0,38,222,25,76,113,197,114,223,201,231,138,109,71,218,106,36,168,19,193,79,197,242,206,186,112,14,237,35,183,160,216,139,18,14,218,103,73,246,64,217,154,84,75,71,160,156,243,65,167,171,88,229,0,206,154,59,255,255,127,32,2,0,0,0,1,1,0,0,0,1,0,0,0,0,0,0,0,0,0,0,0,0,0,0,0,0,0,0,0,0,0,0,0,0,0,0,0,0,0,0,0,0,255,255,255,255,3,0,2,1,0,0,0,0,1,0,242,5,42,1,0,0,0,1,84,0,0,0,0],.b false],.l [bl [99,197,242,206,186,112,14,237,35,183,160,216,139,18,14,218,103,73,246,64,217,154,84,75,71,160,156,243,65,167,171,88,229,0,0,0,0],bl [5,0,242,5,42,1,0,0,0,1,84],.b false],.l [.l [.i 116],bl [116,44,159,131,171,150,255,29,58,79,102,7,86,220,242,184,107,215,107,117,58,186,117,71,63,25,214,122,242,240,149,40],.b false],.l [bl [117,116,44,159,131,171,150,255,29,58,79,102,7,86,220,242,184,107,215,107,117,58,186,117,71,63,25,214,122,242,240,149,40],bl [1,0],.b false]]:V).els false]
theorem D3a:ob (A9 Tryz.prog T A9G 100000 60 135 (A6 T [231,231] C8v) (fun _=>none) 0) (fun out=>A7 T true [.r 249] out)=some C8w:=by kernel_rfl
def D8V:List (List V×List Rs):=[(C8t,C8u),(C8v,C8w)]
theorem D8W:B2 Tryz.prog T 135 (A5 T true [231,231] (B7 D8V)).dir:=B4 (rk:=[.r 249]) (B3 (fu:=100000) (d:=60) follows C5 A8x) (by kernel_rfl) ⟨D29,D3a,trivial⟩
def B2Q:List (Nat×E7):=(135,(A5 T true [231,231] (B7 D8V)).dir)::A9G
theorem A8y:D8 Tryz.prog T B2Q:=⟨D8W,A8x⟩
def C8x:List V:=[.l [.n]]
def C8y:List Rs:=[.r 5 (bl [1,0]:V).els false]
theorem D3b:ob (A9 Tryz.prog T B2Q 100000 60 253 (A6 T [179] C8x) (fun _=>none) 0) (fun out=>A7 T false [.r 5] out)=some C8y:=by kernel_rfl
def D8X:List (List V×List Rs):=[(C8x,C8y)]
theorem D8Y:B2 Tryz.prog T 253 (A5 T false [179] (B7 D8X)).dir:=B4 (rk:=[.r 5]) (B3 (fu:=100000) (d:=60) follows C5 A8y) (by kernel_rfl) ⟨D3b,trivial⟩
def B8s:List (Nat×E7):=(253,(A5 T false [179] (B7 D8X)).dir)::B2Q
theorem B5t:D8 Tryz.prog T B8s:=⟨D8Y,A8y⟩
abbrev D3c:List (Nat×E7):=B8s
theorem B36:D8 Tryz.prog T D3c:=B5t
end Go.Proofs.YtgaghkafmeelhaaGreat
end
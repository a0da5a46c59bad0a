/- Walks: what functions of the program and of the document compute, part 3 of those on which LargePlays rests. -/
import Derived.Test.YtpcaijopodhdgaaGreatDoorRtB

set_option linter.unusedVariables false
set_option linter.unusedSimpArgs false
namespace Go.Proofs.YtpcaijopodhdgaaGreatDoor
open Go.Proofs.Tryz
open Go.Sx
abbrev qg: List Nat:=[1,0,0,1,1,0,0,1,0,1,1,1,1]
abbrev qw: List Nat:=[1,1,1,0,0,1,0,1,1,1,1]
abbrev qx: List Nat:=[0,1,0,1,1,1,1]
abbrev qcv: List Nat:=[0,0,1,0,1,1,1,1,1]
abbrev qcw: List Nat:=[0,0,1,0,1,1,1]
abbrev qba: List Nat:=[0,0,1,0,0,1,1]
abbrev qcx: List Nat:=[1,0,1,0,0,1,1]
theorem bits_Set0(w_ v_:Int)(hw:0≤w_∧w_<1)(hv:0≤v_∧v_<65536):
  Ctr prog 166 #[vU w_,vI 0,vI 16,vU v_] [] (Ret (.tuple #[vU (w_+v_*1),.bool true]) []):=by
 exact cb 32 func166 fun F=>gX [.z [0,0,1] 2 [0,1,2,3,10,11]] (gS [.o [0,0,1] 2,.c [1,0,1],.c [1,1]] (gC (some 12) [] call190 (bits_may 0 16 oc) (gX [.z [0,0,1] 7 [0,1,2,3,14,15,16]] (gS [.o [0,0,1] 7,.c [1,0,1],.c [1,1]] (gC (some 17) [] call191 (bits_all 16 oc) (gX [.sp [20,19] [.dead] [.z [0,1,1] 0 [0,1,2,3]]] (gQ ((bAndNot .u64 v_ (bShr .u64 18446744073709551615 (64-16))) != 0) (gF ((bAndNot .u64 v_ (bShr .u64 18446744073709551615 (64-16))) != 0) (bne_eq_false_iff_eq.2 (set_fits 16 65535 oc oc hv)) (gS [.c [0,1,1],.c [1,1,1]] (qG (kV 0 [.ww,.ww,.q (vU (bShr .u64 18446744073709551615 (64-16))),.ww,.h (.n),.ww,.ww,.ww,.h (.n),.ww,.ww,.ww]) [8,9] (.p ((0:Int)≤0) oc (.p ((0:Int)≤0) oc .n)) (.c call191 (qR [] (bits_all 16 oc)) .n) (gX [] (gI (.tuple #[vU (bOr .u64 (bAndNot .u64 w_ (bShl .u64 (bShr .u64 18446744073709551615 (64-16)) 0)) (bShl .u64 v_ 0)),.bool true]) [] ⟨(congrArg (fun x:Int=>Value.tuple #[.int .u64 x,.bool true]) (set_eq 0 16 65535 oc oc oc oa oa)),rfl⟩))))))))))))
theorem pack_put0(b1 b2 b3:Nat)(w_ v_:Int)(hw:0≤w_∧w_<1)(hv:0≤v_∧v_<65536):
  Ctr prog 207 #[vI v_,vI 16,vP b1,vP b2,vP b3] [.pts b1 [vU w_] 60,.pts b2 [vI 0] 3,.pts b3 [.bool true] 4] (Ret (undef) [.pts b1 [vU (w_+v_*1)] 60,.pts b2 [vI 16] 3,.pts b3 [.bool true] 4]):=by
 refine cb 26 func207 fun F=>gX [.e 0,.e 1,.n,.z [0] 5 [1,2,3,4,10,11,12,14]] (gQ b1 (gQ b2 (gO (InK .u64 v_) oh (gS [.o [0] 5,.c [1]] (gC (some 15) [] call166 (bits_Set0 w_ v_ oM oM) (gX [.z [1] 0 [1,2,3,4,7,8]] (gS [.c [1]] (zG (zN [0,1,2,3,4,5,6,7] (kV 0 [.w,.e 2,.w,.w,.w,.e 1,.w,.w]) [1,2,3,4,7,8,18,19,20,21,22,23,24,25] [8] (.e b3 (.e b2 .n)) ⟨?_,trivial⟩)))))))))
 refine zX (.e 0) (sQ b1 (sK ?_))
 refine zN [] (kV 3 [.w,.w,.e 1,.w,.w]) [1,3,4,8,20,21,22,23,24,25] [9] (.e b2 .n) ⟨?_,trivial⟩
 refine zX (.e 2) (sQ b3 (sK ?_))
 refine zN [] (kV 5 [.e 1,.w,.w]) [1,3,23,24,25] [10] (.e b2 .n) ⟨?_,trivial⟩
 refine zX (.e 1) (sQ b2 (sK ?_))
 exact zE [] [] [] .n (gX [] (gJ [0,1,2] ⟨rfl,rfl⟩))
theorem bits_Set1(w_ v_:Int)(hw:0≤w_∧w_<65536)(hv:0≤v_∧v_<2147483648):
  Ctr prog 166 #[vU w_,vI 16,vI 31,vU v_] [] (Ret (.tuple #[vU (w_+v_*65536),.bool true]) []):=by
 exact cb 32 func166 fun F=>gX [.z [0,0,1] 2 [0,1,2,3,10,11]] (gS [.o [0,0,1] 2,.c [1,0,1],.c [1,1]] (gC (some 12) [] call190 (bits_may 16 31 oc) (gX [.z [0,0,1] 7 [0,1,2,3,14,15,16]] (gS [.o [0,0,1] 7,.c [1,0,1],.c [1,1]] (gC (some 17) [] call191 (bits_all 31 oc) (gX [.sp [20,19] [.dead] [.z [0,1,1] 0 [0,1,2,3]]] (gQ ((bAndNot .u64 v_ (bShr .u64 18446744073709551615 (64-31))) != 0) (gF ((bAndNot .u64 v_ (bShr .u64 18446744073709551615 (64-31))) != 0) (bne_eq_false_iff_eq.2 (set_fits 31 2147483647 oc oc hv)) (gS [.c [0,1,1],.c [1,1,1]] (qG (kV 0 [.ww,.ww,.q (vU (bShr .u64 18446744073709551615 (64-31))),.ww,.h (.n),.ww,.ww,.ww,.h (.n),.ww,.ww,.ww]) [8,9] (.p ((0:Int)≤16) oc (.p ((0:Int)≤16) oc .n)) (.c call191 (qR [] (bits_all 31 oc)) .n) (gX [] (gI (.tuple #[vU (bOr .u64 (bAndNot .u64 w_ (bShl .u64 (bShr .u64 18446744073709551615 (64-31)) 16)) (bShl .u64 v_ 16)),.bool true]) [] ⟨(congrArg (fun x:Int=>Value.tuple #[.int .u64 x,.bool true]) (set_eq 16 31 140737488289792 oc oc oc oa oa)),rfl⟩))))))))))))
theorem pack_put1(b1 b2 b3:Nat)(w_ v_:Int)(hw:0≤w_∧w_<65536)(hv:0≤v_∧v_<2147483648):
  Ctr prog 207 #[vI v_,vI 31,vP b1,vP b2,vP b3] [.pts b1 [vU w_] 60,.pts b2 [vI 16] 3,.pts b3 [.bool true] 4] (Ret (undef) [.pts b1 [vU (w_+v_*65536)] 60,.pts b2 [vI 47] 3,.pts b3 [.bool true] 4]):=by
 refine cb 26 func207 fun F=>gX [.e 0,.e 1,.n,.z [0] 5 [1,2,3,4,10,11,12,14]] (gQ b1 (gQ b2 (gO (InK .u64 v_) oh (gS [.o [0] 5,.c [1]] (gC (some 15) [] call166 (bits_Set1 w_ v_ oM oM) (gX [.z [1] 0 [1,2,3,4,7,8]] (gS [.c [1]] (zG (zN [0,1,2,3,4,5,6,7] (kV 0 [.w,.e 2,.w,.w,.w,.e 1,.w,.w]) [1,2,3,4,7,8,18,19,20,21,22,23,24,25] [8] (.e b3 (.e b2 .n)) ⟨?_,trivial⟩)))))))))
 refine zX (.e 0) (sQ b1 (sK ?_))
 refine zN [] (kV 3 [.w,.w,.e 1,.w,.w]) [1,3,4,8,20,21,22,23,24,25] [9] (.e b2 .n) ⟨?_,trivial⟩
 refine zX (.e 2) (sQ b3 (sK ?_))
 refine zN [] (kV 5 [.e 1,.w,.w]) [1,3,23,24,25] [10] (.e b2 .n) ⟨?_,trivial⟩
 refine zX (.e 1) (sQ b2 (sK ?_))
 exact zE [] [] [] .n (gX [] (gJ [0,1,2] ⟨rfl,rfl⟩))
theorem bits_Set2(w_ v_:Int)(hw:0≤w_∧w_<140737488355328)(hv:0≤v_∧v_<2):
  Ctr prog 166 #[vU w_,vI 47,vI 1,vU v_] [] (Ret (.tuple #[vU (w_+v_*140737488355328),.bool true]) []):=by
 exact cb 32 func166 fun F=>gX [.z [0,0,1] 2 [0,1,2,3,10,11]] (gS [.o [0,0,1] 2,.c [1,0,1],.c [1,1]] (gC (some 12) [] call190 (bits_may 47 1 oc) (gX [.z [0,0,1] 7 [0,1,2,3,14,15,16]] (gS [.o [0,0,1] 7,.c [1,0,1],.c [1,1]] (gC (some 17) [] call191 (bits_all 1 oc) (gX [.sp [20,19] [.dead] [.z [0,1,1] 0 [0,1,2,3]]] (gQ ((bAndNot .u64 v_ (bShr .u64 18446744073709551615 (64-1))) != 0) (gF ((bAndNot .u64 v_ (bShr .u64 18446744073709551615 (64-1))) != 0) (bne_eq_false_iff_eq.2 (set_fits 1 1 oc oc hv)) (gS [.c [0,1,1],.c [1,1,1]] (qG (kV 0 [.ww,.ww,.q (vU (bShr .u64 18446744073709551615 (64-1))),.ww,.h (.n),.ww,.ww,.ww,.h (.n),.ww,.ww,.ww]) [8,9] (.p ((0:Int)≤47) oc (.p ((0:Int)≤47) oc .n)) (.c call191 (qR [] (bits_all 1 oc)) .n) (gX [] (gI (.tuple #[vU (bOr .u64 (bAndNot .u64 w_ (bShl .u64 (bShr .u64 18446744073709551615 (64-1)) 47)) (bShl .u64 v_ 47)),.bool true]) [] ⟨(congrArg (fun x:Int=>Value.tuple #[.int .u64 x,.bool true]) (set_eq 47 1 140737488355328 oc oc oc oa oa)),rfl⟩))))))))))))
theorem pack_put2(b1 b2 b3:Nat)(w_ v_:Int)(hw:0≤w_∧w_<140737488355328)(hv:0≤v_∧v_<2):
  Ctr prog 207 #[vI v_,vI 1,vP b1,vP b2,vP b3] [.pts b1 [vU w_] 60,.pts b2 [vI 47] 3,.pts b3 [.bool true] 4] (Ret (undef) [.pts b1 [vU (w_+v_*140737488355328)] 60,.pts b2 [vI 48] 3,.pts b3 [.bool true] 4]):=by
 refine cb 26 func207 fun F=>gX [.e 0,.e 1,.n,.z [0] 5 [1,2,3,4,10,11,12,14]] (gQ b1 (gQ b2 (gO (InK .u64 v_) oh (gS [.o [0] 5,.c [1]] (gC (some 15) [] call166 (bits_Set2 w_ v_ oM oM) (gX [.z [1] 0 [1,2,3,4,7,8]] (gS [.c [1]] (zG (zN [0,1,2,3,4,5,6,7] (kV 0 [.w,.e 2,.w,.w,.w,.e 1,.w,.w]) [1,2,3,4,7,8,18,19,20,21,22,23,24,25] [8] (.e b3 (.e b2 .n)) ⟨?_,trivial⟩)))))))))
 refine zX (.e 0) (sQ b1 (sK ?_))
 refine zN [] (kV 3 [.w,.w,.e 1,.w,.w]) [1,3,4,8,20,21,22,23,24,25] [9] (.e b2 .n) ⟨?_,trivial⟩
 refine zX (.e 2) (sQ b3 (sK ?_))
 refine zN [] (kV 5 [.e 1,.w,.w]) [1,3,23,24,25] [10] (.e b2 .n) ⟨?_,trivial⟩
 refine zX (.e 1) (sQ b2 (sK ?_))
 exact zE [] [] [] .n (gX [] (gJ [0,1,2] ⟨rfl,rfl⟩))
theorem pack_put2F(b1 b2 b3:Nat)(w_ v_:Int)(hw:0≤w_∧w_<140737488355328)(hv:0≤v_∧v_<2):
  Ctr prog 207 #[vI v_,vI 1,vP b1,vP b2,vP b3] [.pts b1 [vU w_] 60,.pts b2 [vI 47] 3,.pts b3 [.bool false] 4] (Ret (undef) [.pts b1 [vU (w_+v_*140737488355328)] 60,.pts b2 [vI 48] 3,.pts b3 [.bool false] 4]):=by
 refine cb 26 func207 fun F=>gX [.e 0,.e 1,.n,.z [0] 5 [1,2,3,4,10,11,12,14]] (gQ b1 (gQ b2 (gO (InK .u64 v_) oh (gS [.o [0] 5,.c [1]] (gC (some 15) [] call166 (bits_Set2 w_ v_ oM oM) (gX [.z [1] 0 [1,2,3,4,7,8]] (gS [.c [1]] (zG (zN [0,1,2,3,4,5,6,7] (kV 0 [.w,.e 2,.w,.w,.w,.e 1,.w,.w]) [1,2,3,4,7,8,18,19,20,21,22,23,24,25] [8] (.e b3 (.e b2 .n)) ⟨?_,trivial⟩)))))))))
 refine zX (.e 0) (sQ b1 (sK ?_))
 refine zN [] (kV 3 [.w,.w,.e 1,.w,.w]) [1,3,4,8,20,21,22,23,24,25] [9] (.e b2 .n) ⟨?_,trivial⟩
 refine zX (.e 2) (sQ b3 (sK ?_))
 refine zN [] (kV 5 [.e 1,.w,.w]) [1,3,23,24,25] [10] (.e b2 .n) ⟨?_,trivial⟩
 refine zX (.e 1) (sQ b2 (sK ?_))
 exact zE [] [] [] .n (gX [] (gJ [0,1,2] ⟨rfl,rfl⟩))
theorem bits_Set3(w_ v_:Int)(hw:0≤w_∧w_<281474976710656)(hv:0≤v_∧v_<2):
  Ctr prog 166 #[vU w_,vI 48,vI 1,vU v_] [] (Ret (.tuple #[vU (w_+v_*281474976710656),.bool true]) []):=by
 exact cb 32 func166 fun F=>gX [.z [0,0,1] 2 [0,1,2,3,10,11]] (gS [.o [0,0,1] 2,.c [1,0,1],.c [1,1]] (gC (some 12) [] call190 (bits_may 48 1 oc) (gX [.z [0,0,1] 7 [0,1,2,3,14,15,16]] (gS [.o [0,0,1] 7,.c [1,0,1],.c [1,1]] (gC (some 17) [] call191 (bits_all 1 oc) (gX [.sp [20,19] [.dead] [.z [0,1,1] 0 [0,1,2,3]]] (gQ ((bAndNot .u64 v_ (bShr .u64 18446744073709551615 (64-1))) != 0) (gF ((bAndNot .u64 v_ (bShr .u64 18446744073709551615 (64-1))) != 0) (bne_eq_false_iff_eq.2 (set_fits 1 1 oc oc hv)) (gS [.c [0,1,1],.c [1,1,1]] (qG (kV 0 [.ww,.ww,.q (vU (bShr .u64 18446744073709551615 (64-1))),.ww,.h (.n),.ww,.ww,.ww,.h (.n),.ww,.ww,.ww]) [8,9] (.p ((0:Int)≤48) oc (.p ((0:Int)≤48) oc .n)) (.c call191 (qR [] (bits_all 1 oc)) .n) (gX [] (gI (.tuple #[vU (bOr .u64 (bAndNot .u64 w_ (bShl .u64 (bShr .u64 18446744073709551615 (64-1)) 48)) (bShl .u64 v_ 48)),.bool true]) [] ⟨(congrArg (fun x:Int=>Value.tuple #[.int .u64 x,.bool true]) (set_eq 48 1 281474976710656 oc oc oc oa oa)),rfl⟩))))))))))))
theorem pack_put3(b1 b2 b3:Nat)(w_ v_:Int)(hw:0≤w_∧w_<281474976710656)(hv:0≤v_∧v_<2):
  Ctr prog 207 #[vI v_,vI 1,vP b1,vP b2,vP b3] [.pts b1 [vU w_] 60,.pts b2 [vI 48] 3,.pts b3 [.bool true] 4] (Ret (undef) [.pts b1 [vU (w_+v_*281474976710656)] 60,.pts b2 [vI 49] 3,.pts b3 [.bool true] 4]):=by
 refine cb 26 func207 fun F=>gX [.e 0,.e 1,.n,.z [0] 5 [1,2,3,4,10,11,12,14]] (gQ b1 (gQ b2 (gO (InK .u64 v_) oh (gS [.o [0] 5,.c [1]] (gC (some 15) [] call166 (bits_Set3 w_ v_ oM oM) (gX [.z [1] 0 [1,2,3,4,7,8]] (gS [.c [1]] (zG (zN [0,1,2,3,4,5,6,7] (kV 0 [.w,.e 2,.w,.w,.w,.e 1,.w,.w]) [1,2,3,4,7,8,18,19,20,21,22,23,24,25] [8] (.e b3 (.e b2 .n)) ⟨?_,trivial⟩)))))))))
 refine zX (.e 0) (sQ b1 (sK ?_))
 refine zN [] (kV 3 [.w,.w,.e 1,.w,.w]) [1,3,4,8,20,21,22,23,24,25] [9] (.e b2 .n) ⟨?_,trivial⟩
 refine zX (.e 2) (sQ b3 (sK ?_))
 refine zN [] (kV 5 [.e 1,.w,.w]) [1,3,23,24,25] [10] (.e b2 .n) ⟨?_,trivial⟩
 refine zX (.e 1) (sQ b2 (sK ?_))
 exact zE [] [] [] .n (gX [] (gJ [0,1,2] ⟨rfl,rfl⟩))
theorem pack_put3F(b1 b2 b3:Nat)(w_ v_:Int)(hw:0≤w_∧w_<281474976710656)(hv:0≤v_∧v_<2):
  Ctr prog 207 #[vI v_,vI 1,vP b1,vP b2,vP b3] [.pts b1 [vU w_] 60,.pts b2 [vI 48] 3,.pts b3 [.bool false] 4] (Ret (undef) [.pts b1 [vU (w_+v_*281474976710656)] 60,.pts b2 [vI 49] 3,.pts b3 [.bool false] 4]):=by
 refine cb 26 func207 fun F=>gX [.e 0,.e 1,.n,.z [0] 5 [1,2,3,4,10,11,12,14]] (gQ b1 (gQ b2 (gO (InK .u64 v_) oh (gS [.o [0] 5,.c [1]] (gC (some 15) [] call166 (bits_Set3 w_ v_ oM oM) (gX [.z [1] 0 [1,2,3,4,7,8]] (gS [.c [1]] (zG (zN [0,1,2,3,4,5,6,7] (kV 0 [.w,.e 2,.w,.w,.w,.e 1,.w,.w]) [1,2,3,4,7,8,18,19,20,21,22,23,24,25] [8] (.e b3 (.e b2 .n)) ⟨?_,trivial⟩)))))))))
 refine zX (.e 0) (sQ b1 (sK ?_))
 refine zN [] (kV 3 [.w,.w,.e 1,.w,.w]) [1,3,4,8,20,21,22,23,24,25] [9] (.e b2 .n) ⟨?_,trivial⟩
 refine zX (.e 2) (sQ b3 (sK ?_))
 refine zN [] (kV 5 [.e 1,.w,.w]) [1,3,23,24,25] [10] (.e b2 .n) ⟨?_,trivial⟩
 refine zX (.e 1) (sQ b2 (sK ?_))
 exact zE [] [] [] .n (gX [] (gJ [0,1,2] ⟨rfl,rfl⟩))
theorem bits_Set4(w_ v_:Int)(hw:0≤w_∧w_<562949953421312)(hv:0≤v_∧v_<32768):
  Ctr prog 166 #[vU w_,vI 49,vI 15,vU v_] [] (Ret (.tuple #[vU (w_+v_*562949953421312),.bool true]) []):=by
 exact cb 32 func166 fun F=>gX [.z [0,0,1] 2 [0,1,2,3,10,11]] (gS [.o [0,0,1] 2,.c [1,0,1],.c [1,1]] (gC (some 12) [] call190 (bits_may 49 15 oc) (gX [.z [0,0,1] 7 [0,1,2,3,14,15,16]] (gS [.o [0,0,1] 7,.c [1,0,1],.c [1,1]] (gC (some 17) [] call191 (bits_all 15 oc) (gX [.sp [20,19] [.dead] [.z [0,1,1] 0 [0,1,2,3]]] (gQ ((bAndNot .u64 v_ (bShr .u64 18446744073709551615 (64-15))) != 0) (gF ((bAndNot .u64 v_ (bShr .u64 18446744073709551615 (64-15))) != 0) (bne_eq_false_iff_eq.2 (set_fits 15 32767 oc oc hv)) (gS [.c [0,1,1],.c [1,1,1]] (qG (kV 0 [.ww,.ww,.q (vU (bShr .u64 18446744073709551615 (64-15))),.ww,.h (.n),.ww,.ww,.ww,.h (.n),.ww,.ww,.ww]) [8,9] (.p ((0:Int)≤49) oc (.p ((0:Int)≤49) oc .n)) (.c call191 (qR [] (bits_all 15 oc)) .n) (gX [] (gI (.tuple #[vU (bOr .u64 (bAndNot .u64 w_ (bShl .u64 (bShr .u64 18446744073709551615 (64-15)) 49)) (bShl .u64 v_ 49)),.bool true]) [] ⟨(congrArg (fun x:Int=>Value.tuple #[.int .u64 x,.bool true]) (set_eq 49 15 18446181123756130304 oc oc oc oa oa)),rfl⟩))))))))))))
theorem pack_put4(b1 b2 b3:Nat)(w_ v_:Int)(hw:0≤w_∧w_<562949953421312)(hv:0≤v_∧v_<32768):
  Ctr prog 207 #[vI v_,vI 15,vP b1,vP b2,vP b3] [.pts b1 [vU w_] 60,.pts b2 [vI 49] 3,.pts b3 [.bool true] 4] (Ret (undef) [.pts b1 [vU (w_+v_*562949953421312)] 60,.pts b2 [vI 64] 3,.pts b3 [.bool true] 4]):=by
 refine cb 26 func207 fun F=>gX [.e 0,.e 1,.n,.z [0] 5 [1,2,3,4,10,11,12,14]] (gQ b1 (gQ b2 (gO (InK .u64 v_) oh (gS [.o [0] 5,.c [1]] (gC (some 15) [] call166 (bits_Set4 w_ v_ oM oM) (gX [.z [1] 0 [1,2,3,4,7,8]] (gS [.c [1]] (zG (zN [0,1,2,3,4,5,6,7] (kV 0 [.w,.e 2,.w,.w,.w,.e 1,.w,.w]) [1,2,3,4,7,8,18,19,20,21,22,23,24,25] [8] (.e b3 (.e b2 .n)) ⟨?_,trivial⟩)))))))))
 refine zX (.e 0) (sQ b1 (sK ?_))
 refine zN [] (kV 3 [.w,.w,.e 1,.w,.w]) [1,3,4,8,20,21,22,23,24,25] [9] (.e b2 .n) ⟨?_,trivial⟩
 refine zX (.e 2) (sQ b3 (sK ?_))
 refine zN [] (kV 5 [.e 1,.w,.w]) [1,3,23,24,25] [10] (.e b2 .n) ⟨?_,trivial⟩
 refine zX (.e 1) (sQ b2 (sK ?_))
 exact zE [] [] [] .n (gX [] (gJ [0,1,2] ⟨rfl,rfl⟩))
theorem pack_put4F(b1 b2 b3:Nat)(w_ v_:Int)(hw:0≤w_∧w_<562949953421312)(hv:0≤v_∧v_<32768):
  Ctr prog 207 #[vI v_,vI 15,vP b1,vP b2,vP b3] [.pts b1 [vU w_] 60,.pts b2 [vI 49] 3,.pts b3 [.bool false] 4] (Ret (undef) [.pts b1 [vU (w_+v_*562949953421312)] 60,.pts b2 [vI 64] 3,.pts b3 [.bool false] 4]):=by
 refine cb 26 func207 fun F=>gX [.e 0,.e 1,.n,.z [0] 5 [1,2,3,4,10,11,12,14]] (gQ b1 (gQ b2 (gO (InK .u64 v_) oh (gS [.o [0] 5,.c [1]] (gC (some 15) [] call166 (bits_Set4 w_ v_ oM oM) (gX [.z [1] 0 [1,2,3,4,7,8]] (gS [.c [1]] (zG (zN [0,1,2,3,4,5,6,7] (kV 0 [.w,.e 2,.w,.w,.w,.e 1,.w,.w]) [1,2,3,4,7,8,18,19,20,21,22,23,24,25] [8] (.e b3 (.e b2 .n)) ⟨?_,trivial⟩)))))))))
 refine zX (.e 0) (sQ b1 (sK ?_))
 refine zN [] (kV 3 [.w,.w,.e 1,.w,.w]) [1,3,4,8,20,21,22,23,24,25] [9] (.e b2 .n) ⟨?_,trivial⟩
 refine zX (.e 2) (sQ b3 (sK ?_))
 refine zN [] (kV 5 [.e 1,.w,.w]) [1,3,23,24,25] [10] (.e b2 .n) ⟨?_,trivial⟩
 refine zX (.e 1) (sQ b2 (sK ?_))
 exact zE [] [] [] .n (gX [] (gJ [0,1,2] ⟨rfl,rfl⟩))
theorem ctl_partsV(e_ g_ k_:Int)(l_ b_:Bool)(hl:l_ = true)(hb:b_ = false):
  Ctr prog 195 #[.agg #[vI e_,vI g_,vI k_,.bool l_,.bool b_]] [] (Ret (.tuple #[.agg #[vI k_,vI g_,vI 0,vI 1,vI e_],.agg #[vI 16,vI 31,vI 1,vI 1,vI 15]]) []):=by
 exact cb 19 func195 fun F=>gX [.e 0,.e 0,.e 0,.e 1,.e 0,.sp [12] [.dead] [.e 0,.sp [15] [.w,.e 1,.e 1,.e 1,.e 2,.e 1,.e 2] [.dead]]] (gN fun b_1=>gN fun b_2=>gN fun b_3=>gQ b_1 (gQ b_1 (gQ b_1 (gQ b_2 (gQ b_1 (gF b_ hb (gQ b_1 (gT l_ hl (gQ b_2 (gQ b_2 (gQ b_2 (gQ b_3 (gQ b_2 (gQ b_3 (gR (.tuple #[.agg #[vI k_,vI g_,vI 0,vI 1,vI e_],.agg #[vI 16,vI 31,vI 1,vI 1,vI 15]]) [] ⟨rfl,rfl⟩)))))))))))))))
theorem ctl_Pack(e_ g_ k_:Int)(l_ b_:Bool)(hl:l_ = true)(hb:b_ = false)(he:0≤e_∧e_≤32767)(hg:0≤g_∧g_≤2147483647)(hk:0≤k_∧k_≤65535):
  Ctr prog 203 #[.agg #[vI e_,vI g_,vI k_,.bool l_,.bool b_]] [] (Ret (.tuple #[vU (packW3 e_ 1 0 g_ k_),.nilIface]) []):=by
 refine cb 33 func203 fun F=>gX [.e 0,.z [0,1] 1 [12]] (gN fun b_1=>gQ b_1 (gS [.o [0,1] 1,.c [1,1]] (gC (some 13) [] call195 (ctl_partsV e_ g_ k_ l_ b_ hl hb) (gX [.e 1,.e 2,.e 3,.e 4,.e 5,.u,.z qg 0 [4,5,6,8,9,10,17]] (gN fun b_2=>gN fun b_3=>gQ b_2 (gQ b_3 (gN fun b_4=>gN fun b_5=>gN fun b_6=>gQ b_4 (gQ b_5 (gQ b_6 (gS [.c qg,.b 1,.c qw,.r qx,.b 0,.c [1,1,1,1,1]] ?_))))))))))
 refine tC (some 27) (kV 0 [.ww,.ww,.ww,.e 1,.ww,.ww,.e 2]) 7 [] [3,4,5] [4,5,6,8,9,17] call207 (pack_put0 b_4 b_5 b_6 0 k_ oa oa) (.e b_2 (.e b_3 .n)) .n ?_
 rintro v post ⟨rfl,rfl⟩
 refine tN .n ?_
 refine gX [.w,.u,.z qg 0 [4,5,6,8,9,10,17]] (gS [.c qg,.b 1,.c qw,.r qx,.b 0,.c [1,1,1,1,1]] ?_)
 refine tC (some 27) (kV 0 [.ww,.ww,.ww,.e 1,.ww,.ww,.e 2]) 7 [] [3,4,5] [4,5,6,8,9,17] call207 (pack_put1 b_4 b_5 b_6 (0+k_*1) g_ oa oa) (.e b_2 (.e b_3 .n)) .n ?_
 rintro v post ⟨rfl,rfl⟩
 refine tN .n ?_
 refine gX [.w,.u,.z qg 0 [4,5,6,8,9,10,17]] (gS [.c qg,.b 1,.c qw,.r qx,.b 0,.c [1,1,1,1,1]] ?_)
 refine tC (some 27) (kV 0 [.ww,.ww,.ww,.e 1,.ww,.ww,.e 2]) 7 [] [3,4,5] [4,5,6,8,9,17] call207 (pack_put2 b_4 b_5 b_6 ((0+k_*1)+g_*65536) 0 oa oa) (.e b_2 (.e b_3 .n)) .n ?_
 rintro v post ⟨rfl,rfl⟩
 refine tN .n ?_
 refine gX [.w,.u,.z qg 0 [4,5,6,8,9,10,17]] (gS [.c qg,.b 1,.c qw,.r qx,.b 0,.c [1,1,1,1,1]] ?_)
 refine tC (some 27) (kV 0 [.ww,.ww,.ww,.e 1,.ww,.ww,.e 2]) 7 [] [3,4,5] [4,5,6,8,9,17] call207 (pack_put3 b_4 b_5 b_6 (((0+k_*1)+g_*65536)+0*140737488355328) 1 oa oa) (.e b_2 (.e b_3 .n)) .n ?_
 rintro v post ⟨rfl,rfl⟩
 refine tN .n ?_
 refine gX [.w,.u,.z qg 0 [4,5,6,8,9,10,17]] (gS [.c qg,.b 1,.c qw,.r qx,.b 0,.c [1,1,1,1,1]] ?_)
 refine tC (some 27) (kV 0 [.ww,.ww,.ww,.e 1,.ww,.ww,.e 2]) 7 [] [3,4,5] [4,5,6,8,9,17] call207 (pack_put4 b_4 b_5 b_6 ((((0+k_*1)+g_*65536)+0*140737488355328)+1*281474976710656) e_ oa oa) (.e b_2 (.e b_3 .n)) .n ?_
 rintro v post ⟨rfl,rfl⟩
 refine tN .n ?_
 exact gX [.w,.u,.e 5,.e 3] (gQ b_6 (gQ b_4 (gI (.tuple #[vU (((((0+k_*1)+g_*65536)+0*140737488355328)+1*281474976710656)+e_*562949953421312),.nilIface]) [] ⟨(congrArg (fun x:Int=>Value.tuple #[.int .u64 x,.nilIface]) (by unfold packW3; omega)),rfl⟩)))
theorem bits_SetX(w_ v_:Int)(hv:v_ = 2147483648):
  Ctr prog 166 #[vU w_,vI 16,vI 31,vU v_] [] (Ret (.tuple #[vU w_,.bool false]) []):=by
 exact cb 32 func166 fun F=>gX [.z [0,0,1] 2 [0,1,2,3,10,11]] (gS [.o [0,0,1] 2,.c [1,0,1],.c [1,1]] (gC (some 12) [] call190 (bits_may 16 31 oc) (gX [.z [0,0,1] 7 [0,1,2,3,14,15,16]] (gS [.o [0,0,1] 7,.c [1,0,1],.c [1,1]] (gC (some 17) [] call191 (bits_all 31 oc) (gX [.sp [20,19] [] [.dead]] (gQ ((bAndNot .u64 v_ (bShr .u64 18446744073709551615 (64-31))) != 0) (gT ((bAndNot .u64 v_ (bShr .u64 18446744073709551615 (64-31))) != 0) (by subst hv; decide) (gR (.tuple #[vU w_,.bool false]) [] ⟨rfl,rfl⟩)))))))))
theorem pack_putX(b1 b2 b3:Nat)(w_ v_:Int)(hv:v_ = 2147483648):
  Ctr prog 207 #[vI v_,vI 31,vP b1,vP b2,vP b3] [.pts b1 [vU w_] 60,.pts b2 [vI 16] 3,.pts b3 [.bool true] 4] (Ret (undef) [.pts b1 [vU w_] 60,.pts b2 [vI 47] 3,.pts b3 [.bool false] 4]):=by
 refine cb 26 func207 fun F=>gX [.e 0,.e 1,.n,.z [0] 5 [1,2,3,4,10,11,12,14]] (gQ b1 (gQ b2 (gO (InK .u64 v_) oh (gS [.o [0] 5,.c [1]] (gC (some 15) [] call166 (bits_SetX w_ v_ oM) (gX [.z [1] 0 [1,2,3,4,7,8]] (gS [.c [1]] (zG (zN [0,1,2,3,4,5,6,7] (kV 0 [.w,.e 2,.w,.w,.w,.e 1,.w,.w]) [1,2,3,4,7,8,18,19,20,21,22,23,24,25] [8] (.e b3 (.e b2 .n)) ⟨?_,trivial⟩)))))))))
 refine zX (.e 0) (sQ b1 (sK ?_))
 refine zN [] (kV 3 [.w,.w,.e 1,.w,.w]) [1,3,4,8,20,21,22,23,24,25] [9] (.e b2 .n) ⟨?_,trivial⟩
 refine zX (.e 2) (sQ b3 (sK ?_))
 refine zN [] (kV 5 [.e 1,.w,.w]) [1,3,23,24,25] [10] (.e b2 .n) ⟨?_,trivial⟩
 refine zX (.e 1) (sQ b2 (sK ?_))
 exact zE [] [] [] .n (gX [] (gJ [0,1,2] ⟨rfl,rfl⟩))
theorem ctl_PackO(e_ g_ k_:Int)(l_ b_:Bool)(hl:l_ = true)(hb:b_ = false)(he:0≤e_∧e_≤32767)(hg:g_ = 2147483648)(hk:0≤k_∧k_≤65535):
  Ctr prog 203 #[.agg #[vI e_,vI g_,vI k_,.bool l_,.bool b_]] [] (Ret (.tuple #[vU 0,.iface 42 (vI 1)]) []):=by
 refine cb 33 func203 fun F=>gX [.e 0,.z [0,1] 1 [12]] (gN fun b_1=>gQ b_1 (gS [.o [0,1] 1,.c [1,1]] (gC (some 13) [] call195 (ctl_partsV e_ g_ k_ l_ b_ hl hb) (gX [.e 1,.e 2,.e 3,.e 4,.e 5,.u,.z qg 0 [4,5,6,8,9,10,17]] (gN fun b_2=>gN fun b_3=>gQ b_2 (gQ b_3 (gN fun b_4=>gN fun b_5=>gN fun b_6=>gQ b_4 (gQ b_5 (gQ b_6 (gS [.c qg,.b 1,.c qw,.r qx,.b 0,.c [1,1,1,1,1]] ?_))))))))))
 refine tC (some 27) (kV 0 [.ww,.ww,.ww,.e 1,.ww,.ww,.e 2]) 7 [] [3,4,5] [4,5,6,8,9,17] call207 (pack_put0 b_4 b_5 b_6 0 k_ oa oa) (.e b_2 (.e b_3 .n)) .n ?_
 rintro v post ⟨rfl,rfl⟩
 refine tN .n ?_
 refine gX [.w,.u,.z qg 0 [4,5,6,8,9,10,17]] (gS [.c qg,.b 1,.c qw,.r qx,.b 0,.c [1,1,1,1,1]] ?_)
 refine tC (some 27) (kV 0 [.ww,.ww,.ww,.e 1,.ww,.ww,.e 2]) 7 [] [3,4,5] [4,5,6,8,9,17] call207 (pack_putX b_4 b_5 b_6 (0+k_*1) g_ hg) (.e b_2 (.e b_3 .n)) .n ?_
 rintro v post ⟨rfl,rfl⟩
 refine tN .n ?_
 refine gX [.w,.u,.z qg 0 [4,5,6,8,9,10,17]] (gS [.c qg,.b 1,.c qw,.r qx,.b 0,.c [1,1,1,1,1]] ?_)
 refine tC (some 27) (kV 0 [.ww,.ww,.ww,.e 1,.ww,.ww,.e 2]) 7 [] [3,4,5] [4,5,6,8,9,17] call207 (pack_put2F b_4 b_5 b_6 (0+k_*1) 0 oa oa) (.e b_2 (.e b_3 .n)) .n ?_
 rintro v post ⟨rfl,rfl⟩
 refine tN .n ?_
 refine gX [.w,.u,.z qg 0 [4,5,6,8,9,10,17]] (gS [.c qg,.b 1,.c qw,.r qx,.b 0,.c [1,1,1,1,1]] ?_)
 refine tC (some 27) (kV 0 [.ww,.ww,.ww,.e 1,.ww,.ww,.e 2]) 7 [] [3,4,5] [4,5,6,8,9,17] call207 (pack_put3F b_4 b_5 b_6 ((0+k_*1)+0*140737488355328) 1 oa oa) (.e b_2 (.e b_3 .n)) .n ?_
 rintro v post ⟨rfl,rfl⟩
 refine tN .n ?_
 refine gX [.w,.u,.z qg 0 [4,5,6,8,9,10,17]] (gS [.c qg,.b 1,.c qw,.r qx,.b 0,.c [1,1,1,1,1]] ?_)
 refine tC (some 27) (kV 0 [.ww,.ww,.ww,.e 1,.ww,.ww,.e 2]) 7 [] [3,4,5] [4,5,6,8,9,17] call207 (pack_put4F b_4 b_5 b_6 (((0+k_*1)+0*140737488355328)+1*281474976710656) e_ oa oa) (.e b_2 (.e b_3 .n)) .n ?_
 rintro v post ⟨rfl,rfl⟩
 refine tN .n ?_
 exact gX [.w,.u,.e 5,.z qcv 0 []] (gQ b_6 (gS [.o qcv 0,.c [1,0,1,0,1,1,1,1,1],.c [1,1,1,1,1,1]] (gC (some 31) [] call46 (cause_NewE 1 oc) (gX [] (gR (.tuple #[vU 0,.iface 42 (vI 1)]) [] ⟨rfl,rfl⟩)))))
theorem ctl_next(e_ g_ k_:Int)(l_ b_:Bool)(hl:l_ = true)(hb:b_ = false)(he:0≤e_∧e_≤32767)(hg:0≤g_∧g_+1≤2147483647)(hk:0≤k_∧k_≤65535):
  Ctr prog 196 #[.agg #[vI e_,vI g_,vI k_,.bool l_,.bool b_]] [] (Ret (.tuple #[vU (packW3 e_ 1 0 (g_+1) k_),.nilIface]) []):=by
 exact cb 19 func196 fun F=>gX [.e 0,.n,.e 0,.e 0,.z [0,1,1] 1 [11]] (gN fun b_1=>gQ b_1 (gO (InK .i64 (g_+1)) oh (gQ b_1 (gQ b_1 (gS [.o [0,1,1] 1,.c [1,1,1]] (gC (some 12) [] call203 (ctl_Pack e_ (g_+1) k_ l_ b_ hl hb oM oa oM) (gX [] (gR (.tuple #[vU (packW3 e_ 1 0 (g_+1) k_),.nilIface]) [] ⟨rfl,rfl⟩))))))))
theorem ctl_nextO(e_ g_ k_:Int)(l_ b_:Bool)(hl:l_ = true)(hb:b_ = false)(he:0≤e_∧e_≤32767)(hg:g_ = 2147483647)(hk:0≤k_∧k_≤65535):
  Ctr prog 196 #[.agg #[vI e_,vI g_,vI k_,.bool l_,.bool b_]] [] (Ret (.tuple #[vU 0,.iface 42 (vI 16)]) []):=by
 exact cb 19 func196 fun F=>gX [.e 0,.n,.e 0,.e 0,.z [0,1,1] 1 [11]] (gN fun b_1=>gQ b_1 (gO (InK .i64 (g_+1)) oh (gQ b_1 (gQ b_1 (gS [.o [0,1,1] 1,.c [1,1,1]] (gC (some 12) [] call203 (ctl_PackO e_ (g_+1) k_ l_ b_ hl hb oM oa oM) (gX [.z qcw 0 []] (gS [.o qcw 0,.c [1,0,1,0,1,1,1],.c [1,1,1,1]] (gC (some 17) [] call46 (cause_NewE 16 oc) (gX [] (gR (.tuple #[vU 0,.iface 42 (vI 16)]) [] ⟨rfl,rfl⟩)))))))))))
theorem ctl_Published(w_ k_:Int)(hw:U64 w_)(hl:ctlLive w_ = true)(hb:ctlBusy w_ = false)(hk:1≤k_∧k_≤65535)(hg:ctlGen w_≠2147483647):
  Ctr prog 182 #[vU w_,vI k_] [] (Ret (.tuple #[vU (pubW w_ k_),.nilIface]) []):=by
 exact cb 32 func182 fun F=>gX [.z [0,1] 1 [1,7]] (gS [.o [0,1] 1,.c [1,1]] (gC (some 8) [] call181 (ctl_Unpack w_ hw) (gX [.e 0,.e 0,.sp [13,12] [.dead] [.e 0,.sp [9,15,16] [.dead] [.sp [21,20] [.dead] [.sp [18,23,24] [.dead] [.e 0,.e 0,.z [0,1,1,1,1] 1 [28]]]]]] (gN fun b_2=>gQ b_2 (gQ b_2 (gQ (!(ctlLive w_)) (gF (!(ctlLive w_)) (by rw [hl]; rfl) (gQ b_2 (gQ (ctlBusy w_) (gQ (ctlBusy w_) (gF (ctlBusy w_) hb (gQ (decide (k_<1)) (gF (decide (k_<1)) (decide_eq_false oa) (gQ (decide (k_≥65536)) (gQ (decide (k_≥65536)) (gF (decide (k_≥65536)) (decide_eq_false oa) (gQ b_2 (gQ b_2 (gS [.o [0,1,1,1,1] 1,.c [1,1,1,1,1]] (gC (some 29) [] call196 (ctl_next (ctlEpoch w_) (ctlGen w_) k_ (ctlLive w_) (ctlBusy w_) hl hb (by have:=ctl_rng hw; omega) (by have:=ctl_rng hw; omega) oa) (gX [] (gR (.tuple #[vU (packW3 (ctlEpoch w_) 1 0 ((ctlGen w_)+1) k_),.nilIface]) [] ⟨rfl,rfl⟩))))))))))))))))))))))
theorem ctl_PublishedO(w_ k_:Int)(hw:U64 w_)(hl:ctlLive w_ = true)(hb:ctlBusy w_ = false)(hk:1≤k_∧k_≤65535)(hg:ctlGen w_ = 2147483647):
  Ctr prog 182 #[vU w_,vI k_] [] (Ret (.tuple #[vU 0,.iface 42 (vI 16)]) []):=by
 exact cb 32 func182 fun F=>gX [.z [0,1] 1 [1,7]] (gS [.o [0,1] 1,.c [1,1]] (gC (some 8) [] call181 (ctl_Unpack w_ hw) (gX [.e 0,.e 0,.sp [13,12] [.dead] [.e 0,.sp [9,15,16] [.dead] [.sp [21,20] [.dead] [.sp [18,23,24] [.dead] [.e 0,.e 0,.z [0,1,1,1,1] 1 [28]]]]]] (gN fun b_2=>gQ b_2 (gQ b_2 (gQ (!(ctlLive w_)) (gF (!(ctlLive w_)) (by rw [hl]; rfl) (gQ b_2 (gQ (ctlBusy w_) (gQ (ctlBusy w_) (gF (ctlBusy w_) hb (gQ (decide (k_<1)) (gF (decide (k_<1)) (decide_eq_false oa) (gQ (decide (k_≥65536)) (gQ (decide (k_≥65536)) (gF (decide (k_≥65536)) (decide_eq_false oa) (gQ b_2 (gQ b_2 (gS [.o [0,1,1,1,1] 1,.c [1,1,1,1,1]] (gC (some 29) [] call196 (ctl_nextO (ctlEpoch w_) (ctlGen w_) k_ (ctlLive w_) (ctlBusy w_) hl hb (by have:=ctl_rng hw; omega) hg oa) (gX [] (gR (.tuple #[vU 0,.iface 42 (vI 16)]) [] ⟨rfl,rfl⟩))))))))))))))))))))))
theorem ctl_PublishedD(w_ k_:Int)(hw:U64 w_)(hl:ctlLive w_ = false):
  Ctr prog 182 #[vU w_,vI k_] [] (Ret (.tuple #[vU 0,.iface 42 (vI 13)]) []):=by
 exact cb 32 func182 fun F=>gX [.z [0,1] 1 [1,7]] (gS [.o [0,1] 1,.c [1,1]] (gC (some 8) [] call181 (ctl_Unpack w_ oM) (gX [.e 0,.e 0,.sp [13,12] [.z qba 0 []] [.dead]] (gN fun b_2=>gQ b_2 (gQ b_2 (gQ (!(ctlLive w_)) (gT (!(ctlLive w_)) (by rw [hl]; rfl) (gS [.o qba 0,.c qcx,.b 0,.c [1,1,1]] (gC (some 17) [] call46 (cause_NewE 13 oc) (gX [] (gR (.tuple #[vU 0,.iface 42 (vI 13)]) [] ⟨rfl,rfl⟩)))))))))))
theorem ctl_PublishedB(w_ k_:Int)(hw:U64 w_)(hl:ctlLive w_ = true)(hb:ctlBusy w_ = true):
  Ctr prog 182 #[vU w_,vI k_] [] (Ret (.tuple #[vU 0,.iface 42 (vI 13)]) []):=by
 exact cb 32 func182 fun F=>gX [.z [0,1] 1 [1,7]] (gS [.o [0,1] 1,.c [1,1]] (gC (some 8) [] call181 (ctl_Unpack w_ oM) (gX [.e 0,.e 0,.sp [13,12] [.dead] [.e 0,.sp [9,15,16] [.z qba 0 []] [.dead]]] (gN fun b_2=>gQ b_2 (gQ b_2 (gQ (!(ctlLive w_)) (gF (!(ctlLive w_)) (by rw [hl]; rfl) (gQ b_2 (gQ (ctlBusy w_) (gQ (ctlBusy w_) (gT (ctlBusy w_) hb (gS [.o qba 0,.c qcx,.b 0,.c [1,1,1]] (gC (some 17) [] call46 (cause_NewE 13 oc) (gX [] (gR (.tuple #[vU 0,.iface 42 (vI 13)]) [] ⟨rfl,rfl⟩)))))))))))))))
end Go.Proofs.YtpcaijopodhdgaaGreatDoor
namespace Go.Proofs.YtpcaijopodhdgaaGreatDoor
open Go.Proofs.Tryz
open Go.Sx
abbrev qy: List Nat:=[0,0,1,0,0,1,1,1]
abbrev qay: List Nat:=[1,0,1,0,0,1,1,1]
abbrev qcy: List Nat:=[0,0,1,1,1,0,0,1,1,1]
theorem clo_fill(c:Cfg)(p ba bf bp:Nat)(wd ep bk od sn fl tm cd:Int)(wa:Option Addr)(wc:Nat)(ws:List Int)(r_ th_:Value)(i fr:Int)(A:Ar)(hi0:0≤i∧i<(ws.length:Int))(hx:0≤fr+i∧fr+i<A.n)(hfr:0≤fr∧fr≤1000000)(hn:A.ws.length=A.n)(hs:0≤A.steps∧A.steps≤1000000000)(hl:ws.length≤1000000):
  Ctr prog 106 #[vP ba,vI i,vP bf,vP bp] [.pts bf [vI fr] 3,.pts bp [vP p] 23,En p r_ th_ cd false c wd ep wa ws.length wc bk od sn fl tm,Ee wa wc ws,Eb ba A,Ea A] (Ret (undef) [.pts bf [vI fr] 3,.pts bp [vP p] 23,En p r_ th_ cd false c wd ep wa ws.length wc bk od sn fl tm,Ee wa wc ws,Eb ba (A.store (fr+i) (ws.getD i.toNat 0)),Ea (A.store (fr+i) (ws.getD i.toNat 0))]):=by
 refine cb 18 func106 fun F => ?_
 refine tC (some 17) (kV 0 [.ww,.e 0,.ww,.h (.n),.e 1,.ww,.ww,.e 2,.ww,.h (.s 3),.h (.j 3 i.toNat)]) 11 [] [4,5] [] call107 (arena_Store ba A (fr+i) (ws.getD i.toNat 0) oM hx oM) (.e bf (.p (InK .i64 (fr+i)) oh (.e bp (.e p (.p (wa=wa∧ws.length=ws.length) ⟨rfl,oe⟩ (.p ((0:Int)≤i∧i<(ws.length:Int)) oW (.e (slAt wa i.toNat 1) (.p (i.toNat<ws.length) oW .n)))))))) .n ?_
 rintro v post ⟨rfl,rfl⟩
 refine tN .n ?_
 exact gX [] (gJ [0,1,2,3,4,5] ⟨rfl,rfl⟩)
theorem each_fill(c:Cfg)(p ba bf bp eb:Nat)(wd ep bk od sn fl tm cd:Int)(wa:Option Addr)(wc:Nat)(ws:List Int)(r_ th_:Value)(i fr:Int)(A:Ar)(hi0:0≤i∧i<(ws.length:Int))(hx:0≤fr+i∧fr+i<A.n)(hfr:0≤fr∧fr≤1000000)(hn:A.ws.length=A.n)(hs:0≤A.steps∧A.steps≤1000000000)(hl:ws.length≤1000000):
  Ctr prog 231 #[vP eb,vP ba] [.pts eb [vI i,vI (ws.length:Int),.func (.func 106) #[] #[vP bf,vP bp]] 176,.pts bf [vI fr] 3,.pts bp [vP p] 23,En p r_ th_ cd false c wd ep wa ws.length wc bk od sn fl tm,Ee wa wc ws,Eb ba A,Ea A] (Ret (.bool ((i+1)==(ws.length:Int))) [.pts eb [vI (i+1),vI (ws.length:Int),.func (.func 106) #[] #[vP bf,vP bp]] 176,.pts bf [vI fr] 3,.pts bp [vP p] 23,En p r_ th_ cd false c wd ep wa ws.length wc bk od sn fl tm,Ee wa wc ws,Eb ba (A.store (fr+i) (ws.getD i.toNat 0)),Ea (A.store (fr+i) (ws.getD i.toNat 0))]):=by
 refine cb 31 func231 fun F=>gX [.z [0,1] 0 [0,1]] (gS [.c [0,1],.c [1,1]] ?_)
 refine tC (some 14) (kV 0 [.ww,.ww,.ww,.e 0,.ww,.ww,.ww,.ww,.e 0]) 9 [] [1,2,3,4,5,6] [0] call106 (clo_fill c p ba bf bp wd ep bk od sn fl tm cd wa wc ws r_ th_ i fr A hi0 hx hfr oM oM oM) (.e eb (.e eb .n)) .n ?_
 rintro v post ⟨rfl,rfl⟩
 refine tN .n ?_
 exact gX [.e 0,.n,.e 0,.z [0,1,1,1] 0 [0]] (gQ eb (gO (InK .i64 (i+1)) oh (gQ eb (gS [.c [0,1,1,1],.c [1,1,1,1]] (qG (kV 0 [.ww,.ww,.ww,.e 0,.ww,.ww,.ww,.e 0,.ww,.ww]) [4] (.e eb (.e eb .n)) .n (gX [] (gJ [0,1,2,3,4,5,6] ⟨rfl,rfl⟩)))))))
theorem pub_filled(c:Cfg)(p:Nat)(wd ep bk od sn fl tm cd:Int)(ov:Bool)(wsl:Value)(r_ th_:Value):
  Ctr prog 108 #[vP p] [Eh p r_ th_ cd ov c wd ep wsl bk od sn fl tm] (fun v L => ∃(eb:Nat) (bp:Nat),v=undef∧L=[Eh p (.iface 173 (vP eb)) (.func (.func 157) #[vP p] #[]) cd ov c wd ep wsl bk od sn fl tm,.pts eb [vI 0,vI 1,.func (.func 156) #[] #[vP bp]] 176,.pts bp [vP p] 23]):=by
 refine cb 12 func108 fun F=>gX [.z [1] 0 [1]] (gN fun b_1=>gW (ks:=[.c [1]]) [(1,vP b_1)] [Eh p r_ th_ cd ov c wd ep wsl bk od sn fl tm,.pts b_1 [vP p] 23] (zG (zN [0,1,2,3,4,7,8] (kV 0 [.e 1,.w,.w,.w,.w]++kV 7 [.e 1,.w]) [1,2,3,4,5,6,9,10] [5] (.e b_1 (.e b_1 .n)) ⟨?_,trivial⟩)))
 refine zX .w (sN fun b_5_1=>(sV ?_))
 refine zN [6] (kV 0 [.e 1,.w,.w]++kV 6 [.w,.e 1,.w]) [7,1,2,3,4,8,9,10] [9] (.e b_1 (.e b_1 .n)) ⟨?_,trivial⟩
 refine zC (some 11) [0] call50 (pub_follow c p wd ep bk od sn fl tm cd ov wsl r_ th_ 173 b_5_1 (.func 157) (#[vP p]) (#[])) ?_
 rintro v post ⟨rfl,rfl⟩
 exact zE [] [] [] .n (gX [] (gJ [2,1,0] ⟨b_5_1,b_1,rfl,rfl⟩))
theorem clo_look(c:Cfg)(p ba bp:Nat)(wd ep bk od sn fl tm cd:Int)(ov:Bool)(wsl:Value)(r_ th_:Value)(A:Ar)(hn:A.ws.length=A.n)(hs:0≤A.steps∧A.steps≤1000000000)(hi:0≤wd∧wd<A.n):
  Ctr prog 156 #[vP ba,vI 0,vP bp] [.pts bp [vP p] 23,Eh p r_ th_ cd ov c wd ep wsl bk od sn fl tm,Eb ba A,Ea A] (Ret (undef) [.pts bp [vP p] 23,Eh p r_ th_ cd ov c wd ep wsl bk od (A.ws.getD wd.toNat 0) fl tm,Eb ba (A.load wd),Ea (A.load wd)]):=by
 refine cb 14 func156 fun F=>zG (zN [0,1,2,3,4,5] (kV 0 [.e 0,.w,.e 0,.w,.w,.e 1]) [0,2,5,6,7,8,9,10] [6] (.e bp (.e bp (.e p .n))) ⟨?_,trivial⟩)
 refine zC (some 11) [2,3] call116 (arena_Load ba A wd oM hi oM) ?_
 rintro v post ⟨rfl,rfl⟩
 refine zN [7,8] [(0,.e 0),(7,.w),(8,.w)] [11,2,5,12,13] [9] (.e bp .n) ⟨?_,trivial⟩
 refine zX (.e 1) (sQ p (sK ?_))
 exact zE [] [] [] .n (gX [] (gJ [0,1,2,3] ⟨rfl,rfl⟩))
theorem each_look(c:Cfg)(p ba bp eb:Nat)(wd ep bk od sn fl tm cd:Int)(ov:Bool)(wsl:Value)(r_ th_:Value)(A:Ar)(hn:A.ws.length=A.n)(hs:0≤A.steps∧A.steps≤1000000000)(hi:0≤wd∧wd<A.n):
  Ctr prog 231 #[vP eb,vP ba] [.pts eb [vI 0,vI 1,.func (.func 156) #[] #[vP bp]] 176,.pts bp [vP p] 23,Eh p r_ th_ cd ov c wd ep wsl bk od sn fl tm,Eb ba A,Ea A] (Ret (.bool true) [.pts eb [vI 1,vI 1,.func (.func 156) #[] #[vP bp]] 176,.pts bp [vP p] 23,Eh p r_ th_ cd ov c wd ep wsl bk od (A.ws.getD wd.toNat 0) fl tm,Eb ba (A.load wd),Ea (A.load wd)]):=by
 refine cb 31 func231 fun F=>gX [.z [0,1] 0 [0,1]] (gS [.c [0,1],.c [1,1]] ?_)
 refine tC (some 14) (kV 0 [.ww,.ww,.ww,.e 0,.ww,.ww,.ww,.ww,.e 0]) 9 [] [1,2,3,4] [0] call156 (clo_look c p ba bp wd ep bk od sn fl tm cd ov wsl r_ th_ A oM oM hi) (.e eb (.e eb .n)) .n ?_
 rintro v post ⟨rfl,rfl⟩
 refine tN .n ?_
 exact gX [.e 0,.w,.e 0,.z [0,1,1,1] 0 [0]] (gQ eb (gQ eb (gS [.c [0,1,1,1],.c [1,1,1,1]] (qG (kV 0 [.ww,.ww,.ww,.e 0,.ww,.ww,.ww,.e 0,.ww,.ww]) [4] (.e eb (.e eb .n)) .n (gX [] (gJ [0,1,2,3,4] ⟨rfl,rfl⟩))))))
theorem pub_fail(c:Cfg)(p:Nat)(wd ep bk od sn fl tm cd:Int)(ov:Bool)(wsl:Value)(r_ th_:Value)(k_:Int)(hc:c.Ok)(hb:0≤clsOf c bk):
  Ctr prog 183 #[vP p,vI k_] [Eh p r_ th_ cd ov c wd ep wsl bk od sn fl tm] (fun v L => ∃(gv:Nat) (bq:Nat) (bc:Nat),v=undef∧L=[Eh p (.iface 147 (vP gv)) (.func (.func 197) #[] #[vP bq,vP bc]) cd ov c wd ep wsl bk od sn fl tm,Ek gv c (3+clsOf c bk) 0 (.func (.func 192) #[vP gv] #[]) bk,.pts bq [vP p] 23,.pts bc [vI k_] 42]):=by
 refine cb 19 func183 fun F=>gX [.z [1] 0 [2,3]] (gN fun b_1=>gN fun b_2=>gW (ks:=[.c [1]]) [(2,vP b_1),(3,vP b_2)] [Eh p r_ th_ cd ov c wd ep wsl bk od sn fl tm,.pts b_1 [vP p] 23,.pts b_2 [vI k_] 42] (zG (zN [0,1,2,3,4,5,6,7,8,9,10,13] (kV 0 [.e 1,.w,.w,.e 1,.w,.w,.e 0,.e 1,.w,.w,.e 0]++kV 13 [.w]) [2,3,4,5,6,7,8,9,10,11,12,13,14,17] [11] (.e b_1 (.e b_1 (.e p (.e b_1 (.e p .n))))) ⟨?_,trivial⟩)))
 refine zC (some 15) [] call173 (new_Give c bk oM hb) ?_
 rintro v post ⟨gv_11_1,rfl,rfl⟩
 refine zN [12] [(0,.e 1),(1,.w),(2,.w),(12,.w),(13,.w)] [15,2,3,4,5,6,16,17] [14] (.e b_1 .n) ⟨?_,trivial⟩
 refine zC (some 18) [0] call50 (pub_follow c p wd ep bk od sn fl tm cd ov wsl r_ th_ 147 gv_11_1 (.func 197) (#[]) (#[vP b_1,vP b_2])) ?_
 rintro v post ⟨rfl,rfl⟩
 exact zE [] [] [] .n (gX [] (gJ [3,2,0,1] ⟨gv_11_1,b_1,b_2,rfl,rfl⟩))
theorem pub_then5(c:Cfg)(p bq bc:Nat)(wd ep bk od sn fl tm cd:Int)(ov:Bool)(wsl:Value)(r_ th_:Value)(k_:Int):
  Ctr prog 197 #[vP bq,vP bc] [.pts bq [vP p] 23,.pts bc [vI k_] 42,Eh p r_ th_ cd ov c wd ep wsl bk od sn fl tm] (Ret (undef) [.pts bq [vP p] 23,.pts bc [vI k_] 42,Eh p r_ th_ k_ true c wd ep wsl 0 od sn fl tm]):=by
 refine cb 10 func197 fun F=>gX [.e 0,.e 2,.z [1] 0 [0,1]] (gQ bq (gQ p (gS [.c [1]] ?_)))
 refine tC (some 9) (kV 0 [.e 0,.ww,.ww,.e 1]) 4 [] [2] [] call57 (pub_end c p wd ep 0 od sn fl tm cd ov wsl r_ th_ k_) (.e bq (.e bc .n)) .n ?_
 rintro v post ⟨rfl,rfl⟩
 refine tN .n ?_
 exact gX [] (gJ [0,1,2] ⟨rfl,rfl⟩)
theorem pub_lookedD(c:Cfg)(p:Nat)(wd ep bk od sn fl tm cd:Int)(ov:Bool)(wsl:Value)(r_ th_:Value)(hw:U64 sn)(hk:1≤bk∧bk≤65535)(hc:c.Ok)(hcl:0≤clsOf c bk)(hl:ctlLive sn=false):
  Ctr prog 157 #[vP p] [Eh p r_ th_ cd ov c wd ep wsl bk od sn fl tm] (fun v L => ∃(gv:Nat) (bq:Nat) (bc:Nat),v=undef∧L=[Eh p (.iface 147 (vP gv)) (.func (.func 197) #[] #[vP bq,vP bc]) cd ov c wd ep wsl bk od sn fl tm,Ek gv c (3+clsOf c bk) 0 (.func (.func 192) #[vP gv] #[]) bk,.pts bq [vP p] 23,.pts bc [vI 22] 42]):=by
 refine cb 56 func157 fun F=>gX [.e 1,.e 0,.z [0,1] 4 [1,9]] (gN fun b_1=>gQ b_1 (gQ p (gS [.o [0,1] 4,.c [1,1]] (gC (some 10) [] call181 (ctl_Unpack sn hw) (gX [.e 2,.z [0,1,1] 0 [1,2]] (gN fun b_3=>gQ b_3 (gS [.c [0,1,1],.c [1,1,1]] (zG (zN [0,1,2,3,4,5,6,7,8,9,10,11] (kV 0 [.e 1,.w,.w,.e 0,.e 1,.w,.w,.e 0,.q (.tuple #[vU 0,.iface 42 (vI 13)]),.w,.w,.w]) [1,2,12,13,14,15,16,17,18,19,20,11,21,22] [12] (.e b_1 (.e p (.e b_1 (.e p (.q (lQ [] call182 (ctl_PublishedD sn bk hw hl)) .n))))) ⟨?_,trivial⟩)))))))))
 refine zX .w (sN fun b_12_1=>(sV ?_))
 refine zN [] (kV 0 [.e 1,.w,.w,.e 0,.e 1,.w,.w,.e 0,.q (.tuple #[vU 0,.iface 42 (vI 13)]),.w,.w,.w]) [3,1,2,12,13,14,15,16,17,18,19,20,11,21,22] [13] (.e b_1 (.e p (.e b_1 (.e p (.q (lQ [] call182 (ctl_PublishedD sn bk hw hl)) .n))))) ⟨?_,trivial⟩
 refine zX (.e 3) (sQ b_12_1 (sK ?_))
 refine zE [14] [(11,.w),(14,.w)] [3,1,2,4] .n (gX [.z [0,0,0,1,1,1] 0 [1,2,3,4]] (gS [.c [0,0,0,1,1,1],.c [1,0,0,1,1,1],.b 0,.c [1,1,1,1]] (qG (kV 0 [.ww,.e 2,.t true,.ww,.ww,.ww,.ww,.ww,.ww,.ww,.ww,.ww,.ww,.ww,.ww,.ww,.ww]) [1,2,3,4,23] (.e b_3 (.p ((!(ctlLive sn))=true) (by rw [hl]; rfl) .n)) .n (gX [.e 1,.z qy 1 [40]] (gQ b_1 (gS [.o qy 1,.c qay,.b 0,.c [1,1,1,1]] ?_))))))
 refine go_call (some 41) [0] call183 (pub_fail c p wd ep bk od sn fl tm cd ov wsl r_ th_ 22 hc hcl) kR ?_
 rintro v post ⟨gv_4,bq_5,bc_6,rfl,rfl⟩
 exact gX [] (gJ [3,4,5,6] ⟨gv_4,bq_5,bc_6,rfl,rfl⟩)
theorem pub_lookedB(c:Cfg)(p:Nat)(wd ep bk od sn fl tm cd:Int)(ov:Bool)(wsl:Value)(r_ th_:Value)(hw:U64 sn)(hk:1≤bk∧bk≤65535)(hc:c.Ok)(hcl:0≤clsOf c bk)(hl:ctlLive sn=true)(he:ctlEpoch sn=ep)(hb:ctlBusy sn=true):
  Ctr prog 157 #[vP p] [Eh p r_ th_ cd ov c wd ep wsl bk od sn fl tm] (fun v L => ∃(gv:Nat) (bq:Nat) (bc:Nat),v=undef∧L=[Eh p (.iface 147 (vP gv)) (.func (.func 197) #[] #[vP bq,vP bc]) cd ov c wd ep wsl bk od sn fl tm,Ek gv c (3+clsOf c bk) 0 (.func (.func 192) #[vP gv] #[]) bk,.pts bq [vP p] 23,.pts bc [vI 22] 42]):=by
 refine cb 56 func157 fun F=>gX [.e 1,.e 0,.z [0,1] 4 [1,9]] (gN fun b_1=>gQ b_1 (gQ p (gS [.o [0,1] 4,.c [1,1]] (gC (some 10) [] call181 (ctl_Unpack sn hw) (gX [.e 2,.z [0,1,1] 0 [1,2]] (gN fun b_3=>gQ b_3 (gS [.c [0,1,1],.c [1,1,1]] (zG (zN [0,1,2,3,4,5,6,7,8,9,10,11] (kV 0 [.e 1,.w,.w,.e 0,.e 1,.w,.w,.e 0,.q (.tuple #[vU 0,.iface 42 (vI 13)]),.w,.w,.w]) [1,2,12,13,14,15,16,17,18,19,20,11,21,22] [12] (.e b_1 (.e p (.e b_1 (.e p (.q (lQ [] call182 (ctl_PublishedB sn bk hw hl hb)) .n))))) ⟨?_,trivial⟩)))))))))
 refine zX .w (sN fun b_12_1=>(sV ?_))
 refine zN [] (kV 0 [.e 1,.w,.w,.e 0,.e 1,.w,.w,.e 0,.q (.tuple #[vU 0,.iface 42 (vI 13)]),.w,.w,.w]) [3,1,2,12,13,14,15,16,17,18,19,20,11,21,22] [13] (.e b_1 (.e p (.e b_1 (.e p (.q (lQ [] call182 (ctl_PublishedB sn bk hw hl hb)) .n))))) ⟨?_,trivial⟩
 refine zX (.e 3) (sQ b_12_1 (sK ?_))
 refine zE [14] [(11,.w),(14,.w)] [3,1,2,4] .n (gX [.z [0,0,0,1,1,1] 0 [1,2,3,4]] (gS [.c [0,0,0,1,1,1],.c [1,0,0,1,1,1],.b 0,.c [1,1,1,1]] (qG (kV 0 [.ww,.e 2,.t false,.ww,.ww,.e 2,.e 1,.ww,.ww,.e 0,.t false,.ww,.ww,.ww,.e 2,.t true,.ww]) [1,2,3,4,23] (.e b_3 (.p ((!(ctlLive sn))=false) (by rw [hl]; rfl) (.e b_3 (.e b_1 (.e p (.p (((ctlEpoch sn) != ep)=false) (bne_eq_false_iff_eq.2 he) (.e b_3 (.p ((ctlBusy sn)=true) hb .n)))))))) .n (gX [.e 1,.z qy 1 [40]] (gQ b_1 (gS [.o qy 1,.c qay,.b 0,.c [1,1,1,1]] ?_))))))
 refine go_call (some 41) [0] call183 (pub_fail c p wd ep bk od sn fl tm cd ov wsl r_ th_ 22 hc hcl) kR ?_
 rintro v post ⟨gv_4,bq_5,bc_6,rfl,rfl⟩
 exact gX [] (gJ [3,4,5,6] ⟨gv_4,bq_5,bc_6,rfl,rfl⟩)
theorem pub_lookedO(c:Cfg)(p:Nat)(wd ep bk od sn fl tm cd:Int)(ov:Bool)(wsl:Value)(r_ th_:Value)(hw:U64 sn)(hk:1≤bk∧bk≤65535)(hc:c.Ok)(hcl:0≤clsOf c bk)(hl:ctlLive sn=true)(he:ctlEpoch sn=ep)(hb:ctlBusy sn=false)(hg:ctlGen sn=2147483647):
  Ctr prog 157 #[vP p] [Eh p r_ th_ cd ov c wd ep wsl bk od sn fl tm] (fun v L => ∃(gv:Nat) (bq:Nat) (bc:Nat),v=undef∧L=[Eh p (.iface 147 (vP gv)) (.func (.func 197) #[] #[vP bq,vP bc]) cd ov c wd ep wsl bk od sn fl tm,Ek gv c (3+clsOf c bk) 0 (.func (.func 192) #[vP gv] #[]) bk,.pts bq [vP p] 23,.pts bc [vI 16] 42]):=by
 refine cb 56 func157 fun F=>gX [.e 1,.e 0,.z [0,1] 4 [1,9]] (gN fun b_1=>gQ b_1 (gQ p (gS [.o [0,1] 4,.c [1,1]] (gC (some 10) [] call181 (ctl_Unpack sn hw) (gX [.e 2,.z [0,1,1] 0 [1,2]] (gN fun b_3=>gQ b_3 (gS [.c [0,1,1],.c [1,1,1]] (zG (zN [0,1,2,3,4,5,6,7,8,9,10,11] (kV 0 [.e 1,.w,.w,.e 0,.e 1,.w,.w,.e 0,.q (.tuple #[vU 0,.iface 42 (vI 16)]),.w,.w,.w]) [1,2,12,13,14,15,16,17,18,19,20,11,21,22] [12] (.e b_1 (.e p (.e b_1 (.e p (.q (lQ [] call182 (ctl_PublishedO sn bk hw hl hb hk hg)) .n))))) ⟨?_,trivial⟩)))))))))
 refine zX .w (sN fun b_12_1=>(sV ?_))
 refine zN [] (kV 0 [.e 1,.w,.w,.e 0,.e 1,.w,.w,.e 0,.q (.tuple #[vU 0,.iface 42 (vI 16)]),.w,.w,.w]) [3,1,2,12,13,14,15,16,17,18,19,20,11,21,22] [13] (.e b_1 (.e p (.e b_1 (.e p (.q (lQ [] call182 (ctl_PublishedO sn bk hw hl hb hk hg)) .n))))) ⟨?_,trivial⟩
 refine zX (.e 3) (sQ b_12_1 (sK ?_))
 refine zE [14] [(11,.w),(14,.w)] [3,1,2,4] .n (gX [.z [0,0,0,1,1,1] 0 [1,2,3,4]] (gS [.c [0,0,0,1,1,1],.c [1,0,0,1,1,1],.b 0,.c [1,1,1,1]] (qG (kV 0 [.ww,.e 2,.t false,.ww,.ww,.e 2,.e 1,.ww,.ww,.e 0,.t false,.ww,.ww,.ww,.e 2,.t false,.ww]) [1,2,3,4,23] (.e b_3 (.p ((!(ctlLive sn))=false) (by rw [hl]; rfl) (.e b_3 (.e b_1 (.e p (.p (((ctlEpoch sn) != ep)=false) (bne_eq_false_iff_eq.2 he) (.e b_3 (.p ((ctlBusy sn)=false) hb .n)))))))) .n (gX [.e 1,.z qcy 1 [45]] (gQ b_1 (gS [.o qcy 1,.c [1,0,1,1,1,0,0,1,1,1],.b 0,.c [1,1,1,1]] ?_))))))
 refine go_call (some 46) [0] call183 (pub_fail c p wd ep bk od sn fl tm cd ov wsl r_ th_ 16 hc hcl) kR ?_
 rintro v post ⟨gv_4,bq_5,bc_6,rfl,rfl⟩
 exact gX [] (gJ [3,4,5,6] ⟨gv_4,bq_5,bc_6,rfl,rfl⟩)
theorem pub_lookedK(c:Cfg)(p:Nat)(wd ep bk od sn fl tm cd:Int)(ov:Bool)(wsl:Value)(r_ th_:Value)(hw:U64 sn)(hk:1≤bk∧bk≤65535)(hc:c.Ok)(hcl:0≤clsOf c bk)(hl:ctlLive sn=true)(he:ctlEpoch sn=ep)(hb:ctlBusy sn=false)(hg:ctlGen sn≠2147483647):
  Ctr prog 157 #[vP p] [Eh p r_ th_ cd ov c wd ep wsl bk od sn fl tm] (fun v L => ∃(eb:Nat) (bp:Nat) (b3:Nat) (b5:Nat) (b2:Nat),v=undef∧L=[Eh p (.iface 173 (vP eb)) (.func (.func 186) #[] #[vP bp,vP b5,vP b2]) cd ov c wd ep wsl bk od sn fl tm,.pts eb [vI 0,vI 1,.func (.func 184) #[] #[vP bp,vP b3,vP b5]] 176,.pts bp [vP p] 23,.pts b3 [vU (pubW sn bk)] 60,.pts b5 [.bool false] 4,Eu b2 (ctlEpoch sn) (ctlGen sn) (ctlBlock sn) (ctlLive sn) (ctlBusy sn)]):=by
 refine cb 56 func157 fun F=>gX [.e 1,.e 0,.z [0,1] 4 [1,9]] (gN fun b_1=>gQ b_1 (gQ p (gS [.o [0,1] 4,.c [1,1]] (gC (some 10) [] call181 (ctl_Unpack sn hw) (gX [.e 2,.z [0,1,1] 0 [1,2]] (gN fun b_3=>gQ b_3 (gS [.c [0,1,1],.c [1,1,1]] (zG (zN [0,1,2,3,4,5,6,7,8,9,10,11] (kV 0 [.e 1,.w,.w,.e 0,.e 1,.w,.w,.e 0,.q (.tuple #[vU (pubW sn bk),.nilIface]),.w,.w,.w]) [1,2,12,13,14,15,16,17,18,19,20,11,21,22] [12] (.e b_1 (.e p (.e b_1 (.e p (.q (lQ [] call182 (ctl_Published sn bk hw hl hb hk hg)) .n))))) ⟨?_,trivial⟩)))))))))
 refine zX .w (sN fun b_12_1=>(sV ?_))
 refine zN [] (kV 0 [.e 1,.w,.w,.e 0,.e 1,.w,.w,.e 0,.q (.tuple #[vU (pubW sn bk),.nilIface]),.w,.w,.w]) [3,1,2,12,13,14,15,16,17,18,19,20,11,21,22] [13] (.e b_1 (.e p (.e b_1 (.e p (.q (lQ [] call182 (ctl_Published sn bk hw hl hb hk hg)) .n))))) ⟨?_,trivial⟩
 refine zX (.e 3) (sQ b_12_1 (sK ?_))
 exact zE [14] [(11,.w),(14,.w)] [3,1,2,4] .n (gX [.z [0,0,0,1,1,1] 0 [1,2,3,4]] (gS [.c [0,0,0,1,1,1],.c [1,0,0,1,1,1],.b 0,.c [1,1,1,1]] (qG (kV 0 [.ww,.e 2,.t false,.ww,.ww,.e 2,.e 1,.ww,.ww,.e 0,.t false,.ww,.ww,.ww,.e 2,.t false,.ww]) [1,2,3,4,23] (.e b_3 (.p ((!(ctlLive sn))=false) (by rw [hl]; rfl) (.e b_3 (.e b_1 (.e p (.p (((ctlEpoch sn) != ep)=false) (bne_eq_false_iff_eq.2 he) (.e b_3 (.p ((ctlBusy sn)=false) hb .n)))))))) .n (gX [.e 4,.e 1,.z [1,1,1,1,1] 8 [49,53,54]] (gN fun b_4=>gQ b_4 (gQ b_1 (gN fun b_5=>gW (ks:=[.o [1,1,1,1,1] 8]) [(49,vP p),(53,.iface 173 (vP b_5)),(54,.func (.func 186) #[] #[vP b_1,vP b_4,vP b_3])] [Eh p r_ th_ cd ov c wd ep wsl bk od sn fl tm,.pts b_1 [vP p] 23,Eu b_3 (ctlEpoch sn) (ctlGen sn) (ctlBlock sn) (ctlLive sn) (ctlBusy sn),.pts b_12_1 [vU (pubW sn bk)] 60,.pts b_4 [.bool false] 4,.pts b_5 [vI 0,vI 1,.func (.func 184) #[] #[vP b_1,vP b_12_1,vP b_4]] 176] (gC (some 55) [0] call50 (pub_follow c p wd ep bk od sn fl tm cd ov wsl r_ th_ 173 b_5 (.func 186) (#[]) (#[vP b_1,vP b_4,vP b_3])) (gX [] (gJ [5,4,0,2,3,1] ⟨b_5,b_1,b_12_1,b_4,b_3,rfl,rfl⟩))))))))))
theorem pub_lookedE1(c:Cfg)(p:Nat)(wd ep bk od sn fl tm cd:Int)(ov:Bool)(wsl:Value)(r_ th_:Value)(hw:U64 sn)(hk:1≤bk∧bk≤65535)(hc:c.Ok)(hcl:0≤clsOf c bk)(hl:ctlLive sn=true)(he:ctlEpoch sn≠ep)(hb:ctlBusy sn=true):
  Ctr prog 157 #[vP p] [Eh p r_ th_ cd ov c wd ep wsl bk od sn fl tm] (fun v L => ∃(gv:Nat) (bq:Nat) (bc:Nat),v=undef∧L=[Eh p (.iface 147 (vP gv)) (.func (.func 197) #[] #[vP bq,vP bc]) cd ov c wd ep wsl bk od sn fl tm,Ek gv c (3+clsOf c bk) 0 (.func (.func 192) #[vP gv] #[]) bk,.pts bq [vP p] 23,.pts bc [vI 22] 42]):=by
 refine cb 56 func157 fun F=>gX [.e 1,.e 0,.z [0,1] 4 [1,9]] (gN fun b_1=>gQ b_1 (gQ p (gS [.o [0,1] 4,.c [1,1]] (gC (some 10) [] call181 (ctl_Unpack sn hw) (gX [.e 2,.z [0,1,1] 0 [1,2]] (gN fun b_3=>gQ b_3 (gS [.c [0,1,1],.c [1,1,1]] (zG (zN [0,1,2,3,4,5,6,7,8,9,10,11] (kV 0 [.e 1,.w,.w,.e 0,.e 1,.w,.w,.e 0,.q (.tuple #[vU 0,.iface 42 (vI 13)]),.w,.w,.w]) [1,2,12,13,14,15,16,17,18,19,20,11,21,22] [12] (.e b_1 (.e p (.e b_1 (.e p (.q (lQ [] call182 (ctl_PublishedB sn bk hw hl hb)) .n))))) ⟨?_,trivial⟩)))))))))
 refine zX .w (sN fun b_12_1=>(sV ?_))
 refine zN [] (kV 0 [.e 1,.w,.w,.e 0,.e 1,.w,.w,.e 0,.q (.tuple #[vU 0,.iface 42 (vI 13)]),.w,.w,.w]) [3,1,2,12,13,14,15,16,17,18,19,20,11,21,22] [13] (.e b_1 (.e p (.e b_1 (.e p (.q (lQ [] call182 (ctl_PublishedB sn bk hw hl hb)) .n))))) ⟨?_,trivial⟩
 refine zX (.e 3) (sQ b_12_1 (sK ?_))
 refine zE [14] [(11,.w),(14,.w)] [3,1,2,4] .n (gX [.z [0,0,0,1,1,1] 0 [1,2,3,4]] (gS [.c [0,0,0,1,1,1],.c [1,0,0,1,1,1],.b 0,.c [1,1,1,1]] (qG (kV 0 [.ww,.e 2,.t false,.ww,.ww,.e 2,.e 1,.ww,.ww,.e 0,.t true,.ww,.ww,.ww,.ww,.ww,.ww]) [1,2,3,4,23] (.e b_3 (.p ((!(ctlLive sn))=false) (by rw [hl]; rfl) (.e b_3 (.e b_1 (.e p (.p (((ctlEpoch sn) != ep)=true) (bne_iff_ne.2 he) .n)))))) .n (gX [.e 1,.z qy 1 [40]] (gQ b_1 (gS [.o qy 1,.c qay,.b 0,.c [1,1,1,1]] ?_))))))
 refine go_call (some 41) [0] call183 (pub_fail c p wd ep bk od sn fl tm cd ov wsl r_ th_ 22 hc hcl) kR ?_
 rintro v post ⟨gv_4,bq_5,bc_6,rfl,rfl⟩
 exact gX [] (gJ [3,4,5,6] ⟨gv_4,bq_5,bc_6,rfl,rfl⟩)
theorem pub_lookedE2(c:Cfg)(p:Nat)(wd ep bk od sn fl tm cd:Int)(ov:Bool)(wsl:Value)(r_ th_:Value)(hw:U64 sn)(hk:1≤bk∧bk≤65535)(hc:c.Ok)(hcl:0≤clsOf c bk)(hl:ctlLive sn=true)(he:ctlEpoch sn≠ep)(hb:ctlBusy sn=false)(hg:ctlGen sn=2147483647):
  Ctr prog 157 #[vP p] [Eh p r_ th_ cd ov c wd ep wsl bk od sn fl tm] (fun v L => ∃(gv:Nat) (bq:Nat) (bc:Nat),v=undef∧L=[Eh p (.iface 147 (vP gv)) (.func (.func 197) #[] #[vP bq,vP bc]) cd ov c wd ep wsl bk od sn fl tm,Ek gv c (3+clsOf c bk) 0 (.func (.func 192) #[vP gv] #[]) bk,.pts bq [vP p] 23,.pts bc [vI 22] 42]):=by
 refine cb 56 func157 fun F=>gX [.e 1,.e 0,.z [0,1] 4 [1,9]] (gN fun b_1=>gQ b_1 (gQ p (gS [.o [0,1] 4,.c [1,1]] (gC (some 10) [] call181 (ctl_Unpack sn hw) (gX [.e 2,.z [0,1,1] 0 [1,2]] (gN fun b_3=>gQ b_3 (gS [.c [0,1,1],.c [1,1,1]] (zG (zN [0,1,2,3,4,5,6,7,8,9,10,11] (kV 0 [.e 1,.w,.w,.e 0,.e 1,.w,.w,.e 0,.q (.tuple #[vU 0,.iface 42 (vI 16)]),.w,.w,.w]) [1,2,12,13,14,15,16,17,18,19,20,11,21,22] [12] (.e b_1 (.e p (.e b_1 (.e p (.q (lQ [] call182 (ctl_PublishedO sn bk hw hl hb hk hg)) .n))))) ⟨?_,trivial⟩)))))))))
 refine zX .w (sN fun b_12_1=>(sV ?_))
 refine zN [] (kV 0 [.e 1,.w,.w,.e 0,.e 1,.w,.w,.e 0,.q (.tuple #[vU 0,.iface 42 (vI 16)]),.w,.w,.w]) [3,1,2,12,13,14,15,16,17,18,19,20,11,21,22] [13] (.e b_1 (.e p (.e b_1 (.e p (.q (lQ [] call182 (ctl_PublishedO sn bk hw hl hb hk hg)) .n))))) ⟨?_,trivial⟩
 refine zX (.e 3) (sQ b_12_1 (sK ?_))
 refine zE [14] [(11,.w),(14,.w)] [3,1,2,4] .n (gX [.z [0,0,0,1,1,1] 0 [1,2,3,4]] (gS [.c [0,0,0,1,1,1],.c [1,0,0,1,1,1],.b 0,.c [1,1,1,1]] (qG (kV 0 [.ww,.e 2,.t false,.ww,.ww,.e 2,.e 1,.ww,.ww,.e 0,.t true,.ww,.ww,.ww,.ww,.ww,.ww]) [1,2,3,4,23] (.e b_3 (.p ((!(ctlLive sn))=false) (by rw [hl]; rfl) (.e b_3 (.e b_1 (.e p (.p (((ctlEpoch sn) != ep)=true) (bne_iff_ne.2 he) .n)))))) .n (gX [.e 1,.z qy 1 [40]] (gQ b_1 (gS [.o qy 1,.c qay,.b 0,.c [1,1,1,1]] ?_))))))
 refine go_call (some 41) [0] call183 (pub_fail c p wd ep bk od sn fl tm cd ov wsl r_ th_ 22 hc hcl) kR ?_
 rintro v post ⟨gv_4,bq_5,bc_6,rfl,rfl⟩
 exact gX [] (gJ [3,4,5,6] ⟨gv_4,bq_5,bc_6,rfl,rfl⟩)
theorem pub_lookedE3(c:Cfg)(p:Nat)(wd ep bk od sn fl tm cd:Int)(ov:Bool)(wsl:Value)(r_ th_:Value)(hw:U64 sn)(hk:1≤bk∧bk≤65535)(hc:c.Ok)(hcl:0≤clsOf c bk)(hl:ctlLive sn=true)(he:ctlEpoch sn≠ep)(hb:ctlBusy sn=false)(hg:ctlGen sn≠2147483647):
  Ctr prog 157 #[vP p] [Eh p r_ th_ cd ov c wd ep wsl bk od sn fl tm] (fun v L => ∃(gv:Nat) (bq:Nat) (bc:Nat),v=undef∧L=[Eh p (.iface 147 (vP gv)) (.func (.func 197) #[] #[vP bq,vP bc]) cd ov c wd ep wsl bk od sn fl tm,Ek gv c (3+clsOf c bk) 0 (.func (.func 192) #[vP gv] #[]) bk,.pts bq [vP p] 23,.pts bc [vI 22] 42]):=by
 refine cb 56 func157 fun F=>gX [.e 1,.e 0,.z [0,1] 4 [1,9]] (gN fun b_1=>gQ b_1 (gQ p (gS [.o [0,1] 4,.c [1,1]] (gC (some 10) [] call181 (ctl_Unpack sn hw) (gX [.e 2,.z [0,1,1] 0 [1,2]] (gN fun b_3=>gQ b_3 (gS [.c [0,1,1],.c [1,1,1]] (zG (zN [0,1,2,3,4,5,6,7,8,9,10,11] (kV 0 [.e 1,.w,.w,.e 0,.e 1,.w,.w,.e 0,.q (.tuple #[vU (pubW sn bk),.nilIface]),.w,.w,.w]) [1,2,12,13,14,15,16,17,18,19,20,11,21,22] [12] (.e b_1 (.e p (.e b_1 (.e p (.q (lQ [] call182 (ctl_Published sn bk hw hl hb hk hg)) .n))))) ⟨?_,trivial⟩)))))))))
 refine zX .w (sN fun b_12_1=>(sV ?_))
 refine zN [] (kV 0 [.e 1,.w,.w,.e 0,.e 1,.w,.w,.e 0,.q (.tuple #[vU (pubW sn bk),.nilIface]),.w,.w,.w]) [3,1,2,12,13,14,15,16,17,18,19,20,11,21,22] [13] (.e b_1 (.e p (.e b_1 (.e p (.q (lQ [] call182 (ctl_Published sn bk hw hl hb hk hg)) .n))))) ⟨?_,trivial⟩
 refine zX (.e 3) (sQ b_12_1 (sK ?_))
 refine zE [14] [(11,.w),(14,.w)] [3,1,2,4] .n (gX [.z [0,0,0,1,1,1] 0 [1,2,3,4]] (gS [.c [0,0,0,1,1,1],.c [1,0,0,1,1,1],.b 0,.c [1,1,1,1]] (qG (kV 0 [.ww,.e 2,.t false,.ww,.ww,.e 2,.e 1,.ww,.ww,.e 0,.t true,.ww,.ww,.ww,.ww,.ww,.ww]) [1,2,3,4,23] (.e b_3 (.p ((!(ctlLive sn))=false) (by rw [hl]; rfl) (.e b_3 (.e b_1 (.e p (.p (((ctlEpoch sn) != ep)=true) (bne_iff_ne.2 he) .n)))))) .n (gX [.e 1,.z qy 1 [40]] (gQ b_1 (gS [.o qy 1,.c qay,.b 0,.c [1,1,1,1]] ?_))))))
 refine go_call (some 41) [0] call183 (pub_fail c p wd ep bk od sn fl tm cd ov wsl r_ th_ 22 hc hcl) kR ?_
 rintro v post ⟨gv_4,bq_5,bc_6,rfl,rfl⟩
 exact gX [] (gJ [3,4,5,6] ⟨gv_4,bq_5,bc_6,rfl,rfl⟩)
theorem pub_lookedE(c:Cfg)(p:Nat)(wd ep bk od sn fl tm cd:Int)(ov:Bool)(wsl:Value)(r_ th_:Value)(hw:U64 sn)(hk:1≤bk∧bk≤65535)(hc:c.Ok)(hcl:0≤clsOf c bk)(hl:ctlLive sn=true)(he:ctlEpoch sn≠ep):
  Ctr prog 157 #[vP p] [Eh p r_ th_ cd ov c wd ep wsl bk od sn fl tm] (fun v L => ∃(gv:Nat) (bq:Nat) (bc:Nat),v=undef∧L=[Eh p (.iface 147 (vP gv)) (.func (.func 197) #[] #[vP bq,vP bc]) cd ov c wd ep wsl bk od sn fl tm,Ek gv c (3+clsOf c bk) 0 (.func (.func 192) #[vP gv] #[]) bk,.pts bq [vP p] 23,.pts bc [vI 22] 42]):=by
 by_cases hb:ctlBusy sn=true
 ·exact pub_lookedE1 c p wd ep bk od sn fl tm cd ov wsl r_ th_ hw hk hc hcl hl he hb
 ·by_cases hg:ctlGen sn=2147483647
  ·exact pub_lookedE2 c p wd ep bk od sn fl tm cd ov wsl r_ th_ hw hk hc hcl hl he (by simpa using hb) hg
  ·exact pub_lookedE3 c p wd ep bk od sn fl tm cd ov wsl r_ th_ hw hk hc hcl hl he (by simpa using hb) hg
theorem clo_swapT(c:Cfg)(p ba bp b3 b5:Nat)(wd ep bk od sn fl tm cd:Int)(ov:Bool)(wsl:Value)(r_ th_:Value)(nw:Int)(A:Ar)(hn:A.ws.length=A.n)(hs:0≤A.steps∧A.steps≤1000000000)(hi:0≤wd∧wd<A.n)(hw:U64 sn)(hv:U64 nw)(hq:(A.ws.getD wd.toNat 0)=sn):
  Ctr prog 184 #[vP ba,vI 0,vP bp,vP b3,vP b5] [.pts bp [vP p] 23,.pts b3 [vU nw] 60,.pts b5 [.bool false] 4,Eh p r_ th_ cd ov c wd ep wsl bk od sn fl tm,Eb ba A,Ea A] (Ret (undef) [.pts bp [vP p] 23,.pts b3 [vU nw] 60,.pts b5 [.bool true] 4,Eh p r_ th_ cd ov c wd ep wsl bk od sn fl (A.steps+1),Eb ba (A.swapT wd nw),Ea (A.swapT wd nw)]):=by
 refine cb 24 func184 fun F=>gX [.z [0] 0 [0,2,3,4]] (gS [.c [0],.c [1]] (zG (zN [0,1,2,3,4,5,6,7,8,9] (kV 0 [.w,.e 0,.w,.w,.e 3,.e 0,.w,.w,.e 3,.e 1]) [0,2,3,4,7,8,9,10,11,12,13,14,15,16] [10] (.e bp (.e p (.e bp (.e p (.e b3 .n))))) ⟨?_,trivial⟩)))
 refine zC (some 17) [4,5] call185 (arena_SwapT ba A wd sn nw oM hi oM hq) ?_
 rintro v post ⟨rfl,rfl⟩
 refine zN [] [] [17,0,2,4] [11] .n ⟨?_,trivial⟩
 refine zX (.e 2) (sQ b5 (sK ?_))
 refine zE [] [] [0,2,4] .n (gX [.e 2,.z [0,1,1] 0 [0,2]] (gQ b5 (gS [.c [0,1,1]] ?_)))
 refine tO (kV 0 [.e 0,.ww,.q (vI ((A.swapT wd nw).steps)),.ww,.ww]) 5 [] (.e 3) [] (.e bp .n) (.c call39 (qR [4,5] (arena_Steps ba (A.swapT wd nw))) .n) (sQ p (sK ?_))
 refine tN .n ?_
 exact gX [] (gJ [0,1,2,3,4,5] ⟨rfl,rfl⟩)
theorem each_swapT(c:Cfg)(p ba bp b3 b5 eb:Nat)(wd ep bk od sn fl tm cd:Int)(ov:Bool)(wsl:Value)(r_ th_:Value)(nw:Int)(A:Ar)(hn:A.ws.length=A.n)(hs:0≤A.steps∧A.steps≤1000000000)(hi:0≤wd∧wd<A.n)(hw:U64 sn)(hv:U64 nw)(hq:(A.ws.getD wd.toNat 0)=sn):
  Ctr prog 231 #[vP eb,vP ba] [.pts eb [vI 0,vI 1,.func (.func 184) #[] #[vP bp,vP b3,vP b5]] 176,.pts bp [vP p] 23,.pts b3 [vU nw] 60,.pts b5 [.bool false] 4,Eh p r_ th_ cd ov c wd ep wsl bk od sn fl tm,Eb ba A,Ea A] (Ret (.bool true) [.pts eb [vI 1,vI 1,.func (.func 184) #[] #[vP bp,vP b3,vP b5]] 176,.pts bp [vP p] 23,.pts b3 [vU nw] 60,.pts b5 [.bool true] 4,Eh p r_ th_ cd ov c wd ep wsl bk od sn fl (A.steps+1),Eb ba (A.swapT wd nw),Ea (A.swapT wd nw)]):=by
 refine cb 31 func231 fun F=>gX [.z [0,1] 0 [0,1]] (gS [.c [0,1],.c [1,1]] ?_)
 refine tC (some 14) (kV 0 [.ww,.ww,.ww,.e 0,.ww,.ww,.ww,.ww,.e 0]) 9 [] [1,2,3,4,5,6] [0] call184 (clo_swapT c p ba bp b3 b5 wd ep bk od sn fl tm cd ov wsl r_ th_ nw A oM oM oM hw hv hq) (.e eb (.e eb .n)) .n ?_
 rintro v post ⟨rfl,rfl⟩
 refine tN .n ?_
 exact gX [.e 0,.w,.e 0,.z [0,1,1,1] 0 [0]] (gQ eb (gQ eb (gS [.c [0,1,1,1],.c [1,1,1,1]] (qG (kV 0 [.ww,.ww,.ww,.e 0,.ww,.ww,.ww,.e 0,.ww,.ww]) [4] (.e eb (.e eb .n)) .n (gX [] (gJ [0,1,2,3,4,5,6] ⟨rfl,rfl⟩))))))
theorem clo_swapF(c:Cfg)(p ba bp b3 b5:Nat)(wd ep bk od sn fl tm cd:Int)(ov:Bool)(wsl:Value)(r_ th_:Value)(nw:Int)(A:Ar)(hn:A.ws.length=A.n)(hs:0≤A.steps∧A.steps≤1000000000)(hi:0≤wd∧wd<A.n)(hw:U64 sn)(hv:U64 nw)(hq:(A.ws.getD wd.toNat 0)≠sn):
  Ctr prog 184 #[vP ba,vI 0,vP bp,vP b3,vP b5] [.pts bp [vP p] 23,.pts b3 [vU nw] 60,.pts b5 [.bool false] 4,Eh p r_ th_ cd ov c wd ep wsl bk od sn fl tm,Eb ba A,Ea A] (Ret (undef) [.pts bp [vP p] 23,.pts b3 [vU nw] 60,.pts b5 [.bool false] 4,Eh p r_ th_ cd ov c wd ep wsl bk od sn fl tm,Eb ba (A.swapF wd),Ea (A.swapF wd)]):=by
 refine cb 24 func184 fun F=>gX [.z [0] 0 [0,2,3,4]] (gS [.c [0],.c [1]] (zG (zN [0,1,2,3,4,5,6,7,8,9] (kV 0 [.w,.e 0,.w,.w,.e 3,.e 0,.w,.w,.e 3,.e 1]) [0,2,3,4,7,8,9,10,11,12,13,14,15,16] [10] (.e bp (.e p (.e bp (.e p (.e b3 .n))))) ⟨?_,trivial⟩)))
 refine zC (some 17) [4,5] call185 (arena_SwapF ba A wd sn nw oM hi oM hq) ?_
 rintro v post ⟨rfl,rfl⟩
 refine zN [] [] [17,0,2,4] [11] .n ⟨?_,trivial⟩
 refine zX (.e 2) (sQ b5 (sK ?_))
 exact zE [] [] [0,2,4] .n (gX [.e 2] (gQ b5 (gJ [0,1,2,3,4,5] ⟨rfl,rfl⟩)))
theorem each_swapF(c:Cfg)(p ba bp b3 b5 eb:Nat)(wd ep bk od sn fl tm cd:Int)(ov:Bool)(wsl:Value)(r_ th_:Value)(nw:Int)(A:Ar)(hn:A.ws.length=A.n)(hs:0≤A.steps∧A.steps≤1000000000)(hi:0≤wd∧wd<A.n)(hw:U64 sn)(hv:U64 nw)(hq:(A.ws.getD wd.toNat 0)≠sn):
  Ctr prog 231 #[vP eb,vP ba] [.pts eb [vI 0,vI 1,.func (.func 184) #[] #[vP bp,vP b3,vP b5]] 176,.pts bp [vP p] 23,.pts b3 [vU nw] 60,.pts b5 [.bool false] 4,Eh p r_ th_ cd ov c wd ep wsl bk od sn fl tm,Eb ba A,Ea A] (Ret (.bool true) [.pts eb [vI 1,vI 1,.func (.func 184) #[] #[vP bp,vP b3,vP b5]] 176,.pts bp [vP p] 23,.pts b3 [vU nw] 60,.pts b5 [.bool false] 4,Eh p r_ th_ cd ov c wd ep wsl bk od sn fl tm,Eb ba (A.swapF wd),Ea (A.swapF wd)]):=by
 refine cb 31 func231 fun F=>gX [.z [0,1] 0 [0,1]] (gS [.c [0,1],.c [1,1]] ?_)
 refine tC (some 14) (kV 0 [.ww,.ww,.ww,.e 0,.ww,.ww,.ww,.ww,.e 0]) 9 [] [1,2,3,4,5,6] [0] call184 (clo_swapF c p ba bp b3 b5 wd ep bk od sn fl tm cd ov wsl r_ th_ nw A oM oM oM hw hv hq) (.e eb (.e eb .n)) .n ?_
 rintro v post ⟨rfl,rfl⟩
 refine tN .n ?_
 exact gX [.e 0,.w,.e 0,.z [0,1,1,1] 0 [0]] (gQ eb (gQ eb (gS [.c [0,1,1,1],.c [1,1,1,1]] (qG (kV 0 [.ww,.ww,.ww,.e 0,.ww,.ww,.ww,.e 0,.ww,.ww]) [4] (.e eb (.e eb .n)) .n (gX [] (gJ [0,1,2,3,4,5,6] ⟨rfl,rfl⟩))))))
theorem pub_swappedT(c:Cfg)(p:Nat)(wd ep bk od sn fl tm cd:Int)(ov:Bool)(wsl:Value)(r_ th_:Value)(o_:Int):
  Ctr prog 187 #[vP p,.bool true,vI o_] [Eh p r_ th_ cd ov c wd ep wsl bk od sn fl tm] (Ret (undef) [Eh p r_ th_ 0 true c wd ep wsl 0 o_ sn fl tm]):=by
 exact cb 39 func187 fun F=>gX [.e 0,.e 0,.z [0,1,0,1,0] 3 [16]] (gQ p (gQ p (gS [.o [0,1,0,1,0] 3,.c [1,1,0,1,0],.c [1]] (gC (some 17) [0] call57 (pub_end c p wd ep 0 o_ sn fl tm cd ov wsl r_ th_ 0) (gX [] (gJ [0] ⟨rfl,rfl⟩))))))
theorem pub_swappedR(c:Cfg)(p:Nat)(wd ep bk od sn fl tm cd:Int)(ov:Bool)(wsl:Value)(r_ th_:Value)(o_:Int)(hf:0≤fl∧fl≤1000)(hc:c.Ok)(hb:0≤clsOf c bk)(hr:fl+1=c.retry):
  Ctr prog 187 #[vP p,.bool false,vI o_] [Eh p r_ th_ cd ov c wd ep wsl bk od sn fl tm] (fun v L => ∃(gv:Nat) (bq:Nat) (bc:Nat),v=undef∧L=[Eh p (.iface 147 (vP gv)) (.func (.func 197) #[] #[vP bq,vP bc]) cd ov c wd ep wsl bk od sn (fl+1) tm,Ek gv c (3+clsOf c bk) 0 (.func (.func 192) #[vP gv] #[]) bk,.pts bq [vP p] 23,.pts bc [vI 17] 42]):=by
 refine cb 39 func187 fun F=>gX [.e 0,.n,.e 0,.z [0,0,1,1] 0 [0]] (gQ p (gO (InK .i64 (fl+1)) oh (gQ p (gS [.c [0,0,1,1],.c [1,0,1,1],.c [1,1,1]] (qG (kV 0 [.ww,.ww,.ww,.e 0,.ww,.ww,.ww,.ww,.e 0,.t true]) [0,34] (.e p (.e p (.p (((fl+1)==c.retry)=true) (beq_iff_eq.2 hr) .n))) .n (gX [.z [0,0,1,0,1,1] 1 [35]] (gS [.o [0,0,1,0,1,1] 1,.c [1,0,1,0,1,1],.c [1,1,1]] ?_)))))))
 refine go_call (some 36) [0] call183 (pub_fail c p wd ep bk od sn (fl+1) tm cd ov wsl r_ th_ 17 oM hb) kR ?_
 rintro v post ⟨gv_1,bq_2,bc_3,rfl,rfl⟩
 exact gX [] (gJ [0,1,2,3] ⟨gv_1,bq_2,bc_3,rfl,rfl⟩)
theorem pub_swappedN(c:Cfg)(p:Nat)(wd ep bk od sn fl tm cd:Int)(ov:Bool)(wsl:Value)(r_ th_:Value)(o_:Int)(hf:0≤fl∧fl≤1000)(hr:fl+1≠c.retry):
  Ctr prog 187 #[vP p,.bool false,vI o_] [Eh p r_ th_ cd ov c wd ep wsl bk od sn fl tm] (fun v L => ∃(eb:Nat) (bp:Nat),v=undef∧L=[Eh p (.iface 173 (vP eb)) (.func (.func 157) #[vP p] #[]) cd ov c wd ep wsl bk od sn (fl+1) tm,.pts eb [vI 0,vI 1,.func (.func 156) #[] #[vP bp]] 176,.pts bp [vP p] 23]):=by
 refine cb 39 func187 fun F=>gX [.e 0,.n,.e 0,.z [0,0,1,1] 0 [0]] (gQ p (gO (InK .i64 (fl+1)) oh (gQ p (gS [.c [0,0,1,1],.c [1,0,1,1],.c [1,1,1]] (qG (kV 0 [.ww,.ww,.ww,.e 0,.ww,.ww,.ww,.ww,.e 0,.t false]) [0,34] (.e p (.e p (.p (((fl+1)==c.retry)=false) (beq_eq_false_iff_ne.2 hr) .n))) .n (gX [.z [1,1,1] 1 [37]] (gS [.o [1,1,1] 1] ?_)))))))
 refine go_call (some 38) [0] call108 (pub_filled c p wd ep bk od sn (fl+1) tm cd ov wsl r_ th_) kR ?_
 rintro v post ⟨eb_1,bp_2,rfl,rfl⟩
 exact gX [] (gJ [0,1,2] ⟨eb_1,bp_2,rfl,rfl⟩)
end Go.Proofs.YtpcaijopodhdgaaGreatDoor
namespace Go.Proofs.YtpcaijopodhdgaaGreatDoor
open Go.Proofs.Tryz
open Go.Sx
theorem pub_then4T(c:Cfg)(p bp b5 b2:Nat)(wd ep bk od sn fl tm cd:Int)(ov:Bool)(wsl:Value)(r_ th_:Value)(w_:Int):
  Ctr prog 186 #[vP bp,vP b5,vP b2] [.pts bp [vP p] 23,.pts b5 [.bool true] 4,Eu b2 (ctlEpoch w_) (ctlGen w_) (ctlBlock w_) (ctlLive w_) (ctlBusy w_),Eh p r_ th_ cd ov c wd ep wsl bk od sn fl tm] (Ret (undef) [.pts bp [vP p] 23,.pts b5 [.bool true] 4,Eu b2 (ctlEpoch w_) (ctlGen w_) (ctlBlock w_) (ctlLive w_) (ctlBusy w_),Eh p r_ th_ 0 true c wd ep wsl 0 (ctlBlock w_) sn fl tm]):=by
 exact cb 8 func186 fun F=>gX [.e 0,.e 1,.e 2,.z [] 4 [3,4,6]] (gQ bp (gQ b5 (gQ b2 (gS [.o [] 4] (gC (some 7) [3] call187 (pub_swappedT c p wd ep bk od sn fl tm cd ov wsl r_ th_ (ctlBlock w_)) (gX [] (gJ [0,1,2,3] ⟨rfl,rfl⟩)))))))
theorem pub_then4R(c:Cfg)(p bp b5 b2:Nat)(wd ep bk od sn fl tm cd:Int)(ov:Bool)(wsl:Value)(r_ th_:Value)(w_:Int)(hf:0≤fl∧fl≤1000)(hc:c.Ok)(hb:0≤clsOf c bk)(hr:fl+1=c.retry):
  Ctr prog 186 #[vP bp,vP b5,vP b2] [.pts bp [vP p] 23,.pts b5 [.bool false] 4,Eu b2 (ctlEpoch w_) (ctlGen w_) (ctlBlock w_) (ctlLive w_) (ctlBusy w_),Eh p r_ th_ cd ov c wd ep wsl bk od sn fl tm] (fun v L => ∃(gv:Nat) (bq:Nat) (bc:Nat),v=undef∧L=[.pts bp [vP p] 23,.pts b5 [.bool false] 4,Eu b2 (ctlEpoch w_) (ctlGen w_) (ctlBlock w_) (ctlLive w_) (ctlBusy w_),Eh p (.iface 147 (vP gv)) (.func (.func 197) #[] #[vP bq,vP bc]) cd ov c wd ep wsl bk od sn (fl+1) tm,Ek gv c (3+clsOf c bk) 0 (.func (.func 192) #[vP gv] #[]) bk,.pts bq [vP p] 23,.pts bc [vI 17] 42]):=by
 refine cb 8 func186 fun F=>gX [.e 0,.e 1,.e 2,.z [] 4 [3,4,6]] (gQ bp (gQ b5 (gQ b2 (gS [.o [] 4] ?_))))
 refine go_call (some 7) [3] call187 (pub_swappedR c p wd ep bk od sn fl tm cd ov wsl r_ th_ (ctlBlock w_) hf hc hb hr) kR ?_
 rintro v post ⟨gv_1,bq_2,bc_3,rfl,rfl⟩
 exact gX [] (gJ [0,1,2,3,4,5,6] ⟨gv_1,bq_2,bc_3,rfl,rfl⟩)
theorem pub_then4N(c:Cfg)(p bp b5 b2:Nat)(wd ep bk od sn fl tm cd:Int)(ov:Bool)(wsl:Value)(r_ th_:Value)(w_:Int)(hf:0≤fl∧fl≤1000)(hr:fl+1≠c.retry):
  Ctr prog 186 #[vP bp,vP b5,vP b2] [.pts bp [vP p] 23,.pts b5 [.bool false] 4,Eu b2 (ctlEpoch w_) (ctlGen w_) (ctlBlock w_) (ctlLive w_) (ctlBusy w_),Eh p r_ th_ cd ov c wd ep wsl bk od sn fl tm] (fun v L => ∃(eb:Nat) (bq:Nat),v=undef∧L=[.pts bp [vP p] 23,.pts b5 [.bool false] 4,Eu b2 (ctlEpoch w_) (ctlGen w_) (ctlBlock w_) (ctlLive w_) (ctlBusy w_),Eh p (.iface 173 (vP eb)) (.func (.func 157) #[vP p] #[]) cd ov c wd ep wsl bk od sn (fl+1) tm,.pts eb [vI 0,vI 1,.func (.func 156) #[] #[vP bq]] 176,.pts bq [vP p] 23]):=by
 refine cb 8 func186 fun F=>gX [.e 0,.e 1,.e 2,.z [] 4 [3,4,6]] (gQ bp (gQ b5 (gQ b2 (gS [.o [] 4] ?_))))
 refine go_call (some 7) [3] call187 (pub_swappedN c p wd ep bk od sn fl tm cd ov wsl r_ th_ (ctlBlock w_) hf hr) kR ?_
 rintro v post ⟨eb_1,bp_2,rfl,rfl⟩
 exact gX [] (gJ [0,1,2,3,4,5] ⟨eb_1,bp_2,rfl,rfl⟩)
theorem pstep2N(c:Cfg)(p ba bf bp eb:Nat)(wd ep bk od sn fl tm cd:Int)(wa:Option Addr)(wc:Nat)(ws:List Int)(i fr:Int)(A:Ar)(hi0:0≤i∧i<(ws.length:Int))(hx:0≤fr+i∧fr+i<A.n)(hfr:0≤fr∧fr≤1000000)(hn:A.ws.length=A.n)(hs:0≤A.steps∧A.steps≤1000000000)(hl:ws.length≤1000000)(hd:i+1≠(ws.length:Int)):
  Ctr prog 61 #[vP p,vP ba] [En p (.iface 173 (vP eb)) (.func (.func 108) #[vP p] #[]) cd false c wd ep wa ws.length wc bk od sn fl tm,Ee wa wc ws,.pts eb [vI i,vI (ws.length:Int),.func (.func 106) #[] #[vP bf,vP bp]] 176,.pts bf [vI fr] 3,.pts bp [vP p] 23,Eb ba A,Ea A] (Ret (.bool false) [En p (.iface 173 (vP eb)) (.func (.func 108) #[vP p] #[]) cd false c wd ep wa ws.length wc bk od sn fl tm,Ee wa wc ws,.pts eb [vI (i+1),vI (ws.length:Int),.func (.func 106) #[] #[vP bf,vP bp]] 176,.pts bf [vI fr] 3,.pts bp [vP p] 23,Eb ba (A.store (fr+i) (ws.getD i.toNat 0)),Ea (A.store (fr+i) (ws.getD i.toNat 0))]):=by
 refine cb 29 func61 fun F=>gX [.e 0,.e 0,.z [0,0,1] 12 [0,10,15,16]] (gQ p (gQ p (gS [.o [0,0,1] 12,.c [1,0,1],.c [1,1]] ?_)))
 refine go_invoke (some 17) [2,3,4,0,1,5,6] (T:=173) (rv:=vP eb) (name:= "Step") (fun w=>by kernel_rfl) call231 (each_fill c p ba bf bp eb wd ep bk od sn fl tm cd wa wc ws (.iface 173 (vP eb)) (.func (.func 108) #[vP p] #[]) i fr A hi0 hx hfr oM oM oM) kR ?_
 rintro v post ⟨rfl,rfl⟩
 exact gX [.sp [18,17] [.dead] [.e 3]] (gQ ((i+1)==(ws.length:Int)) (gF ((i+1)==(ws.length:Int)) (beq_eq_false_iff_ne.2 hd) (gQ p (gJ [3,4,0,1,2,5,6] ⟨rfl,rfl⟩))))
theorem pub_Step2N(c:Cfg)(p ba bf bp eb:Nat)(wd ep bk od sn fl tm cd:Int)(wa:Option Addr)(wc:Nat)(ws:List Int)(i fr:Int)(A:Ar)(hi0:0≤i∧i<(ws.length:Int))(hx:0≤fr+i∧fr+i<A.n)(hfr:0≤fr∧fr≤1000000)(hn:A.ws.length=A.n)(hs:0≤A.steps∧A.steps≤1000000000)(hl:ws.length≤1000000)(hd:i+1≠(ws.length:Int)):
  Ctr prog 15 #[vP p,vP ba] [En p (.iface 173 (vP eb)) (.func (.func 108) #[vP p] #[]) cd false c wd ep wa ws.length wc bk od sn fl tm,Ee wa wc ws,.pts eb [vI i,vI (ws.length:Int),.func (.func 106) #[] #[vP bf,vP bp]] 176,.pts bf [vI fr] 3,.pts bp [vP p] 23,Eb ba A,Ea A] (Ret (.bool false) [En p (.iface 173 (vP eb)) (.func (.func 108) #[vP p] #[]) cd false c wd ep wa ws.length wc bk od sn fl tm,Ee wa wc ws,.pts eb [vI (i+1),vI (ws.length:Int),.func (.func 106) #[] #[vP bf,vP bp]] 176,.pts bf [vI fr] 3,.pts bp [vP p] 23,Eb ba (A.store (fr+i) (ws.getD i.toNat 0)),Ea (A.store (fr+i) (ws.getD i.toNat 0))]):=by
 exact cb 14 func15 fun F=>gX [.z [0,1] 7 [7,10,11]] (gS [.o [0,1] 7,.c [1,1]] (gC (some 12) [0,1,2,3,4,5,6] call61 (pstep2N c p ba bf bp eb wd ep bk od sn fl tm cd wa wc ws i fr A hi0 hx hfr oM oM oM oM) (gX [] (gJ [0,1,2,3,4,5,6] ⟨rfl,rfl⟩))))
theorem pstep2Y(c:Cfg)(p ba bf bp eb:Nat)(wd ep bk od sn fl tm cd:Int)(wa:Option Addr)(wc:Nat)(ws:List Int)(i fr:Int)(A:Ar)(hi0:0≤i∧i<(ws.length:Int))(hx:0≤fr+i∧fr+i<A.n)(hfr:0≤fr∧fr≤1000000)(hn:A.ws.length=A.n)(hs:0≤A.steps∧A.steps≤1000000000)(hl:ws.length≤1000000)(hd:i+1=(ws.length:Int)):
  Ctr prog 61 #[vP p,vP ba] [En p (.iface 173 (vP eb)) (.func (.func 108) #[vP p] #[]) cd false c wd ep wa ws.length wc bk od sn fl tm,Ee wa wc ws,.pts eb [vI i,vI (ws.length:Int),.func (.func 106) #[] #[vP bf,vP bp]] 176,.pts bf [vI fr] 3,.pts bp [vP p] 23,Eb ba A,Ea A] (fun v L => ∃(e2:Nat) (bq:Nat),v = .bool false∧L=[En p (.iface 173 (vP e2)) (.func (.func 157) #[vP p] #[]) cd false c wd ep wa ws.length wc bk od sn fl tm,Ee wa wc ws,.pts eb [vI (i+1),vI (ws.length:Int),.func (.func 106) #[] #[vP bf,vP bp]] 176,.pts bf [vI fr] 3,.pts bp [vP p] 23,Eb ba (A.store (fr+i) (ws.getD i.toNat 0)),Ea (A.store (fr+i) (ws.getD i.toNat 0)),.pts e2 [vI 0,vI 1,.func (.func 156) #[] #[vP bq]] 176,.pts bq [vP p] 23]):=by
 refine cb 29 func61 fun F=>gX [.e 0,.e 0,.z [0,0,1] 12 [0,10,15,16]] (gQ p (gQ p (gS [.o [0,0,1] 12,.c [1,0,1],.c [1,1]] ?_)))
 refine go_invoke (some 17) [2,3,4,0,1,5,6] (T:=173) (rv:=vP eb) (name:= "Step") (fun w=>by kernel_rfl) call231 (each_fill c p ba bf bp eb wd ep bk od sn fl tm cd wa wc ws (.iface 173 (vP eb)) (.func (.func 108) #[vP p] #[]) i fr A hi0 hx hfr oM oM oM) kR ?_
 rintro v post ⟨rfl,rfl⟩
 refine gX [.sp [18,17] [.e 3,.z [0,1,0,1] 5 [0,23]] [.dead]] (gQ ((i+1)==(ws.length:Int)) (gT ((i+1)==(ws.length:Int)) (beq_iff_eq.2 hd) (gQ p (gS [.o [0,1,0,1] 5,.c [1,1]] ?_))))
 refine go_call (some 24) [3] call108 (pub_filled c p wd ep bk od sn fl tm cd false (.slice wa ws.length wc) (.iface 173 (vP eb)) (.func (.func 108) #[vP p] #[])) kR ?_
 rintro v post ⟨eb_1,bp_2,rfl,rfl⟩
 exact gX [.e 6] (gQ p (gJ [6,3,0,1,2,4,5,7,8] ⟨eb_1,bp_2,rfl,rfl⟩))
theorem pub_Step2Y(c:Cfg)(p ba bf bp eb:Nat)(wd ep bk od sn fl tm cd:Int)(wa:Option Addr)(wc:Nat)(ws:List Int)(i fr:Int)(A:Ar)(hi0:0≤i∧i<(ws.length:Int))(hx:0≤fr+i∧fr+i<A.n)(hfr:0≤fr∧fr≤1000000)(hn:A.ws.length=A.n)(hs:0≤A.steps∧A.steps≤1000000000)(hl:ws.length≤1000000)(hd:i+1=(ws.length:Int)):
  Ctr prog 15 #[vP p,vP ba] [En p (.iface 173 (vP eb)) (.func (.func 108) #[vP p] #[]) cd false c wd ep wa ws.length wc bk od sn fl tm,Ee wa wc ws,.pts eb [vI i,vI (ws.length:Int),.func (.func 106) #[] #[vP bf,vP bp]] 176,.pts bf [vI fr] 3,.pts bp [vP p] 23,Eb ba A,Ea A] (fun v L => ∃(e2:Nat) (bq:Nat),v = .bool false∧L=[En p (.iface 173 (vP e2)) (.func (.func 157) #[vP p] #[]) cd false c wd ep wa ws.length wc bk od sn fl tm,Ee wa wc ws,.pts eb [vI (i+1),vI (ws.length:Int),.func (.func 106) #[] #[vP bf,vP bp]] 176,.pts bf [vI fr] 3,.pts bp [vP p] 23,Eb ba (A.store (fr+i) (ws.getD i.toNat 0)),Ea (A.store (fr+i) (ws.getD i.toNat 0)),.pts e2 [vI 0,vI 1,.func (.func 156) #[] #[vP bq]] 176,.pts bq [vP p] 23]):=by
 refine cb 14 func15 fun F=>gX [.z [0,1] 7 [7,10,11]] (gS [.o [0,1] 7,.c [1,1]] ?_)
 refine go_call (some 12) [0,1,2,3,4,5,6] call61 (pstep2Y c p ba bf bp eb wd ep bk od sn fl tm cd wa wc ws i fr A hi0 hx hfr oM oM oM oM) kR ?_
 rintro v post ⟨e2_1,bq_2,rfl,rfl⟩
 exact gX [] (gJ [0,1,2,3,4,5,6,7,8] ⟨e2_1,bq_2,rfl,rfl⟩)
theorem pstep3D(c:Cfg)(p ba bp eb:Nat)(wd ep bk od sn fl tm cd:Int)(wsl:Value)(A:Ar)(hn:A.ws.length=A.n)(hs:0≤A.steps∧A.steps≤1000000000)(hi:0≤wd∧wd<A.n)(hR:U64 (A.ws.getD wd.toNat 0))(hk:1≤bk∧bk≤65535)(hc:c.Ok)(hcl:0≤clsOf c bk)(hl:ctlLive (A.ws.getD wd.toNat 0)=false):
  Ctr prog 61 #[vP p,vP ba] [Eh p (.iface 173 (vP eb)) (.func (.func 157) #[vP p] #[]) cd false c wd ep wsl bk od sn fl tm,.pts eb [vI 0,vI 1,.func (.func 156) #[] #[vP bp]] 176,.pts bp [vP p] 23,Eb ba A,Ea A] (fun v L => ∃(gv:Nat) (bq:Nat) (bc:Nat),v = .bool false∧L=[Eh p (.iface 147 (vP gv)) (.func (.func 197) #[] #[vP bq,vP bc]) cd false c wd ep wsl bk od (A.ws.getD wd.toNat 0) fl tm,.pts eb [vI 1,vI 1,.func (.func 156) #[] #[vP bp]] 176,.pts bp [vP p] 23,Eb ba (A.load wd),Ea (A.load wd),Ek gv c (3+clsOf c bk) 0 (.func (.func 192) #[vP gv] #[]) bk,.pts bq [vP p] 23,.pts bc [vI 22] 42]):=by
 refine cb 29 func61 fun F=>gX [.e 0,.e 0,.z [0,0,1] 12 [0,10,15,16]] (gQ p (gQ p (gS [.o [0,0,1] 12,.c [1,0,1],.c [1,1]] ?_)))
 refine go_invoke (some 17) [1,2,0,3,4] (T:=173) (rv:=vP eb) (name:= "Step") (fun w=>by kernel_rfl) call231 (each_look c p ba bp eb wd ep bk od sn fl tm cd false wsl (.iface 173 (vP eb)) (.func (.func 157) #[vP p] #[]) A oM oM hi) kR ?_
 rintro v post ⟨rfl,rfl⟩
 refine gX [.e 2,.z [0,1,0,1] 5 [0,23]] (gQ p (gS [.o [0,1,0,1] 5,.c [1,1]] ?_))
 refine go_call (some 24) [2] call157 (pub_lookedD c p wd ep bk od (A.ws.getD wd.toNat 0) fl tm cd false wsl (.iface 173 (vP eb)) (.func (.func 157) #[vP p] #[]) hR hk hc hcl hl) kR ?_
 rintro v post ⟨gv_1,bq_2,bc_3,rfl,rfl⟩
 exact gX [.e 4] (gQ p (gJ [4,0,1,2,3,5,6,7] ⟨gv_1,bq_2,bc_3,rfl,rfl⟩))
theorem pub_Step3D(c:Cfg)(p ba bp eb:Nat)(wd ep bk od sn fl tm cd:Int)(wsl:Value)(A:Ar)(hn:A.ws.length=A.n)(hs:0≤A.steps∧A.steps≤1000000000)(hi:0≤wd∧wd<A.n)(hR:U64 (A.ws.getD wd.toNat 0))(hk:1≤bk∧bk≤65535)(hc:c.Ok)(hcl:0≤clsOf c bk)(hl:ctlLive (A.ws.getD wd.toNat 0)=false):
  Ctr prog 15 #[vP p,vP ba] [Eh p (.iface 173 (vP eb)) (.func (.func 157) #[vP p] #[]) cd false c wd ep wsl bk od sn fl tm,.pts eb [vI 0,vI 1,.func (.func 156) #[] #[vP bp]] 176,.pts bp [vP p] 23,Eb ba A,Ea A] (fun v L => ∃(gv:Nat) (bq:Nat) (bc:Nat),v = .bool false∧L=[Eh p (.iface 147 (vP gv)) (.func (.func 197) #[] #[vP bq,vP bc]) cd false c wd ep wsl bk od (A.ws.getD wd.toNat 0) fl tm,.pts eb [vI 1,vI 1,.func (.func 156) #[] #[vP bp]] 176,.pts bp [vP p] 23,Eb ba (A.load wd),Ea (A.load wd),Ek gv c (3+clsOf c bk) 0 (.func (.func 192) #[vP gv] #[]) bk,.pts bq [vP p] 23,.pts bc [vI 22] 42]):=by
 refine cb 14 func15 fun F=>gX [.z [0,1] 7 [7,10,11]] (gS [.o [0,1] 7,.c [1,1]] ?_)
 refine go_call (some 12) [0,1,2,3,4] call61 (pstep3D c p ba bp eb wd ep bk od sn fl tm cd wsl A oM oM hi oM hk hc hcl hl) kR ?_
 rintro v post ⟨gv_1,bq_2,bc_3,rfl,rfl⟩
 exact gX [] (gJ [0,1,2,3,4,5,6,7] ⟨gv_1,bq_2,bc_3,rfl,rfl⟩)
theorem pstep3E(c:Cfg)(p ba bp eb:Nat)(wd ep bk od sn fl tm cd:Int)(wsl:Value)(A:Ar)(hn:A.ws.length=A.n)(hs:0≤A.steps∧A.steps≤1000000000)(hi:0≤wd∧wd<A.n)(hR:U64 (A.ws.getD wd.toNat 0))(hk:1≤bk∧bk≤65535)(hc:c.Ok)(hcl:0≤clsOf c bk)(hl:ctlLive (A.ws.getD wd.toNat 0)=true)(he:ctlEpoch (A.ws.getD wd.toNat 0)≠ep):
  Ctr prog 61 #[vP p,vP ba] [Eh p (.iface 173 (vP eb)) (.func (.func 157) #[vP p] #[]) cd false c wd ep wsl bk od sn fl tm,.pts eb [vI 0,vI 1,.func (.func 156) #[] #[vP bp]] 176,.pts bp [vP p] 23,Eb ba A,Ea A] (fun v L => ∃(gv:Nat) (bq:Nat) (bc:Nat),v = .bool false∧L=[Eh p (.iface 147 (vP gv)) (.func (.func 197) #[] #[vP bq,vP bc]) cd false c wd ep wsl bk od (A.ws.getD wd.toNat 0) fl tm,.pts eb [vI 1,vI 1,.func (.func 156) #[] #[vP bp]] 176,.pts bp [vP p] 23,Eb ba (A.load wd),Ea (A.load wd),Ek gv c (3+clsOf c bk) 0 (.func (.func 192) #[vP gv] #[]) bk,.pts bq [vP p] 23,.pts bc [vI 22] 42]):=by
 refine cb 29 func61 fun F=>gX [.e 0,.e 0,.z [0,0,1] 12 [0,10,15,16]] (gQ p (gQ p (gS [.o [0,0,1] 12,.c [1,0,1],.c [1,1]] ?_)))
 refine go_invoke (some 17) [1,2,0,3,4] (T:=173) (rv:=vP eb) (name:= "Step") (fun w=>by kernel_rfl) call231 (each_look c p ba bp eb wd ep bk od sn fl tm cd false wsl (.iface 173 (vP eb)) (.func (.func 157) #[vP p] #[]) A oM oM hi) kR ?_
 rintro v post ⟨rfl,rfl⟩
 refine gX [.e 2,.z [0,1,0,1] 5 [0,23]] (gQ p (gS [.o [0,1,0,1] 5,.c [1,1]] ?_))
 refine go_call (some 24) [2] call157 (pub_lookedE c p wd ep bk od (A.ws.getD wd.toNat 0) fl tm cd false wsl (.iface 173 (vP eb)) (.func (.func 157) #[vP p] #[]) hR hk hc hcl hl he) kR ?_
 rintro v post ⟨gv_1,bq_2,bc_3,rfl,rfl⟩
 exact gX [.e 4] (gQ p (gJ [4,0,1,2,3,5,6,7] ⟨gv_1,bq_2,bc_3,rfl,rfl⟩))
theorem pub_Step3E(c:Cfg)(p ba bp eb:Nat)(wd ep bk od sn fl tm cd:Int)(wsl:Value)(A:Ar)(hn:A.ws.length=A.n)(hs:0≤A.steps∧A.steps≤1000000000)(hi:0≤wd∧wd<A.n)(hR:U64 (A.ws.getD wd.toNat 0))(hk:1≤bk∧bk≤65535)(hc:c.Ok)(hcl:0≤clsOf c bk)(hl:ctlLive (A.ws.getD wd.toNat 0)=true)(he:ctlEpoch (A.ws.getD wd.toNat 0)≠ep):
  Ctr prog 15 #[vP p,vP ba] [Eh p (.iface 173 (vP eb)) (.func (.func 157) #[vP p] #[]) cd false c wd ep wsl bk od sn fl tm,.pts eb [vI 0,vI 1,.func (.func 156) #[] #[vP bp]] 176,.pts bp [vP p] 23,Eb ba A,Ea A] (fun v L => ∃(gv:Nat) (bq:Nat) (bc:Nat),v = .bool false∧L=[Eh p (.iface 147 (vP gv)) (.func (.func 197) #[] #[vP bq,vP bc]) cd false c wd ep wsl bk od (A.ws.getD wd.toNat 0) fl tm,.pts eb [vI 1,vI 1,.func (.func 156) #[] #[vP bp]] 176,.pts bp [vP p] 23,Eb ba (A.load wd),Ea (A.load wd),Ek gv c (3+clsOf c bk) 0 (.func (.func 192) #[vP gv] #[]) bk,.pts bq [vP p] 23,.pts bc [vI 22] 42]):=by
 refine cb 14 func15 fun F=>gX [.z [0,1] 7 [7,10,11]] (gS [.o [0,1] 7,.c [1,1]] ?_)
 refine go_call (some 12) [0,1,2,3,4] call61 (pstep3E c p ba bp eb wd ep bk od sn fl tm cd wsl A oM oM hi oM hk hc hcl hl he) kR ?_
 rintro v post ⟨gv_1,bq_2,bc_3,rfl,rfl⟩
 exact gX [] (gJ [0,1,2,3,4,5,6,7] ⟨gv_1,bq_2,bc_3,rfl,rfl⟩)
theorem pstep3B(c:Cfg)(p ba bp eb:Nat)(wd ep bk od sn fl tm cd:Int)(wsl:Value)(A:Ar)(hn:A.ws.length=A.n)(hs:0≤A.steps∧A.steps≤1000000000)(hi:0≤wd∧wd<A.n)(hR:U64 (A.ws.getD wd.toNat 0))(hk:1≤bk∧bk≤65535)(hc:c.Ok)(hcl:0≤clsOf c bk)(hl:ctlLive (A.ws.getD wd.toNat 0)=true)(he:ctlEpoch (A.ws.getD wd.toNat 0)=ep)(hb:ctlBusy (A.ws.getD wd.toNat 0)=true):
  Ctr prog 61 #[vP p,vP ba] [Eh p (.iface 173 (vP eb)) (.func (.func 157) #[vP p] #[]) cd false c wd ep wsl bk od sn fl tm,.pts eb [vI 0,vI 1,.func (.func 156) #[] #[vP bp]] 176,.pts bp [vP p] 23,Eb ba A,Ea A] (fun v L => ∃(gv:Nat) (bq:Nat) (bc:Nat),v = .bool false∧L=[Eh p (.iface 147 (vP gv)) (.func (.func 197) #[] #[vP bq,vP bc]) cd false c wd ep wsl bk od (A.ws.getD wd.toNat 0) fl tm,.pts eb [vI 1,vI 1,.func (.func 156) #[] #[vP bp]] 176,.pts bp [vP p] 23,Eb ba (A.load wd),Ea (A.load wd),Ek gv c (3+clsOf c bk) 0 (.func (.func 192) #[vP gv] #[]) bk,.pts bq [vP p] 23,.pts bc [vI 22] 42]):=by
 refine cb 29 func61 fun F=>gX [.e 0,.e 0,.z [0,0,1] 12 [0,10,15,16]] (gQ p (gQ p (gS [.o [0,0,1] 12,.c [1,0,1],.c [1,1]] ?_)))
 refine go_invoke (some 17) [1,2,0,3,4] (T:=173) (rv:=vP eb) (name:= "Step") (fun w=>by kernel_rfl) call231 (each_look c p ba bp eb wd ep bk od sn fl tm cd false wsl (.iface 173 (vP eb)) (.func (.func 157) #[vP p] #[]) A oM oM hi) kR ?_
 rintro v post ⟨rfl,rfl⟩
 refine gX [.e 2,.z [0,1,0,1] 5 [0,23]] (gQ p (gS [.o [0,1,0,1] 5,.c [1,1]] ?_))
 refine go_call (some 24) [2] call157 (pub_lookedB c p wd ep bk od (A.ws.getD wd.toNat 0) fl tm cd false wsl (.iface 173 (vP eb)) (.func (.func 157) #[vP p] #[]) hR hk hc hcl hl he hb) kR ?_
 rintro v post ⟨gv_1,bq_2,bc_3,rfl,rfl⟩
 exact gX [.e 4] (gQ p (gJ [4,0,1,2,3,5,6,7] ⟨gv_1,bq_2,bc_3,rfl,rfl⟩))
theorem pub_Step3B(c:Cfg)(p ba bp eb:Nat)(wd ep bk od sn fl tm cd:Int)(wsl:Value)(A:Ar)(hn:A.ws.length=A.n)(hs:0≤A.steps∧A.steps≤1000000000)(hi:0≤wd∧wd<A.n)(hR:U64 (A.ws.getD wd.toNat 0))(hk:1≤bk∧bk≤65535)(hc:c.Ok)(hcl:0≤clsOf c bk)(hl:ctlLive (A.ws.getD wd.toNat 0)=true)(he:ctlEpoch (A.ws.getD wd.toNat 0)=ep)(hb:ctlBusy (A.ws.getD wd.toNat 0)=true):
  Ctr prog 15 #[vP p,vP ba] [Eh p (.iface 173 (vP eb)) (.func (.func 157) #[vP p] #[]) cd false c wd ep wsl bk od sn fl tm,.pts eb [vI 0,vI 1,.func (.func 156) #[] #[vP bp]] 176,.pts bp [vP p] 23,Eb ba A,Ea A] (fun v L => ∃(gv:Nat) (bq:Nat) (bc:Nat),v = .bool false∧L=[Eh p (.iface 147 (vP gv)) (.func (.func 197) #[] #[vP bq,vP bc]) cd false c wd ep wsl bk od (A.ws.getD wd.toNat 0) fl tm,.pts eb [vI 1,vI 1,.func (.func 156) #[] #[vP bp]] 176,.pts bp [vP p] 23,Eb ba (A.load wd),Ea (A.load wd),Ek gv c (3+clsOf c bk) 0 (.func (.func 192) #[vP gv] #[]) bk,.pts bq [vP p] 23,.pts bc [vI 22] 42]):=by
 refine cb 14 func15 fun F=>gX [.z [0,1] 7 [7,10,11]] (gS [.o [0,1] 7,.c [1,1]] ?_)
 refine go_call (some 12) [0,1,2,3,4] call61 (pstep3B c p ba bp eb wd ep bk od sn fl tm cd wsl A oM oM hi oM hk hc hcl hl he hb) kR ?_
 rintro v post ⟨gv_1,bq_2,bc_3,rfl,rfl⟩
 exact gX [] (gJ [0,1,2,3,4,5,6,7] ⟨gv_1,bq_2,bc_3,rfl,rfl⟩)
theorem pstep3O(c:Cfg)(p ba bp eb:Nat)(wd ep bk od sn fl tm cd:Int)(wsl:Value)(A:Ar)(hn:A.ws.length=A.n)(hs:0≤A.steps∧A.steps≤1000000000)(hi:0≤wd∧wd<A.n)(hR:U64 (A.ws.getD wd.toNat 0))(hk:1≤bk∧bk≤65535)(hc:c.Ok)(hcl:0≤clsOf c bk)(hl:ctlLive (A.ws.getD wd.toNat 0)=true)(he:ctlEpoch (A.ws.getD wd.toNat 0)=ep)(hb:ctlBusy (A.ws.getD wd.toNat 0)=false)(hg:ctlGen (A.ws.getD wd.toNat 0)=2147483647):
  Ctr prog 61 #[vP p,vP ba] [Eh p (.iface 173 (vP eb)) (.func (.func 157) #[vP p] #[]) cd false c wd ep wsl bk od sn fl tm,.pts eb [vI 0,vI 1,.func (.func 156) #[] #[vP bp]] 176,.pts bp [vP p] 23,Eb ba A,Ea A] (fun v L => ∃(gv:Nat) (bq:Nat) (bc:Nat),v = .bool false∧L=[Eh p (.iface 147 (vP gv)) (.func (.func 197) #[] #[vP bq,vP bc]) cd false c wd ep wsl bk od (A.ws.getD wd.toNat 0) fl tm,.pts eb [vI 1,vI 1,.func (.func 156) #[] #[vP bp]] 176,.pts bp [vP p] 23,Eb ba (A.load wd),Ea (A.load wd),Ek gv c (3+clsOf c bk) 0 (.func (.func 192) #[vP gv] #[]) bk,.pts bq [vP p] 23,.pts bc [vI 16] 42]):=by
 refine cb 29 func61 fun F=>gX [.e 0,.e 0,.z [0,0,1] 12 [0,10,15,16]] (gQ p (gQ p (gS [.o [0,0,1] 12,.c [1,0,1],.c [1,1]] ?_)))
 refine go_invoke (some 17) [1,2,0,3,4] (T:=173) (rv:=vP eb) (name:= "Step") (fun w=>by kernel_rfl) call231 (each_look c p ba bp eb wd ep bk od sn fl tm cd false wsl (.iface 173 (vP eb)) (.func (.func 157) #[vP p] #[]) A oM oM hi) kR ?_
 rintro v post ⟨rfl,rfl⟩
 refine gX [.e 2,.z [0,1,0,1] 5 [0,23]] (gQ p (gS [.o [0,1,0,1] 5,.c [1,1]] ?_))
 refine go_call (some 24) [2] call157 (pub_lookedO c p wd ep bk od (A.ws.getD wd.toNat 0) fl tm cd false wsl (.iface 173 (vP eb)) (.func (.func 157) #[vP p] #[]) hR hk hc hcl hl he hb hg) kR ?_
 rintro v post ⟨gv_1,bq_2,bc_3,rfl,rfl⟩
 exact gX [.e 4] (gQ p (gJ [4,0,1,2,3,5,6,7] ⟨gv_1,bq_2,bc_3,rfl,rfl⟩))
theorem pub_Step3O(c:Cfg)(p ba bp eb:Nat)(wd ep bk od sn fl tm cd:Int)(wsl:Value)(A:Ar)(hn:A.ws.length=A.n)(hs:0≤A.steps∧A.steps≤1000000000)(hi:0≤wd∧wd<A.n)(hR:U64 (A.ws.getD wd.toNat 0))(hk:1≤bk∧bk≤65535)(hc:c.Ok)(hcl:0≤clsOf c bk)(hl:ctlLive (A.ws.getD wd.toNat 0)=true)(he:ctlEpoch (A.ws.getD wd.toNat 0)=ep)(hb:ctlBusy (A.ws.getD wd.toNat 0)=false)(hg:ctlGen (A.ws.getD wd.toNat 0)=2147483647):
  Ctr prog 15 #[vP p,vP ba] [Eh p (.iface 173 (vP eb)) (.func (.func 157) #[vP p] #[]) cd false c wd ep wsl bk od sn fl tm,.pts eb [vI 0,vI 1,.func (.func 156) #[] #[vP bp]] 176,.pts bp [vP p] 23,Eb ba A,Ea A] (fun v L => ∃(gv:Nat) (bq:Nat) (bc:Nat),v = .bool false∧L=[Eh p (.iface 147 (vP gv)) (.func (.func 197) #[] #[vP bq,vP bc]) cd false c wd ep wsl bk od (A.ws.getD wd.toNat 0) fl tm,.pts eb [vI 1,vI 1,.func (.func 156) #[] #[vP bp]] 176,.pts bp [vP p] 23,Eb ba (A.load wd),Ea (A.load wd),Ek gv c (3+clsOf c bk) 0 (.func (.func 192) #[vP gv] #[]) bk,.pts bq [vP p] 23,.pts bc [vI 16] 42]):=by
 refine cb 14 func15 fun F=>gX [.z [0,1] 7 [7,10,11]] (gS [.o [0,1] 7,.c [1,1]] ?_)
 refine go_call (some 12) [0,1,2,3,4] call61 (pstep3O c p ba bp eb wd ep bk od sn fl tm cd wsl A oM oM hi oM hk hc hcl hl he hb hg) kR ?_
 rintro v post ⟨gv_1,bq_2,bc_3,rfl,rfl⟩
 exact gX [] (gJ [0,1,2,3,4,5,6,7] ⟨gv_1,bq_2,bc_3,rfl,rfl⟩)
theorem pstep3K(c:Cfg)(p ba bp eb:Nat)(wd ep bk od sn fl tm cd:Int)(wsl:Value)(A:Ar)(hn:A.ws.length=A.n)(hs:0≤A.steps∧A.steps≤1000000000)(hi:0≤wd∧wd<A.n)(hR:U64 (A.ws.getD wd.toNat 0))(hk:1≤bk∧bk≤65535)(hc:c.Ok)(hcl:0≤clsOf c bk)(hl:ctlLive (A.ws.getD wd.toNat 0)=true)(he:ctlEpoch (A.ws.getD wd.toNat 0)=ep)(hb:ctlBusy (A.ws.getD wd.toNat 0)=false)(hg:ctlGen (A.ws.getD wd.toNat 0)≠2147483647):
  Ctr prog 61 #[vP p,vP ba] [Eh p (.iface 173 (vP eb)) (.func (.func 157) #[vP p] #[]) cd false c wd ep wsl bk od sn fl tm,.pts eb [vI 0,vI 1,.func (.func 156) #[] #[vP bp]] 176,.pts bp [vP p] 23,Eb ba A,Ea A] (fun v L => ∃(e2:Nat) (bq:Nat) (b3:Nat) (b5:Nat) (b2:Nat),v = .bool false∧L=[Eh p (.iface 173 (vP e2)) (.func (.func 186) #[] #[vP bq,vP b5,vP b2]) cd false c wd ep wsl bk od (A.ws.getD wd.toNat 0) fl tm,.pts eb [vI 1,vI 1,.func (.func 156) #[] #[vP bp]] 176,.pts bp [vP p] 23,Eb ba (A.load wd),Ea (A.load wd),.pts e2 [vI 0,vI 1,.func (.func 184) #[] #[vP bq,vP b3,vP b5]] 176,.pts bq [vP p] 23,.pts b3 [vU (pubW (A.ws.getD wd.toNat 0) bk)] 60,.pts b5 [.bool false] 4,Eu b2 (ctlEpoch (A.ws.getD wd.toNat 0)) (ctlGen (A.ws.getD wd.toNat 0)) (ctlBlock (A.ws.getD wd.toNat 0)) (ctlLive (A.ws.getD wd.toNat 0)) (ctlBusy (A.ws.getD wd.toNat 0))]):=by
 refine cb 29 func61 fun F=>gX [.e 0,.e 0,.z [0,0,1] 12 [0,10,15,16]] (gQ p (gQ p (gS [.o [0,0,1] 12,.c [1,0,1],.c [1,1]] ?_)))
 refine go_invoke (some 17) [1,2,0,3,4] (T:=173) (rv:=vP eb) (name:= "Step") (fun w=>by kernel_rfl) call231 (each_look c p ba bp eb wd ep bk od sn fl tm cd false wsl (.iface 173 (vP eb)) (.func (.func 157) #[vP p] #[]) A oM oM hi) kR ?_
 rintro v post ⟨rfl,rfl⟩
 refine gX [.e 2,.z [0,1,0,1] 5 [0,23]] (gQ p (gS [.o [0,1,0,1] 5,.c [1,1]] ?_))
 refine go_call (some 24) [2] call157 (pub_lookedK c p wd ep bk od (A.ws.getD wd.toNat 0) fl tm cd false wsl (.iface 173 (vP eb)) (.func (.func 157) #[vP p] #[]) hR hk hc hcl hl he hb hg) kR ?_
 rintro v post ⟨eb_1,bp_2,b3_3,b5_4,b2_5,rfl,rfl⟩
 exact gX [.e 4] (gQ p (gJ [4,0,1,2,3,5,6,7,8,9] ⟨eb_1,bp_2,b3_3,b5_4,b2_5,rfl,rfl⟩))
theorem pub_Step3K(c:Cfg)(p ba bp eb:Nat)(wd ep bk od sn fl tm cd:Int)(wsl:Value)(A:Ar)(hn:A.ws.length=A.n)(hs:0≤A.steps∧A.steps≤1000000000)(hi:0≤wd∧wd<A.n)(hR:U64 (A.ws.getD wd.toNat 0))(hk:1≤bk∧bk≤65535)(hc:c.Ok)(hcl:0≤clsOf c bk)(hl:ctlLive (A.ws.getD wd.toNat 0)=true)(he:ctlEpoch (A.ws.getD wd.toNat 0)=ep)(hb:ctlBusy (A.ws.getD wd.toNat 0)=false)(hg:ctlGen (A.ws.getD wd.toNat 0)≠2147483647):
  Ctr prog 15 #[vP p,vP ba] [Eh p (.iface 173 (vP eb)) (.func (.func 157) #[vP p] #[]) cd false c wd ep wsl bk od sn fl tm,.pts eb [vI 0,vI 1,.func (.func 156) #[] #[vP bp]] 176,.pts bp [vP p] 23,Eb ba A,Ea A] (fun v L => ∃(e2:Nat) (bq:Nat) (b3:Nat) (b5:Nat) (b2:Nat),v = .bool false∧L=[Eh p (.iface 173 (vP e2)) (.func (.func 186) #[] #[vP bq,vP b5,vP b2]) cd false c wd ep wsl bk od (A.ws.getD wd.toNat 0) fl tm,.pts eb [vI 1,vI 1,.func (.func 156) #[] #[vP bp]] 176,.pts bp [vP p] 23,Eb ba (A.load wd),Ea (A.load wd),.pts e2 [vI 0,vI 1,.func (.func 184) #[] #[vP bq,vP b3,vP b5]] 176,.pts bq [vP p] 23,.pts b3 [vU (pubW (A.ws.getD wd.toNat 0) bk)] 60,.pts b5 [.bool false] 4,Eu b2 (ctlEpoch (A.ws.getD wd.toNat 0)) (ctlGen (A.ws.getD wd.toNat 0)) (ctlBlock (A.ws.getD wd.toNat 0)) (ctlLive (A.ws.getD wd.toNat 0)) (ctlBusy (A.ws.getD wd.toNat 0))]):=by
 refine cb 14 func15 fun F=>gX [.z [0,1] 7 [7,10,11]] (gS [.o [0,1] 7,.c [1,1]] ?_)
 refine go_call (some 12) [0,1,2,3,4] call61 (pstep3K c p ba bp eb wd ep bk od sn fl tm cd wsl A oM oM hi oM hk hc hcl hl he hb hg) kR ?_
 rintro v post ⟨e2_1,bq_2,b3_3,b5_4,b2_5,rfl,rfl⟩
 exact gX [] (gJ [0,1,2,3,4,5,6,7,8,9] ⟨e2_1,bq_2,b3_3,b5_4,b2_5,rfl,rfl⟩)
theorem pstep4T(c:Cfg)(p ba bp b3 b5 b2 eb:Nat)(wd ep bk od sn fl tm cd:Int)(wsl:Value)(nw w_:Int)(A:Ar)(hn:A.ws.length=A.n)(hs:0≤A.steps∧A.steps≤1000000000)(hi:0≤wd∧wd<A.n)(hw:U64 sn)(hv:U64 nw)(hq:(A.ws.getD wd.toNat 0)=sn):
  Ctr prog 61 #[vP p,vP ba] [Eh p (.iface 173 (vP eb)) (.func (.func 186) #[] #[vP bp,vP b5,vP b2]) cd false c wd ep wsl bk od sn fl tm,.pts eb [vI 0,vI 1,.func (.func 184) #[] #[vP bp,vP b3,vP b5]] 176,.pts bp [vP p] 23,.pts b3 [vU nw] 60,.pts b5 [.bool false] 4,Eu b2 (ctlEpoch w_) (ctlGen w_) (ctlBlock w_) (ctlLive w_) (ctlBusy w_),Eb ba A,Ea A] (Ret (.bool true) [Eh p (.iface 173 (vP eb)) (.func (.func 186) #[] #[vP bp,vP b5,vP b2]) 0 true c wd ep wsl 0 (ctlBlock w_) sn fl (A.steps+1),.pts eb [vI 1,vI 1,.func (.func 184) #[] #[vP bp,vP b3,vP b5]] 176,.pts bp [vP p] 23,.pts b3 [vU nw] 60,.pts b5 [.bool true] 4,Eu b2 (ctlEpoch w_) (ctlGen w_) (ctlBlock w_) (ctlLive w_) (ctlBusy w_),Eb ba (A.swapT wd nw),Ea (A.swapT wd nw)]):=by
 refine cb 29 func61 fun F=>gX [.e 0,.e 0,.z [0,0,1] 12 [0,10,15,16]] (gQ p (gQ p (gS [.o [0,0,1] 12,.c [1,0,1],.c [1,1]] ?_)))
 refine go_invoke (some 17) [1,2,3,4,0,6,7] (T:=173) (rv:=vP eb) (name:= "Step") (fun w=>by kernel_rfl) call231 (each_swapT c p ba bp b3 b5 eb wd ep bk od sn fl tm cd false wsl (.iface 173 (vP eb)) (.func (.func 186) #[] #[vP bp,vP b5,vP b2]) nw A oM oM hi hw hv hq) kR ?_
 rintro v post ⟨rfl,rfl⟩
 exact gX [.e 5,.z [0,1,0,1] 5 [0,23]] (gQ p (gS [.o [0,1,0,1] 5,.c [1,1]] (gC (some 24) [2,4,0,5] call186 (pub_then4T c p bp b5 b2 wd ep bk od sn fl (A.steps+1) cd false wsl (.iface 173 (vP eb)) (.func (.func 186) #[] #[vP bp,vP b5,vP b2]) w_) (gX [.e 7] (gQ p (gJ [7,0,4,1,5,6,2,3] ⟨rfl,rfl⟩))))))
theorem pub_Step4T(c:Cfg)(p ba bp b3 b5 b2 eb:Nat)(wd ep bk od sn fl tm cd:Int)(wsl:Value)(nw w_:Int)(A:Ar)(hn:A.ws.length=A.n)(hs:0≤A.steps∧A.steps≤1000000000)(hi:0≤wd∧wd<A.n)(hw:U64 sn)(hv:U64 nw)(hq:(A.ws.getD wd.toNat 0)=sn):
  Ctr prog 15 #[vP p,vP ba] [Eh p (.iface 173 (vP eb)) (.func (.func 186) #[] #[vP bp,vP b5,vP b2]) cd false c wd ep wsl bk od sn fl tm,.pts eb [vI 0,vI 1,.func (.func 184) #[] #[vP bp,vP b3,vP b5]] 176,.pts bp [vP p] 23,.pts b3 [vU nw] 60,.pts b5 [.bool false] 4,Eu b2 (ctlEpoch w_) (ctlGen w_) (ctlBlock w_) (ctlLive w_) (ctlBusy w_),Eb ba A,Ea A] (Ret (.bool true) [Eh p (.iface 173 (vP eb)) (.func (.func 186) #[] #[vP bp,vP b5,vP b2]) 0 true c wd ep wsl 0 (ctlBlock w_) sn fl (A.steps+1),.pts eb [vI 1,vI 1,.func (.func 184) #[] #[vP bp,vP b3,vP b5]] 176,.pts bp [vP p] 23,.pts b3 [vU nw] 60,.pts b5 [.bool true] 4,Eu b2 (ctlEpoch w_) (ctlGen w_) (ctlBlock w_) (ctlLive w_) (ctlBusy w_),Eb ba (A.swapT wd nw),Ea (A.swapT wd nw)]):=by
 exact cb 14 func15 fun F=>gX [.z [0,1] 7 [7,10,11]] (gS [.o [0,1] 7,.c [1,1]] (gC (some 12) [0,1,2,3,4,5,6,7] call61 (pstep4T c p ba bp b3 b5 b2 eb wd ep bk od sn fl tm cd wsl nw w_ A oM oM hi hw hv hq) (gX [] (gJ [0,1,2,3,4,5,6,7] ⟨rfl,rfl⟩))))
theorem pstep4R(c:Cfg)(p ba bp b3 b5 b2 eb:Nat)(wd ep bk od sn fl tm cd:Int)(wsl:Value)(nw w_:Int)(A:Ar)(hn:A.ws.length=A.n)(hs:0≤A.steps∧A.steps≤1000000000)(hi:0≤wd∧wd<A.n)(hw:U64 sn)(hv:U64 nw)(hq:(A.ws.getD wd.toNat 0)≠sn)(hf:0≤fl∧fl≤1000)(hr:fl+1=c.retry)(hc:c.Ok)(hb:0≤clsOf c bk):
  Ctr prog 61 #[vP p,vP ba] [Eh p (.iface 173 (vP eb)) (.func (.func 186) #[] #[vP bp,vP b5,vP b2]) cd false c wd ep wsl bk od sn fl tm,.pts eb [vI 0,vI 1,.func (.func 184) #[] #[vP bp,vP b3,vP b5]] 176,.pts bp [vP p] 23,.pts b3 [vU nw] 60,.pts b5 [.bool false] 4,Eu b2 (ctlEpoch w_) (ctlGen w_) (ctlBlock w_) (ctlLive w_) (ctlBusy w_),Eb ba A,Ea A] (fun v L => ∃(gv:Nat) (bq:Nat) (bc:Nat),v = .bool false∧L=[Eh p (.iface 147 (vP gv)) (.func (.func 197) #[] #[vP bq,vP bc]) cd false c wd ep wsl bk od sn (fl+1) tm,.pts eb [vI 1,vI 1,.func (.func 184) #[] #[vP bp,vP b3,vP b5]] 176,.pts bp [vP p] 23,.pts b3 [vU nw] 60,.pts b5 [.bool false] 4,Eu b2 (ctlEpoch w_) (ctlGen w_) (ctlBlock w_) (ctlLive w_) (ctlBusy w_),Eb ba (A.swapF wd),Ea (A.swapF wd),Ek gv c (3+clsOf c bk) 0 (.func (.func 192) #[vP gv] #[]) bk,.pts bq [vP p] 23,.pts bc [vI 17] 42]):=by
 refine cb 29 func61 fun F=>gX [.e 0,.e 0,.z [0,0,1] 12 [0,10,15,16]] (gQ p (gQ p (gS [.o [0,0,1] 12,.c [1,0,1],.c [1,1]] ?_)))
 refine go_invoke (some 17) [1,2,3,4,0,6,7] (T:=173) (rv:=vP eb) (name:= "Step") (fun w=>by kernel_rfl) call231 (each_swapF c p ba bp b3 b5 eb wd ep bk od sn fl tm cd false wsl (.iface 173 (vP eb)) (.func (.func 186) #[] #[vP bp,vP b5,vP b2]) nw A oM oM hi hw hv hq) kR ?_
 rintro v post ⟨rfl,rfl⟩
 refine gX [.e 5,.z [0,1,0,1] 5 [0,23]] (gQ p (gS [.o [0,1,0,1] 5,.c [1,1]] ?_))
 refine go_call (some 24) [2,4,0,5] call186 (pub_then4R c p bp b5 b2 wd ep bk od sn fl tm cd false wsl (.iface 173 (vP eb)) (.func (.func 186) #[] #[vP bp,vP b5,vP b2]) w_ hf hc hb hr) kR ?_
 rintro v post ⟨gv_1,bq_2,bc_3,rfl,rfl⟩
 exact gX [.e 7] (gQ p (gJ [7,0,4,1,5,6,2,3,8,9,10] ⟨gv_1,bq_2,bc_3,rfl,rfl⟩))
theorem pub_Step4R(c:Cfg)(p ba bp b3 b5 b2 eb:Nat)(wd ep bk od sn fl tm cd:Int)(wsl:Value)(nw w_:Int)(A:Ar)(hn:A.ws.length=A.n)(hs:0≤A.steps∧A.steps≤1000000000)(hi:0≤wd∧wd<A.n)(hw:U64 sn)(hv:U64 nw)(hq:(A.ws.getD wd.toNat 0)≠sn)(hf:0≤fl∧fl≤1000)(hr:fl+1=c.retry)(hc:c.Ok)(hb:0≤clsOf c bk):
  Ctr prog 15 #[vP p,vP ba] [Eh p (.iface 173 (vP eb)) (.func (.func 186) #[] #[vP bp,vP b5,vP b2]) cd false c wd ep wsl bk od sn fl tm,.pts eb [vI 0,vI 1,.func (.func 184) #[] #[vP bp,vP b3,vP b5]] 176,.pts bp [vP p] 23,.pts b3 [vU nw] 60,.pts b5 [.bool false] 4,Eu b2 (ctlEpoch w_) (ctlGen w_) (ctlBlock w_) (ctlLive w_) (ctlBusy w_),Eb ba A,Ea A] (fun v L => ∃(gv:Nat) (bq:Nat) (bc:Nat),v = .bool false∧L=[Eh p (.iface 147 (vP gv)) (.func (.func 197) #[] #[vP bq,vP bc]) cd false c wd ep wsl bk od sn (fl+1) tm,.pts eb [vI 1,vI 1,.func (.func 184) #[] #[vP bp,vP b3,vP b5]] 176,.pts bp [vP p] 23,.pts b3 [vU nw] 60,.pts b5 [.bool false] 4,Eu b2 (ctlEpoch w_) (ctlGen w_) (ctlBlock w_) (ctlLive w_) (ctlBusy w_),Eb ba (A.swapF wd),Ea (A.swapF wd),Ek gv c (3+clsOf c bk) 0 (.func (.func 192) #[vP gv] #[]) bk,.pts bq [vP p] 23,.pts bc [vI 17] 42]):=by
 refine cb 14 func15 fun F=>gX [.z [0,1] 7 [7,10,11]] (gS [.o [0,1] 7,.c [1,1]] ?_)
 refine go_call (some 12) [0,1,2,3,4,5,6,7] call61 (pstep4R c p ba bp b3 b5 b2 eb wd ep bk od sn fl tm cd wsl nw w_ A oM oM hi hw hv hq hf hr hc hb) kR ?_
 rintro v post ⟨gv_1,bq_2,bc_3,rfl,rfl⟩
 exact gX [] (gJ [0,1,2,3,4,5,6,7,8,9,10] ⟨gv_1,bq_2,bc_3,rfl,rfl⟩)
theorem pstep4N(c:Cfg)(p ba bp b3 b5 b2 eb:Nat)(wd ep bk od sn fl tm cd:Int)(wsl:Value)(nw w_:Int)(A:Ar)(hn:A.ws.length=A.n)(hs:0≤A.steps∧A.steps≤1000000000)(hi:0≤wd∧wd<A.n)(hw:U64 sn)(hv:U64 nw)(hq:(A.ws.getD wd.toNat 0)≠sn)(hf:0≤fl∧fl≤1000)(hr:fl+1≠c.retry):
  Ctr prog 61 #[vP p,vP ba] [Eh p (.iface 173 (vP eb)) (.func (.func 186) #[] #[vP bp,vP b5,vP b2]) cd false c wd ep wsl bk od sn fl tm,.pts eb [vI 0,vI 1,.func (.func 184) #[] #[vP bp,vP b3,vP b5]] 176,.pts bp [vP p] 23,.pts b3 [vU nw] 60,.pts b5 [.bool false] 4,Eu b2 (ctlEpoch w_) (ctlGen w_) (ctlBlock w_) (ctlLive w_) (ctlBusy w_),Eb ba A,Ea A] (fun v L => ∃(e2:Nat) (bq:Nat),v = .bool false∧L=[Eh p (.iface 173 (vP e2)) (.func (.func 157) #[vP p] #[]) cd false c wd ep wsl bk od sn (fl+1) tm,.pts eb [vI 1,vI 1,.func (.func 184) #[] #[vP bp,vP b3,vP b5]] 176,.pts bp [vP p] 23,.pts b3 [vU nw] 60,.pts b5 [.bool false] 4,Eu b2 (ctlEpoch w_) (ctlGen w_) (ctlBlock w_) (ctlLive w_) (ctlBusy w_),Eb ba (A.swapF wd),Ea (A.swapF wd),.pts e2 [vI 0,vI 1,.func (.func 156) #[] #[vP bq]] 176,.pts bq [vP p] 23]):=by
 refine cb 29 func61 fun F=>gX [.e 0,.e 0,.z [0,0,1] 12 [0,10,15,16]] (gQ p (gQ p (gS [.o [0,0,1] 12,.c [1,0,1],.c [1,1]] ?_)))
 refine go_invoke (some 17) [1,2,3,4,0,6,7] (T:=173) (rv:=vP eb) (name:= "Step") (fun w=>by kernel_rfl) call231 (each_swapF c p ba bp b3 b5 eb wd ep bk od sn fl tm cd false wsl (.iface 173 (vP eb)) (.func (.func 186) #[] #[vP bp,vP b5,vP b2]) nw A oM oM hi hw hv hq) kR ?_
 rintro v post ⟨rfl,rfl⟩
 refine gX [.e 5,.z [0,1,0,1] 5 [0,23]] (gQ p (gS [.o [0,1,0,1] 5,.c [1,1]] ?_))
 refine go_call (some 24) [2,4,0,5] call186 (pub_then4N c p bp b5 b2 wd ep bk od sn fl tm cd false wsl (.iface 173 (vP eb)) (.func (.func 186) #[] #[vP bp,vP b5,vP b2]) w_ hf hr) kR ?_
 rintro v post ⟨eb_1,bq_2,rfl,rfl⟩
 exact gX [.e 7] (gQ p (gJ [7,0,4,1,5,6,2,3,8,9] ⟨eb_1,bq_2,rfl,rfl⟩))
theorem pub_Step4N(c:Cfg)(p ba bp b3 b5 b2 eb:Nat)(wd ep bk od sn fl tm cd:Int)(wsl:Value)(nw w_:Int)(A:Ar)(hn:A.ws.length=A.n)(hs:0≤A.steps∧A.steps≤1000000000)(hi:0≤wd∧wd<A.n)(hw:U64 sn)(hv:U64 nw)(hq:(A.ws.getD wd.toNat 0)≠sn)(hf:0≤fl∧fl≤1000)(hr:fl+1≠c.retry):
  Ctr prog 15 #[vP p,vP ba] [Eh p (.iface 173 (vP eb)) (.func (.func 186) #[] #[vP bp,vP b5,vP b2]) cd false c wd ep wsl bk od sn fl tm,.pts eb [vI 0,vI 1,.func (.func 184) #[] #[vP bp,vP b3,vP b5]] 176,.pts bp [vP p] 23,.pts b3 [vU nw] 60,.pts b5 [.bool false] 4,Eu b2 (ctlEpoch w_) (ctlGen w_) (ctlBlock w_) (ctlLive w_) (ctlBusy w_),Eb ba A,Ea A] (fun v L => ∃(e2:Nat) (bq:Nat),v = .bool false∧L=[Eh p (.iface 173 (vP e2)) (.func (.func 157) #[vP p] #[]) cd false c wd ep wsl bk od sn (fl+1) tm,.pts eb [vI 1,vI 1,.func (.func 184) #[] #[vP bp,vP b3,vP b5]] 176,.pts bp [vP p] 23,.pts b3 [vU nw] 60,.pts b5 [.bool false] 4,Eu b2 (ctlEpoch w_) (ctlGen w_) (ctlBlock w_) (ctlLive w_) (ctlBusy w_),Eb ba (A.swapF wd),Ea (A.swapF wd),.pts e2 [vI 0,vI 1,.func (.func 156) #[] #[vP bq]] 176,.pts bq [vP p] 23]):=by
 refine cb 14 func15 fun F=>gX [.z [0,1] 7 [7,10,11]] (gS [.o [0,1] 7,.c [1,1]] ?_)
 refine go_call (some 12) [0,1,2,3,4,5,6,7] call61 (pstep4N c p ba bp b3 b5 b2 eb wd ep bk od sn fl tm cd wsl nw w_ A oM oM hi hw hv hq hf hr) kR ?_
 rintro v post ⟨e2_1,bq_2,rfl,rfl⟩
 exact gX [] (gJ [0,1,2,3,4,5,6,7,8,9] ⟨e2_1,bq_2,rfl,rfl⟩)
theorem pstep5W(c:Cfg)(p ba gv bq bc:Nat)(wd ep bk od sn fl tm cd:Int)(wsl:Value)(k_:Int)(G:Gv)(A:Ar)(hn:A.ws.length=A.n)(hs:0≤A.steps∧A.steps≤1000000000)(hc:c.Ok)(hg:Gv.Ok c A.n G)(hd:(G.step c A).1.ph≠0):
  Ctr prog 61 #[vP p,vP ba] [Eh p (.iface 147 (vP gv)) (.func (.func 197) #[] #[vP bq,vP bc]) cd false c wd ep wsl bk od sn fl tm,Ey gv c G (nxV gv G.ph),.pts bq [vP p] 23,.pts bc [vI k_] 42,Eb ba A,Ea A] (Ret (.bool false) [Eh p (.iface 147 (vP gv)) (.func (.func 197) #[] #[vP bq,vP bc]) cd false c wd ep wsl bk od sn fl tm,Ey gv c ((G.step c A).1) (nxV gv ((G.step c A).1).ph),.pts bq [vP p] 23,.pts bc [vI k_] 42,Eb ba ((G.step c A).2),Ea ((G.step c A).2)]):=by
 refine cb 29 func61 fun F=>gX [.e 0,.e 0,.z [0,0,1] 12 [0,10,15,16]] (gQ p (gQ p (gS [.o [0,0,1] 12,.c [1,0,1],.c [1,1]] ?_)))
 refine go_invoke (some 17) [1,4,5] (T:=147) (rv:=vP gv) (name:= "Step") (fun w=>by kernel_rfl) call139 (give_Step c gv ba G A oM oM hc hg) kR ?_
 rintro v post ⟨rfl,rfl⟩
 exact gX [.sp [18,17] [.dead] [.e 0]] (gQ ((G.step c A).1.ph==0) (gF ((G.step c A).1.ph==0) (beq_eq_false_iff_ne.2 hd) (gQ p (gJ [0,3,1,2,4,5] ⟨rfl,rfl⟩))))
theorem pub_Step5W(c:Cfg)(p ba gv bq bc:Nat)(wd ep bk od sn fl tm cd:Int)(wsl:Value)(k_:Int)(G:Gv)(A:Ar)(hn:A.ws.length=A.n)(hs:0≤A.steps∧A.steps≤1000000000)(hc:c.Ok)(hg:Gv.Ok c A.n G)(hd:(G.step c A).1.ph≠0):
  Ctr prog 15 #[vP p,vP ba] [Eh p (.iface 147 (vP gv)) (.func (.func 197) #[] #[vP bq,vP bc]) cd false c wd ep wsl bk od sn fl tm,Ey gv c G (nxV gv G.ph),.pts bq [vP p] 23,.pts bc [vI k_] 42,Eb ba A,Ea A] (Ret (.bool false) [Eh p (.iface 147 (vP gv)) (.func (.func 197) #[] #[vP bq,vP bc]) cd false c wd ep wsl bk od sn fl tm,Ey gv c ((G.step c A).1) (nxV gv ((G.step c A).1).ph),.pts bq [vP p] 23,.pts bc [vI k_] 42,Eb ba ((G.step c A).2),Ea ((G.step c A).2)]):=by
 exact cb 14 func15 fun F=>gX [.z [0,1] 7 [7,10,11]] (gS [.o [0,1] 7,.c [1,1]] (gC (some 12) [0,1,2,3,4,5] call61 (pstep5W c p ba gv bq bc wd ep bk od sn fl tm cd wsl k_ G A oM oM hc hg oM) (gX [] (gJ [0,1,2,3,4,5] ⟨rfl,rfl⟩))))
theorem pstep5Y(c:Cfg)(p ba gv bq bc:Nat)(wd ep bk od sn fl tm cd:Int)(wsl:Value)(k_:Int)(G:Gv)(A:Ar)(hn:A.ws.length=A.n)(hs:0≤A.steps∧A.steps≤1000000000)(hc:c.Ok)(hg:Gv.Ok c A.n G)(hd:(G.step c A).1.ph=0):
  Ctr prog 61 #[vP p,vP ba] [Eh p (.iface 147 (vP gv)) (.func (.func 197) #[] #[vP bq,vP bc]) cd false c wd ep wsl bk od sn fl tm,Ey gv c G (nxV gv G.ph),.pts bq [vP p] 23,.pts bc [vI k_] 42,Eb ba A,Ea A] (Ret (.bool true) [Eh p (.iface 147 (vP gv)) (.func (.func 197) #[] #[vP bq,vP bc]) k_ true c wd ep wsl 0 od sn fl tm,Ey gv c ((G.step c A).1) (nxV gv ((G.step c A).1).ph),.pts bq [vP p] 23,.pts bc [vI k_] 42,Eb ba ((G.step c A).2),Ea ((G.step c A).2)]):=by
 refine cb 29 func61 fun F=>gX [.e 0,.e 0,.z [0,0,1] 12 [0,10,15,16]] (gQ p (gQ p (gS [.o [0,0,1] 12,.c [1,0,1],.c [1,1]] ?_)))
 refine go_invoke (some 17) [1,4,5] (T:=147) (rv:=vP gv) (name:= "Step") (fun w=>by kernel_rfl) call139 (give_Step c gv ba G A oM oM hc hg) kR ?_
 rintro v post ⟨rfl,rfl⟩
 exact gX [.sp [18,17] [.e 0,.z [0,1,0,1] 5 [0,23]] [.dead]] (gQ ((G.step c A).1.ph==0) (gT ((G.step c A).1.ph==0) (beq_iff_eq.2 hd) (gQ p (gS [.o [0,1,0,1] 5,.c [1,1]] (gC (some 24) [1,2,0] call197 (pub_then5 c p bq bc wd ep bk od sn fl tm cd false wsl (.iface 147 (vP gv)) (.func (.func 197) #[] #[vP bq,vP bc]) k_) (gX [.e 5] (gQ p (gJ [5,0,3,4,1,2] ⟨rfl,rfl⟩))))))))
theorem pub_Step5Y(c:Cfg)(p ba gv bq bc:Nat)(wd ep bk od sn fl tm cd:Int)(wsl:Value)(k_:Int)(G:Gv)(A:Ar)(hn:A.ws.length=A.n)(hs:0≤A.steps∧A.steps≤1000000000)(hc:c.Ok)(hg:Gv.Ok c A.n G)(hd:(G.step c A).1.ph=0):
  Ctr prog 15 #[vP p,vP ba] [Eh p (.iface 147 (vP gv)) (.func (.func 197) #[] #[vP bq,vP bc]) cd false c wd ep wsl bk od sn fl tm,Ey gv c G (nxV gv G.ph),.pts bq [vP p] 23,.pts bc [vI k_] 42,Eb ba A,Ea A] (Ret (.bool true) [Eh p (.iface 147 (vP gv)) (.func (.func 197) #[] #[vP bq,vP bc]) k_ true c wd ep wsl 0 od sn fl tm,Ey gv c ((G.step c A).1) (nxV gv ((G.step c A).1).ph),.pts bq [vP p] 23,.pts bc [vI k_] 42,Eb ba ((G.step c A).2),Ea ((G.step c A).2)]):=by
 exact cb 14 func15 fun F=>gX [.z [0,1] 7 [7,10,11]] (gS [.o [0,1] 7,.c [1,1]] (gC (some 12) [0,1,2,3,4,5] call61 (pstep5Y c p ba gv bq bc wd ep bk od sn fl tm cd wsl k_ G A oM oM hc hg oM) (gX [] (gJ [0,1,2,3,4,5] ⟨rfl,rfl⟩))))
theorem pstep0(c:Cfg)(p ba:Nat)(wd ep bk od sn fl tm cd:Int)(wsl:Value)(r_ th_:Value):
  Ctr prog 61 #[vP p,vP ba] [Eh p r_ th_ cd true c wd ep wsl bk od sn fl tm] (Ret (.bool true) [Eh p r_ th_ cd true c wd ep wsl bk od sn fl tm]):=by
 exact cb 29 func61 fun F=>gX [.e 0,.e 0] (gQ p (gQ p (gJ [0] ⟨rfl,rfl⟩)))
theorem pub_Step0(c:Cfg)(p ba:Nat)(wd ep bk od sn fl tm cd:Int)(wsl:Value)(r_ th_:Value):
  Ctr prog 15 #[vP p,vP ba] [Eh p r_ th_ cd true c wd ep wsl bk od sn fl tm] (Ret (.bool true) [Eh p r_ th_ cd true c wd ep wsl bk od sn fl tm]):=by
 exact cb 14 func15 fun F=>gX [.z [0,1] 7 [7,10,11]] (gS [.o [0,1] 7,.c [1,1]] (gC (some 12) [0] call61 (pstep0 c p ba wd ep bk od sn fl tm cd wsl r_ th_) (gX [] (gJ [0] ⟨rfl,rfl⟩))))
end Go.Proofs.YtpcaijopodhdgaaGreatDoor
namespace Go.Proofs.YtpcaijopodhdgaaGreatDoor
open Go.Proofs.Tryz
open Go.Sx
structure PbH where
 run:Value
 th:Value
 wa:Option Addr
 wc:Nat
 k:Nat
 bp:Nat
 bt:Nat
 eb:Nat
 bf:Nat
 b3:Nat
 b5:Nat
 b2:Nat
 gx:Nat
 bc:Nat
noncomputable def runV(h:PbH): Nat→Value
 | 1=>.iface 114 (vP h.k)
 | 2=>.iface 173 (vP h.eb)
 | 3=>.iface 173 (vP h.eb)
 | 4=>.iface 173 (vP h.eb)
 | 5=>.iface 147 (vP h.gx)
 | _=>h.run
noncomputable def thV(p:Nat)(h:PbH): Nat→Value
 | 1=>.func (.func 51) #[] #[vP h.bp,vP h.bt]
 | 2=>.func (.func 108) #[vP p] #[]
 | 3=>.func (.func 157) #[vP p] #[]
 | 4=>.func (.func 186) #[] #[vP h.bp,vP h.b5,vP h.b2]
 | 5=>.func (.func 197) #[] #[vP h.bp,vP h.bc]
 | _=>h.th
def cdV(ph:Nat)(cd:Int): Int:=match ph with
 | 0=>cd
 | _=>0
def ovV(ph:Nat): Bool:=match ph with
 | 0=>true
 | _=>false
noncomputable def phL(c:Cfg)(p:Nat)(ws:List Int)(S:Pb)(h:PbH): List Ent:=match S.ph with
 | 1=>[.pts h.bp [vP p] 23,.pts h.bt [vP h.k] 114,Ez h.k c S.tk h.k]
 | 2=>[.pts h.eb [vI S.i,vI (ws.length:Int),.func (.func 106) #[] #[vP h.bf,vP h.bp]] 176,.pts h.bf [vI (blockAt c S.block+1)] 3,.pts h.bp [vP p] 23]
 | 3=>[.pts h.eb [vI 0,vI 1,.func (.func 156) #[] #[vP h.bp]] 176,.pts h.bp [vP p] 23]
 | 4=>[.pts h.eb [vI 0,vI 1,.func (.func 184) #[] #[vP h.bp,vP h.b3,vP h.b5]] 176,.pts h.bp [vP p] 23,.pts h.b3 [vU (pubW S.seen S.block)] 60,.pts h.b5 [.bool false] 4,Eu h.b2 (ctlEpoch S.seen) (ctlGen S.seen) (ctlBlock S.seen) (ctlLive S.seen) (ctlBusy S.seen)]
 | 5=>[Ey h.gx c S.gv (nxV h.gx S.gv.ph),.pts h.bp [vP p] 23,.pts h.bc [vI S.code] 42]
 | _=>[]
noncomputable def pbL(p:Nat)(c:Cfg)(wd ep:Int)(ws:List Int)(S:Pb)(h:PbH): List Ent:=[.pts p [(runV h S.ph),(thV p h S.ph),vI (cdV S.ph S.code),.bool (ovV S.ph),vI c.topics,vI c.small,vI c.slots,vI c.clients,vI c.s0,vI c.n0,vI c.s1,vI c.n1,vI c.retry,vI wd,vI ep,.slice h.wa ws.length h.wc,vI S.block,vI S.old,vU S.seen,vI S.failed,vI S.time] 109,Ee h.wa h.wc ws,.res (dens (phL c p ws S h))]
noncomputable def PbR(p:Nat)(c:Cfg)(wd ep:Int)(ws:List Int)(S:Pb): Res:=Box (fun _:PbH=>True) (pbL p c wd ep ws S)
theorem pub_Step(p ba:Nat)(c:Cfg)(wd ep:Int)(ws:List Int)(S:Pb)(A:Ar)(hc:c.Ok)(hn:A.ws.length=A.n)(hs:0≤A.steps∧A.steps≤1000000000)(hz:(A.n:Int)=sizeOfC c)(hR:RngW A.ws)(hwd:0≤wd∧wd<A.n)(hS:S.Ok c ws):
  Ctr prog 15 #[vP p,vP ba] [.res (PbR p c wd ep ws S),Eb ba A,Ea A] (Ret (.bool ((S.step c wd ep ws A).1.ph==0)) [.res (PbR p c wd ep ws ((S.step c wd ep ws A).1)),Eb ba ((S.step c wd ep ws A).2),Ea ((S.step c wd ep ws A).2)]):=by
 refine oC (I:=fun _:PbH=>True) (LL:=pbL p c wd ep ws S) 0 ?_
 rintro⟨run,th,wa,wc,k,bp,bt,eb,bf,b3,b5,b2,gx,bc⟩ -
 obtain⟨tk,i,sn,fl,bk,od,tm,cd,gv,ph⟩:=S
 obtain⟨h1,h2,h3,hne,h4,h5,h6,h7,h8,h9,h10,h11,h12,h13,h14,h15,h16,h17,hc0,h18⟩:=hS
 simp only at h1 h2 h3 h4 h5 h6 h7 h8 h9 h10 h11 h12 h13 h14 h15 h16 h17 h18 hc0
 have hc':=hc
 simp only [Cfg.Ok] at hc'
 have hk0:=h2.cls
 have hfl:0≤fl∧fl≤1000:=by omega
 have hsz:=sizeOfC_ok hc
 match ph,h1 with
 | 0,_=>
  have e:Pb.step c wd ep ws (⟨tk,i,sn,fl,bk,od,tm,cd,gv,0⟩:Pb) A=((⟨tk,i,sn,fl,bk,od,tm,cd,gv,0⟩:Pb),A):=by unfold Pb.step; simp only; skip
  rw [e]
  refine cP [2] (pub_Step0 c p ba wd ep bk od sn fl tm cd (.slice wa ws.length wc) run th) ?_
  rintro v post ⟨rfl,rfl⟩
  exact⟨_,(((vC [])).trans (vK (fun _:PbH=>True) (pbL p c wd ep ws (⟨tk,i,sn,fl,bk,od,tm,cd,gv,0⟩:Pb)) ⟨run,th,wa,wc,k,bp,bt,eb,bf,b3,b5,b2,gx,bc⟩ [4,2,5] trivial)).trans (vQ [3,0,1]),rfl,rfl⟩
 | 1,_=>
  obtain rfl:=h7 rfl
  have hto:=(tk_step (k:=A.steps) h2 ⟨hn,hz,hR,hs.1,Int.le_refl _⟩).1
  by_cases hd:(Tk.step c tk A).1.ph=0
  ·by_cases h0:(Tk.step c tk A).1.block=0
   ·skip
    have e:Pb.step c wd ep ws (⟨tk,0,sn,fl,bk,od,tm,cd,gv,1⟩:Pb) A=((⟨(Tk.step c tk A).1,0,sn,fl,bk,od,tm,18,gv,0⟩:Pb),(Tk.step c tk A).2):=by unfold Pb.step; simp only; rw [if_pos hd,if_pos h0]
    rw [e]
    refine ctr_view (view_open 4 (N:=[.pts bp [vP p] 23,.pts bt [vP k] 114,Ez k c tk k]) (M:=[Eb ba A,Ea A,En p (.iface 114 (vP k)) (.func (.func 51) #[] #[vP bp,vP bt]) 0 false c wd ep wa ws.length wc bk od sn fl tm,Ee wa wc ws]) kR) ?_
    refine cP [2,4,5,6,0,1] (pub_Step1N c p ba k bp bt wd ep bk od sn fl tm 0 wa ws.length wc tk A hn hs hc hz hR h2 hd h0) ?_
    rintro v post ⟨rfl,rfl⟩
    exact⟨_,(((vC [])).trans (vK (fun _:PbH=>True) (pbL p c wd ep ws (⟨(Tk.step c tk A).1,0,sn,fl,bk,od,tm,18,gv,0⟩:Pb)) ⟨(.iface 114 (vP k)),(.func (.func 51) #[] #[vP bp,vP bt]),wa,wc,k,bp,bt,eb,bf,b3,b5,b2,gx,bc⟩ [1,0,7] trivial)).trans (vQ [5,3,4]),rfl,rfl⟩
   ·have hb:0≤clsOf c (Tk.step c tk A).1.block:=by have:=(hto.b0 hd).resolve_left h0; rw [this]; have:=hto.cls; omega
    have e:Pb.step c wd ep ws (⟨tk,0,sn,fl,bk,od,tm,cd,gv,1⟩:Pb) A=((⟨(Tk.step c tk A).1,0,sn,fl,(Tk.step c tk A).1.block,od,tm,cd,gv,2⟩:Pb),(Tk.step c tk A).2):=by unfold Pb.step; simp only; rw [if_pos hd,if_neg h0]
    rw [e]
    refine ctr_view (view_open 4 (N:=[.pts bp [vP p] 23,.pts bt [vP k] 114,Ez k c tk k]) (M:=[Eb ba A,Ea A,En p (.iface 114 (vP k)) (.func (.func 51) #[] #[vP bp,vP bt]) 0 false c wd ep wa ws.length wc bk od sn fl tm,Ee wa wc ws]) kR) ?_
    refine cP [2,4,5,6,0,1] (pub_Step1Y c p ba k bp bt wd ep bk od sn fl tm 0 wa ws.length wc tk A hn hs hc hz hR h2 hd h0 hb) ?_
    rintro v post ⟨eb_1,bf_2,bq_3,rfl,rfl⟩
    exact⟨_,(((vC [7,8,9])).trans (vK (fun _:PbH=>True) (pbL p c wd ep ws (⟨(Tk.step c tk A).1,0,sn,fl,(Tk.step c tk A).1.block,od,tm,cd,gv,2⟩:Pb)) ⟨run,th,wa,wc,k,bq_3,bt,eb_1,bf_2,b3,b5,b2,gx,bc⟩ [1,0,7] trivial)).trans (vQ [5,3,4]),rfl,rfl⟩
  ·skip
   have e:Pb.step c wd ep ws (⟨tk,0,sn,fl,bk,od,tm,cd,gv,1⟩:Pb) A=((⟨(Tk.step c tk A).1,0,sn,fl,bk,od,tm,cd,gv,1⟩:Pb),(Tk.step c tk A).2):=by unfold Pb.step; simp only; rw [if_neg hd]
   rw [e]
   refine ctr_view (view_open 4 (N:=[.pts bp [vP p] 23,.pts bt [vP k] 114,Ez k c tk k]) (M:=[Eb ba A,Ea A,En p (.iface 114 (vP k)) (.func (.func 51) #[] #[vP bp,vP bt]) 0 false c wd ep wa ws.length wc bk od sn fl tm,Ee wa wc ws]) kR) ?_
   refine cP [2,4,5,6,0,1] (pub_Step1W c p ba k bp bt wd ep bk od sn fl tm 0 wa ws.length wc tk A hn hs hc hz hR h2 hd) ?_
   rintro v post ⟨rfl,rfl⟩
   exact⟨_,(((vC [2,3,4])).trans (vK (fun _:PbH=>True) (pbL p c wd ep ws (⟨(Tk.step c tk A).1,0,sn,fl,bk,od,tm,cd,gv,1⟩:Pb)) ⟨run,th,wa,wc,k,bp,bt,eb,bf,b3,b5,b2,gx,bc⟩ [1,0,4] trivial)).trans (vQ [2,0,1]),rfl,rfl⟩
 | 2,_=>
  have hcb:=h11 oc oc
  have hcl:0≤clsOf c bk:=by omega
  have hbf:=blockAt_fit hc hcl
  have hbl:=blockAt_ok hc hcl
  have hi2:=h6 rfl
  rw [←hcb] at h4
  have hzk:=szK_ok hc (clsOf c bk)
  have hi0:0≤i∧i<(ws.length:Int):=⟨h5.1,hi2⟩
  have hx:0≤blockAt c bk+1+i∧blockAt c bk+1+i<A.n:=by omega
  have hfr:0≤blockAt c bk+1∧blockAt c bk+1≤1000000:=by omega
  have hl:ws.length≤1000000:=by omega
  by_cases hd:i+1=(ws.length:Int)
  ·skip
   have e:Pb.step c wd ep ws (⟨tk,i,sn,fl,bk,od,tm,cd,gv,2⟩:Pb) A=((⟨tk,i+1,sn,fl,bk,od,tm,cd,gv,3⟩:Pb),(A.store (blockAt c bk+1+i) (ws.getD i.toNat 0))):=by unfold Pb.step; simp only; rw [if_pos hd]
   rw [e]
   refine ctr_view (view_open 4 (N:=[.pts eb [vI i,vI (ws.length:Int),.func (.func 106) #[] #[vP bf,vP bp]] 176,.pts bf [vI (blockAt c bk+1)] 3,.pts bp [vP p] 23]) (M:=[Eb ba A,Ea A,En p (.iface 173 (vP eb)) (.func (.func 108) #[vP p] #[]) 0 false c wd ep wa ws.length wc bk od sn fl tm,Ee wa wc ws]) kR) ?_
   refine cP [2,3,4,5,6,0,1] (pub_Step2Y c p ba bf bp eb wd ep bk od sn fl tm 0 wa wc ws i (blockAt c bk+1) A hi0 hx hfr hn hs hl hd) ?_
   rintro v post ⟨e2_1,bq_2,rfl,rfl⟩
   exact⟨_,(((vC [7,8])).trans (vK (fun _:PbH=>True) (pbL p c wd ep ws (⟨tk,i+1,sn,fl,bk,od,tm,cd,gv,3⟩:Pb)) ⟨run,th,wa,wc,k,bq_2,bt,e2_1,bf,b3,b5,b2,gx,bc⟩ [0,1,7] trivial)).trans (vQ [5,3,4]),rfl,rfl⟩
  ·skip
   have e:Pb.step c wd ep ws (⟨tk,i,sn,fl,bk,od,tm,cd,gv,2⟩:Pb) A=((⟨tk,i+1,sn,fl,bk,od,tm,cd,gv,2⟩:Pb),(A.store (blockAt c bk+1+i) (ws.getD i.toNat 0))):=by unfold Pb.step; simp only; rw [if_neg hd]
   rw [e]
   refine ctr_view (view_open 4 (N:=[.pts eb [vI i,vI (ws.length:Int),.func (.func 106) #[] #[vP bf,vP bp]] 176,.pts bf [vI (blockAt c bk+1)] 3,.pts bp [vP p] 23]) (M:=[Eb ba A,Ea A,En p (.iface 173 (vP eb)) (.func (.func 108) #[vP p] #[]) 0 false c wd ep wa ws.length wc bk od sn fl tm,Ee wa wc ws]) kR) ?_
   refine cP [2,3,4,5,6,0,1] (pub_Step2N c p ba bf bp eb wd ep bk od sn fl tm 0 wa wc ws i (blockAt c bk+1) A hi0 hx hfr hn hs hl hd) ?_
   rintro v post ⟨rfl,rfl⟩
   exact⟨_,(((vC [2,3,4])).trans (vK (fun _:PbH=>True) (pbL p c wd ep ws (⟨tk,i+1,sn,fl,bk,od,tm,cd,gv,2⟩:Pb)) ⟨run,th,wa,wc,k,bp,bt,eb,bf,b3,b5,b2,gx,bc⟩ [0,1,4] trivial)).trans (vQ [2,0,1]),rfl,rfl⟩
 | 3,_=>
  have hcb:=h11 oc oc
  have hcl:0≤clsOf c bk:=by omega
  have hbk:1≤bk∧bk≤65535:=by have:=clsOf_ok hcl; omega
  cases hl:ctlLive (A.ws.getD wd.toNat 0) with
  | false=>
   have e:Pb.step c wd ep ws (⟨tk,i,sn,fl,bk,od,tm,cd,gv,3⟩:Pb) A=((⟨tk,i,(A.ws.getD wd.toNat 0),fl,bk,od,tm,22,newGv c bk,5⟩:Pb),(A.load wd)):=by unfold Pb.step; simp only; rw [if_neg (by rw [hl]; simp)]; rfl
   rw [e]
   refine ctr_view (view_open 4 (N:=[.pts eb [vI 0,vI 1,.func (.func 156) #[] #[vP bp]] 176,.pts bp [vP p] 23]) (M:=[Eb ba A,Ea A,En p (.iface 173 (vP eb)) (.func (.func 157) #[vP p] #[]) 0 false c wd ep wa ws.length wc bk od sn fl tm,Ee wa wc ws]) kR) ?_
   refine cP [2,4,5,0,1] (pub_Step3D c p ba bp eb wd ep bk od sn fl tm 0 (.slice wa ws.length wc) A hn hs hwd (hR _) hbk hc hcl hl) ?_
   rintro v post ⟨gv_1,bq_2,bc_3,rfl,rfl⟩
   exact⟨_,(((vC [6,7,8])).trans (vK (fun _:PbH=>True) (pbL p c wd ep ws (⟨tk,i,(A.ws.getD wd.toNat 0),fl,bk,od,tm,22,newGv c bk,5⟩:Pb)) ⟨run,th,wa,wc,k,bq_2,bt,eb,bf,b3,b5,b2,gv_1,bc_3⟩ [1,0,6] trivial)).trans (vQ [4,2,3]),rfl,rfl⟩
  | true=>
   by_cases he:ctlEpoch (A.ws.getD wd.toNat 0)=ep
   ·cases hb:ctlBusy (A.ws.getD wd.toNat 0) with
    | true=>
     have e:Pb.step c wd ep ws (⟨tk,i,sn,fl,bk,od,tm,cd,gv,3⟩:Pb) A=((⟨tk,i,(A.ws.getD wd.toNat 0),fl,bk,od,tm,22,newGv c bk,5⟩:Pb),(A.load wd)):=by unfold Pb.step; simp only; rw [if_neg (fun h=>by rw [hb] at h; simp at h)]; rfl
     rw [e]
     refine ctr_view (view_open 4 (N:=[.pts eb [vI 0,vI 1,.func (.func 156) #[] #[vP bp]] 176,.pts bp [vP p] 23]) (M:=[Eb ba A,Ea A,En p (.iface 173 (vP eb)) (.func (.func 157) #[vP p] #[]) 0 false c wd ep wa ws.length wc bk od sn fl tm,Ee wa wc ws]) kR) ?_
     refine cP [2,4,5,0,1] (pub_Step3B c p ba bp eb wd ep bk od sn fl tm 0 (.slice wa ws.length wc) A hn hs hwd (hR _) hbk hc hcl hl he hb) ?_
     rintro v post ⟨gv_1,bq_2,bc_3,rfl,rfl⟩
     exact⟨_,(((vC [6,7,8])).trans (vK (fun _:PbH=>True) (pbL p c wd ep ws (⟨tk,i,(A.ws.getD wd.toNat 0),fl,bk,od,tm,22,newGv c bk,5⟩:Pb)) ⟨run,th,wa,wc,k,bq_2,bt,eb,bf,b3,b5,b2,gv_1,bc_3⟩ [1,0,6] trivial)).trans (vQ [4,2,3]),rfl,rfl⟩
    | false=>
     by_cases hg:ctlGen (A.ws.getD wd.toNat 0)=2147483647
     ·skip
      have e:Pb.step c wd ep ws (⟨tk,i,sn,fl,bk,od,tm,cd,gv,3⟩:Pb) A=((⟨tk,i,(A.ws.getD wd.toNat 0),fl,bk,od,tm,16,newGv c bk,5⟩:Pb),(A.load wd)):=by unfold Pb.step; simp only; rw [if_pos ⟨hl,he,hb⟩,if_pos hg]; rfl
      rw [e]
      refine ctr_view (view_open 4 (N:=[.pts eb [vI 0,vI 1,.func (.func 156) #[] #[vP bp]] 176,.pts bp [vP p] 23]) (M:=[Eb ba A,Ea A,En p (.iface 173 (vP eb)) (.func (.func 157) #[vP p] #[]) 0 false c wd ep wa ws.length wc bk od sn fl tm,Ee wa wc ws]) kR) ?_
      refine cP [2,4,5,0,1] (pub_Step3O c p ba bp eb wd ep bk od sn fl tm 0 (.slice wa ws.length wc) A hn hs hwd (hR _) hbk hc hcl hl he hb hg) ?_
      rintro v post ⟨gv_1,bq_2,bc_3,rfl,rfl⟩
      exact⟨_,(((vC [6,7,8])).trans (vK (fun _:PbH=>True) (pbL p c wd ep ws (⟨tk,i,(A.ws.getD wd.toNat 0),fl,bk,od,tm,16,newGv c bk,5⟩:Pb)) ⟨run,th,wa,wc,k,bq_2,bt,eb,bf,b3,b5,b2,gv_1,bc_3⟩ [1,0,6] trivial)).trans (vQ [4,2,3]),rfl,rfl⟩
     ·skip
      have e:Pb.step c wd ep ws (⟨tk,i,sn,fl,bk,od,tm,cd,gv,3⟩:Pb) A=((⟨tk,i,(A.ws.getD wd.toNat 0),fl,bk,od,tm,cd,gv,4⟩:Pb),(A.load wd)):=by unfold Pb.step; simp only; rw [if_pos ⟨hl,he,hb⟩,if_neg hg]
      rw [e]
      refine ctr_view (view_open 4 (N:=[.pts eb [vI 0,vI 1,.func (.func 156) #[] #[vP bp]] 176,.pts bp [vP p] 23]) (M:=[Eb ba A,Ea A,En p (.iface 173 (vP eb)) (.func (.func 157) #[vP p] #[]) 0 false c wd ep wa ws.length wc bk od sn fl tm,Ee wa wc ws]) kR) ?_
      refine cP [2,4,5,0,1] (pub_Step3K c p ba bp eb wd ep bk od sn fl tm 0 (.slice wa ws.length wc) A hn hs hwd (hR _) hbk hc hcl hl he hb hg) ?_
      rintro v post ⟨e2_1,bq_2,b3_3,b5_4,b2_5,rfl,rfl⟩
      exact⟨_,(((vC [6,7,8,9,10])).trans (vK (fun _:PbH=>True) (pbL p c wd ep ws (⟨tk,i,(A.ws.getD wd.toNat 0),fl,bk,od,tm,cd,gv,4⟩:Pb)) ⟨run,th,wa,wc,k,bq_2,bt,e2_1,bf,b3_3,b5_4,b2_5,gx,bc⟩ [1,0,6] trivial)).trans (vQ [4,2,3]),rfl,rfl⟩
   ·skip
    have e:Pb.step c wd ep ws (⟨tk,i,sn,fl,bk,od,tm,cd,gv,3⟩:Pb) A=((⟨tk,i,(A.ws.getD wd.toNat 0),fl,bk,od,tm,22,newGv c bk,5⟩:Pb),(A.load wd)):=by unfold Pb.step; simp only; rw [if_neg (fun h=>he h.2.1)]; rfl
    rw [e]
    refine ctr_view (view_open 4 (N:=[.pts eb [vI 0,vI 1,.func (.func 156) #[] #[vP bp]] 176,.pts bp [vP p] 23]) (M:=[Eb ba A,Ea A,En p (.iface 173 (vP eb)) (.func (.func 157) #[vP p] #[]) 0 false c wd ep wa ws.length wc bk od sn fl tm,Ee wa wc ws]) kR) ?_
    refine cP [2,4,5,0,1] (pub_Step3E c p ba bp eb wd ep bk od sn fl tm 0 (.slice wa ws.length wc) A hn hs hwd (hR _) hbk hc hcl hl he) ?_
    rintro v post ⟨gv_1,bq_2,bc_3,rfl,rfl⟩
    exact⟨_,(((vC [6,7,8])).trans (vK (fun _:PbH=>True) (pbL p c wd ep ws (⟨tk,i,(A.ws.getD wd.toNat 0),fl,bk,od,tm,22,newGv c bk,5⟩:Pb)) ⟨run,th,wa,wc,k,bq_2,bt,eb,bf,b3,b5,b2,gv_1,bc_3⟩ [1,0,6] trivial)).trans (vQ [4,2,3]),rfl,rfl⟩
 | 4,_=>
  have hcb:=h11 oc oc
  have hcl:0≤clsOf c bk:=by omega
  have hbk:=clsOf_ok hcl
  obtain⟨q1,q2,q3⟩:=h15 rfl
  have hv:U64 (pubW sn bk):=pubW_rng h8 q3 oa
  by_cases hq:(A.ws.getD wd.toNat 0)=sn
  ·skip
   have e:Pb.step c wd ep ws (⟨tk,i,sn,fl,bk,od,tm,cd,gv,4⟩:Pb) A=((⟨tk,i,sn,fl,0,ctlBlock sn,A.steps+1,0,gv,0⟩:Pb),(A.swapT wd (pubW sn bk))):=by unfold Pb.step; simp only; rw [if_pos hq]
   rw [e]
   refine ctr_view (view_open 4 (N:=[.pts eb [vI 0,vI 1,.func (.func 184) #[] #[vP bp,vP b3,vP b5]] 176,.pts bp [vP p] 23,.pts b3 [vU (pubW sn bk)] 60,.pts b5 [.bool false] 4,Eu b2 (ctlEpoch sn) (ctlGen sn) (ctlBlock sn) (ctlLive sn) (ctlBusy sn)]) (M:=[Eb ba A,Ea A,En p (.iface 173 (vP eb)) (.func (.func 186) #[] #[vP bp,vP b5,vP b2]) 0 false c wd ep wa ws.length wc bk od sn fl tm,Ee wa wc ws]) kR) ?_
   refine cP [2,4,5,6,7,8,0,1] (pub_Step4T c p ba bp b3 b5 b2 eb wd ep bk od sn fl tm 0 (.slice wa ws.length wc) (pubW sn bk) sn A hn hs hwd h8 hv hq) ?_
   rintro v post ⟨rfl,rfl⟩
   exact⟨_,(((vC [])).trans (vK (fun _:PbH=>True) (pbL p c wd ep ws (⟨tk,i,sn,fl,0,ctlBlock sn,A.steps+1,0,gv,0⟩:Pb)) ⟨(.iface 173 (vP eb)),(.func (.func 186) #[] #[vP bp,vP b5,vP b2]),wa,wc,k,bp,bt,eb,bf,b3,b5,b2,gx,bc⟩ [1,0,9] trivial)).trans (vQ [7,5,6]),rfl,rfl⟩
  ·by_cases hr:fl+1=c.retry
   ·skip
    have e:Pb.step c wd ep ws (⟨tk,i,sn,fl,bk,od,tm,cd,gv,4⟩:Pb) A=((⟨tk,i,sn,fl+1,bk,od,tm,17,newGv c bk,5⟩:Pb),(A.swapF wd)):=by unfold Pb.step; simp only; rw [if_neg hq,if_pos hr]; rfl
    rw [e]
    refine ctr_view (view_open 4 (N:=[.pts eb [vI 0,vI 1,.func (.func 184) #[] #[vP bp,vP b3,vP b5]] 176,.pts bp [vP p] 23,.pts b3 [vU (pubW sn bk)] 60,.pts b5 [.bool false] 4,Eu b2 (ctlEpoch sn) (ctlGen sn) (ctlBlock sn) (ctlLive sn) (ctlBusy sn)]) (M:=[Eb ba A,Ea A,En p (.iface 173 (vP eb)) (.func (.func 186) #[] #[vP bp,vP b5,vP b2]) 0 false c wd ep wa ws.length wc bk od sn fl tm,Ee wa wc ws]) kR) ?_
    refine cP [2,4,5,6,7,8,0,1] (pub_Step4R c p ba bp b3 b5 b2 eb wd ep bk od sn fl tm 0 (.slice wa ws.length wc) (pubW sn bk) sn A hn hs hwd h8 hv hq hfl hr hc hcl) ?_
    rintro v post ⟨gv_1,bq_2,bc_3,rfl,rfl⟩
    exact⟨_,(((vC [9,10,11])).trans (vK (fun _:PbH=>True) (pbL p c wd ep ws (⟨tk,i,sn,fl+1,bk,od,tm,17,newGv c bk,5⟩:Pb)) ⟨run,th,wa,wc,k,bq_2,bt,eb,bf,b3,b5,b2,gv_1,bc_3⟩ [1,0,9] trivial)).trans (vQ [7,5,6]),rfl,rfl⟩
   ·skip
    have e:Pb.step c wd ep ws (⟨tk,i,sn,fl,bk,od,tm,cd,gv,4⟩:Pb) A=((⟨tk,i,sn,fl+1,bk,od,tm,cd,gv,3⟩:Pb),(A.swapF wd)):=by unfold Pb.step; simp only; rw [if_neg hq,if_neg hr]
    rw [e]
    refine ctr_view (view_open 4 (N:=[.pts eb [vI 0,vI 1,.func (.func 184) #[] #[vP bp,vP b3,vP b5]] 176,.pts bp [vP p] 23,.pts b3 [vU (pubW sn bk)] 60,.pts b5 [.bool false] 4,Eu b2 (ctlEpoch sn) (ctlGen sn) (ctlBlock sn) (ctlLive sn) (ctlBusy sn)]) (M:=[Eb ba A,Ea A,En p (.iface 173 (vP eb)) (.func (.func 186) #[] #[vP bp,vP b5,vP b2]) 0 false c wd ep wa ws.length wc bk od sn fl tm,Ee wa wc ws]) kR) ?_
    refine cP [2,4,5,6,7,8,0,1] (pub_Step4N c p ba bp b3 b5 b2 eb wd ep bk od sn fl tm 0 (.slice wa ws.length wc) (pubW sn bk) sn A hn hs hwd h8 hv hq hfl hr) ?_
    rintro v post ⟨e2_1,bq_2,rfl,rfl⟩
    exact⟨_,(((vC [9,10])).trans (vK (fun _:PbH=>True) (pbL p c wd ep ws (⟨tk,i,sn,fl+1,bk,od,tm,cd,gv,3⟩:Pb)) ⟨run,th,wa,wc,k,bq_2,bt,e2_1,bf,b3,b5,b2,gx,bc⟩ [1,0,9] trivial)).trans (vQ [7,5,6]),rfl,rfl⟩
 | 5,_=>
  have hgv:=(h16 rfl).1.ok hc hz
  by_cases hd:(Gv.step c gv A).1.ph=0
  ·skip
   have e:Pb.step c wd ep ws (⟨tk,i,sn,fl,bk,od,tm,cd,gv,5⟩:Pb) A=((⟨tk,i,sn,fl,0,od,tm,cd,(Gv.step c gv A).1,0⟩:Pb),(Gv.step c gv A).2):=by unfold Pb.step; simp only; rw [if_pos hd]
   rw [e]
   refine ctr_view (view_open 4 (N:=[Ey gx c gv (nxV gx gv.ph),.pts bp [vP p] 23,.pts bc [vI cd] 42]) (M:=[Eb ba A,Ea A,En p (.iface 147 (vP gx)) (.func (.func 197) #[] #[vP bp,vP bc]) 0 false c wd ep wa ws.length wc bk od sn fl tm,Ee wa wc ws]) kR) ?_
   refine cP [2,4,5,6,0,1] (pub_Step5Y c p ba gx bp bc wd ep bk od sn fl tm 0 (.slice wa ws.length wc) cd gv A hn hs hc hgv hd) ?_
   rintro v post ⟨rfl,rfl⟩
   exact⟨_,(((vC [])).trans (vK (fun _:PbH=>True) (pbL p c wd ep ws (⟨tk,i,sn,fl,0,od,tm,cd,(Gv.step c gv A).1,0⟩:Pb)) ⟨(.iface 147 (vP gx)),(.func (.func 197) #[] #[vP bp,vP bc]),wa,wc,k,bp,bt,eb,bf,b3,b5,b2,gx,bc⟩ [1,0,7] trivial)).trans (vQ [5,3,4]),rfl,rfl⟩
  ·skip
   have e:Pb.step c wd ep ws (⟨tk,i,sn,fl,bk,od,tm,cd,gv,5⟩:Pb) A=((⟨tk,i,sn,fl,bk,od,tm,cd,(Gv.step c gv A).1,5⟩:Pb),(Gv.step c gv A).2):=by unfold Pb.step; simp only; rw [if_neg hd]
   rw [e]
   refine ctr_view (view_open 4 (N:=[Ey gx c gv (nxV gx gv.ph),.pts bp [vP p] 23,.pts bc [vI cd] 42]) (M:=[Eb ba A,Ea A,En p (.iface 147 (vP gx)) (.func (.func 197) #[] #[vP bp,vP bc]) 0 false c wd ep wa ws.length wc bk od sn fl tm,Ee wa wc ws]) kR) ?_
   refine cP [2,4,5,6,0,1] (pub_Step5W c p ba gx bp bc wd ep bk od sn fl tm 0 (.slice wa ws.length wc) cd gv A hn hs hc hgv hd) ?_
   rintro v post ⟨rfl,rfl⟩
   exact⟨_,(((vC [2,3,4])).trans (vK (fun _:PbH=>True) (pbL p c wd ep ws (⟨tk,i,sn,fl,bk,od,tm,cd,(Gv.step c gv A).1,5⟩:Pb)) ⟨run,th,wa,wc,k,bp,bt,eb,bf,b3,b5,b2,gx,bc⟩ [1,0,4] trivial)).trans (vQ [2,0,1]),rfl,rfl⟩
 | n+6,h=>omega
end Go.Proofs.YtpcaijopodhdgaaGreatDoor
namespace Go.Proofs.YtpcaijopodhdgaaGreatDoor
open Go.Proofs.Tryz
open Go.Sx
abbrev Ew(x0:Nat)(x1:Value)(x2:Value)(x3:Int)(x4:Bool)(c5:Cfg)(x6:Value)(x7:Int)(x8:Option Addr)(x9:Nat)(x10:Nat): Ent:=.pts x0 [x1,x2,.int .i64 x3,.bool x4,.int .i64 c5.topics,.int .i64 c5.small,.int .i64 c5.slots,.int .i64 c5.clients,.int .i64 c5.s0,.int .i64 c5.n0,.int .i64 c5.s1,.int .i64 c5.n1,.int .i64 c5.retry,x6,.int .i64 x7,.slice x8 x9 x10] 112
theorem plan_ClassK0(c:Cfg)(k:Int)(hc:c.Ok)(hk:InK .i64 (k-1))(hq:clsOf c k=0):
  Ctr prog 78 #[cfgV c,vI k] [] (Ret (vI 0) []):=by
 have h:=plan_Class c k hc hk
 rw [hq] at h
 exact h
theorem plan_ClassK1(c:Cfg)(k:Int)(hc:c.Ok)(hk:InK .i64 (k-1))(hq:clsOf c k=1):
  Ctr prog 78 #[cfgV c,vI k] [] (Ret (vI 1) []):=by
 have h:=plan_Class c k hc hk
 rw [hq] at h
 exact h
theorem rd_release(c:Cfg)(p:Nat)(sl cd:Int)(ov:Bool)(gp wsl:Value)(r_ th_:Value)(k_:Int)(hc:c.Ok)(hsl:0≤sl∧sl<c.slots):
  Ctr prog 114 #[vP p,vI k_] [El p r_ th_ cd ov c gp sl wsl] (fun v L => ∃(rl:Nat) (bq:Nat) (bc:Nat),v=undef∧L=[El p (.iface 222 (vP rl)) (.func (.func 163) #[] #[vP bq,vP bc]) cd ov c gp sl wsl,.pts rl [vI (slotAt c sl),.bool false] 259,.pts bq [vP p] 24,.pts bc [vI k_] 42]):=by
 refine cb 19 func114 fun F=>gX [.z [1] 0 [2,3]] (gN fun b_1=>gN fun b_2=>gW (ks:=[.c [1]]) [(2,vP b_1),(3,vP b_2)] [El p r_ th_ cd ov c gp sl wsl,.pts b_1 [vP p] 24,.pts b_2 [vI k_] 42] (zG (zN [0,1,2,3,4,5,6,7,8,9,10,13] (kV 0 [.e 1,.w,.w,.e 1,.w,.w,.e 0,.e 1,.w,.w,.e 0]++kV 13 [.w]) [2,3,4,5,6,7,8,9,10,11,12,13,14,17] [11] (.e b_1 (.e b_1 (.e p (.e b_1 (.e p .n))))) ⟨?_,trivial⟩)))
 refine zC (some 15) [] call162 (new_Release c sl oM hsl) ?_
 rintro v post ⟨r_11_1,rfl,rfl⟩
 refine zN [12] [(0,.e 1),(1,.w),(2,.w),(12,.w),(13,.w)] [15,2,3,4,5,6,16,17] [14] (.e b_1 .n) ⟨?_,trivial⟩
 refine zC (some 18) [0] call50 (rd_follow c p sl cd ov gp wsl r_ th_ 222 r_11_1 (.func 163) (#[]) (#[vP b_1,vP b_2])) ?_
 rintro v post ⟨rfl,rfl⟩
 exact zE [] [] [] .n (gX [] (gJ [3,2,0,1] ⟨r_11_1,b_1,b_2,rfl,rfl⟩))
theorem rd_then4(c:Cfg)(p bq bc:Nat)(sl cd:Int)(ov:Bool)(gp wsl:Value)(r_ th_:Value)(k_:Int):
  Ctr prog 163 #[vP bq,vP bc] [.pts bq [vP p] 24,.pts bc [vI k_] 42,El p r_ th_ cd ov c gp sl wsl] (Ret (undef) [.pts bq [vP p] 24,.pts bc [vI k_] 42,El p r_ th_ k_ true c gp (-1) wsl]):=by
 refine cb 10 func163 fun F=>gX [.e 0,.e 2,.z [1] 0 [0,1]] (gQ bq (gQ p (gS [.c [1]] ?_)))
 refine tC (some 9) (kV 0 [.e 0,.ww,.ww,.e 1]) 4 [] [2] [] call57 (rd_end c p (-1) cd ov gp wsl r_ th_ k_) (.e bq (.e bc .n)) .n ?_
 rintro v post ⟨rfl,rfl⟩
 refine tN .n ?_
 exact gX [] (gJ [0,1,2] ⟨rfl,rfl⟩)
theorem rd_then3(c:Cfg)(p bp:Nat)(sl cd:Int)(ov:Bool)(gp wsl:Value)(r_ th_:Value)(hc:c.Ok)(hsl:0≤sl∧sl<c.slots):
  Ctr prog 117 #[vP bp] [.pts bp [vP p] 24,El p r_ th_ cd ov c gp sl wsl] (fun v L => ∃(rl:Nat) (bq:Nat) (bc:Nat),v=undef∧L=[.pts bp [vP p] 24,El p (.iface 222 (vP rl)) (.func (.func 163) #[] #[vP bq,vP bc]) cd ov c gp sl wsl,.pts rl [vI (slotAt c sl),.bool false] 259,.pts bq [vP p] 24,.pts bc [vI 0] 42]):=by
 refine cb 3 func117 fun F=>gX [.e 0,.z [] 1 [1]] (gQ bp (gS [.o [] 1] ?_))
 refine go_call (some 2) [1] call114 (rd_release c p sl cd ov gp wsl r_ th_ 0 oM hsl) kR ?_
 rintro v post ⟨rl_1,bq_2,bc_3,rfl,rfl⟩
 exact gX [] (gJ [0,1,2,3,4] ⟨rl_1,bq_2,bc_3,rfl,rfl⟩)
theorem guard_ToldK(c:Cfg)(g:Nat)(G:Gu)(hph:G.ph=0)(hcd:G.code=0):
  Ctr prog 113 #[vP g] [Em g c G g] (Ret (.tuple #[vI G.block,.nilIface]) [Em g c G g]):=by
 have h:=guard_Told c g G oa
 rw [(told_of hph).1] at h
 have h:Ctr prog 113 #[.pointer (some ⟨g,0,none⟩)] [Em g c G g] (Ret (.tuple #[.int .i64 G.block,errV G.code]) [Em g c G g]):=h
 rw [hcd] at h
 exact h
theorem guard_ToldE(c:Cfg)(g:Nat)(G:Gu)(hph:G.ph=0)(hcd:G.code≠0):
  Ctr prog 113 #[vP g] [Em g c G g] (Ret (.tuple #[vI G.block,.iface 42 (vI G.code)]) [Em g c G g]):=by
 have h:=guard_Told c g G oa
 rw [(told_of hph).1] at h
 have h:Ctr prog 113 #[.pointer (some ⟨g,0,none⟩)] [Em g c G g] (Ret (.tuple #[.int .i64 G.block,errV G.code]) [Em g c G g]):=h
 rw [errV_ne hcd] at h
 exact h
theorem rd_guardedE(c:Cfg)(p gb:Nat)(sl cd:Int)(ov:Bool)(wsl:Value)(r_ th_:Value)(G:Gu)(o_:Obj)(hc:c.Ok)(hsl:0≤sl∧sl<c.slots)(hph:G.ph=0)(hcd:G.code≠0)(ho:IsH o_):
  Ctr prog 59 #[vP p] [.raw 0 o_,El p r_ th_ cd ov c (vP gb) sl wsl,Em gb c G gb] (fun v L => ∃(rl:Nat) (bq:Nat) (bc:Nat),v=undef∧L=[.raw 0 o_,El p (.iface 222 (vP rl)) (.func (.func 163) #[] #[vP bq,vP bc]) cd ov c (vP gb) sl wsl,Em gb c G gb,.pts rl [vI (slotAt c sl),.bool false] 259,.pts bq [vP p] 24,.pts bc [vI G.code] 42]):=by
 refine cb 50 func59 fun F=>gX [.e 3,.e 1,.z [0,1] 4 [1,10]] (gN fun b_1=>gQ b_1 (gQ p (gS [.o [0,1] 4,.c [1,1]] (gC (some 11) [2] call113 (guard_ToldE c gb G hph hcd) (gX [.z [0,0,1,0,1,1] 0 [1,3]] (gS [.c [0,0,1,0,1,1],.c [1,0,1,0,1,1],.c [1,1,1]] ?_))))))
 refine tC (some 19) (kV 0 [.e 2,.ww,.q (vI G.code)]) 3 [] [1] [] call114 (rd_release c p sl cd ov (vP gb) wsl r_ th_ G.code oM hsl) (.e b_1 .n) (.c call17 (qR [0] (cause_TopE o_ G.code ho)) .n) ?_
 rintro v post ⟨rl_2,bq_3,bc_4,rfl,rfl⟩
 refine tN .n ?_
 exact gX [] (gJ [0,3,2,4,5,6] ⟨rl_2,bq_3,bc_4,rfl,rfl⟩)
theorem rd_guarded0(c:Cfg)(p gb:Nat)(sl cd:Int)(ov:Bool)(wsl:Value)(r_ th_:Value)(G:Gu)(hc:c.Ok)(hph:G.ph=0)(hcd:G.code=0)(hq:clsOf c G.block=0):
  Ctr prog 59 #[vP p] [El p r_ th_ cd ov c (vP gb) sl wsl,Em gb c G gb] (fun v L => ∃(eb:Nat) (bp:Nat) (bf:Nat),v=undef∧L=[El p (.iface 173 (vP eb)) (.func (.func 117) #[] #[vP bp]) cd ov c (vP gb) sl wsl,Em gb c G gb,.pts eb [vI 0,vI c.s0,.func (.func 115) #[] #[vP bp,vP bf]] 176,.pts bp [vP p] 24,.pts bf [vI (blockAt c G.block+1)] 3]):=by
 exact cb 50 func59 fun F=>gX [.e 2,.e 0,.z [0,1] 4 [1,10]] (gN fun b_1=>gQ b_1 (gQ p (gS [.o [0,1] 4,.c [1,1]] (gC (some 11) [1] call113 (guard_ToldK c gb G hph hcd) (gX [.e 1,.e 0,.z [0,1,1,1] 5 [1,2,23,24]] (gQ b_1 (gQ p (gS [.o [0,1,1,1] 5,.c [1,1,1,1]] (gC (some 25) [] call105 (plan_Block c G.block oM (by have h7:=clsOf_ok (c:=c) (b:=G.block) oa; simp only [Cfg.Ok,InK] at *; omega)) (gX [.n,.e 3,.z [0,1,1,1,1] 0 [1,2,4]] (gO (InK .i64 ((blockAt c G.block)+1)) (by have h7:=blockAt_ok hc (b:=G.block) oa; have h8:=sizeOfC_ok hc; simp only [InK]; omega) (gN fun b_2=>gQ b_2 (gS [.c [0,1,1,1,1],.c [1,1,1,1,1]] (qG (kV 0 [.e 1,.e 1,.ww,.ww,.e 0,.ww,.q (vI 0),.ww,.ww,.ww,.ww,.ww,.e 0,.ww]) [1,4,5] (.e b_1 (.e b_1 (.e p (.e p .n)))) (.c call78 (qR [] (plan_ClassK0 c G.block oM (by have h7:=clsOf_ok (c:=c) (b:=G.block) oa; simp only [Cfg.Ok,InK] at *; omega) hq)) .n) (gX [.e 1,.z [1,1,1,1,1] 9 [42,47,48]] (gQ b_1 (gN fun b_3=>gW (ks:=[.o [1,1,1,1,1] 9]) [(42,vP p),(47,.iface 173 (vP b_3)),(48,.func (.func 117) #[] #[vP b_1])] [El p r_ th_ cd ov c (vP gb) sl wsl,.pts b_1 [vP p] 24,Em gb c G gb,.pts b_2 [vI ((blockAt c G.block)+1)] 3,.pts b_3 [vI 0,vI c.s0,.func (.func 115) #[] #[vP b_1,vP b_2]] 176] (gC (some 49) [0] call50 (rd_follow c p sl cd ov (vP gb) wsl r_ th_ 173 b_3 (.func 117) (#[]) (#[vP b_1])) (gX [] (gJ [4,1,3,0,2] ⟨b_3,b_1,b_2,rfl,rfl⟩))))))))))))))))))))
theorem rd_guarded1(c:Cfg)(p gb:Nat)(sl cd:Int)(ov:Bool)(wsl:Value)(r_ th_:Value)(G:Gu)(hc:c.Ok)(hph:G.ph=0)(hcd:G.code=0)(hq:clsOf c G.block=1):
  Ctr prog 59 #[vP p] [El p r_ th_ cd ov c (vP gb) sl wsl,Em gb c G gb] (fun v L => ∃(eb:Nat) (bp:Nat) (bf:Nat),v=undef∧L=[El p (.iface 173 (vP eb)) (.func (.func 117) #[] #[vP bp]) cd ov c (vP gb) sl wsl,Em gb c G gb,.pts eb [vI 0,vI c.s1,.func (.func 115) #[] #[vP bp,vP bf]] 176,.pts bp [vP p] 24,.pts bf [vI (blockAt c G.block+1)] 3]):=by
 exact cb 50 func59 fun F=>gX [.e 2,.e 0,.z [0,1] 4 [1,10]] (gN fun b_1=>gQ b_1 (gQ p (gS [.o [0,1] 4,.c [1,1]] (gC (some 11) [1] call113 (guard_ToldK c gb G hph hcd) (gX [.e 1,.e 0,.z [0,1,1,1] 5 [1,2,23,24]] (gQ b_1 (gQ p (gS [.o [0,1,1,1] 5,.c [1,1,1,1]] (gC (some 25) [] call105 (plan_Block c G.block oM (by have h7:=clsOf_ok (c:=c) (b:=G.block) oa; simp only [Cfg.Ok,InK] at *; omega)) (gX [.n,.e 3,.z [0,1,1,1,1] 0 [1,2,4]] (gO (InK .i64 ((blockAt c G.block)+1)) (by have h7:=blockAt_ok hc (b:=G.block) oa; have h8:=sizeOfC_ok hc; simp only [InK]; omega) (gN fun b_2=>gQ b_2 (gS [.c [0,1,1,1,1],.c [1,1,1,1,1]] (qG (kV 0 [.e 1,.e 1,.ww,.ww,.e 0,.ww,.q (vI 1),.ww,.ww,.ww,.ww,.ww,.e 0,.ww]) [1,4,5] (.e b_1 (.e b_1 (.e p (.e p .n)))) (.c call78 (qR [] (plan_ClassK1 c G.block oM (by have h7:=clsOf_ok (c:=c) (b:=G.block) oa; simp only [Cfg.Ok,InK] at *; omega) hq)) .n) (gX [.e 1,.z [1,1,1,1,1] 9 [42,47,48]] (gQ b_1 (gN fun b_3=>gW (ks:=[.o [1,1,1,1,1] 9]) [(42,vP p),(47,.iface 173 (vP b_3)),(48,.func (.func 117) #[] #[vP b_1])] [El p r_ th_ cd ov c (vP gb) sl wsl,.pts b_1 [vP p] 24,Em gb c G gb,.pts b_2 [vI ((blockAt c G.block)+1)] 3,.pts b_3 [vI 0,vI c.s1,.func (.func 115) #[] #[vP b_1,vP b_2]] 176] (gC (some 49) [0] call50 (rd_follow c p sl cd ov (vP gb) wsl r_ th_ 173 b_3 (.func 117) (#[]) (#[vP b_1])) (gX [] (gJ [4,1,3,0,2] ⟨b_3,b_1,b_2,rfl,rfl⟩))))))))))))))))))))
theorem rd_guardedK(c:Cfg)(p gb:Nat)(sl cd:Int)(ov:Bool)(wsl:Value)(r_ th_:Value)(G:Gu)(hc:c.Ok)(hph:G.ph=0)(hcd:G.code=0)(hq:0≤clsOf c G.block):
  Ctr prog 59 #[vP p] [El p r_ th_ cd ov c (vP gb) sl wsl,Em gb c G gb] (fun v L => ∃(eb:Nat) (bp:Nat) (bf:Nat),v=undef∧L=[El p (.iface 173 (vP eb)) (.func (.func 117) #[] #[vP bp]) cd ov c (vP gb) sl wsl,Em gb c G gb,.pts eb [vI 0,vI (szK c (clsOf c G.block)),.func (.func 115) #[] #[vP bp,vP bf]] 176,.pts bp [vP p] 24,.pts bf [vI (blockAt c G.block+1)] 3]):=by
 have hle:=clsOf_le c G.block
 by_cases h0:clsOf c G.block=0
 ·rw [show szK c (clsOf c G.block)=c.s0 by rw [h0]; rfl]
  exact rd_guarded0 c p gb sl cd ov wsl r_ th_ G hc hph hcd h0
 ·have h1:clsOf c G.block=1:=by omega
  rw [show szK c (clsOf c G.block)=c.s1 by rw [h1]; rfl]
  exact rd_guarded1 c p gb sl cd ov wsl r_ th_ G hc hph hcd h1
theorem clo_read(c:Cfg)(p ba bp bf:Nat)(sl cd:Int)(gp:Value)(r_ th_:Value)(wa:Option Addr)(wc:Nat)(ws:List Int)(i fr:Int)(A:Ar)(hi0:0≤i∧i≤1000)(hx:0≤fr+i∧fr+i<A.n)(hfr:0≤fr∧fr≤1000000)(hn:A.ws.length=A.n)(hs:0≤A.steps∧A.steps≤1000000000)(hl:ws.length≤1000):
  Ctr prog 115 #[vP ba,vI i,vP bp,vP bf] [.pts bp [vP p] 24,.pts bf [vI fr] 3,Ew p r_ th_ cd false c gp sl wa ws.length wc,Ee wa wc ws,Eb ba A,Ea A] (fun v L => ∃(wa2:Option Addr) (wc2:Nat),v=undef∧L=[.pts bp [vP p] 24,.pts bf [vI fr] 3,Ew p r_ th_ cd false c gp sl wa2 ((ws++[A.ws.getD (fr+i).toNat 0]).length) wc2,Ee wa2 wc2 (ws++[A.ws.getD (fr+i).toNat 0]),Eb ba (A.load (fr+i)),Ea (A.load (fr+i))]):=by
 refine cb 20 func115 fun F=>zG (zN [0,1,2,3,4,5,6,7,8] (kV 0 [.e 0,.e 0,.w,.w,.e 2,.w,.e 1,.w,.h (.n)]) [0,1,2,3,6,7,8,9,10,11,12,13,14] [9] (.e bp (.e bp (.e p (.e bf (.p (InK .i64 (fr+i)) oh .n))))) ⟨?_,trivial⟩)
 refine zC (some 15) [4,5] call116 (arena_Load ba A (fr+i) oM hx oM) ?_
 rintro v post ⟨rfl,rfl⟩
 refine zN [] (kV 0 [.e 0,.e 0,.w,.w,.e 2]) [15,2,6,7,8,9,10] [10] (.e bp (.e bp (.e p .n))) ⟨?_,trivial⟩
 refine zX .w (sN fun b_10_1=>(sV ?_))
 refine zN [] (kV 0 [.e 0,.e 0,.w,.w,.e 2]) [16,2,6,7,8,9,10] [11] (.e bp (.e bp (.e p .n))) ⟨?_,trivial⟩
 refine zB (some 17) (appO prog _) (some (.slice wa (ws).length wc,.slice (some ⟨b_10_1,0,none⟩) 1 1,(60,1,8))) (R_append 3 (a:=wa) (c:=wc) (enc:=encI .u64) (d:=0) (sz:=1) (xs:=ws) (te:=60) kR (.slice (some ⟨b_10_1,0,none⟩) 1 1) [(A.ws.getD (fr+i).toNat 0)] (src_pts (i:=6) (t:=60) kR) (oneI _) 8 oW oW) ?_
 rintro v L2 ⟨a_11_1,c_11_1,rfl,rfl⟩
 refine zN [12,13] [(0,.e 0),(12,.w),(13,.w)] [17,2,6,18,19] [14] (.e bp .n) ⟨?_,trivial⟩
 refine zX (.e 2) (sQ p (sK ?_))
 exact zE [] [] [] .n (gX [] (gJ [0,1,2,3,4,5] ⟨a_11_1,c_11_1,rfl,rfl⟩))
theorem each_read(c:Cfg)(p ba bp bf eb:Nat)(sl cd:Int)(gp:Value)(r_ th_:Value)(wa:Option Addr)(wc:Nat)(ws:List Int)(i fr m:Int)(A:Ar)(hi0:0≤i∧i≤1000)(hx:0≤fr+i∧fr+i<A.n)(hfr:0≤fr∧fr≤1000000)(hn:A.ws.length=A.n)(hs:0≤A.steps∧A.steps≤1000000000)(hl:ws.length≤1000):
  Ctr prog 231 #[vP eb,vP ba] [.pts eb [vI i,vI m,.func (.func 115) #[] #[vP bp,vP bf]] 176,.pts bp [vP p] 24,.pts bf [vI fr] 3,Ew p r_ th_ cd false c gp sl wa ws.length wc,Ee wa wc ws,Eb ba A,Ea A] (fun v L => ∃(wa2:Option Addr) (wc2:Nat),v = .bool ((i+1)==m)∧L=[.pts eb [vI (i+1),vI m,.func (.func 115) #[] #[vP bp,vP bf]] 176,.pts bp [vP p] 24,.pts bf [vI fr] 3,Ew p r_ th_ cd false c gp sl wa2 ((ws++[A.ws.getD (fr+i).toNat 0]).length) wc2,Ee wa2 wc2 (ws++[A.ws.getD (fr+i).toNat 0]),Eb ba (A.load (fr+i)),Ea (A.load (fr+i))]):=by
 refine cb 31 func231 fun F=>gX [.z [0,1] 0 [0,1]] (gS [.c [0,1],.c [1,1]] ?_)
 refine tC (some 14) (kV 0 [.ww,.ww,.ww,.e 0,.ww,.ww,.ww,.ww,.e 0]) 9 [] [1,2,3,4,5,6] [0] call115 (clo_read c p ba bp bf sl cd gp r_ th_ wa wc ws i fr A hi0 hx hfr oM oM oM) (.e eb (.e eb .n)) .n ?_
 rintro v post ⟨wa2_1,wc2_2,rfl,rfl⟩
 refine tN .n ?_
 exact gX [.e 0,.n,.e 0,.z [0,1,1,1] 0 [0]] (gQ eb (gO (InK .i64 (i+1)) oh (gQ eb (gS [.c [0,1,1,1],.c [1,1,1,1]] (qG (kV 0 [.ww,.ww,.ww,.e 0,.ww,.ww,.ww,.e 0,.ww,.ww]) [4] (.e eb (.e eb .n)) .n (gX [] (gJ [0,1,2,3,4,5,6] ⟨wa2_1,wc2_2,rfl,rfl⟩)))))))
theorem rd_then1N(c:Cfg)(p k b1 b2 b3 b4 b5 b6:Nat)(cl tp ep sl cd:Int)(ov:Bool)(gp wsl:Value)(r_ th_:Value)(K:Cl)(ha:K.at_ = -1)(hq:K.slot = -1):
  Ctr prog 55 #[vP b1,vP b2,vP b3,vP b4,vP b5,vP b6] [.pts b1 [vP k] 118,.pts b2 [vP p] 24,Ef b3 c,.pts b4 [vI cl] 3,.pts b5 [vI tp] 3,.pts b6 [vI ep] 3,El p r_ th_ cd ov c gp sl wsl,Ev k c K] (Ret (undef) [.pts b1 [vP k] 118,.pts b2 [vP p] 24,Ef b3 c,.pts b4 [vI cl] 3,.pts b5 [vI tp] 3,.pts b6 [vI ep] 3,El p r_ th_ 19 true c gp K.slot wsl,Ev k c K]):=by
 refine cb 43 func55 fun F=>gX [.z [0] 0 [0,1,2,3,4,5]] (gS [.c [0],.c [1]] ?_)
 refine tO (kV 0 [.e 1,.e 0,.q (vI K.slot),.ww,.ww]) 5 [] (.e 6) [1,2,3,4,5] (.e b2 (.e b1 .n)) (.c call56 (qR [7] (claim_Slot c k K ha)) .n) (sQ p (sK ?_))
 refine tN .n ?_
 exact gX [.e 1,.e 6,.sp [15] [.e 1,.z [0,0,1,0,1] 3 [18]] [.dead]] (gQ b2 (gQ p (gT (K.slot==(-1)) (beq_iff_eq.2 hq) (gQ b2 (gS [.o [0,0,1,0,1] 3,.c [1,0,1,0,1],.c [1,1]] (gC (some 19) [6] call57 (rd_end c p K.slot cd ov gp wsl r_ th_ 19) (gX [] (gJ [0,1,2,3,4,5,7,6] ⟨rfl,rfl⟩))))))))
theorem rd_then1Y(c:Cfg)(p k b1 b2 b3 b4 b5 b6:Nat)(cl tp ep sl cd:Int)(ov:Bool)(gp wsl:Value)(r_ th_:Value)(K:Cl)(hc:c.Ok)(ha:K.at_ = -1)(hq:K.slot≠-1)(hsl:0≤K.slot∧K.slot<c.slots)(hcl:0≤cl∧cl<c.clients)(htp:0≤tp∧tp<c.topics):
  Ctr prog 55 #[vP b1,vP b2,vP b3,vP b4,vP b5,vP b6] [.pts b1 [vP k] 118,.pts b2 [vP p] 24,Ef b3 c,.pts b4 [vI cl] 3,.pts b5 [vI tp] 3,.pts b6 [vI ep] 3,El p r_ th_ cd ov c gp sl wsl,Ev k c K] (fun v L => ∃(gb:Nat),v=undef∧L=[.pts b1 [vP k] 118,.pts b2 [vP p] 24,Ef b3 c,.pts b4 [vI cl] 3,.pts b5 [vI tp] 3,.pts b6 [vI ep] 3,El p (.iface 110 (vP gb)) (.func (.func 59) #[vP p] #[]) cd ov c (vP gb) K.slot wsl,Ev k c K,Em gb c (newGu c cl K.slot tp ep) gb]):=by
 refine cb 43 func55 fun F=>gX [.z [0] 0 [0,1,2,3,4,5]] (gS [.c [0],.c [1]] ?_)
 refine tO (kV 0 [.e 1,.e 0,.q (vI K.slot),.ww,.ww]) 5 [] (.e 6) [1,2,3,4,5] (.e b2 (.e b1 .n)) (.c call56 (qR [7] (claim_Slot c k K ha)) .n) (sQ p (sK ?_))
 refine tN .n ?_
 refine gX [.e 1,.e 6,.sp [15] [.dead] [.z [0,1,1] 0 [1,2,3,4,5]]] (gQ b2 (gQ p (gF (K.slot==(-1)) (beq_eq_false_iff_ne.2 hq) (gS [.c [0,1,1],.c [1,1,1]] (zG (zN [0,1,2,3,4,5,6,7,8] (kV 0 [.e 1,.e 2,.e 3,.e 1,.w,.w,.e 6,.e 4,.e 5]) [1,2,3,4,5,20,21,22,23,24,25,26,27,28] [9] (.e b2 (.e b3 (.e b4 (.e b2 (.e p (.e b5 (.e b6 .n))))))) ⟨?_,trivial⟩))))))
 refine zC (some 29) [] call58 (guard_New c cl K.slot tp ep oM hcl hsl htp) ?_
 rintro v post ⟨g_9_1,rfl,rfl⟩
 refine zN [10,11] [(0,.e 1),(10,.w),(11,.w)] [29,1,20,30,31] [12] (.e b2 .n) ⟨?_,trivial⟩
 refine zX (.e 6) (sQ p (sK ?_))
 refine zE [] [] [1] .n ?_
 refine tC (some 42) (kV 0 [.e 1,.ww,.ww,.e 1,.ww,.ww,.e 6,.ww,.e 1,.ww]) 10 [] [6] [] call50 (rd_follow c p K.slot cd ov (vP g_9_1) wsl r_ th_ 110 g_9_1 (.func 59) (#[vP p]) (#[])) (.e b2 (.e b2 (.e p (.e b2 .n)))) .n ?_
 rintro v post ⟨rfl,rfl⟩
 refine tN .n ?_
 exact gX [] (gJ [0,1,2,3,4,5,8,6,7] ⟨g_9_1,rfl,rfl⟩)
end Go.Proofs.YtpcaijopodhdgaaGreatDoor
namespace Go.Proofs.YtpcaijopodhdgaaGreatDoor
open Go.Proofs.Tryz
open Go.Sx
abbrev ER(x0:Nat)(x1:Value)(x2:Value)(x3:Int)(x4:Bool)(c5:Cfg)(x6:Int)(x7:Value): Ent:=.pts x0 [x1,x2,.int .i64 x3,.bool x4,.int .i64 c5.topics,.int .i64 c5.small,.int .i64 c5.slots,.int .i64 c5.clients,.int .i64 c5.s0,.int .i64 c5.n0,.int .i64 c5.s1,.int .i64 c5.n1,.int .i64 c5.retry,.pointer none,.int .i64 x6,x7] 112
theorem rstep1W(c:Cfg)(p ba k b1 b2 b3 b4 b5 b6:Nat)(sl cd:Int)(wsl:Value)(cl tp ep:Int)(K:Cl)(A:Ar)(hc:c.Ok)(hn:A.ws.length=A.n)(hs:0≤A.steps∧A.steps≤1000000000)(hz:(A.n:Int)=sizeOfC c)(hK:Cl.Ok c K)(ha:(K.step c A).1.at_≠-1):
  Ctr prog 61 #[vP p,vP ba] [ER p (.iface 118 (vP k)) (.func (.func 55) #[] #[vP b1,vP b2,vP b3,vP b4,vP b5,vP b6]) cd false c sl wsl,Ev k c K,.pts b1 [vP k] 118,.pts b2 [vP p] 24,Ef b3 c,.pts b4 [vI cl] 3,.pts b5 [vI tp] 3,.pts b6 [vI ep] 3,Eb ba A,Ea A] (Ret (.bool false) [ER p (.iface 118 (vP k)) (.func (.func 55) #[] #[vP b1,vP b2,vP b3,vP b4,vP b5,vP b6]) cd false c sl wsl,Ev k c ((K.step c A).1),.pts b1 [vP k] 118,.pts b2 [vP p] 24,Ef b3 c,.pts b4 [vI cl] 3,.pts b5 [vI tp] 3,.pts b6 [vI ep] 3,Eb ba ((K.step c A).2),Ea ((K.step c A).2)]):=by
 refine cb 29 func61 fun F=>gX [.e 0,.e 0,.z [0,0,1] 12 [0,10,15,16]] (gQ p (gQ p (gS [.o [0,0,1] 12,.c [1,0,1],.c [1,1]] ?_)))
 refine go_invoke (some 17) [1,8,9] (T:=118) (rv:=vP k) (name:= "Step") (fun w=>by kernel_rfl) call229 (claim_Step c k ba K A hc hn hs hz hK) kR ?_
 rintro v post ⟨rfl,rfl⟩
 exact gX [.sp [18,17] [.dead] [.e 0]] (gQ ((K.step c A).1.at_ == -1) (gF ((K.step c A).1.at_ == -1) (beq_eq_false_iff_ne.2 ha) (gQ p (gJ [0,7,1,2,3,4,5,6,8,9] ⟨rfl,rfl⟩))))
theorem rd_Step1W(c:Cfg)(p ba k b1 b2 b3 b4 b5 b6:Nat)(sl cd:Int)(wsl:Value)(cl tp ep:Int)(K:Cl)(A:Ar)(hc:c.Ok)(hn:A.ws.length=A.n)(hs:0≤A.steps∧A.steps≤1000000000)(hz:(A.n:Int)=sizeOfC c)(hK:Cl.Ok c K)(ha:(K.step c A).1.at_≠-1):
  Ctr prog 20 #[vP p,vP ba] [ER p (.iface 118 (vP k)) (.func (.func 55) #[] #[vP b1,vP b2,vP b3,vP b4,vP b5,vP b6]) cd false c sl wsl,Ev k c K,.pts b1 [vP k] 118,.pts b2 [vP p] 24,Ef b3 c,.pts b4 [vI cl] 3,.pts b5 [vI tp] 3,.pts b6 [vI ep] 3,Eb ba A,Ea A] (Ret (.bool false) [ER p (.iface 118 (vP k)) (.func (.func 55) #[] #[vP b1,vP b2,vP b3,vP b4,vP b5,vP b6]) cd false c sl wsl,Ev k c ((K.step c A).1),.pts b1 [vP k] 118,.pts b2 [vP p] 24,Ef b3 c,.pts b4 [vI cl] 3,.pts b5 [vI tp] 3,.pts b6 [vI ep] 3,Eb ba ((K.step c A).2),Ea ((K.step c A).2)]):=by
 exact cb 14 func20 fun F=>gX [.z [0,1] 7 [7,10,11]] (gS [.o [0,1] 7,.c [1,1]] (gC (some 12) [0,1,2,3,4,5,6,7,8,9] call61 (rstep1W c p ba k b1 b2 b3 b4 b5 b6 sl cd wsl cl tp ep K A hc hn hs hz hK ha) (gX [] (gJ [0,1,2,3,4,5,6,7,8,9] ⟨rfl,rfl⟩))))
theorem rstep1N(c:Cfg)(p ba k b1 b2 b3 b4 b5 b6:Nat)(sl cd:Int)(wsl:Value)(cl tp ep:Int)(K:Cl)(A:Ar)(hc:c.Ok)(hn:A.ws.length=A.n)(hs:0≤A.steps∧A.steps≤1000000000)(hz:(A.n:Int)=sizeOfC c)(hK:Cl.Ok c K)(ha:(K.step c A).1.at_ = -1)(hq:(K.step c A).1.slot = -1):
  Ctr prog 61 #[vP p,vP ba] [ER p (.iface 118 (vP k)) (.func (.func 55) #[] #[vP b1,vP b2,vP b3,vP b4,vP b5,vP b6]) cd false c sl wsl,Ev k c K,.pts b1 [vP k] 118,.pts b2 [vP p] 24,Ef b3 c,.pts b4 [vI cl] 3,.pts b5 [vI tp] 3,.pts b6 [vI ep] 3,Eb ba A,Ea A] (Ret (.bool true) [ER p (.iface 118 (vP k)) (.func (.func 55) #[] #[vP b1,vP b2,vP b3,vP b4,vP b5,vP b6]) 19 true c ((K.step c A).1.slot) wsl,Ev k c ((K.step c A).1),.pts b1 [vP k] 118,.pts b2 [vP p] 24,Ef b3 c,.pts b4 [vI cl] 3,.pts b5 [vI tp] 3,.pts b6 [vI ep] 3,Eb ba ((K.step c A).2),Ea ((K.step c A).2)]):=by
 refine cb 29 func61 fun F=>gX [.e 0,.e 0,.z [0,0,1] 12 [0,10,15,16]] (gQ p (gQ p (gS [.o [0,0,1] 12,.c [1,0,1],.c [1,1]] ?_)))
 refine go_invoke (some 17) [1,8,9] (T:=118) (rv:=vP k) (name:= "Step") (fun w=>by kernel_rfl) call229 (claim_Step c k ba K A hc hn hs hz hK) kR ?_
 rintro v post ⟨rfl,rfl⟩
 exact gX [.sp [18,17] [.e 0,.z [0,1,0,1] 5 [0,23]] [.dead]] (gQ ((K.step c A).1.at_ == -1) (gT ((K.step c A).1.at_ == -1) (beq_iff_eq.2 ha) (gQ p (gS [.o [0,1,0,1] 5,.c [1,1]] (gC (some 24) [1,2,3,4,5,6,0,7] call55 (rd_then1N c p k b1 b2 b3 b4 b5 b6 cl tp ep sl cd false (.pointer none) wsl (.iface 118 (vP k)) (.func (.func 55) #[] #[vP b1,vP b2,vP b3,vP b4,vP b5,vP b6]) ((K.step c A).1) ha hq) (gX [.e 8] (gQ p (gJ [8,9,2,3,4,5,6,7,0,1] ⟨rfl,rfl⟩))))))))
theorem rd_Step1N(c:Cfg)(p ba k b1 b2 b3 b4 b5 b6:Nat)(sl cd:Int)(wsl:Value)(cl tp ep:Int)(K:Cl)(A:Ar)(hc:c.Ok)(hn:A.ws.length=A.n)(hs:0≤A.steps∧A.steps≤1000000000)(hz:(A.n:Int)=sizeOfC c)(hK:Cl.Ok c K)(ha:(K.step c A).1.at_ = -1)(hq:(K.step c A).1.slot = -1):
  Ctr prog 20 #[vP p,vP ba] [ER p (.iface 118 (vP k)) (.func (.func 55) #[] #[vP b1,vP b2,vP b3,vP b4,vP b5,vP b6]) cd false c sl wsl,Ev k c K,.pts b1 [vP k] 118,.pts b2 [vP p] 24,Ef b3 c,.pts b4 [vI cl] 3,.pts b5 [vI tp] 3,.pts b6 [vI ep] 3,Eb ba A,Ea A] (Ret (.bool true) [ER p (.iface 118 (vP k)) (.func (.func 55) #[] #[vP b1,vP b2,vP b3,vP b4,vP b5,vP b6]) 19 true c ((K.step c A).1.slot) wsl,Ev k c ((K.step c A).1),.pts b1 [vP k] 118,.pts b2 [vP p] 24,Ef b3 c,.pts b4 [vI cl] 3,.pts b5 [vI tp] 3,.pts b6 [vI ep] 3,Eb ba ((K.step c A).2),Ea ((K.step c A).2)]):=by
 exact cb 14 func20 fun F=>gX [.z [0,1] 7 [7,10,11]] (gS [.o [0,1] 7,.c [1,1]] (gC (some 12) [0,1,2,3,4,5,6,7,8,9] call61 (rstep1N c p ba k b1 b2 b3 b4 b5 b6 sl cd wsl cl tp ep K A hc hn hs hz hK ha hq) (gX [] (gJ [0,1,2,3,4,5,6,7,8,9] ⟨rfl,rfl⟩))))
theorem rstep1Y(c:Cfg)(p ba k b1 b2 b3 b4 b5 b6:Nat)(sl cd:Int)(wsl:Value)(cl tp ep:Int)(K:Cl)(A:Ar)(hc:c.Ok)(hn:A.ws.length=A.n)(hs:0≤A.steps∧A.steps≤1000000000)(hz:(A.n:Int)=sizeOfC c)(hK:Cl.Ok c K)(ha:(K.step c A).1.at_ = -1)(hq:(K.step c A).1.slot≠-1)(hsl:0≤(K.step c A).1.slot∧(K.step c A).1.slot<c.slots)(hcl:0≤cl∧cl<c.clients)(htp:0≤tp∧tp<c.topics):
  Ctr prog 61 #[vP p,vP ba] [ER p (.iface 118 (vP k)) (.func (.func 55) #[] #[vP b1,vP b2,vP b3,vP b4,vP b5,vP b6]) cd false c sl wsl,Ev k c K,.pts b1 [vP k] 118,.pts b2 [vP p] 24,Ef b3 c,.pts b4 [vI cl] 3,.pts b5 [vI tp] 3,.pts b6 [vI ep] 3,Eb ba A,Ea A] (fun v L => ∃(gb:Nat),v = .bool false∧L=[El p (.iface 110 (vP gb)) (.func (.func 59) #[vP p] #[]) cd false c (vP gb) ((K.step c A).1.slot) wsl,Ev k c ((K.step c A).1),.pts b1 [vP k] 118,.pts b2 [vP p] 24,Ef b3 c,.pts b4 [vI cl] 3,.pts b5 [vI tp] 3,.pts b6 [vI ep] 3,Eb ba ((K.step c A).2),Ea ((K.step c A).2),Em gb c (newGu c cl (K.step c A).1.slot tp ep) gb]):=by
 refine cb 29 func61 fun F=>gX [.e 0,.e 0,.z [0,0,1] 12 [0,10,15,16]] (gQ p (gQ p (gS [.o [0,0,1] 12,.c [1,0,1],.c [1,1]] ?_)))
 refine go_invoke (some 17) [1,8,9] (T:=118) (rv:=vP k) (name:= "Step") (fun w=>by kernel_rfl) call229 (claim_Step c k ba K A hc hn hs hz hK) kR ?_
 rintro v post ⟨rfl,rfl⟩
 refine gX [.sp [18,17] [.e 0,.z [0,1,0,1] 5 [0,23]] [.dead]] (gQ ((K.step c A).1.at_ == -1) (gT ((K.step c A).1.at_ == -1) (beq_iff_eq.2 ha) (gQ p (gS [.o [0,1,0,1] 5,.c [1,1]] ?_))))
 refine go_call (some 24) [1,2,3,4,5,6,0,7] call55 (rd_then1Y c p k b1 b2 b3 b4 b5 b6 cl tp ep sl cd false (.pointer none) wsl (.iface 118 (vP k)) (.func (.func 55) #[] #[vP b1,vP b2,vP b3,vP b4,vP b5,vP b6]) ((K.step c A).1) hc ha hq hsl hcl htp) kR ?_
 rintro v post ⟨gb_1,rfl,rfl⟩
 exact gX [.e 8] (gQ p (gJ [8,9,2,3,4,5,6,7,0,1,10] ⟨gb_1,rfl,rfl⟩))
theorem rd_Step1Y(c:Cfg)(p ba k b1 b2 b3 b4 b5 b6:Nat)(sl cd:Int)(wsl:Value)(cl tp ep:Int)(K:Cl)(A:Ar)(hc:c.Ok)(hn:A.ws.length=A.n)(hs:0≤A.steps∧A.steps≤1000000000)(hz:(A.n:Int)=sizeOfC c)(hK:Cl.Ok c K)(ha:(K.step c A).1.at_ = -1)(hq:(K.step c A).1.slot≠-1)(hsl:0≤(K.step c A).1.slot∧(K.step c A).1.slot<c.slots)(hcl:0≤cl∧cl<c.clients)(htp:0≤tp∧tp<c.topics):
  Ctr prog 20 #[vP p,vP ba] [ER p (.iface 118 (vP k)) (.func (.func 55) #[] #[vP b1,vP b2,vP b3,vP b4,vP b5,vP b6]) cd false c sl wsl,Ev k c K,.pts b1 [vP k] 118,.pts b2 [vP p] 24,Ef b3 c,.pts b4 [vI cl] 3,.pts b5 [vI tp] 3,.pts b6 [vI ep] 3,Eb ba A,Ea A] (fun v L => ∃(gb:Nat),v = .bool false∧L=[El p (.iface 110 (vP gb)) (.func (.func 59) #[vP p] #[]) cd false c (vP gb) ((K.step c A).1.slot) wsl,Ev k c ((K.step c A).1),.pts b1 [vP k] 118,.pts b2 [vP p] 24,Ef b3 c,.pts b4 [vI cl] 3,.pts b5 [vI tp] 3,.pts b6 [vI ep] 3,Eb ba ((K.step c A).2),Ea ((K.step c A).2),Em gb c (newGu c cl (K.step c A).1.slot tp ep) gb]):=by
 refine cb 14 func20 fun F=>gX [.z [0,1] 7 [7,10,11]] (gS [.o [0,1] 7,.c [1,1]] ?_)
 refine go_call (some 12) [0,1,2,3,4,5,6,7,8,9] call61 (rstep1Y c p ba k b1 b2 b3 b4 b5 b6 sl cd wsl cl tp ep K A hc hn hs hz hK ha hq hsl hcl htp) kR ?_
 rintro v post ⟨gb_1,rfl,rfl⟩
 exact gX [] (gJ [0,1,2,3,4,5,6,7,8,9,10] ⟨gb_1,rfl,rfl⟩)
theorem rstep2W(c:Cfg)(p ba gb:Nat)(sl cd:Int)(wsl:Value)(G:Gu)(A:Ar)(hc:c.Ok)(hn:A.ws.length=A.n)(hs:0≤A.steps∧A.steps≤1000000000)(hR:RngW A.ws)(hG:Gu.Ok c A.n G)(hd:(G.step c.retry A).1.ph≠0):
  Ctr prog 61 #[vP p,vP ba] [El p (.iface 110 (vP gb)) (.func (.func 59) #[vP p] #[]) cd false c (vP gb) sl wsl,Em gb c G gb,Eb ba A,Ea A] (Ret (.bool false) [El p (.iface 110 (vP gb)) (.func (.func 59) #[vP p] #[]) cd false c (vP gb) sl wsl,Em gb c ((G.step c.retry A).1) gb,Eb ba ((G.step c.retry A).2),Ea ((G.step c.retry A).2)]):=by
 refine cb 29 func61 fun F=>gX [.e 0,.e 0,.z [0,0,1] 12 [0,10,15,16]] (gQ p (gQ p (gS [.o [0,0,1] 12,.c [1,0,1],.c [1,1]] ?_)))
 refine go_invoke (some 17) [1,2,3] (T:=110) (rv:=vP gb) (name:= "Step") (fun w=>by kernel_rfl) call227 (guard_Step c gb ba G A hc hn hs hR hG) kR ?_
 rintro v post ⟨rfl,rfl⟩
 exact gX [.sp [18,17] [.dead] [.e 0]] (gQ ((G.step c.retry A).1.ph==0) (gF ((G.step c.retry A).1.ph==0) (beq_eq_false_iff_ne.2 hd) (gQ p (gJ [0,1,2,3] ⟨rfl,rfl⟩))))
theorem rd_Step2W(c:Cfg)(p ba gb:Nat)(sl cd:Int)(wsl:Value)(G:Gu)(A:Ar)(hc:c.Ok)(hn:A.ws.length=A.n)(hs:0≤A.steps∧A.steps≤1000000000)(hR:RngW A.ws)(hG:Gu.Ok c A.n G)(hd:(G.step c.retry A).1.ph≠0):
  Ctr prog 20 #[vP p,vP ba] [El p (.iface 110 (vP gb)) (.func (.func 59) #[vP p] #[]) cd false c (vP gb) sl wsl,Em gb c G gb,Eb ba A,Ea A] (Ret (.bool false) [El p (.iface 110 (vP gb)) (.func (.func 59) #[vP p] #[]) cd false c (vP gb) sl wsl,Em gb c ((G.step c.retry A).1) gb,Eb ba ((G.step c.retry A).2),Ea ((G.step c.retry A).2)]):=by
 exact cb 14 func20 fun F=>gX [.z [0,1] 7 [7,10,11]] (gS [.o [0,1] 7,.c [1,1]] (gC (some 12) [0,1,2,3] call61 (rstep2W c p ba gb sl cd wsl G A hc hn hs hR hG oM) (gX [] (gJ [0,1,2,3] ⟨rfl,rfl⟩))))
theorem rstep2K(c:Cfg)(p ba gb:Nat)(sl cd:Int)(wsl:Value)(G:Gu)(A:Ar)(hc:c.Ok)(hn:A.ws.length=A.n)(hs:0≤A.steps∧A.steps≤1000000000)(hR:RngW A.ws)(hG:Gu.Ok c A.n G)(hd:(G.step c.retry A).1.ph=0)(he:(G.step c.retry A).1.code=0)(hq:0≤clsOf c (G.step c.retry A).1.block):
  Ctr prog 61 #[vP p,vP ba] [El p (.iface 110 (vP gb)) (.func (.func 59) #[vP p] #[]) cd false c (vP gb) sl wsl,Em gb c G gb,Eb ba A,Ea A] (fun v L => ∃(eb:Nat) (bp:Nat) (bf:Nat),v = .bool false∧L=[El p (.iface 173 (vP eb)) (.func (.func 117) #[] #[vP bp]) cd false c (vP gb) sl wsl,Em gb c ((G.step c.retry A).1) gb,Eb ba ((G.step c.retry A).2),Ea ((G.step c.retry A).2),.pts eb [vI 0,vI (szK c (clsOf c (G.step c.retry A).1.block)),.func (.func 115) #[] #[vP bp,vP bf]] 176,.pts bp [vP p] 24,.pts bf [vI (blockAt c (G.step c.retry A).1.block+1)] 3]):=by
 refine cb 29 func61 fun F=>gX [.e 0,.e 0,.z [0,0,1] 12 [0,10,15,16]] (gQ p (gQ p (gS [.o [0,0,1] 12,.c [1,0,1],.c [1,1]] ?_)))
 refine go_invoke (some 17) [1,2,3] (T:=110) (rv:=vP gb) (name:= "Step") (fun w=>by kernel_rfl) call227 (guard_Step c gb ba G A hc hn hs hR hG) kR ?_
 rintro v post ⟨rfl,rfl⟩
 refine gX [.sp [18,17] [.e 0,.z [0,1,0,1] 5 [0,23]] [.dead]] (gQ ((G.step c.retry A).1.ph==0) (gT ((G.step c.retry A).1.ph==0) (beq_iff_eq.2 hd) (gQ p (gS [.o [0,1,0,1] 5,.c [1,1]] ?_))))
 refine go_call (some 24) [0,1] call59 (rd_guardedK c p gb sl cd false wsl (.iface 110 (vP gb)) (.func (.func 59) #[vP p] #[]) ((G.step c.retry A).1) hc hd he hq) kR ?_
 rintro v post ⟨eb_1,bp_2,bf_3,rfl,rfl⟩
 exact gX [.e 2] (gQ p (gJ [2,3,0,1,4,5,6] ⟨eb_1,bp_2,bf_3,rfl,rfl⟩))
theorem rd_Step2K(c:Cfg)(p ba gb:Nat)(sl cd:Int)(wsl:Value)(G:Gu)(A:Ar)(hc:c.Ok)(hn:A.ws.length=A.n)(hs:0≤A.steps∧A.steps≤1000000000)(hR:RngW A.ws)(hG:Gu.Ok c A.n G)(hd:(G.step c.retry A).1.ph=0)(he:(G.step c.retry A).1.code=0)(hq:0≤clsOf c (G.step c.retry A).1.block):
  Ctr prog 20 #[vP p,vP ba] [El p (.iface 110 (vP gb)) (.func (.func 59) #[vP p] #[]) cd false c (vP gb) sl wsl,Em gb c G gb,Eb ba A,Ea A] (fun v L => ∃(eb:Nat) (bp:Nat) (bf:Nat),v = .bool false∧L=[El p (.iface 173 (vP eb)) (.func (.func 117) #[] #[vP bp]) cd false c (vP gb) sl wsl,Em gb c ((G.step c.retry A).1) gb,Eb ba ((G.step c.retry A).2),Ea ((G.step c.retry A).2),.pts eb [vI 0,vI (szK c (clsOf c (G.step c.retry A).1.block)),.func (.func 115) #[] #[vP bp,vP bf]] 176,.pts bp [vP p] 24,.pts bf [vI (blockAt c (G.step c.retry A).1.block+1)] 3]):=by
 refine cb 14 func20 fun F=>gX [.z [0,1] 7 [7,10,11]] (gS [.o [0,1] 7,.c [1,1]] ?_)
 refine go_call (some 12) [0,1,2,3] call61 (rstep2K c p ba gb sl cd wsl G A hc hn hs hR hG oM oM hq) kR ?_
 rintro v post ⟨eb_1,bp_2,bf_3,rfl,rfl⟩
 exact gX [] (gJ [0,1,2,3,4,5,6] ⟨eb_1,bp_2,bf_3,rfl,rfl⟩)
theorem rstep2E(c:Cfg)(p ba gb:Nat)(sl cd:Int)(wsl:Value)(G:Gu)(A:Ar)(o_:Obj)(hc:c.Ok)(hn:A.ws.length=A.n)(hs:0≤A.steps∧A.steps≤1000000000)(hR:RngW A.ws)(hG:Gu.Ok c A.n G)(hd:(G.step c.retry A).1.ph=0)(he:(G.step c.retry A).1.code≠0)(hsl:0≤sl∧sl<c.slots)(ho:IsH o_):
  Ctr prog 61 #[vP p,vP ba] [.raw 0 o_,El p (.iface 110 (vP gb)) (.func (.func 59) #[vP p] #[]) cd false c (vP gb) sl wsl,Em gb c G gb,Eb ba A,Ea A] (fun v L => ∃(rl:Nat) (bq:Nat) (bc:Nat),v = .bool false∧L=[.raw 0 o_,El p (.iface 222 (vP rl)) (.func (.func 163) #[] #[vP bq,vP bc]) cd false c (vP gb) sl wsl,Em gb c ((G.step c.retry A).1) gb,Eb ba ((G.step c.retry A).2),Ea ((G.step c.retry A).2),.pts rl [vI (slotAt c sl),.bool false] 259,.pts bq [vP p] 24,.pts bc [vI ((G.step c.retry A).1.code)] 42]):=by
 refine cb 29 func61 fun F=>gX [.e 1,.e 1,.z [0,0,1] 12 [0,10,15,16]] (gQ p (gQ p (gS [.o [0,0,1] 12,.c [1,0,1],.c [1,1]] ?_)))
 refine go_invoke (some 17) [2,3,4] (T:=110) (rv:=vP gb) (name:= "Step") (fun w=>by kernel_rfl) call227 (guard_Step c gb ba G A hc hn hs hR hG) kR ?_
 rintro v post ⟨rfl,rfl⟩
 refine gX [.sp [18,17] [.e 1,.z [0,1,0,1] 5 [0,23]] [.dead]] (gQ ((G.step c.retry A).1.ph==0) (gT ((G.step c.retry A).1.ph==0) (beq_iff_eq.2 hd) (gQ p (gS [.o [0,1,0,1] 5,.c [1,1]] ?_))))
 refine go_call (some 24) [0,1,2] call59 (rd_guardedE c p gb sl cd false wsl (.iface 110 (vP gb)) (.func (.func 59) #[vP p] #[]) ((G.step c.retry A).1) o_ hc hsl hd he ho) kR ?_
 rintro v post ⟨rl_1,bq_2,bc_3,rfl,rfl⟩
 exact gX [.e 3] (gQ p (gJ [2,3,4,0,1,5,6,7] ⟨rl_1,bq_2,bc_3,rfl,rfl⟩))
theorem rd_Step2E(c:Cfg)(p ba gb:Nat)(sl cd:Int)(wsl:Value)(G:Gu)(A:Ar)(o_:Obj)(hc:c.Ok)(hn:A.ws.length=A.n)(hs:0≤A.steps∧A.steps≤1000000000)(hR:RngW A.ws)(hG:Gu.Ok c A.n G)(hd:(G.step c.retry A).1.ph=0)(he:(G.step c.retry A).1.code≠0)(hsl:0≤sl∧sl<c.slots)(ho:IsH o_):
  Ctr prog 20 #[vP p,vP ba] [.raw 0 o_,El p (.iface 110 (vP gb)) (.func (.func 59) #[vP p] #[]) cd false c (vP gb) sl wsl,Em gb c G gb,Eb ba A,Ea A] (fun v L => ∃(rl:Nat) (bq:Nat) (bc:Nat),v = .bool false∧L=[.raw 0 o_,El p (.iface 222 (vP rl)) (.func (.func 163) #[] #[vP bq,vP bc]) cd false c (vP gb) sl wsl,Em gb c ((G.step c.retry A).1) gb,Eb ba ((G.step c.retry A).2),Ea ((G.step c.retry A).2),.pts rl [vI (slotAt c sl),.bool false] 259,.pts bq [vP p] 24,.pts bc [vI ((G.step c.retry A).1.code)] 42]):=by
 refine cb 14 func20 fun F=>gX [.z [0,1] 7 [7,10,11]] (gS [.o [0,1] 7,.c [1,1]] ?_)
 refine go_call (some 12) [0,1,2,3,4] call61 (rstep2E c p ba gb sl cd wsl G A o_ hc hn hs hR hG oM oM hsl ho) kR ?_
 rintro v post ⟨rl_1,bq_2,bc_3,rfl,rfl⟩
 exact gX [] (gJ [0,1,2,3,4,5,6,7] ⟨rl_1,bq_2,bc_3,rfl,rfl⟩)
theorem rstep3N(c:Cfg)(p ba bp bf eb:Nat)(sl cd:Int)(gp:Value)(wa:Option Addr)(wc:Nat)(ws:List Int)(i fr m:Int)(A:Ar)(hi0:0≤i∧i≤1000)(hx:0≤fr+i∧fr+i<A.n)(hfr:0≤fr∧fr≤1000000)(hn:A.ws.length=A.n)(hs:0≤A.steps∧A.steps≤1000000000)(hl:ws.length≤1000)(hd:i+1≠m):
  Ctr prog 61 #[vP p,vP ba] [Ew p (.iface 173 (vP eb)) (.func (.func 117) #[] #[vP bp]) cd false c gp sl wa ws.length wc,Ee wa wc ws,.pts eb [vI i,vI m,.func (.func 115) #[] #[vP bp,vP bf]] 176,.pts bp [vP p] 24,.pts bf [vI fr] 3,Eb ba A,Ea A] (fun v L => ∃(wa2:Option Addr) (wc2:Nat),v = .bool false∧L=[Ew p (.iface 173 (vP eb)) (.func (.func 117) #[] #[vP bp]) cd false c gp sl wa2 ((ws++[A.ws.getD (fr+i).toNat 0]).length) wc2,Ee wa2 wc2 (ws++[A.ws.getD (fr+i).toNat 0]),.pts eb [vI (i+1),vI m,.func (.func 115) #[] #[vP bp,vP bf]] 176,.pts bp [vP p] 24,.pts bf [vI fr] 3,Eb ba (A.load (fr+i)),Ea (A.load (fr+i))]):=by
 refine cb 29 func61 fun F=>gX [.e 0,.e 0,.z [0,0,1] 12 [0,10,15,16]] (gQ p (gQ p (gS [.o [0,0,1] 12,.c [1,0,1],.c [1,1]] ?_)))
 refine go_invoke (some 17) [2,3,4,0,1,5,6] (T:=173) (rv:=vP eb) (name:= "Step") (fun w=>by kernel_rfl) call231 (each_read c p ba bp bf eb sl cd gp (.iface 173 (vP eb)) (.func (.func 117) #[] #[vP bp]) wa wc ws i fr m A hi0 hx hfr hn hs oM) kR ?_
 rintro v post ⟨wa2_1,wc2_2,rfl,rfl⟩
 exact gX [.sp [18,17] [.dead] [.e 3]] (gQ ((i+1)==m) (gF ((i+1)==m) (beq_eq_false_iff_ne.2 hd) (gQ p (gJ [3,4,0,1,2,5,6] ⟨wa2_1,wc2_2,rfl,rfl⟩))))
theorem rd_Step3N(c:Cfg)(p ba bp bf eb:Nat)(sl cd:Int)(gp:Value)(wa:Option Addr)(wc:Nat)(ws:List Int)(i fr m:Int)(A:Ar)(hi0:0≤i∧i≤1000)(hx:0≤fr+i∧fr+i<A.n)(hfr:0≤fr∧fr≤1000000)(hn:A.ws.length=A.n)(hs:0≤A.steps∧A.steps≤1000000000)(hl:ws.length≤1000)(hd:i+1≠m):
  Ctr prog 20 #[vP p,vP ba] [Ew p (.iface 173 (vP eb)) (.func (.func 117) #[] #[vP bp]) cd false c gp sl wa ws.length wc,Ee wa wc ws,.pts eb [vI i,vI m,.func (.func 115) #[] #[vP bp,vP bf]] 176,.pts bp [vP p] 24,.pts bf [vI fr] 3,Eb ba A,Ea A] (fun v L => ∃(wa2:Option Addr) (wc2:Nat),v = .bool false∧L=[Ew p (.iface 173 (vP eb)) (.func (.func 117) #[] #[vP bp]) cd false c gp sl wa2 ((ws++[A.ws.getD (fr+i).toNat 0]).length) wc2,Ee wa2 wc2 (ws++[A.ws.getD (fr+i).toNat 0]),.pts eb [vI (i+1),vI m,.func (.func 115) #[] #[vP bp,vP bf]] 176,.pts bp [vP p] 24,.pts bf [vI fr] 3,Eb ba (A.load (fr+i)),Ea (A.load (fr+i))]):=by
 refine cb 14 func20 fun F=>gX [.z [0,1] 7 [7,10,11]] (gS [.o [0,1] 7,.c [1,1]] ?_)
 refine go_call (some 12) [0,1,2,3,4,5,6] call61 (rstep3N c p ba bp bf eb sl cd gp wa wc ws i fr m A hi0 hx hfr hn hs oM oM) kR ?_
 rintro v post ⟨wa2_1,wc2_2,rfl,rfl⟩
 exact gX [] (gJ [0,1,2,3,4,5,6] ⟨wa2_1,wc2_2,rfl,rfl⟩)
theorem rstep3Y(c:Cfg)(p ba bp bf eb:Nat)(sl cd:Int)(gp:Value)(wa:Option Addr)(wc:Nat)(ws:List Int)(i fr m:Int)(A:Ar)(hi0:0≤i∧i≤1000)(hx:0≤fr+i∧fr+i<A.n)(hfr:0≤fr∧fr≤1000000)(hn:A.ws.length=A.n)(hs:0≤A.steps∧A.steps≤1000000000)(hl:ws.length≤1000)(hd:i+1=m)(hc:c.Ok)(hsl:0≤sl∧sl<c.slots):
  Ctr prog 61 #[vP p,vP ba] [Ew p (.iface 173 (vP eb)) (.func (.func 117) #[] #[vP bp]) cd false c gp sl wa ws.length wc,Ee wa wc ws,.pts eb [vI i,vI m,.func (.func 115) #[] #[vP bp,vP bf]] 176,.pts bp [vP p] 24,.pts bf [vI fr] 3,Eb ba A,Ea A] (fun v L => ∃(wa2:Option Addr) (wc2:Nat) (rl:Nat) (bq:Nat) (bc:Nat),v = .bool false∧L=[Ew p (.iface 222 (vP rl)) (.func (.func 163) #[] #[vP bq,vP bc]) cd false c gp sl wa2 ((ws++[A.ws.getD (fr+i).toNat 0]).length) wc2,Ee wa2 wc2 (ws++[A.ws.getD (fr+i).toNat 0]),.pts eb [vI (i+1),vI m,.func (.func 115) #[] #[vP bp,vP bf]] 176,.pts bp [vP p] 24,.pts bf [vI fr] 3,Eb ba (A.load (fr+i)),Ea (A.load (fr+i)),.pts rl [vI (slotAt c sl),.bool false] 259,.pts bq [vP p] 24,.pts bc [vI 0] 42]):=by
 refine cb 29 func61 fun F=>gX [.e 0,.e 0,.z [0,0,1] 12 [0,10,15,16]] (gQ p (gQ p (gS [.o [0,0,1] 12,.c [1,0,1],.c [1,1]] ?_)))
 refine go_invoke (some 17) [2,3,4,0,1,5,6] (T:=173) (rv:=vP eb) (name:= "Step") (fun w=>by kernel_rfl) call231 (each_read c p ba bp bf eb sl cd gp (.iface 173 (vP eb)) (.func (.func 117) #[] #[vP bp]) wa wc ws i fr m A hi0 hx hfr hn hs oM) kR ?_
 rintro v post ⟨wa2_1,wc2_2,rfl,rfl⟩
 refine gX [.sp [18,17] [.e 3,.z [0,1,0,1] 5 [0,23]] [.dead]] (gQ ((i+1)==m) (gT ((i+1)==m) (beq_iff_eq.2 hd) (gQ p (gS [.o [0,1,0,1] 5,.c [1,1]] ?_))))
 refine go_call (some 24) [1,3] call117 (rd_then3 c p bp sl cd false gp (.slice wa2_1 ((ws++[A.ws.getD (fr+i).toNat 0]).length) wc2_2) (.iface 173 (vP eb)) (.func (.func 117) #[] #[vP bp]) hc hsl) kR ?_
 rintro v post ⟨rl_3,bq_4,bc_5,rfl,rfl⟩
 exact gX [.e 6] (gQ p (gJ [6,2,0,5,1,3,4,7,8,9] ⟨wa2_1,wc2_2,rl_3,bq_4,bc_5,rfl,rfl⟩))
theorem rd_Step3Y(c:Cfg)(p ba bp bf eb:Nat)(sl cd:Int)(gp:Value)(wa:Option Addr)(wc:Nat)(ws:List Int)(i fr m:Int)(A:Ar)(hi0:0≤i∧i≤1000)(hx:0≤fr+i∧fr+i<A.n)(hfr:0≤fr∧fr≤1000000)(hn:A.ws.length=A.n)(hs:0≤A.steps∧A.steps≤1000000000)(hl:ws.length≤1000)(hd:i+1=m)(hc:c.Ok)(hsl:0≤sl∧sl<c.slots):
  Ctr prog 20 #[vP p,vP ba] [Ew p (.iface 173 (vP eb)) (.func (.func 117) #[] #[vP bp]) cd false c gp sl wa ws.length wc,Ee wa wc ws,.pts eb [vI i,vI m,.func (.func 115) #[] #[vP bp,vP bf]] 176,.pts bp [vP p] 24,.pts bf [vI fr] 3,Eb ba A,Ea A] (fun v L => ∃(wa2:Option Addr) (wc2:Nat) (rl:Nat) (bq:Nat) (bc:Nat),v = .bool false∧L=[Ew p (.iface 222 (vP rl)) (.func (.func 163) #[] #[vP bq,vP bc]) cd false c gp sl wa2 ((ws++[A.ws.getD (fr+i).toNat 0]).length) wc2,Ee wa2 wc2 (ws++[A.ws.getD (fr+i).toNat 0]),.pts eb [vI (i+1),vI m,.func (.func 115) #[] #[vP bp,vP bf]] 176,.pts bp [vP p] 24,.pts bf [vI fr] 3,Eb ba (A.load (fr+i)),Ea (A.load (fr+i)),.pts rl [vI (slotAt c sl),.bool false] 259,.pts bq [vP p] 24,.pts bc [vI 0] 42]):=by
 refine cb 14 func20 fun F=>gX [.z [0,1] 7 [7,10,11]] (gS [.o [0,1] 7,.c [1,1]] ?_)
 refine go_call (some 12) [0,1,2,3,4,5,6] call61 (rstep3Y c p ba bp bf eb sl cd gp wa wc ws i fr m A hi0 hx hfr hn hs oM oM hc hsl) kR ?_
 rintro v post ⟨wa2_1,wc2_2,rl_3,bq_4,bc_5,rfl,rfl⟩
 exact gX [] (gJ [0,1,2,3,4,5,6,7,8,9] ⟨wa2_1,wc2_2,rl_3,bq_4,bc_5,rfl,rfl⟩)
theorem rstep4(c:Cfg)(p ba rl bq bc:Nat)(sl cd:Int)(wsl:Value)(gp:Value)(a_ k_:Int)(A:Ar)(hn:A.ws.length=A.n)(hi:0≤a_∧a_<A.n)(hs:0≤A.steps∧A.steps≤1000000000):
  Ctr prog 61 #[vP p,vP ba] [El p (.iface 222 (vP rl)) (.func (.func 163) #[] #[vP bq,vP bc]) cd false c gp sl wsl,.pts rl [vI a_,.bool false] 259,.pts bq [vP p] 24,.pts bc [vI k_] 42,Eb ba A,Ea A] (Ret (.bool true) [El p (.iface 222 (vP rl)) (.func (.func 163) #[] #[vP bq,vP bc]) k_ true c gp (-1) wsl,.pts rl [vI a_,.bool true] 259,.pts bq [vP p] 24,.pts bc [vI k_] 42,Eb ba (A.store a_ 0),Ea (A.store a_ 0)]):=by
 refine cb 29 func61 fun F=>gX [.e 0,.e 0,.z [0,0,1] 12 [0,10,15,16]] (gQ p (gQ p (gS [.o [0,0,1] 12,.c [1,0,1],.c [1,1]] ?_)))
 refine go_invoke (some 17) [1,4,5] (T:=222) (rv:=vP rl) (name:= "Step") (fun w=>by kernel_rfl) call236 (release_Step rl ba a_ A hn hi hs) kR ?_
 rintro v post ⟨rfl,rfl⟩
 exact gX [.e 0,.z [0,1,0,1] 5 [0,23]] (gQ p (gS [.o [0,1,0,1] 5,.c [1,1]] (gC (some 24) [1,2,0] call163 (rd_then4 c p bq bc sl cd false gp wsl (.iface 222 (vP rl)) (.func (.func 163) #[] #[vP bq,vP bc]) k_) (gX [.e 5] (gQ p (gJ [5,0,3,4,1,2] ⟨rfl,rfl⟩))))))
theorem rd_Step4(c:Cfg)(p ba rl bq bc:Nat)(sl cd:Int)(wsl:Value)(gp:Value)(a_ k_:Int)(A:Ar)(hn:A.ws.length=A.n)(hi:0≤a_∧a_<A.n)(hs:0≤A.steps∧A.steps≤1000000000):
  Ctr prog 20 #[vP p,vP ba] [El p (.iface 222 (vP rl)) (.func (.func 163) #[] #[vP bq,vP bc]) cd false c gp sl wsl,.pts rl [vI a_,.bool false] 259,.pts bq [vP p] 24,.pts bc [vI k_] 42,Eb ba A,Ea A] (Ret (.bool true) [El p (.iface 222 (vP rl)) (.func (.func 163) #[] #[vP bq,vP bc]) k_ true c gp (-1) wsl,.pts rl [vI a_,.bool true] 259,.pts bq [vP p] 24,.pts bc [vI k_] 42,Eb ba (A.store a_ 0),Ea (A.store a_ 0)]):=by
 exact cb 14 func20 fun F=>gX [.z [0,1] 7 [7,10,11]] (gS [.o [0,1] 7,.c [1,1]] (gC (some 12) [0,1,2,3,4,5] call61 (rstep4 c p ba rl bq bc sl cd wsl gp a_ k_ A hn hi hs) (gX [] (gJ [0,1,2,3,4,5] ⟨rfl,rfl⟩))))
theorem rstep0(c:Cfg)(p ba:Nat)(sl cd:Int)(wsl:Value)(gp r_ th_:Value):
  Ctr prog 61 #[vP p,vP ba] [El p r_ th_ cd true c gp sl wsl] (Ret (.bool true) [El p r_ th_ cd true c gp sl wsl]):=by
 exact cb 29 func61 fun F=>gX [.e 0,.e 0] (gQ p (gQ p (gJ [0] ⟨rfl,rfl⟩)))
theorem rd_Step0(c:Cfg)(p ba:Nat)(sl cd:Int)(wsl:Value)(gp r_ th_:Value):
  Ctr prog 20 #[vP p,vP ba] [El p r_ th_ cd true c gp sl wsl] (Ret (.bool true) [El p r_ th_ cd true c gp sl wsl]):=by
 exact cb 14 func20 fun F=>gX [.z [0,1] 7 [7,10,11]] (gS [.o [0,1] 7,.c [1,1]] (gC (some 12) [0] call61 (rstep0 c p ba sl cd wsl gp r_ th_) (gX [] (gJ [0] ⟨rfl,rfl⟩))))
end Go.Proofs.YtpcaijopodhdgaaGreatDoor
namespace Go.Proofs.YtpcaijopodhdgaaGreatDoor
open Go.Proofs.Tryz
open Go.Sx
abbrev Eaf(x0:Nat)(x1:Value)(x2:Value)(x3:Int)(x4:Bool)(c5:Cfg)(x6:Int)(x7:Option Addr)(x8:Nat)(x9:Nat): Ent:=.pts x0 [x1,x2,.int .i64 x3,.bool x4,.int .i64 c5.topics,.int .i64 c5.small,.int .i64 c5.slots,.int .i64 c5.clients,.int .i64 c5.s0,.int .i64 c5.n0,.int .i64 c5.s1,.int .i64 c5.n1,.int .i64 c5.retry,.pointer none,.int .i64 x6,.slice x7 x8 x9] 112
structure RdH where
 run:Value
 th:Value
 wa:Option Addr
 wc:Nat
 k:Nat
 b1:Nat
 b2:Nat
 b3:Nat
 b4:Nat
 b5:Nat
 b6:Nat
 gb:Nat
 eb:Nat
 bp:Nat
 bf:Nat
 rl:Nat
 bc:Nat
noncomputable def runRV(h:RdH): Nat→Value
 | 1=>.iface 118 (vP h.k)
 | 2=>.iface 110 (vP h.gb)
 | 3=>.iface 173 (vP h.eb)
 | 4=>.iface 222 (vP h.rl)
 | _=>h.run
noncomputable def thRV(p:Nat)(h:RdH): Nat→Value
 | 1=>.func (.func 55) #[] #[vP h.b1,vP h.b2,vP h.b3,vP h.b4,vP h.b5,vP h.b6]
 | 2=>.func (.func 59) #[vP p] #[]
 | 3=>.func (.func 117) #[] #[vP h.bp]
 | 4=>.func (.func 163) #[] #[vP h.bp,vP h.bc]
 | _=>h.th
def gpR(h:RdH): Option Gu→Value
 | none=>.pointer none
 | some _=>.pointer (some ⟨h.gb,0,none⟩)
noncomputable def rdPhL(c:Cfg)(p:Nat)(cl tp ep:Int)(S:Rd)(h:RdH): List Ent:=match S.ph,S.gu with
 | 1,_=>[Ev h.k c S.cl,.pts h.b1 [vP h.k] 118,.pts h.b2 [vP p] 24,Ef h.b3 c,.pts h.b4 [vI cl] 3,.pts h.b5 [vI tp] 3,.pts h.b6 [vI ep] 3]
 | 2,some G=>[Em h.gb c G h.gb]
 | 3,some G=>[.pts h.eb [vI (S.words.length:Int),vI (szK c (clsOf c G.block)),.func (.func 115) #[] #[vP h.bp,vP h.bf]] 176,.pts h.bp [vP p] 24,.pts h.bf [vI (blockAt c G.block+1)] 3,Em h.gb c G h.gb]
 | 4,some G=>[.pts h.rl [vI (slotAt c S.slot),.bool false] 259,.pts h.bp [vP p] 24,.pts h.bc [vI S.code] 42,Em h.gb c G h.gb]
 | 0,some G=>[Em h.gb c G h.gb]
 | _,_=>[]
noncomputable def rdL(p:Nat)(c:Cfg)(cl tp ep:Int)(S:Rd)(h:RdH): List Ent:=[.pts p [(runRV h S.ph),(thRV p h S.ph),vI (cdV S.ph S.code),.bool (ovV S.ph),vI c.topics,vI c.small,vI c.slots,vI c.clients,vI c.s0,vI c.n0,vI c.s1,vI c.n1,vI c.retry,(gpR h S.gu),vI S.slot,.slice h.wa S.words.length h.wc] 112,Ee h.wa h.wc S.words,.res (dens (rdPhL c p cl tp ep S h))]
noncomputable def RdR(p:Nat)(c:Cfg)(cl tp ep:Int)(S:Rd): Res:=Box (fun _:RdH=>True) (rdL p c cl tp ep S)
theorem rd_Step(o_:Obj)(p ba:Nat)(c:Cfg)(cl tp ep:Int)(S:Rd)(A:Ar)(hc:c.Ok)(hn:A.ws.length=A.n)(hs:0≤A.steps∧A.steps≤1000000000)(hz:(A.n:Int)=sizeOfC c)(hR:RngW A.ws)(htp:0≤tp∧tp<c.topics)(hC:CtlOk c A tp)(hS:S.Ok c cl tp A.n)(ho:IsH o_):
  Ctr prog 20 #[vP p,vP ba] [.raw 0 o_,.res (RdR p c cl tp ep S),Eb ba A,Ea A] (Ret (.bool ((S.step c cl tp ep A).1.ph==0)) [.raw 0 o_,.res (RdR p c cl tp ep ((S.step c cl tp ep A).1)),Eb ba ((S.step c cl tp ep A).2),Ea ((S.step c cl tp ep A).2)]):=by
 refine oC (I:=fun _:RdH=>True) (LL:=rdL p c cl tp ep S) 1 ?_
 rintro⟨run,th,wa,wc,k,b1,b2,b3,b4,b5,b6,gb,eb,bp,bf,rl,bc⟩ -
 obtain⟨K,gu,sl,ws,cd,ph⟩:=S
 obtain⟨h1,h2,h3,h4,h5,h6,h7,h8,h8b,h9,h10,h10b,h11,h12⟩:=hS
 simp only at h1 h2 h3 h4 h5 h6 h7 h8 h8b h9 h10 h10b h11 h12
 have hsz:=sizeOfC_ok hc
 match ph,h1 with
 | 0,_=>
  cases gu with
  | none=>
   have e:Rd.step c cl tp ep (⟨K,none,sl,ws,cd,0⟩:Rd) A=((⟨K,none,sl,ws,cd,0⟩:Rd),A):=by rfl
   rw [e]
   refine cP [3] (rd_Step0 c p ba sl cd (.slice wa ws.length wc) (.pointer none) run th) ?_
   rintro v post ⟨rfl,rfl⟩
   exact⟨_,(((vC [])).trans (vK (fun _:RdH=>True) (rdL p c cl tp ep (⟨K,none,sl,ws,cd,0⟩:Rd)) ⟨run,th,wa,wc,k,b1,b2,b3,b4,b5,b6,gb,eb,bp,bf,rl,bc⟩ [5,3,6] trivial)).trans (vQ [0,4,1,2]),rfl,rfl⟩
  | some G=>
   have e:Rd.step c cl tp ep (⟨K,(some G),sl,ws,cd,0⟩:Rd) A=((⟨K,(some G),sl,ws,cd,0⟩:Rd),A):=by rfl
   rw [e]
   refine ctr_view (view_open 5 (N:=[Em gb c G gb]) (M:=[.raw 0 o_,Eb ba A,Ea A,Ew p run th cd true c (vP gb) sl wa ws.length wc,Ee wa wc ws]) kR) ?_
   refine cP [3] (rd_Step0 c p ba sl cd (.slice wa ws.length wc) (vP gb) run th) ?_
   rintro v post ⟨rfl,rfl⟩
   exact⟨_,(((vC [4])).trans (vK (fun _:RdH=>True) (rdL p c cl tp ep (⟨K,(some G),sl,ws,cd,0⟩:Rd)) ⟨run,th,wa,wc,k,b1,b2,b3,b4,b5,b6,gb,eb,bp,bf,rl,bc⟩ [4,3,5] trivial)).trans (vQ [0,3,1,2]),rfl,rfl⟩
 | 1,_=>
  obtain⟨e1,e2,e3,e4,e5⟩:=h5 rfl
  subst e1; subst e2
  have hk:Cl.Ok c (Cl.step c K A).1:=(cl_step (k:=A.steps) hc h2 ⟨hn,hz,hR,hs.1,Int.le_refl _⟩).1
  have hcl:0≤cl∧cl<c.clients:=by have:=h2.client; rw [h3] at this; exact this
  by_cases ha:(Cl.step c K A).1.at_ = -1
  ·by_cases hq:(Cl.step c K A).1.slot = -1
   ·skip
    have e:Rd.step c cl tp ep (⟨K,none,sl,[],cd,1⟩:Rd) A=((⟨(Cl.step c K A).1,none,(Cl.step c K A).1.slot,[],19,0⟩:Rd),(Cl.step c K A).2):=by unfold Rd.step; simp only; rw [if_pos ha,if_pos hq]
    rw [e]
    refine ctr_view (view_open 5 (N:=[Ev k c K,.pts b1 [vP k] 118,.pts b2 [vP p] 24,Ef b3 c,.pts b4 [vI cl] 3,.pts b5 [vI tp] 3,.pts b6 [vI ep] 3]) (M:=[.raw 0 o_,Eb ba A,Ea A,Eaf p (.iface 118 (vP k)) (.func (.func 55) #[] #[vP b1,vP b2,vP b3,vP b4,vP b5,vP b6]) 0 false c sl wa (([]:List Int).length) wc,Ee wa wc ([]:List Int)]) kR) ?_
    refine cP [3,5,6,7,8,9,10,11,1,2] (rd_Step1N c p ba k b1 b2 b3 b4 b5 b6 sl 0 (.slice wa (([]:List Int).length) wc) cl tp ep K A hc hn hs hz h2 ha hq) ?_
    rintro v post ⟨rfl,rfl⟩
    exact⟨_,(((vC [])).trans (vK (fun _:RdH=>True) (rdL p c cl tp ep (⟨(Cl.step c K A).1,none,(Cl.step c K A).1.slot,[],19,0⟩:Rd)) ⟨(.iface 118 (vP k)),(.func (.func 55) #[] #[vP b1,vP b2,vP b3,vP b4,vP b5,vP b6]),wa,wc,k,b1,b2,b3,b4,b5,b6,gb,eb,bp,bf,rl,bc⟩ [2,1,12] trivial)).trans (vQ [0,10,8,9]),rfl,rfl⟩
   ·have hsl:=hk.slot.resolve_left hq
    have e:Rd.step c cl tp ep (⟨K,none,sl,[],cd,1⟩:Rd) A=((⟨(Cl.step c K A).1,(some (newGu c cl (Cl.step c K A).1.slot tp ep)),(Cl.step c K A).1.slot,[],cd,2⟩:Rd),(Cl.step c K A).2):=by unfold Rd.step; simp only; rw [if_pos ha,if_neg hq]
    rw [e]
    refine ctr_view (view_open 5 (N:=[Ev k c K,.pts b1 [vP k] 118,.pts b2 [vP p] 24,Ef b3 c,.pts b4 [vI cl] 3,.pts b5 [vI tp] 3,.pts b6 [vI ep] 3]) (M:=[.raw 0 o_,Eb ba A,Ea A,Eaf p (.iface 118 (vP k)) (.func (.func 55) #[] #[vP b1,vP b2,vP b3,vP b4,vP b5,vP b6]) 0 false c sl wa (([]:List Int).length) wc,Ee wa wc ([]:List Int)]) kR) ?_
    refine cP [3,5,6,7,8,9,10,11,1,2] (rd_Step1Y c p ba k b1 b2 b3 b4 b5 b6 sl 0 (.slice wa (([]:List Int).length) wc) cl tp ep K A hc hn hs hz h2 ha hq hsl hcl htp) ?_
    rintro v post ⟨gb_1,rfl,rfl⟩
    exact⟨_,(((vC [12])).trans (vK (fun _:RdH=>True) (rdL p c cl tp ep (⟨(Cl.step c K A).1,(some (newGu c cl (Cl.step c K A).1.slot tp ep)),(Cl.step c K A).1.slot,[],cd,2⟩:Rd)) ⟨run,th,wa,wc,k,b1,b2,b3,b4,b5,b6,gb_1,eb,bp,bf,rl,bc⟩ [2,1,12] trivial)).trans (vQ [0,10,8,9]),rfl,rfl⟩
  ·skip
   have e:Rd.step c cl tp ep (⟨K,none,sl,[],cd,1⟩:Rd) A=((⟨(Cl.step c K A).1,none,sl,[],cd,1⟩:Rd),(Cl.step c K A).2):=by unfold Rd.step; simp only; rw [if_neg ha]
   rw [e]
   refine ctr_view (view_open 5 (N:=[Ev k c K,.pts b1 [vP k] 118,.pts b2 [vP p] 24,Ef b3 c,.pts b4 [vI cl] 3,.pts b5 [vI tp] 3,.pts b6 [vI ep] 3]) (M:=[.raw 0 o_,Eb ba A,Ea A,Eaf p (.iface 118 (vP k)) (.func (.func 55) #[] #[vP b1,vP b2,vP b3,vP b4,vP b5,vP b6]) 0 false c sl wa (([]:List Int).length) wc,Ee wa wc ([]:List Int)]) kR) ?_
   refine cP [3,5,6,7,8,9,10,11,1,2] (rd_Step1W c p ba k b1 b2 b3 b4 b5 b6 sl 0 (.slice wa (([]:List Int).length) wc) cl tp ep K A hc hn hs hz h2 ha) ?_
   rintro v post ⟨rfl,rfl⟩
   exact⟨_,(((vC [3,4,5,6,7,8,9])).trans (vK (fun _:RdH=>True) (rdL p c cl tp ep (⟨(Cl.step c K A).1,none,sl,[],cd,1⟩:Rd)) ⟨run,th,wa,wc,k,b1,b2,b3,b4,b5,b6,gb,eb,bp,bf,rl,bc⟩ [2,1,5] trivial)).trans (vQ [0,3,1,2]),rfl,rfl⟩
 | 2,_=>
  obtain⟨G,e1,e2,e3,e4⟩:=h6 rfl
  subst e1; subst e3
  obtain⟨hGu,g2⟩:=h4 G rfl
  have hb:=gu_b g2 hGu.ph hC
  have hsl:0≤sl∧sl<c.slots:=h9.resolve_left (h10 oc oc)
  by_cases hd:(Gu.step c.retry G A).1.ph=0
  ·by_cases he:(Gu.step c.retry G A).1.code=0
   ·have hq:=hb.blk.resolve_left (hb.b0 hd he)
    have e:Rd.step c cl tp ep (⟨K,(some G),sl,[],cd,2⟩:Rd) A=((⟨K,(some (Gu.step c.retry G A).1),sl,[],0,3⟩:Rd),(Gu.step c.retry G A).2):=by unfold Rd.step; simp only; rw [if_pos hd,if_pos he]
    rw [e]
    refine ctr_view (view_open 5 (N:=[Em gb c G gb]) (M:=[.raw 0 o_,Eb ba A,Ea A,Ew p (.iface 110 (vP gb)) (.func (.func 59) #[vP p] #[]) 0 false c (vP gb) sl wa (([]:List Int).length) wc,Ee wa wc ([]:List Int)]) kR) ?_
    refine cP [3,5,1,2] (rd_Step2K c p ba gb sl 0 (.slice wa (([]:List Int).length) wc) G A hc hn hs hR hGu oM oM hq) ?_
    rintro v post ⟨eb_1,bp_2,bf_3,rfl,rfl⟩
    exact⟨_,(((vC [6,7,8,3])).trans (vK (fun _:RdH=>True) (rdL p c cl tp ep (⟨K,(some (Gu.step c.retry G A).1),sl,[],0,3⟩:Rd)) ⟨run,th,wa,wc,k,b1,b2,b3,b4,b5,b6,gb,eb_1,bp_2,bf_3,rl,bc⟩ [2,1,5] trivial)).trans (vQ [0,3,1,2]),rfl,rfl⟩
   ·skip
    have e:Rd.step c cl tp ep (⟨K,(some G),sl,[],cd,2⟩:Rd) A=((⟨K,(some (Gu.step c.retry G A).1),sl,[],(Gu.step c.retry G A).1.code,4⟩:Rd),(Gu.step c.retry G A).2):=by unfold Rd.step; simp only; rw [if_pos hd,if_neg he]
    rw [e]
    refine ctr_view (view_open 5 (N:=[Em gb c G gb]) (M:=[.raw 0 o_,Eb ba A,Ea A,Ew p (.iface 110 (vP gb)) (.func (.func 59) #[vP p] #[]) 0 false c (vP gb) sl wa (([]:List Int).length) wc,Ee wa wc ([]:List Int)]) kR) ?_
    refine cP [0,3,5,1,2] (rd_Step2E c p ba gb sl 0 (.slice wa (([]:List Int).length) wc) G A o_ hc hn hs hR hGu oM oM hsl ho) ?_
    rintro v post ⟨rl_1,bq_2,bc_3,rfl,rfl⟩
    exact⟨_,(((vC [6,7,8,3])).trans (vK (fun _:RdH=>True) (rdL p c cl tp ep (⟨K,(some (Gu.step c.retry G A).1),sl,[],(Gu.step c.retry G A).1.code,4⟩:Rd)) ⟨run,th,wa,wc,k,b1,b2,b3,b4,b5,b6,gb,eb,bq_2,bf,rl_1,bc_3⟩ [2,0,5] trivial)).trans (vQ [0,3,1,2]),rfl,rfl⟩
  ·skip
   have e:Rd.step c cl tp ep (⟨K,(some G),sl,[],cd,2⟩:Rd) A=((⟨K,(some (Gu.step c.retry G A).1),sl,[],cd,2⟩:Rd),(Gu.step c.retry G A).2):=by unfold Rd.step; simp only; rw [if_neg hd]
   rw [e]
   refine ctr_view (view_open 5 (N:=[Em gb c G gb]) (M:=[.raw 0 o_,Eb ba A,Ea A,Ew p (.iface 110 (vP gb)) (.func (.func 59) #[vP p] #[]) 0 false c (vP gb) sl wa (([]:List Int).length) wc,Ee wa wc ([]:List Int)]) kR) ?_
   refine cP [3,5,1,2] (rd_Step2W c p ba gb sl 0 (.slice wa (([]:List Int).length) wc) G A hc hn hs hR hGu oM) ?_
   rintro v post ⟨rfl,rfl⟩
   exact⟨_,(((vC [3])).trans (vK (fun _:RdH=>True) (rdL p c cl tp ep (⟨K,(some (Gu.step c.retry G A).1),sl,[],cd,2⟩:Rd)) ⟨run,th,wa,wc,k,b1,b2,b3,b4,b5,b6,gb,eb,bp,bf,rl,bc⟩ [2,1,5] trivial)).trans (vQ [0,3,1,2]),rfl,rfl⟩
 | 3,_=>
  obtain⟨G,e1,e2,e3,e4,e5⟩:=h7 rfl
  subst e1; subst e5
  have hz3:=szK_ok hc (clsOf c G.block)
  have hbf:=blockAt_fit hc e3
  have hbl:=blockAt_ok hc e3
  have hi0:0≤(ws.length:Int)∧(ws.length:Int)≤1000:=by omega
  have hx:0≤blockAt c G.block+1+(ws.length:Int)∧blockAt c G.block+1+(ws.length:Int)<A.n:=by omega
  have hfr:0≤blockAt c G.block+1∧blockAt c G.block+1≤1000000:=by omega
  have hl:ws.length≤1000:=by omega
  have hsl:0≤sl∧sl<c.slots:=h9.resolve_left (h10 oc oc)
  by_cases hd:(ws.length:Int)+1=szK c (clsOf c G.block)
  ·skip
   have e:Rd.step c cl tp ep (⟨K,(some G),sl,ws,0,3⟩:Rd) A=((⟨K,(some G),sl,(ws++[A.ws.getD (blockAt c G.block+1+(ws.length:Int)).toNat 0]),0,4⟩:Rd),(A.load (blockAt c G.block+1+(ws.length:Int)))):=by exact if_pos hd
   rw [e]
   refine ctr_view (view_open 5 (N:=[.pts eb [vI (ws.length:Int),vI (szK c (clsOf c G.block)),.func (.func 115) #[] #[vP bp,vP bf]] 176,.pts bp [vP p] 24,.pts bf [vI (blockAt c G.block+1)] 3,Em gb c G gb]) (M:=[.raw 0 o_,Eb ba A,Ea A,Ew p (.iface 173 (vP eb)) (.func (.func 117) #[] #[vP bp]) 0 false c (vP gb) sl wa ws.length wc,Ee wa wc ws]) kR) ?_
   refine cP [3,4,5,6,7,1,2] (rd_Step3Y c p ba bp bf eb sl 0 (vP gb) wa wc ws (ws.length:Int) (blockAt c G.block+1) (szK c (clsOf c G.block)) A hi0 hx hfr hn hs oM oM hc hsl) ?_
   rintro v post ⟨wa2_1,wc2_2,rl_3,bq_4,bc_5,rfl,rfl⟩
   exact⟨_,(((vC [9,10,11,1])).trans (vK (fun _:RdH=>True) (rdL p c cl tp ep (⟨K,(some G),sl,(ws++[A.ws.getD (blockAt c G.block+1+(ws.length:Int)).toNat 0]),0,4⟩:Rd)) ⟨run,th,wa2_1,wc2_2,k,b1,b2,b3,b4,b5,b6,gb,eb,bq_4,bf,rl_3,bc_5⟩ [1,2,8] trivial)).trans (vQ [0,6,4,5]),rfl,rfl⟩
  ·skip
   have e:Rd.step c cl tp ep (⟨K,(some G),sl,ws,0,3⟩:Rd) A=((⟨K,(some G),sl,(ws++[A.ws.getD (blockAt c G.block+1+(ws.length:Int)).toNat 0]),0,3⟩:Rd),(A.load (blockAt c G.block+1+(ws.length:Int)))):=by exact if_neg hd
   rw [e]
   refine ctr_view (view_open 5 (N:=[.pts eb [vI (ws.length:Int),vI (szK c (clsOf c G.block)),.func (.func 115) #[] #[vP bp,vP bf]] 176,.pts bp [vP p] 24,.pts bf [vI (blockAt c G.block+1)] 3,Em gb c G gb]) (M:=[.raw 0 o_,Eb ba A,Ea A,Ew p (.iface 173 (vP eb)) (.func (.func 117) #[] #[vP bp]) 0 false c (vP gb) sl wa ws.length wc,Ee wa wc ws]) kR) ?_
   refine cP [3,4,5,6,7,1,2] (rd_Step3N c p ba bp bf eb sl 0 (vP gb) wa wc ws (ws.length:Int) (blockAt c G.block+1) (szK c (clsOf c G.block)) A hi0 hx hfr hn hs oM oM) ?_
   rintro v post ⟨wa2_1,wc2_2,rfl,rfl⟩
   exact⟨_,((((view_set (congrArg (fun x:Int=>[.raw 0 o_,Em gb c G gb,Ew p (.iface 173 (vP eb)) (.func (.func 117) #[] #[vP bp]) 0 false c (vP gb) sl wa2_1 ((ws++[A.ws.getD ((blockAt c G.block+1)+(ws.length:Int)).toNat 0]).length) wc2_2,Ee wa2_1 wc2_2 (ws++[A.ws.getD ((blockAt c G.block+1)+(ws.length:Int)).toNat 0]),.pts eb [vI x,vI (szK c (clsOf c G.block)),.func (.func 115) #[] #[vP bp,vP bf]] 176,.pts bp [vP p] 24,.pts bf [vI (blockAt c G.block+1)] 3,Eb ba (A.load ((blockAt c G.block+1)+(ws.length:Int))),Ea (A.load ((blockAt c G.block+1)+(ws.length:Int)))]) (show(ws.length:Int)+1=((((ws++[A.ws.getD (blockAt c G.block+1+(ws.length:Int)).toNat 0])).length:Nat):Int) by simp))).trans (vC [4,5,6,1]))).trans (vK (fun _:RdH=>True) (rdL p c cl tp ep (⟨K,(some G),sl,(ws++[A.ws.getD (blockAt c G.block+1+(ws.length:Int)).toNat 0]),0,3⟩:Rd)) ⟨run,th,wa2_1,wc2_2,k,b1,b2,b3,b4,b5,b6,gb,eb,bp,bf,rl,bc⟩ [1,2,5] trivial)).trans (vQ [0,3,1,2]),rfl,rfl⟩
 | 4,_=>
  obtain⟨G,e1⟩:=h8b rfl
  subst e1
  have hsl:0≤sl∧sl<c.slots:=h9.resolve_left (h10 oc oc)
  have hi:0≤slotAt c sl∧slotAt c sl<A.n:=by have:=slotAt_ok hc hsl; omega
  have e:Rd.step c cl tp ep (⟨K,(some G),sl,ws,cd,4⟩:Rd) A=((⟨K,(some G),(-1),ws,cd,0⟩:Rd),(A.store (slotAt c sl) 0)):=by rfl
  rw [e]
  refine ctr_view (view_open 5 (N:=[.pts rl [vI (slotAt c sl),.bool false] 259,.pts bp [vP p] 24,.pts bc [vI cd] 42,Em gb c G gb]) (M:=[.raw 0 o_,Eb ba A,Ea A,Ew p (.iface 222 (vP rl)) (.func (.func 163) #[] #[vP bp,vP bc]) 0 false c (vP gb) sl wa ws.length wc,Ee wa wc ws]) kR) ?_
  refine cP [3,5,6,7,1,2] (rd_Step4 c p ba rl bp bc sl 0 (.slice wa ws.length wc) (vP gb) (slotAt c sl) cd A hn hi hs) ?_
  rintro v post ⟨rfl,rfl⟩
  exact⟨_,(((vC [2])).trans (vK (fun _:RdH=>True) (rdL p c cl tp ep (⟨K,(some G),(-1),ws,cd,0⟩:Rd)) ⟨(.iface 222 (vP rl)),(.func (.func 163) #[] #[vP bp,vP bc]),wa,wc,k,b1,b2,b3,b4,b5,b6,gb,eb,bp,bf,rl,bc⟩ [2,1,8] trivial)).trans (vQ [0,6,4,5]),rfl,rfl⟩
 | n+5,h=>omega
end Go.Proofs.YtpcaijopodhdgaaGreatDoor
namespace Go.Proofs.YtpcaijopodhdgaaGreatDoor
open Go.Proofs.Tryz
open Go.Sx
abbrev qcz: List Nat:=[0,0,1,1,1,1,1,0,0,1]
abbrev qcA: List Nat:=[0,0,1,1,1,0,0,1]
theorem pubDone(c:Cfg)(p:Nat)(wd ep bk od sn fl tm cd:Int)(ov:Bool)(wsl:Value)(r_ th_:Value):
  Ctr prog 16 #[vP p] [Eh p r_ th_ cd ov c wd ep wsl bk od sn fl tm] (Ret (.bool ov) [Eh p r_ th_ cd ov c wd ep wsl bk od sn fl tm]):=by
 exact cb 12 func16 fun F=>gX [.e 0] (gQ p (gJ [0] ⟨rfl,rfl⟩))
theorem pubPrivate(c:Cfg)(p:Nat)(wd ep bk od sn fl tm cd:Int)(ov:Bool)(wsl:Value)(r_ th_:Value):
  Ctr prog 18 #[vP p] [Eh p r_ th_ cd ov c wd ep wsl bk od sn fl tm] (Ret (vI bk) [Eh p r_ th_ cd ov c wd ep wsl bk od sn fl tm]):=by
 exact cb 9 func18 fun F=>gX [.e 0] (gQ p (gJ [0] ⟨rfl,rfl⟩))
theorem pubCommit(c:Cfg)(p:Nat)(wd ep bk od sn fl tm cd:Int)(ov:Bool)(wsl:Value)(r_ th_:Value):
  Ctr prog 19 #[vP p] [Eh p r_ th_ cd ov c wd ep wsl bk od sn fl tm] (Ret (vI tm) [Eh p r_ th_ cd ov c wd ep wsl bk od sn fl tm]):=by
 exact cb 9 func19 fun F=>gX [.e 0] (gQ p (gJ [0] ⟨rfl,rfl⟩))
theorem pub_Private(p:Nat)(c:Cfg)(wd ep:Int)(ws:List Int)(S:Pb):
  Ctr prog 18 #[vP p] [.res (PbR p c wd ep ws S)] (Ret (vI S.block) [.res (PbR p c wd ep ws S)]):=by
 refine oC (I:=fun _:PbH=>True) (LL:=pbL p c wd ep ws S) 0 ?_
 rintro⟨run,th,wa,wc,k,bp,bt,eb,bf,b3,b5,b2,gx,bc⟩ -
 obtain⟨tk,i,sn,fl,bk,od,tm,cd,gv,ph⟩:=S
 refine cP [0] (pubPrivate c p wd ep bk od sn fl tm (cdV ph cd) (ovV ph) (.slice wa ws.length wc) (runV ⟨run,th,wa,wc,k,bp,bt,eb,bf,b3,b5,b2,gx,bc⟩ ph) (thV p ⟨run,th,wa,wc,k,bp,bt,eb,bf,b3,b5,b2,gx,bc⟩ ph)) ?_
 rintro v post ⟨rfl,rfl⟩
 exact⟨_,view_pack (fun _:PbH=>True) (pbL p c wd ep ws (⟨tk,i,sn,fl,bk,od,tm,cd,gv,ph⟩:Pb)) ⟨run,th,wa,wc,k,bp,bt,eb,bf,b3,b5,b2,gx,bc⟩ (M:=[]) [2,0,1] kR trivial,rfl,rfl⟩
theorem pub_Commit(p:Nat)(c:Cfg)(wd ep:Int)(ws:List Int)(S:Pb):
  Ctr prog 19 #[vP p] [.res (PbR p c wd ep ws S)] (Ret (vI S.time) [.res (PbR p c wd ep ws S)]):=by
 refine oC (I:=fun _:PbH=>True) (LL:=pbL p c wd ep ws S) 0 ?_
 rintro⟨run,th,wa,wc,k,bp,bt,eb,bf,b3,b5,b2,gx,bc⟩ -
 obtain⟨tk,i,sn,fl,bk,od,tm,cd,gv,ph⟩:=S
 refine cP [0] (pubCommit c p wd ep bk od sn fl tm (cdV ph cd) (ovV ph) (.slice wa ws.length wc) (runV ⟨run,th,wa,wc,k,bp,bt,eb,bf,b3,b5,b2,gx,bc⟩ ph) (thV p ⟨run,th,wa,wc,k,bp,bt,eb,bf,b3,b5,b2,gx,bc⟩ ph)) ?_
 rintro v post ⟨rfl,rfl⟩
 exact⟨_,view_pack (fun _:PbH=>True) (pbL p c wd ep ws (⟨tk,i,sn,fl,bk,od,tm,cd,gv,ph⟩:Pb)) ⟨run,th,wa,wc,k,bp,bt,eb,bf,b3,b5,b2,gx,bc⟩ (M:=[]) [2,0,1] kR trivial,rfl,rfl⟩
theorem pub_Done(p:Nat)(c:Cfg)(wd ep:Int)(ws:List Int)(S:Pb)(hph:S.ph≤5):
  Ctr prog 16 #[vP p] [.res (PbR p c wd ep ws S)] (Ret (.bool (S.ph==0)) [.res (PbR p c wd ep ws S)]):=by
 refine oC (I:=fun _:PbH=>True) (LL:=pbL p c wd ep ws S) 0 ?_
 rintro⟨run,th,wa,wc,k,bp,bt,eb,bf,b3,b5,b2,gx,bc⟩ -
 obtain⟨tk,i,sn,fl,bk,od,tm,cd,gv,ph⟩:=S
 simp only at hph
 match ph,hph with
 | 0,_=>
  refine cP [0] (pubDone c p wd ep bk od sn fl tm (cdV 0 cd) (ovV 0) (.slice wa ws.length wc) (runV ⟨run,th,wa,wc,k,bp,bt,eb,bf,b3,b5,b2,gx,bc⟩ 0) (thV p ⟨run,th,wa,wc,k,bp,bt,eb,bf,b3,b5,b2,gx,bc⟩ 0)) ?_
  rintro v post ⟨rfl,rfl⟩
  exact⟨_,view_pack (fun _:PbH=>True) (pbL p c wd ep ws (⟨tk,i,sn,fl,bk,od,tm,cd,gv,0⟩:Pb)) ⟨run,th,wa,wc,k,bp,bt,eb,bf,b3,b5,b2,gx,bc⟩ (M:=[]) [2,0,1] kR trivial,rfl,rfl⟩
 | 1,_=>
  refine cP [0] (pubDone c p wd ep bk od sn fl tm (cdV 1 cd) (ovV 1) (.slice wa ws.length wc) (runV ⟨run,th,wa,wc,k,bp,bt,eb,bf,b3,b5,b2,gx,bc⟩ 1) (thV p ⟨run,th,wa,wc,k,bp,bt,eb,bf,b3,b5,b2,gx,bc⟩ 1)) ?_
  rintro v post ⟨rfl,rfl⟩
  exact⟨_,view_pack (fun _:PbH=>True) (pbL p c wd ep ws (⟨tk,i,sn,fl,bk,od,tm,cd,gv,1⟩:Pb)) ⟨run,th,wa,wc,k,bp,bt,eb,bf,b3,b5,b2,gx,bc⟩ (M:=[]) [2,0,1] kR trivial,rfl,rfl⟩
 | 2,_=>
  refine cP [0] (pubDone c p wd ep bk od sn fl tm (cdV 2 cd) (ovV 2) (.slice wa ws.length wc) (runV ⟨run,th,wa,wc,k,bp,bt,eb,bf,b3,b5,b2,gx,bc⟩ 2) (thV p ⟨run,th,wa,wc,k,bp,bt,eb,bf,b3,b5,b2,gx,bc⟩ 2)) ?_
  rintro v post ⟨rfl,rfl⟩
  exact⟨_,view_pack (fun _:PbH=>True) (pbL p c wd ep ws (⟨tk,i,sn,fl,bk,od,tm,cd,gv,2⟩:Pb)) ⟨run,th,wa,wc,k,bp,bt,eb,bf,b3,b5,b2,gx,bc⟩ (M:=[]) [2,0,1] kR trivial,rfl,rfl⟩
 | 3,_=>
  refine cP [0] (pubDone c p wd ep bk od sn fl tm (cdV 3 cd) (ovV 3) (.slice wa ws.length wc) (runV ⟨run,th,wa,wc,k,bp,bt,eb,bf,b3,b5,b2,gx,bc⟩ 3) (thV p ⟨run,th,wa,wc,k,bp,bt,eb,bf,b3,b5,b2,gx,bc⟩ 3)) ?_
  rintro v post ⟨rfl,rfl⟩
  exact⟨_,view_pack (fun _:PbH=>True) (pbL p c wd ep ws (⟨tk,i,sn,fl,bk,od,tm,cd,gv,3⟩:Pb)) ⟨run,th,wa,wc,k,bp,bt,eb,bf,b3,b5,b2,gx,bc⟩ (M:=[]) [2,0,1] kR trivial,rfl,rfl⟩
 | 4,_=>
  refine cP [0] (pubDone c p wd ep bk od sn fl tm (cdV 4 cd) (ovV 4) (.slice wa ws.length wc) (runV ⟨run,th,wa,wc,k,bp,bt,eb,bf,b3,b5,b2,gx,bc⟩ 4) (thV p ⟨run,th,wa,wc,k,bp,bt,eb,bf,b3,b5,b2,gx,bc⟩ 4)) ?_
  rintro v post ⟨rfl,rfl⟩
  exact⟨_,view_pack (fun _:PbH=>True) (pbL p c wd ep ws (⟨tk,i,sn,fl,bk,od,tm,cd,gv,4⟩:Pb)) ⟨run,th,wa,wc,k,bp,bt,eb,bf,b3,b5,b2,gx,bc⟩ (M:=[]) [2,0,1] kR trivial,rfl,rfl⟩
 | 5,_=>
  refine cP [0] (pubDone c p wd ep bk od sn fl tm (cdV 5 cd) (ovV 5) (.slice wa ws.length wc) (runV ⟨run,th,wa,wc,k,bp,bt,eb,bf,b3,b5,b2,gx,bc⟩ 5) (thV p ⟨run,th,wa,wc,k,bp,bt,eb,bf,b3,b5,b2,gx,bc⟩ 5)) ?_
  rintro v post ⟨rfl,rfl⟩
  exact⟨_,view_pack (fun _:PbH=>True) (pbL p c wd ep ws (⟨tk,i,sn,fl,bk,od,tm,cd,gv,5⟩:Pb)) ⟨run,th,wa,wc,k,bp,bt,eb,bf,b3,b5,b2,gx,bc⟩ (M:=[]) [2,0,1] kR trivial,rfl,rfl⟩
 | n+6,h=>omega
theorem pub_Told(p:Nat)(c:Cfg)(wd ep:Int)(ws:List Int)(S:Pb)(hph:S.ph≤5):
  Ctr prog 10 #[vP p] [.res (PbR p c wd ep ws S)] (Ret (.tuple #[vI ((Pb.told S).1),(errV (Pb.told S).2)]) [.res (PbR p c wd ep ws S)]):=by
 refine oC (I:=fun _:PbH=>True) (LL:=pbL p c wd ep ws S) 0 ?_
 rintro⟨run,th,wa,wc,k,bp,bt,eb,bf,b3,b5,b2,gx,bc⟩ -
 obtain⟨tk,i,sn,fl,bk,od,tm,cd,gv,ph⟩:=S
 simp only at hph
 match ph,hph with
 | 0,_=>
  by_cases hcd:cd=0
  ·subst hcd
   refine cP [0] (pubTold_K c p wd ep bk od sn fl tm wa ws.length wc run th) ?_
   rintro v post ⟨rfl,rfl⟩
   exact⟨_,view_pack (fun _:PbH=>True) (pbL p c wd ep ws (⟨tk,i,sn,fl,bk,od,tm,0,gv,0⟩:Pb)) ⟨run,th,wa,wc,k,bp,bt,eb,bf,b3,b5,b2,gx,bc⟩ (M:=[]) [2,0,1] kR trivial,rfl,rfl⟩
  ·rw [show(Pb.told (⟨tk,i,sn,fl,bk,od,tm,cd,gv,0⟩:Pb)).2=cd from rfl,errV_ne hcd]
   refine cP [0] (pubTold_E c p wd ep bk od sn fl tm cd wa ws.length wc run th hcd) ?_
   rintro v post ⟨rfl,rfl⟩
   exact⟨_,view_pack (fun _:PbH=>True) (pbL p c wd ep ws (⟨tk,i,sn,fl,bk,od,tm,cd,gv,0⟩:Pb)) ⟨run,th,wa,wc,k,bp,bt,eb,bf,b3,b5,b2,gx,bc⟩ (M:=[]) [2,0,1] kR trivial,rfl,rfl⟩
 | 1,_=>
  refine cP [0] (pubTold_W c p wd ep bk od sn fl tm 0 wa ws.length wc (runV ⟨run,th,wa,wc,k,bp,bt,eb,bf,b3,b5,b2,gx,bc⟩ 1) (thV p ⟨run,th,wa,wc,k,bp,bt,eb,bf,b3,b5,b2,gx,bc⟩ 1)) ?_
  rintro v post ⟨rfl,rfl⟩
  exact⟨_,view_pack (fun _:PbH=>True) (pbL p c wd ep ws (⟨tk,i,sn,fl,bk,od,tm,cd,gv,1⟩:Pb)) ⟨run,th,wa,wc,k,bp,bt,eb,bf,b3,b5,b2,gx,bc⟩ (M:=[]) [2,0,1] kR trivial,rfl,rfl⟩
 | 2,_=>
  refine cP [0] (pubTold_W c p wd ep bk od sn fl tm 0 wa ws.length wc (runV ⟨run,th,wa,wc,k,bp,bt,eb,bf,b3,b5,b2,gx,bc⟩ 2) (thV p ⟨run,th,wa,wc,k,bp,bt,eb,bf,b3,b5,b2,gx,bc⟩ 2)) ?_
  rintro v post ⟨rfl,rfl⟩
  exact⟨_,view_pack (fun _:PbH=>True) (pbL p c wd ep ws (⟨tk,i,sn,fl,bk,od,tm,cd,gv,2⟩:Pb)) ⟨run,th,wa,wc,k,bp,bt,eb,bf,b3,b5,b2,gx,bc⟩ (M:=[]) [2,0,1] kR trivial,rfl,rfl⟩
 | 3,_=>
  refine cP [0] (pubTold_W c p wd ep bk od sn fl tm 0 wa ws.length wc (runV ⟨run,th,wa,wc,k,bp,bt,eb,bf,b3,b5,b2,gx,bc⟩ 3) (thV p ⟨run,th,wa,wc,k,bp,bt,eb,bf,b3,b5,b2,gx,bc⟩ 3)) ?_
  rintro v post ⟨rfl,rfl⟩
  exact⟨_,view_pack (fun _:PbH=>True) (pbL p c wd ep ws (⟨tk,i,sn,fl,bk,od,tm,cd,gv,3⟩:Pb)) ⟨run,th,wa,wc,k,bp,bt,eb,bf,b3,b5,b2,gx,bc⟩ (M:=[]) [2,0,1] kR trivial,rfl,rfl⟩
 | 4,_=>
  refine cP [0] (pubTold_W c p wd ep bk od sn fl tm 0 wa ws.length wc (runV ⟨run,th,wa,wc,k,bp,bt,eb,bf,b3,b5,b2,gx,bc⟩ 4) (thV p ⟨run,th,wa,wc,k,bp,bt,eb,bf,b3,b5,b2,gx,bc⟩ 4)) ?_
  rintro v post ⟨rfl,rfl⟩
  exact⟨_,view_pack (fun _:PbH=>True) (pbL p c wd ep ws (⟨tk,i,sn,fl,bk,od,tm,cd,gv,4⟩:Pb)) ⟨run,th,wa,wc,k,bp,bt,eb,bf,b3,b5,b2,gx,bc⟩ (M:=[]) [2,0,1] kR trivial,rfl,rfl⟩
 | 5,_=>
  refine cP [0] (pubTold_W c p wd ep bk od sn fl tm 0 wa ws.length wc (runV ⟨run,th,wa,wc,k,bp,bt,eb,bf,b3,b5,b2,gx,bc⟩ 5) (thV p ⟨run,th,wa,wc,k,bp,bt,eb,bf,b3,b5,b2,gx,bc⟩ 5)) ?_
  rintro v post ⟨rfl,rfl⟩
  exact⟨_,view_pack (fun _:PbH=>True) (pbL p c wd ep ws (⟨tk,i,sn,fl,bk,od,tm,cd,gv,5⟩:Pb)) ⟨run,th,wa,wc,k,bp,bt,eb,bf,b3,b5,b2,gx,bc⟩ (M:=[]) [2,0,1] kR trivial,rfl,rfl⟩
 | n+6,h=>omega
theorem rdTold_K(c:Cfg)(p:Nat)(sl:Int)(gp:Value)(wa:Option Addr)(wc:Nat)(ws:List Int)(r_ th_:Value)(hl:ws.length≤1000000):
  Ctr prog 11 #[vP p] [Ew p r_ th_ 0 true c gp sl wa ws.length wc,Ee wa wc ws] (fun v L => ∃(a2:Option Addr) (c2:Nat),v = .tuple #[.slice a2 ws.length c2,.nilIface]∧L=[Ew p r_ th_ 0 true c gp sl wa ws.length wc,Ee wa wc ws,Ee a2 c2 ws]):=by
 refine cb 34 func11 fun F=>gX [.e 0,.e 0,.e 0,.z [0,1,1] 4 [32]] (gQ p (gQ p (gQ p (gS [.o [0,1,1] 4,.c [1,1,1]] ?_))))
 refine go_call (some 33) [1] call47 (clone_n wa wc ws.length ws oM oM) kR ?_
 rintro v post ⟨a2_1,c2_2,rfl,rfl⟩
 exact gX [] (gJ [0,1,2] ⟨a2_1,c2_2,rfl,rfl⟩)
theorem rdTold_E(c:Cfg)(p:Nat)(sl cd:Int)(gp wsl:Value)(r_ th_:Value)(hcd:cd≠0):
  Ctr prog 11 #[vP p] [El p r_ th_ cd true c gp sl wsl] (Ret (.tuple #[.slice none 0 0,.iface 42 (vI cd)]) [El p r_ th_ cd true c gp sl wsl]):=by
 exact cb 34 func11 fun F=>gX [.e 0,.e 0,.sp [16,22] [.e 0,.z qcz 5 [27]] [.dead]] (gQ p (gQ p (gQ (cd != 0) (gT (cd != 0) (bne_iff_ne.2 hcd) (gQ p (gS [.o qcz 5,.c [1,0,1,1,1,1,1,0,0,1],.b 0,.c [1,1]] (gC (some 28) [] call46 (cause_NewE cd hcd) (gX [] (gJ [0] ⟨rfl,rfl⟩)))))))))
theorem rdTold_W(c:Cfg)(p:Nat)(sl cd:Int)(gp wsl:Value)(r_ th_:Value):
  Ctr prog 11 #[vP p] [El p r_ th_ cd false c gp sl wsl] (Ret (.tuple #[.slice none 0 0,.iface 42 (vI 13)]) [El p r_ th_ cd false c gp sl wsl]):=by
 exact cb 34 func11 fun F=>gX [.e 0,.z qcA 0 []] (gQ p (gS [.o qcA 0,.c [1,0,1,1,1,0,0,1],.b 0,.c [1,1]] (gC (some 15) [] call46 (cause_NewE 13 oc) (gX [] (gJ [0] ⟨rfl,rfl⟩)))))
theorem rdDone(c:Cfg)(p:Nat)(sl cd:Int)(ov:Bool)(gp wsl:Value)(r_ th_:Value):
  Ctr prog 21 #[vP p] [El p r_ th_ cd ov c gp sl wsl] (Ret (.bool ov) [El p r_ th_ cd ov c gp sl wsl]):=by
 exact cb 12 func21 fun F=>gX [.e 0] (gQ p (gJ [0] ⟨rfl,rfl⟩))
theorem rdSlot(c:Cfg)(p:Nat)(sl cd:Int)(ov:Bool)(gp wsl:Value)(r_ th_:Value):
  Ctr prog 23 #[vP p] [El p r_ th_ cd ov c gp sl wsl] (Ret (vI sl) [El p r_ th_ cd ov c gp sl wsl]):=by
 exact cb 9 func23 fun F=>gX [.e 0] (gQ p (gJ [0] ⟨rfl,rfl⟩))
theorem rdCommitN(c:Cfg)(p:Nat)(sl cd:Int)(wsl:Value)(r_ th_:Value):
  Ctr prog 22 #[vP p] [ER p r_ th_ cd true c sl wsl] (Ret (vI 0) [ER p r_ th_ cd true c sl wsl]):=by
 exact cb 18 func22 fun F=>gX [.e 0,.e 0,.z [0,1,1] 4 [16]] (gQ p (gQ p (gS [.o [0,1,1] 4,.c [1,1,1]] (gC (some 17) [] call63 (gCommit_nil) (gX [] (gJ [0] ⟨rfl,rfl⟩))))))
theorem rdCommitS(c:Cfg)(p gb:Nat)(sl cd:Int)(wsl:Value)(r_ th_:Value)(G:Gu)(hph:G.ph≤3):
  Ctr prog 22 #[vP p] [El p r_ th_ cd true c (vP gb) sl wsl,Em gb c G gb] (Ret (vI (Gu.comm G)) [El p r_ th_ cd true c (vP gb) sl wsl,Em gb c G gb]):=by
 exact cb 18 func22 fun F=>gX [.e 0,.e 0,.z [0,1,1] 4 [16]] (gQ p (gQ p (gS [.o [0,1,1] 4,.c [1,1,1]] (gC (some 17) [1] call63 (guard_Commit c gb G oM) (gX [] (gJ [0,1] ⟨rfl,rfl⟩))))))
theorem rdCommitW(c:Cfg)(p:Nat)(sl cd:Int)(gp wsl:Value)(r_ th_:Value):
  Ctr prog 22 #[vP p] [El p r_ th_ cd false c gp sl wsl] (Ret (vI 0) [El p r_ th_ cd false c gp sl wsl]):=by
 exact cb 18 func22 fun F=>gX [.e 0] (gQ p (gJ [0] ⟨rfl,rfl⟩))
theorem rd_Slot(p:Nat)(c:Cfg)(cl tp ep:Int)(S:Rd):
  Ctr prog 23 #[vP p] [.res (RdR p c cl tp ep S)] (Ret (vI S.slot) [.res (RdR p c cl tp ep S)]):=by
 refine oC (I:=fun _:RdH=>True) (LL:=rdL p c cl tp ep S) 0 ?_
 rintro⟨run,th,wa,wc,k,b1,b2,b3,b4,b5,b6,gb,eb,bp,bf,rl,bc⟩ -
 obtain⟨K,gu,sl,ws,cd,ph⟩:=S
 refine cP [0] (rdSlot c p sl (cdV ph cd) (ovV ph) (gpR ⟨run,th,wa,wc,k,b1,b2,b3,b4,b5,b6,gb,eb,bp,bf,rl,bc⟩ gu) (.slice wa ws.length wc) (runRV ⟨run,th,wa,wc,k,b1,b2,b3,b4,b5,b6,gb,eb,bp,bf,rl,bc⟩ ph) (thRV p ⟨run,th,wa,wc,k,b1,b2,b3,b4,b5,b6,gb,eb,bp,bf,rl,bc⟩ ph)) ?_
 rintro v post ⟨rfl,rfl⟩
 exact⟨_,view_pack (fun _:RdH=>True) (rdL p c cl tp ep (⟨K,gu,sl,ws,cd,ph⟩:Rd)) ⟨run,th,wa,wc,k,b1,b2,b3,b4,b5,b6,gb,eb,bp,bf,rl,bc⟩ (M:=[]) [2,0,1] kR trivial,rfl,rfl⟩
theorem rd_Done(p:Nat)(c:Cfg)(cl tp ep:Int)(S:Rd)(hph:S.ph≤4):
  Ctr prog 21 #[vP p] [.res (RdR p c cl tp ep S)] (Ret (.bool (S.ph==0)) [.res (RdR p c cl tp ep S)]):=by
 refine oC (I:=fun _:RdH=>True) (LL:=rdL p c cl tp ep S) 0 ?_
 rintro⟨run,th,wa,wc,k,b1,b2,b3,b4,b5,b6,gb,eb,bp,bf,rl,bc⟩ -
 obtain⟨K,gu,sl,ws,cd,ph⟩:=S
 simp only at hph
 match ph,hph with
 | 0,_=>
  refine cP [0] (rdDone c p sl (cdV 0 cd) (ovV 0) (gpR ⟨run,th,wa,wc,k,b1,b2,b3,b4,b5,b6,gb,eb,bp,bf,rl,bc⟩ gu) (.slice wa ws.length wc) (runRV ⟨run,th,wa,wc,k,b1,b2,b3,b4,b5,b6,gb,eb,bp,bf,rl,bc⟩ 0) (thRV p ⟨run,th,wa,wc,k,b1,b2,b3,b4,b5,b6,gb,eb,bp,bf,rl,bc⟩ 0)) ?_
  rintro v post ⟨rfl,rfl⟩
  exact⟨_,view_pack (fun _:RdH=>True) (rdL p c cl tp ep (⟨K,gu,sl,ws,cd,0⟩:Rd)) ⟨run,th,wa,wc,k,b1,b2,b3,b4,b5,b6,gb,eb,bp,bf,rl,bc⟩ (M:=[]) [2,0,1] kR trivial,rfl,rfl⟩
 | 1,_=>
  refine cP [0] (rdDone c p sl (cdV 1 cd) (ovV 1) (gpR ⟨run,th,wa,wc,k,b1,b2,b3,b4,b5,b6,gb,eb,bp,bf,rl,bc⟩ gu) (.slice wa ws.length wc) (runRV ⟨run,th,wa,wc,k,b1,b2,b3,b4,b5,b6,gb,eb,bp,bf,rl,bc⟩ 1) (thRV p ⟨run,th,wa,wc,k,b1,b2,b3,b4,b5,b6,gb,eb,bp,bf,rl,bc⟩ 1)) ?_
  rintro v post ⟨rfl,rfl⟩
  exact⟨_,view_pack (fun _:RdH=>True) (rdL p c cl tp ep (⟨K,gu,sl,ws,cd,1⟩:Rd)) ⟨run,th,wa,wc,k,b1,b2,b3,b4,b5,b6,gb,eb,bp,bf,rl,bc⟩ (M:=[]) [2,0,1] kR trivial,rfl,rfl⟩
 | 2,_=>
  refine cP [0] (rdDone c p sl (cdV 2 cd) (ovV 2) (gpR ⟨run,th,wa,wc,k,b1,b2,b3,b4,b5,b6,gb,eb,bp,bf,rl,bc⟩ gu) (.slice wa ws.length wc) (runRV ⟨run,th,wa,wc,k,b1,b2,b3,b4,b5,b6,gb,eb,bp,bf,rl,bc⟩ 2) (thRV p ⟨run,th,wa,wc,k,b1,b2,b3,b4,b5,b6,gb,eb,bp,bf,rl,bc⟩ 2)) ?_
  rintro v post ⟨rfl,rfl⟩
  exact⟨_,view_pack (fun _:RdH=>True) (rdL p c cl tp ep (⟨K,gu,sl,ws,cd,2⟩:Rd)) ⟨run,th,wa,wc,k,b1,b2,b3,b4,b5,b6,gb,eb,bp,bf,rl,bc⟩ (M:=[]) [2,0,1] kR trivial,rfl,rfl⟩
 | 3,_=>
  refine cP [0] (rdDone c p sl (cdV 3 cd) (ovV 3) (gpR ⟨run,th,wa,wc,k,b1,b2,b3,b4,b5,b6,gb,eb,bp,bf,rl,bc⟩ gu) (.slice wa ws.length wc) (runRV ⟨run,th,wa,wc,k,b1,b2,b3,b4,b5,b6,gb,eb,bp,bf,rl,bc⟩ 3) (thRV p ⟨run,th,wa,wc,k,b1,b2,b3,b4,b5,b6,gb,eb,bp,bf,rl,bc⟩ 3)) ?_
  rintro v post ⟨rfl,rfl⟩
  exact⟨_,view_pack (fun _:RdH=>True) (rdL p c cl tp ep (⟨K,gu,sl,ws,cd,3⟩:Rd)) ⟨run,th,wa,wc,k,b1,b2,b3,b4,b5,b6,gb,eb,bp,bf,rl,bc⟩ (M:=[]) [2,0,1] kR trivial,rfl,rfl⟩
 | 4,_=>
  refine cP [0] (rdDone c p sl (cdV 4 cd) (ovV 4) (gpR ⟨run,th,wa,wc,k,b1,b2,b3,b4,b5,b6,gb,eb,bp,bf,rl,bc⟩ gu) (.slice wa ws.length wc) (runRV ⟨run,th,wa,wc,k,b1,b2,b3,b4,b5,b6,gb,eb,bp,bf,rl,bc⟩ 4) (thRV p ⟨run,th,wa,wc,k,b1,b2,b3,b4,b5,b6,gb,eb,bp,bf,rl,bc⟩ 4)) ?_
  rintro v post ⟨rfl,rfl⟩
  exact⟨_,view_pack (fun _:RdH=>True) (rdL p c cl tp ep (⟨K,gu,sl,ws,cd,4⟩:Rd)) ⟨run,th,wa,wc,k,b1,b2,b3,b4,b5,b6,gb,eb,bp,bf,rl,bc⟩ (M:=[]) [2,0,1] kR trivial,rfl,rfl⟩
 | n+5,h=>omega
theorem rd_Told(p:Nat)(c:Cfg)(cl tp ep:Int)(S:Rd)(hph:S.ph≤4)(hl:S.words.length≤96):
  Ctr prog 11 #[vP p] [.res (RdR p c cl tp ep S)] (fun v L => ∃(a2:Option Addr) (c2:Nat),v = .tuple #[.slice a2 ((Rd.told S).1.length) c2,(errV (Rd.told S).2)]∧L=[.res (RdR p c cl tp ep S),Ee a2 c2 ((Rd.told S).1)]):=by
 refine oC (I:=fun _:RdH=>True) (LL:=rdL p c cl tp ep S) 0 ?_
 rintro⟨run,th,wa,wc,k,b1,b2,b3,b4,b5,b6,gb,eb,bp,bf,rl,bc⟩ -
 obtain⟨K,gu,sl,ws,cd,ph⟩:=S
 simp only at hph hl
 match ph,hph with
 | 0,_=>
  by_cases hcd:cd=0
  ·subst hcd
   have et:Rd.told (⟨K,gu,sl,ws,0,0⟩:Rd)=(ws,0):=rfl
   rw [et]
   refine cP [0,1] (rdTold_K c p sl (gpR ⟨run,th,wa,wc,k,b1,b2,b3,b4,b5,b6,gb,eb,bp,bf,rl,bc⟩ gu) wa wc ws run th oa) ?_
   rintro v post ⟨a2,c2,rfl,rfl⟩
   exact⟨_,(vK (fun _:RdH=>True) (rdL p c cl tp ep (⟨K,gu,sl,ws,0,0⟩:Rd)) ⟨run,th,wa,wc,k,b1,b2,b3,b4,b5,b6,gb,eb,bp,bf,rl,bc⟩ [1,2,0] trivial).trans (vQ [1,0]),a2,c2,rfl,rfl⟩
  ·have et:Rd.told (⟨K,gu,sl,ws,cd,0⟩:Rd)=([],cd):=if_neg hcd
   rw [et,errV_ne hcd]
   refine cP [0] (rdTold_E c p sl cd (gpR ⟨run,th,wa,wc,k,b1,b2,b3,b4,b5,b6,gb,eb,bp,bf,rl,bc⟩ gu) (.slice wa ws.length wc) run th hcd) ?_
   rintro v post ⟨rfl,rfl⟩
   exact⟨_,(view_pack (fun _:RdH=>True) (rdL p c cl tp ep (⟨K,gu,sl,ws,cd,0⟩:Rd)) ⟨run,th,wa,wc,k,b1,b2,b3,b4,b5,b6,gb,eb,bp,bf,rl,bc⟩ (M:=[]) [2,0,1] kR trivial).trans (view_nil (encI .u64) 0 1 60 (sizedI _)),none,0,rfl,rfl⟩
 | 1,_=>
  rw [show Rd.told (⟨K,gu,sl,ws,cd,1⟩:Rd)=([],13) from rfl]
  refine cP [0] (rdTold_W c p sl 0 (gpR ⟨run,th,wa,wc,k,b1,b2,b3,b4,b5,b6,gb,eb,bp,bf,rl,bc⟩ gu) (.slice wa ws.length wc) (runRV ⟨run,th,wa,wc,k,b1,b2,b3,b4,b5,b6,gb,eb,bp,bf,rl,bc⟩ 1) (thRV p ⟨run,th,wa,wc,k,b1,b2,b3,b4,b5,b6,gb,eb,bp,bf,rl,bc⟩ 1)) ?_
  rintro v post ⟨rfl,rfl⟩
  exact⟨_,(view_pack (fun _:RdH=>True) (rdL p c cl tp ep (⟨K,gu,sl,ws,cd,1⟩:Rd)) ⟨run,th,wa,wc,k,b1,b2,b3,b4,b5,b6,gb,eb,bp,bf,rl,bc⟩ (M:=[]) [2,0,1] kR trivial).trans (view_nil (encI .u64) 0 1 60 (sizedI _)),none,0,rfl,rfl⟩
 | 2,_=>
  rw [show Rd.told (⟨K,gu,sl,ws,cd,2⟩:Rd)=([],13) from rfl]
  refine cP [0] (rdTold_W c p sl 0 (gpR ⟨run,th,wa,wc,k,b1,b2,b3,b4,b5,b6,gb,eb,bp,bf,rl,bc⟩ gu) (.slice wa ws.length wc) (runRV ⟨run,th,wa,wc,k,b1,b2,b3,b4,b5,b6,gb,eb,bp,bf,rl,bc⟩ 2) (thRV p ⟨run,th,wa,wc,k,b1,b2,b3,b4,b5,b6,gb,eb,bp,bf,rl,bc⟩ 2)) ?_
  rintro v post ⟨rfl,rfl⟩
  exact⟨_,(view_pack (fun _:RdH=>True) (rdL p c cl tp ep (⟨K,gu,sl,ws,cd,2⟩:Rd)) ⟨run,th,wa,wc,k,b1,b2,b3,b4,b5,b6,gb,eb,bp,bf,rl,bc⟩ (M:=[]) [2,0,1] kR trivial).trans (view_nil (encI .u64) 0 1 60 (sizedI _)),none,0,rfl,rfl⟩
 | 3,_=>
  rw [show Rd.told (⟨K,gu,sl,ws,cd,3⟩:Rd)=([],13) from rfl]
  refine cP [0] (rdTold_W c p sl 0 (gpR ⟨run,th,wa,wc,k,b1,b2,b3,b4,b5,b6,gb,eb,bp,bf,rl,bc⟩ gu) (.slice wa ws.length wc) (runRV ⟨run,th,wa,wc,k,b1,b2,b3,b4,b5,b6,gb,eb,bp,bf,rl,bc⟩ 3) (thRV p ⟨run,th,wa,wc,k,b1,b2,b3,b4,b5,b6,gb,eb,bp,bf,rl,bc⟩ 3)) ?_
  rintro v post ⟨rfl,rfl⟩
  exact⟨_,(view_pack (fun _:RdH=>True) (rdL p c cl tp ep (⟨K,gu,sl,ws,cd,3⟩:Rd)) ⟨run,th,wa,wc,k,b1,b2,b3,b4,b5,b6,gb,eb,bp,bf,rl,bc⟩ (M:=[]) [2,0,1] kR trivial).trans (view_nil (encI .u64) 0 1 60 (sizedI _)),none,0,rfl,rfl⟩
 | 4,_=>
  rw [show Rd.told (⟨K,gu,sl,ws,cd,4⟩:Rd)=([],13) from rfl]
  refine cP [0] (rdTold_W c p sl 0 (gpR ⟨run,th,wa,wc,k,b1,b2,b3,b4,b5,b6,gb,eb,bp,bf,rl,bc⟩ gu) (.slice wa ws.length wc) (runRV ⟨run,th,wa,wc,k,b1,b2,b3,b4,b5,b6,gb,eb,bp,bf,rl,bc⟩ 4) (thRV p ⟨run,th,wa,wc,k,b1,b2,b3,b4,b5,b6,gb,eb,bp,bf,rl,bc⟩ 4)) ?_
  rintro v post ⟨rfl,rfl⟩
  exact⟨_,(view_pack (fun _:RdH=>True) (rdL p c cl tp ep (⟨K,gu,sl,ws,cd,4⟩:Rd)) ⟨run,th,wa,wc,k,b1,b2,b3,b4,b5,b6,gb,eb,bp,bf,rl,bc⟩ (M:=[]) [2,0,1] kR trivial).trans (view_nil (encI .u64) 0 1 60 (sizedI _)),none,0,rfl,rfl⟩
 | n+5,h=>omega
end Go.Proofs.YtpcaijopodhdgaaGreatDoor
namespace Go.Proofs.YtpcaijopodhdgaaGreatDoor
open Go.Proofs.Tryz
open Go.Sx
abbrev Eal(x0:Nat)(c1:Cfg)(x2:Int)(x3:Int)(x4:Int)(x5:Int)(x6:Value)(x7:Int)(x8:Int)(x9:Int): Ent:=.pts x0 [.int .i64 c1.topics,.int .i64 c1.small,.int .i64 c1.slots,.int .i64 c1.clients,.int .i64 c1.s0,.int .i64 c1.n0,.int .i64 c1.s1,.int .i64 c1.n1,.int .i64 c1.retry,.int .i64 x2,.int .i64 x3,.int .i64 x4,.int .i64 x5,x6,.pointer none,.pointer none,.slice none 0 0,.int .i64 x7,.int .i64 x8,.int .i64 x9] 97
abbrev Eag(x0:Nat)(c1:Cfg)(x2:Int)(x3:Int)(x4:Int)(x5:Int)(x6:Int)(x7:Option Addr)(x8:Nat)(x9:Nat)(x10:Value)(x11:Int)(x12:Int)(x13:Int)(x14:Int)(x15:Int): Ent:=.pts x0 [.int .i64 c1.topics,.int .i64 c1.small,.int .i64 c1.slots,.int .i64 c1.clients,.int .i64 c1.s0,.int .i64 c1.n0,.int .i64 c1.s1,.int .i64 c1.n1,.int .i64 c1.retry,.int .i64 x2,.int .i64 x3,.int .i64 x4,.int .i64 x5,.int .i64 x6,.slice x7 x8 x9,x10,.pointer none,.int .u64 x11,.int .i64 x12,.int .i64 x13,.int .i64 x14,.int .i64 x15] 91
abbrev EH(x0:Nat)(c1:Cfg)(x2:Int)(x3:Int)(x4:Int)(x5:Int)(x6:Int): Ent:=.pts x0 [.int .i64 c1.topics,.int .i64 c1.small,.int .i64 c1.slots,.int .i64 c1.clients,.int .i64 c1.s0,.int .i64 c1.n0,.int .i64 c1.s1,.int .i64 c1.n1,.int .i64 c1.retry,.int .i64 x2,.int .i64 x3,.int .i64 x4,.int .i64 x5,.int .u64 x6] 206
theorem rnew_Take(c:Cfg)(cl:Int)(hc:c.Ok)(hcl:0≤cl∧cl≤1):
  Ctr prog 134 #[cfgV c,vI cl] [] (fun v L => ∃(k:Nat),v=vP k∧L=[EH k c cl 1 0 0 0]):=by
 exact cb 22 func134 fun F=>gX [.e 0,.z [0,1] 1 [1,2,6]] (gN fun b_1=>gQ b_1 (gS [.o [0,1] 1,.c [1,1]] (gC (some 7) [] call67 (ref_right c oM) (gX [.sp [14,12,13] [.dead] [.sp [17,16] [.dead] [.e 0]]] (gQ (decide (cl<0)) (gQ (decide (cl<0)) (gF (decide (cl<0)) ol (gQ (decide (cl>1)) (gF (decide (cl>1)) ol (gQ b_1 (gN fun b_2=>gJ [1] ⟨b_2,rfl,rfl⟩)))))))))))
theorem rnew_Pub(c:Cfg)(tp ep:Int)(a:Option Addr)(n cw:Nat)(hc:c.Ok)(hf:fitK c ((n:Nat):Int)≠-1)(htp:0≤tp∧tp<c.topics):
  Ctr prog 74 #[cfgV c,vI tp,vI ep,.slice a n cw] [] (fun v L => ∃(q:Nat) (k:Nat),v=vP q∧L=[Eag q c tp ep 1 0 0 a n cw (vP k) 0 0 0 0 0,EH k c (fitK c ((n:Nat):Int)) 1 0 0 0]):=by
 refine cb 35 func74 fun F=>gX [.e 0,.z [0,1] 3 [1,2,3,4,10,12]] (gN fun b_1=>gQ b_1 (gS [.o [0,1] 3,.c [1,1]] (gC (some 13) [] call25 (ref_Fits c ((n:Nat):Int) oM) (gX [.sp [16,15] [.dead] [.sp [20,18,19] [.dead] [.e 0,.sp [25,24] [.dead] [.z [0,1,1,1] 0 [1,2,3,4,9]]]]] (gQ (decide ((fitK c ((n:Nat):Int))<0)) (gF (decide ((fitK c ((n:Nat):Int))<0)) (decide_eq_false (by have:=fitK_rng c ((n:Nat):Int); omega)) (gQ (decide (tp<0)) (gQ (decide (tp<0)) (gF (decide (tp<0)) (decide_eq_false (by have:=fitK_rng c ((n:Nat):Int); omega)) (gQ b_1 (gQ (decide (tp≥c.topics)) (gF (decide (tp≥c.topics)) (decide_eq_false (by have:=fitK_rng c ((n:Nat):Int); omega)) (gS [.c [0,1,1,1],.c [1,1,1,1]] (zG (zN [0,1,2,3,4,5] (kV 0 [.e 0,.w,.w,.w,.e 0,.w]) [1,2,3,4,9,26,27,28,29,30,31] [6] (.e b_1 (.e b_1 .n)) ⟨?_,trivial⟩)))))))))))))))
 refine zC (some 32) [] call134 (rnew_Take c (fitK c ((n:Nat):Int)) oM (by have:=fitK_rng c ((n:Nat):Int); omega)) ?_
 rintro v post ⟨k_6_1,rfl,rfl⟩
 refine zN [7] [(0,.e 0),(1,.w),(2,.w),(3,.w),(7,.w)] [32,1,2,3,4,26,27,28,29,33] [8] (.e b_1 .n) ⟨?_,trivial⟩
 refine zX .w (sN fun b_8_1=>(sV ?_))
 exact zE [9] (kV 9 [.w]) [8] .n (gX [] (gJ [2,1] ⟨b_8_1,k_6_1,rfl,rfl⟩))
theorem rnew_Rd(c:Cfg)(cl tp ep:Int)(hc:c.Ok)(hcl:0≤cl∧cl<c.clients)(htp:0≤tp∧tp<c.topics):
  Ctr prog 72 #[cfgV c,vI cl,vI tp,vI ep] [] (fun v L => ∃(q:Nat) (k:Nat),v=vP q∧L=[Eal q c cl tp ep 1 (vP k) (-1) 0 0,EP k c cl 0 (-1)]):=by
 refine cb 32 func72 fun F=>gX [.e 0,.z [0,1] 2 [1,2,3,4,10,11]] (gN fun b_1=>gQ b_1 (gS [.o [0,1] 2,.c [1,1]] ?_))
 refine go_call (some 12) [] call133 (rnew_Claim c cl oM hcl) kR ?_
 rintro v post ⟨k_2,rfl,rfl⟩
 exact gX [.sp [19,17,18] [.dead] [.e 0,.sp [24,23] [.dead] [.e 0]]] (gQ (decide (tp<0)) (gQ (decide (tp<0)) (gF (decide (tp<0)) (decide_eq_false oa) (gQ b_1 (gQ (decide (tp≥c.topics)) (gF (decide (tp≥c.topics)) (decide_eq_false oa) (gQ b_1 (gN fun b_3=>gJ [2,1] ⟨b_3,k_2,rfl,rfl⟩))))))))
theorem r13_Born(w_:Int)(hw:U64 w_):
  Ctr prog 70 #[vU w_] [] (Ret (vU (bornW w_)) []):=by
 exact cb 8 func70 fun F=>gX [.z [0,1] 1 [3]] (gS [.o [0,1] 1,.c [1,1]] (gC (some 4) [] call34 (r13_Unpack w_ hw) (gX [.z [0,1] 4 [6]] (gS [.o [0,1] 4,.c [1,1]] (gC (some 7) [] call132 (r13_Pack (ctlEpoch w_) 0 0 true false (by have:=ctl_rng hw; omega) oc oc) (gX [] (gR (vU (packW3 (ctlEpoch w_) (flagI true) (flagI false) 0 0)) [] ⟨rfl,rfl⟩)))))))
theorem r13_Gone(w_:Int)(hw:U64 w_):
  Ctr prog 71 #[vU w_] [] (Ret (vU (goneW w_)) []):=by
 exact cb 10 func71 fun F=>gX [.z [0,1] 1 [3]] (gS [.o [0,1] 1,.c [1,1]] (gC (some 4) [] call34 (r13_Unpack w_ hw) (gX [.n,.n,.z [0,1] 6 [8]] (gO (InK .i64 ((ctlEpoch w_)+1)) (by have:=ctl_rng hw; simp only [InK]; omega) (gO ((32768:Int)≠0) oc (gS [.o [0,1] 6,.c [1,1]] (gC (some 9) [] call132 (r13_Pack (((ctlEpoch w_)+1).tmod 32768) 0 0 false false (by have:=ctl_rng hw; have h0:0≤(ctlEpoch w_+1).tmod 32768:=Int.tmod_nonneg _ oa; have h1:=Int.tmod_lt_of_pos (ctlEpoch w_+1) (show(0:Int)<32768 by omega); omega) oc oc) (gX [] (gR (vU (packW3 (((ctlEpoch w_)+1).tmod 32768) (flagI false) (flagI false) 0 0)) [] ⟨rfl,rfl⟩)))))))))
end Go.Proofs.YtpcaijopodhdgaaGreatDoor
namespace Go.Proofs.YtpcaijopodhdgaaGreatDoor
open Go.Proofs.Tryz
open Go.Sx
abbrev Et(x0:Nat)(x1:Value)(x2:Value)(x3:Value)(x4:Option Addr)(x5:Nat)(x6:Nat)(x7:Int): Ent:=.pts x0 [.pointer none,.pointer none,.pointer none,x1,x2,x3,.slice x4 x5 x6,.int .u64 x7] 74
abbrev EM(x0:Nat)(x1:Value)(x2:Value)(x3:Value)(x4:Value)(x5:Value)(x6:Value)(x7:Option Addr)(x8:Nat)(x9:Nat)(x10:Int): Ent:=.pts x0 [x1,x2,x3,x4,x5,x6,.slice x7 x8 x9,.int .u64 x10] 74
abbrev ES(x0:Nat)(x1:Value)(x2:Value)(x3:Value)(x4:Value)(x5:Value)(x6:Option Addr)(x7:Nat)(x8:Nat)(x9:Int): Ent:=.pts x0 [.pointer none,x1,x2,x3,x4,x5,.slice x6 x7 x8,.int .u64 x9] 74
abbrev EJ(x0:Nat)(x1:Value)(x2:Value)(x3:Value)(x4:Value)(x5:Option Addr)(x6:Nat)(x7:Nat)(x8:Int): Ent:=.pts x0 [.pointer none,.pointer none,x1,x2,x3,x4,.slice x5 x6 x7,.int .u64 x8] 74
abbrev EU(x0:Nat)(c1:Cfg)(x2:Value)(x3:Value)(x4:Value)(x5:Value)(x6:Int): Ent:=.pts x0 [.int .i64 c1.topics,.int .i64 c1.small,.int .i64 c1.slots,.int .i64 c1.clients,.int .i64 c1.s0,.int .i64 c1.n0,.int .i64 c1.s1,.int .i64 c1.n1,.int .i64 c1.retry,x2,x3,x4,x5,.int .u64 x6] 62
theorem k_idleI(b:Nat)(pv sv rv:Value)(ra:Option Addr)(rc n_:Nat)(id_:Int):
  Ctr prog 32 #[vP b] [Et b pv sv rv ra n_ rc id_] (Ret (.bool true) [Et b pv sv rv ra n_ rc id_]):=by
 exact cb 22 func32 fun F=>gX [.e 0,.e 0,.e 0] (gQ b (gQ b (gQ b (gJ [0] ⟨rfl,rfl⟩))))
theorem k_idleP(b:Nat)(pv sv rv:Value)(ra:Option Addr)(rc n_:Nat)(id_:Int)(y:Nat)(x1 x2:Value):
  Ctr prog 32 #[vP b] [EM b (vP y) x1 x2 pv sv rv ra n_ rc id_] (Ret (.bool false) [EM b (vP y) x1 x2 pv sv rv ra n_ rc id_]):=by
 exact cb 22 func32 fun F=>gX [.e 0] (gQ b (gJ [0] ⟨rfl,rfl⟩))
theorem k_idleS(b:Nat)(pv sv rv:Value)(ra:Option Addr)(rc n_:Nat)(id_:Int)(y:Nat)(x2:Value):
  Ctr prog 32 #[vP b] [ES b (vP y) x2 pv sv rv ra n_ rc id_] (Ret (.bool false) [ES b (vP y) x2 pv sv rv ra n_ rc id_]):=by
 exact cb 22 func32 fun F=>gX [.e 0,.e 0] (gQ b (gQ b (gJ [0] ⟨rfl,rfl⟩)))
theorem k_idleR(b:Nat)(pv sv rv:Value)(ra:Option Addr)(rc n_:Nat)(id_:Int)(y:Nat):
  Ctr prog 32 #[vP b] [EJ b (vP y) pv sv rv ra n_ rc id_] (Ret (.bool false) [EJ b (vP y) pv sv rv ra n_ rc id_]):=by
 exact cb 22 func32 fun F=>gX [.e 0,.e 0,.e 0] (gQ b (gQ b (gQ b (gJ [0] ⟨rfl,rfl⟩))))
theorem w_word(c:Cfg)(x ba rb:Nat)(now:Int)(kv mv:Value)(B:Ar)(hc:c.Ok)(hnB:B.ws.length=B.n)(hzB:(B.n:Int)=sizeOfC c):
  Ctr prog 35 #[vP x] [EU x c (vP ba) (vP rb) kv mv now,Ed rb B false 0,Ea B] (Ret (vU (B.ws.getD (ctlAt c 0).toNat 0)) [EU x c (vP ba) (vP rb) kv mv now,Ed rb B false 0,Ea B]):=by
 refine cb 17 func35 fun F => ?_
 have h0:=ctl0_ok hc
 exact gX [.z [0,1] 0 [0]] (gS [.c [0,1],.c [1,1]] (qG (kV 0 [.ww,.ww,.ww,.e 0,.ww,.ww,.e 1,.ww,.ww,.ww,.e 0,.q (vI (ctlAt c 0)),.h (.s 2),.h (.j 2 ((ctlAt c 0).toNat)),.ww]) [2] (.e x (.e rb (.e x (.p (B.aw=B.aw∧B.n=B.ws.length) ⟨rfl,oe⟩ (.p ((0:Int)≤(ctlAt c 0)∧(ctlAt c 0)<(B.ws.length:Int)) oa (.e (slAt B.aw ((ctlAt c 0).toNat) 1) (.p ((ctlAt c 0).toNat<B.ws.length) oW .n))))))) (.c call79 (qR [] (ref_Control c 0 oM (by have h9:=hc; simp only [Cfg.Ok] at h9; first | omega | (simp only [InK]; omega)))) .n) (gX [] (gI (vU (B.ws.getD ((ctlAt c 0).toNat) 0)) [0,1,2] ⟨(congrArg (Value.int .u64) oa),rfl⟩))))
theorem w_put(c:Cfg)(x ba rb:Nat)(now:Int)(kv mv:Value)(A B:Ar)(v_:Int)(hc:c.Ok)(hnB:B.ws.length=B.n)(hzB:(B.n:Int)=sizeOfC c)(hnA:A.ws.length=A.n)(hzA:(A.n:Int)=sizeOfC c)(hsA:0≤A.steps∧A.steps≤1000000)(hsB:0≤B.steps∧B.steps≤1000000):
  Ctr prog 69 #[vP x,vU v_] [EU x c (vP ba) (vP rb) kv mv now,Eb ba A,Ea A,Ed rb B false 0,Ea B] (Ret (undef) [EU x c (vP ba) (vP rb) kv mv now,Eb ba (A.store (ctlAt c 0) v_),Ea (A.store (ctlAt c 0) v_),Ed rb (B.store (ctlAt c 0) v_) false 0,Ea (B.store (ctlAt c 0) v_)]):=by
 refine cb 26 func69 fun F => ?_
 have h0:=ctl0_ok hc
 refine gX [.z [0] 0 [0,1]] (gS [.c [0],.c [1]] ?_)
 refine tC (some 14) (kV 0 [.ww,.ww,.ww,.e 0,.ww,.ww,.ww,.e 0,.q (vI (ctlAt c 0)),.ww]) 10 [] [1,2] [0,1] call107 (arena_Store ba A (ctlAt c 0) v_ hnA oa oa) (.e x (.e x .n)) (.c call48 (qR [] (plan_Control c 0 hc)) .n) ?_
 rintro v post ⟨rfl,rfl⟩
 refine tN .n ?_
 refine tC (some 25) (kV 0 [.ww,.ww,.ww,.e 0,.ww,.ww,.ww,.e 0,.q (vI (ctlAt c 0)),.ww]) 10 [] [1,2] [] call84 (ref_Store rb B (ctlAt c 0) v_ hnB oa oa) (.e x (.e x .n)) (.c call79 (qR [] (ref_Control c 0 oM (by have h9:=hc; simp only [Cfg.Ok] at h9; first | omega | (simp only [InK]; omega)))) .n) ?_
 rintro v post ⟨rfl,rfl⟩
 refine tN .n ?_
 exact gX [] (gJ [0,1,2,3,4] ⟨rfl,rfl⟩)
end Go.Proofs.YtpcaijopodhdgaaGreatDoor
namespace Go.Proofs.YtpcaijopodhdgaaGreatDoor
open Go.Proofs.Tryz
open Go.Sx
abbrev Eg(x0:Nat)(c1:Cfg)(x2:Value)(x3:Value)(x4:Option Addr)(x5:Nat)(x6:Nat)(x7:Option Addr)(x8:Nat)(x9:Nat)(x10:Int): Ent:=.pts x0 [.int .i64 c1.topics,.int .i64 c1.small,.int .i64 c1.slots,.int .i64 c1.clients,.int .i64 c1.s0,.int .i64 c1.n0,.int .i64 c1.s1,.int .i64 c1.n1,.int .i64 c1.retry,x2,x3,.slice x4 x5 x6,.slice x7 x8 x9,.int .u64 x10] 62
abbrev Eam(x0:Nat)(x1:Value)(x2:Value)(x3:Value)(x4:Value)(x5:Value)(x6:Option Addr)(x7:Nat)(x8:Nat)(x9:Int): Ent:=.pts x0 [x1,.pointer none,x2,x3,x4,x5,.slice x6 x7 x8,.int .u64 x9] 74
abbrev qbb: List Nat:=[0,1,1,1,1,1,1]
abbrev qcB: List Nat:=[1,1,1,1,1,1,1]
abbrev qcC: List Nat:=[1,0,1,0,1,1,1,1]
theorem w_whoa(c:Cfg)(x ba rb:Nat)(now:Int)(kv mv:Value)(wh n_:Int)(h4:bAnd .i64 wh 4=0):
  Ctr prog 27 #[vP x,.agg #[vI wh,vI n_]] [EU x c (vP ba) (vP rb) kv mv now] (Ret (vI (bAnd .i64 wh 3)) [EU x c (vP ba) (vP rb) kv mv now]):=by
 exact cb 72 func27 fun F=>gX [.e 1,.sp [11,10] [.e 1] [.dead]] (gN fun b_1=>gQ b_1 (gQ ((bAnd .i64 wh 4)==0) (gT ((bAnd .i64 wh 4)==0) (beq_iff_eq.2 h4) (gQ b_1 (gJ [0] ⟨rfl,rfl⟩)))))
theorem w_whob(c:Cfg)(x ba rb:Nat)(now:Int)(kv mv:Value)(wh n_:Int)(h4:bAnd .i64 wh 4≠0)(h15:bAnd .i64 n_ 15≠0):
  Ctr prog 27 #[vP x,.agg #[vI wh,vI n_]] [EU x c (vP ba) (vP rb) kv mv now] (Ret (vI (bAnd .i64 wh 3)) [EU x c (vP ba) (vP rb) kv mv now]):=by
 exact cb 72 func27 fun F=>gX [.e 1,.sp [11,10] [.dead] [.e 1,.sp [16,15] [.e 1] [.dead]]] (gN fun b_1=>gQ b_1 (gQ ((bAnd .i64 wh 4)==0) (gF ((bAnd .i64 wh 4)==0) (beq_eq_false_iff_ne.2 h4) (gQ b_1 (gQ ((bAnd .i64 n_ 15) != 0) (gT ((bAnd .i64 n_ 15) != 0) (bne_iff_ne.2 h15) (gQ b_1 (gJ [0] ⟨rfl,rfl⟩))))))))
theorem w_whoN(c:Cfg)(x ba rb:Nat)(now:Int)(ka ma:Option Addr)(kc mc:Nat)(ps:List Nat)(many:List Int)(A B:Ar)(wh n_:Int)(hc:c.Ok)(hnB:B.ws.length=B.n)(hzB:(B.n:Int)=sizeOfC c)(hnA:A.ws.length=A.n)(hzA:(A.n:Int)=sizeOfC c)(hsA:0≤A.steps∧A.steps≤900000)(hsB:0≤B.steps∧B.steps≤900000)(hwB:U64 (B.ws.getD (ctlAt c 0).toNat 0))(h4:bAnd .i64 wh 4≠0)(h15:bAnd .i64 n_ 15=0)(hbp:¬ctlBlock (B.ws.getD (ctlAt c 0).toNat 0)>0):
  Ctr prog 27 #[vP x,.agg #[vI wh,vI n_]] [Eg x c (vP ba) (vP rb) ka ps.length kc ma many.length mc now,Eb ba A,Ea A,Ed rb B false 0,Ea B] (Ret (vI (-1)) [Eg x c (vP ba) (vP rb) ka ps.length kc ma many.length mc 0,Eb ba ((A.store (ctlAt c 0) (goneW (B.ws.getD (ctlAt c 0).toNat 0))).store (ctlAt c 0) (bornW (goneW (B.ws.getD (ctlAt c 0).toNat 0)))),Ea ((A.store (ctlAt c 0) (goneW (B.ws.getD (ctlAt c 0).toNat 0))).store (ctlAt c 0) (bornW (goneW (B.ws.getD (ctlAt c 0).toNat 0)))),Ed rb ((B.store (ctlAt c 0) (goneW (B.ws.getD (ctlAt c 0).toNat 0))).store (ctlAt c 0) (bornW (goneW (B.ws.getD (ctlAt c 0).toNat 0)))) false 0,Ea ((B.store (ctlAt c 0) (goneW (B.ws.getD (ctlAt c 0).toNat 0))).store (ctlAt c 0) (bornW (goneW (B.ws.getD (ctlAt c 0).toNat 0))))]):=by
 refine cb 72 func27 fun F=>gX [.e 5,.sp [11,10] [.dead] [.e 5,.sp [16,15] [.dead] [.z [0,1,1] 1 [0,3,20]]]] (gN fun b_1=>gQ b_1 (gQ ((bAnd .i64 wh 4)==0) (gF ((bAnd .i64 wh 4)==0) (beq_eq_false_iff_ne.2 h4) (gQ b_1 (gQ ((bAnd .i64 n_ 15) != 0) (gF ((bAnd .i64 n_ 15) != 0) (bne_eq_false_iff_eq.2 h15) (gS [.o [0,1,1] 1,.c [1,1,1]] (gC (some 21) [0,3,4] call35 (w_word c x ba rb now (.slice ka ps.length kc) (.slice ma many.length mc) B hc (by first | assumption | (simp only [Ar.store,List.length_set]; assumption)) hzB) (gX [.z [0,1,1,1] 1 [0,3,5,22]] (gS [.o [0,1,1,1] 1,.c [1,1,1,1]] (gC (some 23) [] call34 (r13_Unpack (B.ws.getD (ctlAt c 0).toNat 0) (by first | exact hwB | exact goneW_rng hwB)) (gX [.sp [26] [.dead] [.z [0,1,1,1,1,1] 2 [0,5,60,61]]] (gF (decide ((ctlBlock (B.ws.getD (ctlAt c 0).toNat 0))>0)) (decide_eq_false hbp) (gS [.o [0,1,1,1,1,1] 2,.c [1,1,1,1,1,1]] (gC (some 62) [] call71 (r13_Gone (B.ws.getD (ctlAt c 0).toNat 0) (by first | exact hwB | exact goneW_rng hwB)) (gC (some 63) [3,0,1,4,5] call69 (w_put c x ba rb now (.slice ka ps.length kc) (.slice ma many.length mc) A B (goneW (B.ws.getD (ctlAt c 0).toNat 0)) hc (by first | assumption | (simp only [Ar.store,List.length_set]; assumption)) hzB (by first | assumption | (simp only [Ar.store,List.length_set]; assumption)) hzA (by first | omega | (simp only [Ar.store]; omega)) (by first | omega | (simp only [Ar.store]; omega))) (gX [.z qbb 2 [0,64,65]] (gS [.o qbb 2,.c qcB] (gC (some 66) [] call71 (r13_Gone (B.ws.getD (ctlAt c 0).toNat 0) (by first | exact hwB | exact goneW_rng hwB)) ?_)))))))))))))))))))
 exact gC (some 67) [] call70 (r13_Born (goneW (B.ws.getD (ctlAt c 0).toNat 0)) (by first | exact hwB | exact goneW_rng hwB)) (gC (some 68) [1,2,3,4,5] call69 (w_put c x ba rb now (.slice ka ps.length kc) (.slice ma many.length mc) (A.store (ctlAt c 0) (goneW (B.ws.getD (ctlAt c 0).toNat 0))) (B.store (ctlAt c 0) (goneW (B.ws.getD (ctlAt c 0).toNat 0))) (bornW (goneW (B.ws.getD (ctlAt c 0).toNat 0))) hc (by first | assumption | (simp only [Ar.store,List.length_set]; assumption)) hzB (by first | assumption | (simp only [Ar.store,List.length_set]; assumption)) hzA (by first | omega | (simp only [Ar.store]; omega)) (by first | omega | (simp only [Ar.store]; omega))) (gX [.e 1] (gQ x (gJ [1,2,3,4,5] ⟨rfl,rfl⟩))))
theorem w_whoS(c:Cfg)(x ba rb:Nat)(now:Int)(ka ma:Option Addr)(kc mc:Nat)(ps:List Nat)(many:List Int)(wh n_:Int)(B:Ar)(y:Nat)(u1 u2 pv sv rv:Value)(ra:Option Addr)(rc:Nat)(id_:Int)(ret:List Int)(hc:c.Ok)(hnB:B.ws.length=B.n)(hzB:(B.n:Int)=sizeOfC c)(hps:ps.length=4)(hwB:U64 (B.ws.getD (ctlAt c 0).toNat 0))(h4:bAnd .i64 wh 4≠0)(h15:bAnd .i64 n_ 15=0)(hbp:ctlBlock (B.ws.getD (ctlAt c 0).toNat 0)>0):
  Ctr prog 27 #[vP x,.agg #[vI wh,vI n_]] [Eg x c (vP ba) (vP rb) ka ps.length kc ma many.length mc now,.sl ka kc encP 0 1 ps 68,EM (ps.getD 0 0) u1 (vP y) u2 pv sv rv ra ret.length rc id_,Ed rb B false 0,Ea B] (Ret (vI (bAnd .i64 wh 3)) [Eg x c (vP ba) (vP rb) ka ps.length kc ma many.length mc now,.sl ka kc encP 0 1 ps 68,EM (ps.getD 0 0) u1 (vP y) u2 pv sv rv ra ret.length rc id_,Ed rb B false 0,Ea B]):=by
 exact cb 72 func27 fun F=>gX [.e 5,.sp [11,10] [.dead] [.e 5,.sp [16,15] [.dead] [.z [0,1,1] 1 [0,3,20]]]] (gN fun b_1=>gQ b_1 (gQ ((bAnd .i64 wh 4)==0) (gF ((bAnd .i64 wh 4)==0) (beq_eq_false_iff_ne.2 h4) (gQ b_1 (gQ ((bAnd .i64 n_ 15) != 0) (gF ((bAnd .i64 n_ 15) != 0) (bne_eq_false_iff_eq.2 h15) (gS [.o [0,1,1] 1,.c [1,1,1]] (gC (some 21) [0,3,4] call35 (w_word c x ba rb now (.slice ka ps.length kc) (.slice ma many.length mc) B hc (by first | assumption | (simp only [Ar.store,List.length_set]; assumption)) hzB) (gX [.z [0,1,1,1] 1 [0,3,5,22]] (gS [.o [0,1,1,1] 1,.c [1,1,1,1]] (gC (some 23) [] call34 (r13_Unpack (B.ws.getD (ctlAt c 0).toNat 0) (by first | exact hwB | exact goneW_rng hwB)) (gX [.sp [26] [.e 3,.s 0,.j 0 0,.e 1,.e 2] [.dead]] (gT (decide ((ctlBlock (B.ws.getD (ctlAt c 0).toNat 0))>0)) (decide_eq_true hbp) (gQ x (gO (ka=ka∧ps.length=ps.length) ⟨rfl,oe⟩ (gO ((0:Int)≤0∧0<(ps.length:Int)) oa (gQ (slAt ka 0 1) (gO (0<ps.length) oW (gQ (ps.getD 0 0) (gQ b_1 (gJ [3,0,1,4,5] ⟨rfl,rfl⟩)))))))))))))))))))))
theorem w_whoR(c:Cfg)(x ba rb:Nat)(now:Int)(ka ma:Option Addr)(kc mc:Nat)(ps:List Nat)(many:List Int)(A B:Ar)(wh n_:Int)(u1 u2 pv sv rv:Value)(ra:Option Addr)(rc:Nat)(id_:Int)(ret:List Int)(hc:c.Ok)(hnB:B.ws.length=B.n)(hzB:(B.n:Int)=sizeOfC c)(hnA:A.ws.length=A.n)(hzA:(A.n:Int)=sizeOfC c)(hsA:0≤A.steps∧A.steps≤900000)(hsB:0≤B.steps∧B.steps≤900000)(hwB:U64 (B.ws.getD (ctlAt c 0).toNat 0))(hps:ps.length=4)(hl:ret.length≤1000)(h4:bAnd .i64 wh 4≠0)(h15:bAnd .i64 n_ 15=0)(hbp:ctlBlock (B.ws.getD (ctlAt c 0).toNat 0)>0):
  Ctr prog 27 #[vP x,.agg #[vI wh,vI n_]] [Eg x c (vP ba) (vP rb) ka ps.length kc ma many.length mc now,.sl ka kc encP 0 1 ps 68,Eam (ps.getD 0 0) u1 u2 pv sv rv ra ret.length rc id_,Ec ra rc ret,Eb ba A,Ea A,Ed rb B false 0,Ea B] (fun v L => ∃(ra2:Option Addr) (rc2:Nat),v=vI (-1)∧L=[Eg x c (vP ba) (vP rb) ka ps.length kc ma many.length mc 0,.sl ka kc encP 0 1 ps 68,Eam (ps.getD 0 0) u1 u2 pv sv rv ra2 ((ret++[ctlBlock (B.ws.getD (ctlAt c 0).toNat 0)]).length) rc2 id_,Ec ra2 rc2 (ret++[ctlBlock (B.ws.getD (ctlAt c 0).toNat 0)]),Eb ba ((A.store (ctlAt c 0) (goneW (B.ws.getD (ctlAt c 0).toNat 0))).store (ctlAt c 0) (bornW (goneW (B.ws.getD (ctlAt c 0).toNat 0)))),Ea ((A.store (ctlAt c 0) (goneW (B.ws.getD (ctlAt c 0).toNat 0))).store (ctlAt c 0) (bornW (goneW (B.ws.getD (ctlAt c 0).toNat 0)))),Ed rb ((B.store (ctlAt c 0) (goneW (B.ws.getD (ctlAt c 0).toNat 0))).store (ctlAt c 0) (bornW (goneW (B.ws.getD (ctlAt c 0).toNat 0)))) false 0,Ea ((B.store (ctlAt c 0) (goneW (B.ws.getD (ctlAt c 0).toNat 0))).store (ctlAt c 0) (bornW (goneW (B.ws.getD (ctlAt c 0).toNat 0))))]):=by
 refine cb 72 func27 fun F=>gX [.e 8,.sp [11,10] [.dead] [.e 8,.sp [16,15] [.dead] [.z [0,1,1] 1 [0,3,20]]]] (gN fun b_1=>gQ b_1 (gQ ((bAnd .i64 wh 4)==0) (gF ((bAnd .i64 wh 4)==0) (beq_eq_false_iff_ne.2 h4) (gQ b_1 (gQ ((bAnd .i64 n_ 15) != 0) (gF ((bAnd .i64 n_ 15) != 0) (bne_eq_false_iff_eq.2 h15) (gS [.o [0,1,1] 1,.c [1,1,1]] (gC (some 21) [0,6,7] call35 (w_word c x ba rb now (.slice ka ps.length kc) (.slice ma many.length mc) B hc (by first | assumption | (simp only [Ar.store,List.length_set]; assumption)) hzB) (gX [.z [0,1,1,1] 1 [0,3,5,22]] (gS [.o [0,1,1,1] 1,.c [1,1,1,1]] (gC (some 23) [] call34 (r13_Unpack (B.ws.getD (ctlAt c 0).toNat 0) (by first | exact hwB | exact goneW_rng hwB)) (gX [.sp [26] [.e 6,.s 0,.j 0 0,.e 1,.z qcC 0 [0,5,6]] [.dead]] (gT (decide ((ctlBlock (B.ws.getD (ctlAt c 0).toNat 0))>0)) (decide_eq_true hbp) (gQ x (gO (ka=ka∧ps.length=ps.length) ⟨rfl,oe⟩ (gO ((0:Int)≤0∧0<(ps.length:Int)) oa (gQ (slAt ka 0 1) (gO (0<ps.length) oW (gQ (ps.getD 0 0) (gS [.c qcC,.c [1,1,1,1,1]] (zG (zN [0,1,2,3,4,5,6,7,8,9,10,11,12,13,14,15] (kV 0 [.w,.w,.w,.e 6,.h (.s 0),.h (.j 0 0),.w,.w,.w,.e 6,.h (.s 0),.h (.j 0 0),.w,.w,.e 1,.w]) [0,5,6,40,41,42,43,44,45,46,47,48,49,50,51,52,53,54,55] [16] (.e x (.p (ka=ka∧ps.length=ps.length) ⟨rfl,oe⟩ (.p ((0:Int)≤0∧0<(ps.length:Int)) oa (.e (slAt ka 0 1) (.p (0<ps.length) oW (.e x (.p (ka=ka∧ps.length=ps.length) ⟨rfl,oe⟩ (.p ((0:Int)≤0∧0<(ps.length:Int)) oa (.e (slAt ka 0 1) (.p (0<ps.length) oW (.e (ps.getD 0 0) .n))))))))))) ⟨?_,trivial⟩))))))))))))))))))))))
 refine zX .w (sN fun b_16_1=>(sV ?_))
 refine zN [] (kV 0 [.w,.w,.w,.e 6,.h (.s 0),.h (.j 0 0),.w,.w,.w,.e 6,.h (.s 0),.h (.j 0 0),.w,.w,.e 1]) [56,0,5,40,41,42,43,44,45,46,47,48,49,50,51,52,53,54] [17] (.e x (.p (ka=ka∧ps.length=ps.length) ⟨rfl,oe⟩ (.p ((0:Int)≤0∧0<(ps.length:Int)) oa (.e (slAt ka 0 1) (.p (0<ps.length) oW (.e x (.p (ka=ka∧ps.length=ps.length) ⟨rfl,oe⟩ (.p ((0:Int)≤0∧0<(ps.length:Int)) oa (.e (slAt ka 0 1) (.p (0<ps.length) oW (.e (ps.getD 0 0) .n))))))))))) ⟨?_,trivial⟩
 refine zB (some 57) (appO prog _) (some (.slice ra (ret).length rc,.slice (some ⟨b_16_1,0,none⟩) 1 1,(3,1,8))) (R_append 2 (a:=ra) (c:=rc) (enc:=encI .i64) (d:=0) (sz:=1) (xs:=ret) (te:=3) kR (.slice (some ⟨b_16_1,0,none⟩) 1 1) [(ctlBlock (B.ws.getD (ctlAt c 0).toNat 0))] (src_pts (i:=9) (t:=3) kR) (oneI _) 8 oW oW) ?_
 rintro v L2 ⟨a_17_1,c_17_1,rfl,rfl⟩
 refine zN [18,19] (kV 0 [.w,.w,.w,.e 6,.h (.s 0),.h (.j 0 0)]++kV 18 [.w,.w]) [57,0,5,40,41,42,43,44,45,58,59] [20] (.e x (.p (ka=ka∧ps.length=ps.length) ⟨rfl,oe⟩ (.p ((0:Int)≤0∧0<(ps.length:Int)) oa (.e (slAt ka 0 1) (.p (0<ps.length) oW .n))))) ⟨?_,trivial⟩
 refine zX (.e 1) (sQ (ps.getD 0 0) (sK ?_))
 exact zE [] [] [0,5] .n (gX [.z [0,1,1,1,1,1] 2 [0,5,60,61]] (gS [.o [0,1,1,1,1,1] 2,.c [1,1,1,1,1,1]] (gC (some 62) [] call71 (r13_Gone (B.ws.getD (ctlAt c 0).toNat 0) (by first | exact hwB | exact goneW_rng hwB)) (gC (some 63) [6,3,4,7,8] call69 (w_put c x ba rb now (.slice ka ps.length kc) (.slice ma many.length mc) A B (goneW (B.ws.getD (ctlAt c 0).toNat 0)) hc (by first | assumption | (simp only [Ar.store,List.length_set]; assumption)) hzB (by first | assumption | (simp only [Ar.store,List.length_set]; assumption)) hzA (by first | omega | (simp only [Ar.store]; omega)) (by first | omega | (simp only [Ar.store]; omega))) (gX [.z qbb 2 [0,64,65]] (gS [.o qbb 2,.c qcB] (gC (some 66) [] call71 (r13_Gone (B.ws.getD (ctlAt c 0).toNat 0) (by first | exact hwB | exact goneW_rng hwB)) (gC (some 67) [] call70 (r13_Born (goneW (B.ws.getD (ctlAt c 0).toNat 0)) (by first | exact hwB | exact goneW_rng hwB)) (gC (some 68) [5,6,7,8,9] call69 (w_put c x ba rb now (.slice ka ps.length kc) (.slice ma many.length mc) (A.store (ctlAt c 0) (goneW (B.ws.getD (ctlAt c 0).toNat 0))) (B.store (ctlAt c 0) (goneW (B.ws.getD (ctlAt c 0).toNat 0))) (bornW (goneW (B.ws.getD (ctlAt c 0).toNat 0))) hc (by first | assumption | (simp only [Ar.store,List.length_set]; assumption)) hzB (by first | assumption | (simp only [Ar.store,List.length_set]; assumption)) hzA (by first | omega | (simp only [Ar.store]; omega)) (by first | omega | (simp only [Ar.store]; omega))) (gX [.e 5] (gQ x (gJ [5,0,1,2,6,7,8,9] ⟨a_17_1,c_17_1,rfl,rfl⟩))))))))))))
end Go.Proofs.YtpcaijopodhdgaaGreatDoor

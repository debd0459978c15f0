/-
  Closed facts on the types and functions of this program: written by a program of this session (wip/tools/ty.py).
-/
import Derived.Test.YtdpbgmbicdgdbaaProg
import Derived.Test.YtdpbgmbicdgdbaaJ
namespace Go.Proofs.Ytdpbgmbicdgdbaa
namespace Ty
open Go.J
theorem mixed : Try.prog.follows .mixedOrders = true := by kernel_rfl
theorem u2 : Try.prog.underlying 2 = some (.int .i64) := by kernel_rfl
theorem a2 : aggT Try.prog 2 = some false := by kernel_rfl
theorem s2 : sizeT Try.prog 2 = some 1 := by kernel_rfl
theorem b2 : bytesT Try.prog 2 = some 8 := by kernel_rfl
theorem z2 : zeroT Try.prog 2 = some (.int .i64 0) := by kernel_rfl
theorem u3 : Try.prog.underlying 3 = some (.int .i64) := by kernel_rfl
theorem a3 : aggT Try.prog 3 = some false := by kernel_rfl
theorem s3 : sizeT Try.prog 3 = some 1 := by kernel_rfl
theorem b3 : bytesT Try.prog 3 = some 8 := by kernel_rfl
theorem z3 : zeroT Try.prog 3 = some (.int .i64 0) := by kernel_rfl
theorem u4 : Try.prog.underlying 4 = some (.bool) := by kernel_rfl
theorem a4 : aggT Try.prog 4 = some false := by kernel_rfl
theorem s4 : sizeT Try.prog 4 = some 1 := by kernel_rfl
theorem b4 : bytesT Try.prog 4 = some 1 := by kernel_rfl
theorem z4 : zeroT Try.prog 4 = some (.bool false) := by kernel_rfl
theorem u5 : Try.prog.underlying 5 = some (.int .u8) := by kernel_rfl
theorem a5 : aggT Try.prog 5 = some false := by kernel_rfl
theorem s5 : sizeT Try.prog 5 = some 1 := by kernel_rfl
theorem b5 : bytesT Try.prog 5 = some 1 := by kernel_rfl
theorem z5 : zeroT Try.prog 5 = some (.int .u8 0) := by kernel_rfl
theorem u6 : Try.prog.underlying 6 = some (.int .u8) := by kernel_rfl
theorem a6 : aggT Try.prog 6 = some false := by kernel_rfl
theorem s6 : sizeT Try.prog 6 = some 1 := by kernel_rfl
theorem b6 : bytesT Try.prog 6 = some 1 := by kernel_rfl
theorem z6 : zeroT Try.prog 6 = some (.int .u8 0) := by kernel_rfl
theorem a7 : aggT Try.prog 7 = some true := by kernel_rfl
theorem s7 : sizeT Try.prog 7 = some 4 := by kernel_rfl
theorem b7 : bytesT Try.prog 7 = some 24 := by kernel_rfl
theorem z7 : zeroT Try.prog 7 = some (.agg ([.int .i64 0, .int .i64 0, .bool false, .int .u8 0] : List Value).toArray) := by kernel_rfl
theorem pl7 : placesT Try.prog 7 = some [(0, 1), (1, 1), (2, 1), (3, 1)] := by kernel_rfl
theorem fd7_0 : fieldT Try.prog 7 0 = some 0 := by kernel_rfl
theorem fd7_1 : fieldT Try.prog 7 1 = some 1 := by kernel_rfl
theorem fd7_2 : fieldT Try.prog 7 2 = some 2 := by kernel_rfl
theorem fd7_3 : fieldT Try.prog 7 3 = some 3 := by kernel_rfl
theorem a8 : aggT Try.prog 8 = some true := by kernel_rfl
theorem s8 : sizeT Try.prog 8 = some 4 := by kernel_rfl
theorem b8 : bytesT Try.prog 8 = some 24 := by kernel_rfl
theorem z8 : zeroT Try.prog 8 = some (.agg ([.int .i64 0, .int .i64 0, .bool false, .int .u8 0] : List Value).toArray) := by kernel_rfl
theorem pl8 : placesT Try.prog 8 = some [(0, 1), (1, 1), (2, 1), (3, 1)] := by kernel_rfl
theorem fd8_0 : fieldT Try.prog 8 0 = some 0 := by kernel_rfl
theorem fd8_1 : fieldT Try.prog 8 1 = some 1 := by kernel_rfl
theorem fd8_2 : fieldT Try.prog 8 2 = some 2 := by kernel_rfl
theorem fd8_3 : fieldT Try.prog 8 3 = some 3 := by kernel_rfl
theorem u9 : Try.prog.underlying 9 = some (.string) := by kernel_rfl
theorem a9 : aggT Try.prog 9 = some false := by kernel_rfl
theorem s9 : sizeT Try.prog 9 = some 1 := by kernel_rfl
theorem b9 : bytesT Try.prog 9 = some 16 := by kernel_rfl
theorem z9 : zeroT Try.prog 9 = some (.string ByteArray.empty) := by kernel_rfl
theorem u10 : Try.prog.underlying 10 = some (.string) := by kernel_rfl
theorem a10 : aggT Try.prog 10 = some false := by kernel_rfl
theorem s10 : sizeT Try.prog 10 = some 1 := by kernel_rfl
theorem b10 : bytesT Try.prog 10 = some 16 := by kernel_rfl
theorem z10 : zeroT Try.prog 10 = some (.string ByteArray.empty) := by kernel_rfl
theorem u11 : Try.prog.underlying 11 = some (.string) := by kernel_rfl
theorem a11 : aggT Try.prog 11 = some false := by kernel_rfl
theorem s11 : sizeT Try.prog 11 = some 1 := by kernel_rfl
theorem b11 : bytesT Try.prog 11 = some 16 := by kernel_rfl
theorem z11 : zeroT Try.prog 11 = some (.string ByteArray.empty) := by kernel_rfl
theorem u12 : Try.prog.underlying 12 = some (.int .u64) := by kernel_rfl
theorem a12 : aggT Try.prog 12 = some false := by kernel_rfl
theorem s12 : sizeT Try.prog 12 = some 1 := by kernel_rfl
theorem b12 : bytesT Try.prog 12 = some 8 := by kernel_rfl
theorem z12 : zeroT Try.prog 12 = some (.int .u64 0) := by kernel_rfl
theorem a13 : aggT Try.prog 13 = some true := by kernel_rfl
theorem s13 : sizeT Try.prog 13 = some 2 := by kernel_rfl
theorem b13 : bytesT Try.prog 13 = some 24 := by kernel_rfl
theorem z13 : zeroT Try.prog 13 = some (.agg ([.string ByteArray.empty, .int .u64 0] : List Value).toArray) := by kernel_rfl
theorem pl13 : placesT Try.prog 13 = some [(0, 1), (1, 1)] := by kernel_rfl
theorem fd13_0 : fieldT Try.prog 13 0 = some 0 := by kernel_rfl
theorem fd13_1 : fieldT Try.prog 13 1 = some 1 := by kernel_rfl
theorem a14 : aggT Try.prog 14 = some true := by kernel_rfl
theorem s14 : sizeT Try.prog 14 = some 2 := by kernel_rfl
theorem b14 : bytesT Try.prog 14 = some 24 := by kernel_rfl
theorem z14 : zeroT Try.prog 14 = some (.agg ([.string ByteArray.empty, .int .u64 0] : List Value).toArray) := by kernel_rfl
theorem pl14 : placesT Try.prog 14 = some [(0, 1), (1, 1)] := by kernel_rfl
theorem fd14_0 : fieldT Try.prog 14 0 = some 0 := by kernel_rfl
theorem fd14_1 : fieldT Try.prog 14 1 = some 1 := by kernel_rfl
theorem u15 : Try.prog.underlying 15 = some (.pointer 114) := by kernel_rfl
theorem a15 : aggT Try.prog 15 = some false := by kernel_rfl
theorem s15 : sizeT Try.prog 15 = some 1 := by kernel_rfl
theorem b15 : bytesT Try.prog 15 = some 8 := by kernel_rfl
theorem z15 : zeroT Try.prog 15 = some (.pointer none) := by kernel_rfl
theorem u16 : Try.prog.underlying 16 = some (.pointer 117) := by kernel_rfl
theorem a16 : aggT Try.prog 16 = some false := by kernel_rfl
theorem s16 : sizeT Try.prog 16 = some 1 := by kernel_rfl
theorem b16 : bytesT Try.prog 16 = some 8 := by kernel_rfl
theorem z16 : zeroT Try.prog 16 = some (.pointer none) := by kernel_rfl
theorem u17 : Try.prog.underlying 17 = some (.pointer 126) := by kernel_rfl
theorem a17 : aggT Try.prog 17 = some false := by kernel_rfl
theorem s17 : sizeT Try.prog 17 = some 1 := by kernel_rfl
theorem b17 : bytesT Try.prog 17 = some 8 := by kernel_rfl
theorem z17 : zeroT Try.prog 17 = some (.pointer none) := by kernel_rfl
theorem a18 : aggT Try.prog 18 = some true := by kernel_rfl
theorem s18 : sizeT Try.prog 18 = some 1 := by kernel_rfl
theorem b18 : bytesT Try.prog 18 = some 8 := by kernel_rfl
theorem z18 : zeroT Try.prog 18 = some (.agg ([.pointer none] : List Value).toArray) := by kernel_rfl
theorem pl18 : placesT Try.prog 18 = some [(0, 1)] := by kernel_rfl
theorem fd18_0 : fieldT Try.prog 18 0 = some 0 := by kernel_rfl
theorem a19 : aggT Try.prog 19 = some true := by kernel_rfl
theorem s19 : sizeT Try.prog 19 = some 1 := by kernel_rfl
theorem b19 : bytesT Try.prog 19 = some 8 := by kernel_rfl
theorem z19 : zeroT Try.prog 19 = some (.agg ([.pointer none] : List Value).toArray) := by kernel_rfl
theorem pl19 : placesT Try.prog 19 = some [(0, 1)] := by kernel_rfl
theorem fd19_0 : fieldT Try.prog 19 0 = some 0 := by kernel_rfl
theorem a20 : aggT Try.prog 20 = some false := by kernel_rfl
theorem s20 : sizeT Try.prog 20 = some 1 := by kernel_rfl
theorem b20 : bytesT Try.prog 20 = some 16 := by kernel_rfl
theorem z20 : zeroT Try.prog 20 = some (.nilIface) := by kernel_rfl
theorem u21 : Try.prog.underlying 21 = some (.int .i32) := by kernel_rfl
theorem a21 : aggT Try.prog 21 = some false := by kernel_rfl
theorem s21 : sizeT Try.prog 21 = some 1 := by kernel_rfl
theorem b21 : bytesT Try.prog 21 = some 4 := by kernel_rfl
theorem z21 : zeroT Try.prog 21 = some (.int .i32 0) := by kernel_rfl
theorem u22 : Try.prog.underlying 22 = some (.array 16 5) := by kernel_rfl
theorem a22 : aggT Try.prog 22 = some true := by kernel_rfl
theorem s22 : sizeT Try.prog 22 = some 16 := by kernel_rfl
theorem b22 : bytesT Try.prog 22 = some 16 := by kernel_rfl
theorem z22 : zeroT Try.prog 22 = some (.agg (List.replicate 16 (.int .u8 0) : List Value).toArray) := by kernel_rfl
theorem ar22 : arrT Try.prog 22 = some (16, 5) := by kernel_rfl
theorem u23 : Try.prog.underlying 23 = some (.array 16 5) := by kernel_rfl
theorem a23 : aggT Try.prog 23 = some true := by kernel_rfl
theorem s23 : sizeT Try.prog 23 = some 16 := by kernel_rfl
theorem b23 : bytesT Try.prog 23 = some 16 := by kernel_rfl
theorem z23 : zeroT Try.prog 23 = some (.agg (List.replicate 16 (.int .u8 0) : List Value).toArray) := by kernel_rfl
theorem ar23 : arrT Try.prog 23 = some (16, 5) := by kernel_rfl
theorem u24 : Try.prog.underlying 24 = some (.slice 23) := by kernel_rfl
theorem a24 : aggT Try.prog 24 = some false := by kernel_rfl
theorem s24 : sizeT Try.prog 24 = some 1 := by kernel_rfl
theorem b24 : bytesT Try.prog 24 = some 24 := by kernel_rfl
theorem z24 : zeroT Try.prog 24 = some (.slice none 0 0) := by kernel_rfl
theorem el24 : elemT Try.prog 24 = some 23 := by kernel_rfl
theorem u37 : Try.prog.underlying 37 = some (.int .u64) := by kernel_rfl
theorem a37 : aggT Try.prog 37 = some false := by kernel_rfl
theorem s37 : sizeT Try.prog 37 = some 1 := by kernel_rfl
theorem b37 : bytesT Try.prog 37 = some 8 := by kernel_rfl
theorem z37 : zeroT Try.prog 37 = some (.int .u64 0) := by kernel_rfl
theorem u42 : Try.prog.underlying 42 = some (.array 2 23) := by kernel_rfl
theorem a42 : aggT Try.prog 42 = some true := by kernel_rfl
theorem s42 : sizeT Try.prog 42 = some 32 := by kernel_rfl
theorem b42 : bytesT Try.prog 42 = some 32 := by kernel_rfl
theorem z42 : zeroT Try.prog 42 = some (.agg (List.replicate 32 (.int .u8 0) : List Value).toArray) := by kernel_rfl
theorem ar42 : arrT Try.prog 42 = some (2, 23) := by kernel_rfl
theorem u45 : Try.prog.underlying 45 = some (.slice 52) := by kernel_rfl
theorem a45 : aggT Try.prog 45 = some false := by kernel_rfl
theorem s45 : sizeT Try.prog 45 = some 1 := by kernel_rfl
theorem b45 : bytesT Try.prog 45 = some 24 := by kernel_rfl
theorem z45 : zeroT Try.prog 45 = some (.slice none 0 0) := by kernel_rfl
theorem el45 : elemT Try.prog 45 = some 52 := by kernel_rfl
theorem a46 : aggT Try.prog 46 = some true := by kernel_rfl
theorem s46 : sizeT Try.prog 46 = some 19 := by kernel_rfl
theorem b46 : bytesT Try.prog 46 = some 72 := by kernel_rfl
theorem z46 : zeroT Try.prog 46 = some (.agg (List.replicate 16 (.int .u8 0) ++ [.slice none 0 0, .slice none 0 0, .int .i64 0] : List Value).toArray) := by kernel_rfl
theorem pl46 : placesT Try.prog 46 = some [(0, 16), (16, 1), (17, 1), (18, 1)] := by kernel_rfl
theorem fd46_0 : fieldT Try.prog 46 0 = some 0 := by kernel_rfl
theorem fd46_1 : fieldT Try.prog 46 1 = some 16 := by kernel_rfl
theorem fd46_2 : fieldT Try.prog 46 2 = some 17 := by kernel_rfl
theorem fd46_3 : fieldT Try.prog 46 3 = some 18 := by kernel_rfl
theorem a47 : aggT Try.prog 47 = some true := by kernel_rfl
theorem s47 : sizeT Try.prog 47 = some 19 := by kernel_rfl
theorem b47 : bytesT Try.prog 47 = some 72 := by kernel_rfl
theorem z47 : zeroT Try.prog 47 = some (.agg (List.replicate 16 (.int .u8 0) ++ [.slice none 0 0, .slice none 0 0, .int .i64 0] : List Value).toArray) := by kernel_rfl
theorem pl47 : placesT Try.prog 47 = some [(0, 16), (16, 1), (17, 1), (18, 1)] := by kernel_rfl
theorem fd47_0 : fieldT Try.prog 47 0 = some 0 := by kernel_rfl
theorem fd47_1 : fieldT Try.prog 47 1 = some 16 := by kernel_rfl
theorem fd47_2 : fieldT Try.prog 47 2 = some 17 := by kernel_rfl
theorem fd47_3 : fieldT Try.prog 47 3 = some 18 := by kernel_rfl
theorem a49 : aggT Try.prog 49 = some true := by kernel_rfl
theorem s49 : sizeT Try.prog 49 = some 17 := by kernel_rfl
theorem b49 : bytesT Try.prog 49 = some 24 := by kernel_rfl
theorem z49 : zeroT Try.prog 49 = some (.agg (List.replicate 16 (.int .u8 0) ++ [.int .i64 0] : List Value).toArray) := by kernel_rfl
theorem pl49 : placesT Try.prog 49 = some [(0, 16), (16, 1)] := by kernel_rfl
theorem fd49_0 : fieldT Try.prog 49 0 = some 0 := by kernel_rfl
theorem fd49_1 : fieldT Try.prog 49 1 = some 16 := by kernel_rfl
theorem a50 : aggT Try.prog 50 = some true := by kernel_rfl
theorem s50 : sizeT Try.prog 50 = some 17 := by kernel_rfl
theorem b50 : bytesT Try.prog 50 = some 24 := by kernel_rfl
theorem z50 : zeroT Try.prog 50 = some (.agg (List.replicate 16 (.int .u8 0) ++ [.int .i64 0] : List Value).toArray) := by kernel_rfl
theorem pl50 : placesT Try.prog 50 = some [(0, 16), (16, 1)] := by kernel_rfl
theorem fd50_0 : fieldT Try.prog 50 0 = some 0 := by kernel_rfl
theorem fd50_1 : fieldT Try.prog 50 1 = some 16 := by kernel_rfl
theorem a51 : aggT Try.prog 51 = some true := by kernel_rfl
theorem s51 : sizeT Try.prog 51 = some 35 := by kernel_rfl
theorem b51 : bytesT Try.prog 51 = some 56 := by kernel_rfl
theorem z51 : zeroT Try.prog 51 = some (.agg (List.replicate 16 (.int .u8 0) ++ [.int .i64 0, .int .i64 0] ++ List.replicate 16 (.int .u8 0) ++ [.int .i64 0] : List Value).toArray) := by kernel_rfl
theorem pl51 : placesT Try.prog 51 = some [(0, 16), (16, 1), (17, 1), (18, 17)] := by kernel_rfl
theorem fd51_0 : fieldT Try.prog 51 0 = some 0 := by kernel_rfl
theorem fd51_1 : fieldT Try.prog 51 1 = some 16 := by kernel_rfl
theorem fd51_2 : fieldT Try.prog 51 2 = some 17 := by kernel_rfl
theorem fd51_3 : fieldT Try.prog 51 3 = some 18 := by kernel_rfl
theorem a52 : aggT Try.prog 52 = some true := by kernel_rfl
theorem s52 : sizeT Try.prog 52 = some 35 := by kernel_rfl
theorem b52 : bytesT Try.prog 52 = some 56 := by kernel_rfl
theorem z52 : zeroT Try.prog 52 = some (.agg (List.replicate 16 (.int .u8 0) ++ [.int .i64 0, .int .i64 0] ++ List.replicate 16 (.int .u8 0) ++ [.int .i64 0] : List Value).toArray) := by kernel_rfl
theorem pl52 : placesT Try.prog 52 = some [(0, 16), (16, 1), (17, 1), (18, 17)] := by kernel_rfl
theorem fd52_0 : fieldT Try.prog 52 0 = some 0 := by kernel_rfl
theorem fd52_1 : fieldT Try.prog 52 1 = some 16 := by kernel_rfl
theorem fd52_2 : fieldT Try.prog 52 2 = some 17 := by kernel_rfl
theorem fd52_3 : fieldT Try.prog 52 3 = some 18 := by kernel_rfl
theorem u53 : Try.prog.underlying 53 = some (.slice 57) := by kernel_rfl
theorem a53 : aggT Try.prog 53 = some false := by kernel_rfl
theorem s53 : sizeT Try.prog 53 = some 1 := by kernel_rfl
theorem b53 : bytesT Try.prog 53 = some 24 := by kernel_rfl
theorem z53 : zeroT Try.prog 53 = some (.slice none 0 0) := by kernel_rfl
theorem el53 : elemT Try.prog 53 = some 57 := by kernel_rfl
theorem a57 : aggT Try.prog 57 = some true := by kernel_rfl
theorem s57 : sizeT Try.prog 57 = some 35 := by kernel_rfl
theorem b57 : bytesT Try.prog 57 = some 56 := by kernel_rfl
theorem z57 : zeroT Try.prog 57 = some (.agg (List.replicate 16 (.int .u8 0) ++ [.int .i64 0, .int .i64 0] ++ List.replicate 16 (.int .u8 0) ++ [.int .i64 0] : List Value).toArray) := by kernel_rfl
theorem pl57 : placesT Try.prog 57 = some [(0, 16), (16, 1), (17, 1), (18, 17)] := by kernel_rfl
theorem fd57_0 : fieldT Try.prog 57 0 = some 0 := by kernel_rfl
theorem fd57_1 : fieldT Try.prog 57 1 = some 16 := by kernel_rfl
theorem fd57_2 : fieldT Try.prog 57 2 = some 17 := by kernel_rfl
theorem fd57_3 : fieldT Try.prog 57 3 = some 18 := by kernel_rfl
theorem u75 : Try.prog.underlying 75 = some (.int .u64) := by kernel_rfl
theorem a75 : aggT Try.prog 75 = some false := by kernel_rfl
theorem s75 : sizeT Try.prog 75 = some 1 := by kernel_rfl
theorem b75 : bytesT Try.prog 75 = some 8 := by kernel_rfl
theorem z75 : zeroT Try.prog 75 = some (.int .u64 0) := by kernel_rfl
theorem u81 : Try.prog.underlying 81 = some (.slice 5) := by kernel_rfl
theorem a81 : aggT Try.prog 81 = some false := by kernel_rfl
theorem s81 : sizeT Try.prog 81 = some 1 := by kernel_rfl
theorem b81 : bytesT Try.prog 81 = some 24 := by kernel_rfl
theorem z81 : zeroT Try.prog 81 = some (.slice none 0 0) := by kernel_rfl
theorem el81 : elemT Try.prog 81 = some 5 := by kernel_rfl
theorem u90 : Try.prog.underlying 90 = some (.int .i64) := by kernel_rfl
theorem a90 : aggT Try.prog 90 = some false := by kernel_rfl
theorem s90 : sizeT Try.prog 90 = some 1 := by kernel_rfl
theorem b90 : bytesT Try.prog 90 = some 8 := by kernel_rfl
theorem z90 : zeroT Try.prog 90 = some (.int .i64 0) := by kernel_rfl
theorem u98 : Try.prog.underlying 98 = some (.int .u32) := by kernel_rfl
theorem a98 : aggT Try.prog 98 = some false := by kernel_rfl
theorem s98 : sizeT Try.prog 98 = some 1 := by kernel_rfl
theorem b98 : bytesT Try.prog 98 = some 4 := by kernel_rfl
theorem z98 : zeroT Try.prog 98 = some (.int .u32 0) := by kernel_rfl
theorem u103 : Try.prog.underlying 103 = some (.int .u64) := by kernel_rfl
theorem a103 : aggT Try.prog 103 = some false := by kernel_rfl
theorem s103 : sizeT Try.prog 103 = some 1 := by kernel_rfl
theorem b103 : bytesT Try.prog 103 = some 8 := by kernel_rfl
theorem z103 : zeroT Try.prog 103 = some (.int .u64 0) := by kernel_rfl
theorem u107 : Try.prog.underlying 107 = some (.pointer 3) := by kernel_rfl
theorem a107 : aggT Try.prog 107 = some false := by kernel_rfl
theorem s107 : sizeT Try.prog 107 = some 1 := by kernel_rfl
theorem b107 : bytesT Try.prog 107 = some 8 := by kernel_rfl
theorem z107 : zeroT Try.prog 107 = some (.pointer none) := by kernel_rfl
theorem u109 : Try.prog.underlying 109 = some (.pointer 103) := by kernel_rfl
theorem a109 : aggT Try.prog 109 = some false := by kernel_rfl
theorem s109 : sizeT Try.prog 109 = some 1 := by kernel_rfl
theorem b109 : bytesT Try.prog 109 = some 8 := by kernel_rfl
theorem z109 : zeroT Try.prog 109 = some (.pointer none) := by kernel_rfl
theorem a113 : aggT Try.prog 113 = some true := by kernel_rfl
theorem s113 : sizeT Try.prog 113 = some 4 := by kernel_rfl
theorem b113 : bytesT Try.prog 113 = some 40 := by kernel_rfl
theorem z113 : zeroT Try.prog 113 = some (.agg ([.pointer none, .pointer none, .pointer none, .string ByteArray.empty] : List Value).toArray) := by kernel_rfl
theorem pl113 : placesT Try.prog 113 = some [(0, 1), (1, 1), (2, 1), (3, 1)] := by kernel_rfl
theorem fd113_0 : fieldT Try.prog 113 0 = some 0 := by kernel_rfl
theorem fd113_1 : fieldT Try.prog 113 1 = some 1 := by kernel_rfl
theorem fd113_2 : fieldT Try.prog 113 2 = some 2 := by kernel_rfl
theorem fd113_3 : fieldT Try.prog 113 3 = some 3 := by kernel_rfl
theorem a114 : aggT Try.prog 114 = some true := by kernel_rfl
theorem s114 : sizeT Try.prog 114 = some 4 := by kernel_rfl
theorem b114 : bytesT Try.prog 114 = some 40 := by kernel_rfl
theorem z114 : zeroT Try.prog 114 = some (.agg ([.pointer none, .pointer none, .pointer none, .string ByteArray.empty] : List Value).toArray) := by kernel_rfl
theorem pl114 : placesT Try.prog 114 = some [(0, 1), (1, 1), (2, 1), (3, 1)] := by kernel_rfl
theorem fd114_0 : fieldT Try.prog 114 0 = some 0 := by kernel_rfl
theorem fd114_1 : fieldT Try.prog 114 1 = some 1 := by kernel_rfl
theorem fd114_2 : fieldT Try.prog 114 2 = some 2 := by kernel_rfl
theorem fd114_3 : fieldT Try.prog 114 3 = some 3 := by kernel_rfl
theorem u115 : Try.prog.underlying 115 = some (.array 0 16) := by kernel_rfl
theorem a115 : aggT Try.prog 115 = some true := by kernel_rfl
theorem s115 : sizeT Try.prog 115 = some 0 := by kernel_rfl
theorem b115 : bytesT Try.prog 115 = some 0 := by kernel_rfl
theorem z115 : zeroT Try.prog 115 = some (.agg ([] : List Value).toArray) := by kernel_rfl
theorem ar115 : arrT Try.prog 115 = some (0, 16) := by kernel_rfl
theorem a116 : aggT Try.prog 116 = some true := by kernel_rfl
theorem s116 : sizeT Try.prog 116 = some 0 := by kernel_rfl
theorem b116 : bytesT Try.prog 116 = some 0 := by kernel_rfl
theorem z116 : zeroT Try.prog 116 = some (.agg ([] : List Value).toArray) := by kernel_rfl
theorem pl116 : placesT Try.prog 116 = some [(0, 0)] := by kernel_rfl
theorem a117 : aggT Try.prog 117 = some true := by kernel_rfl
theorem s117 : sizeT Try.prog 117 = some 0 := by kernel_rfl
theorem b117 : bytesT Try.prog 117 = some 0 := by kernel_rfl
theorem z117 : zeroT Try.prog 117 = some (.agg ([] : List Value).toArray) := by kernel_rfl
theorem pl117 : placesT Try.prog 117 = some [(0, 0)] := by kernel_rfl
theorem u119 : Try.prog.underlying 119 = some (.int .u8) := by kernel_rfl
theorem a119 : aggT Try.prog 119 = some false := by kernel_rfl
theorem s119 : sizeT Try.prog 119 = some 1 := by kernel_rfl
theorem b119 : bytesT Try.prog 119 = some 1 := by kernel_rfl
theorem z119 : zeroT Try.prog 119 = some (.int .u8 0) := by kernel_rfl
theorem u120 : Try.prog.underlying 120 = some (.int .u8) := by kernel_rfl
theorem a120 : aggT Try.prog 120 = some false := by kernel_rfl
theorem s120 : sizeT Try.prog 120 = some 1 := by kernel_rfl
theorem b120 : bytesT Try.prog 120 = some 1 := by kernel_rfl
theorem z120 : zeroT Try.prog 120 = some (.int .u8 0) := by kernel_rfl
theorem u122 : Try.prog.underlying 122 = some (.pointer 5) := by kernel_rfl
theorem a122 : aggT Try.prog 122 = some false := by kernel_rfl
theorem s122 : sizeT Try.prog 122 = some 1 := by kernel_rfl
theorem b122 : bytesT Try.prog 122 = some 8 := by kernel_rfl
theorem z122 : zeroT Try.prog 122 = some (.pointer none) := by kernel_rfl
theorem u123 : Try.prog.underlying 123 = some (.int .i32) := by kernel_rfl
theorem a123 : aggT Try.prog 123 = some false := by kernel_rfl
theorem s123 : sizeT Try.prog 123 = some 1 := by kernel_rfl
theorem b123 : bytesT Try.prog 123 = some 4 := by kernel_rfl
theorem z123 : zeroT Try.prog 123 = some (.int .i32 0) := by kernel_rfl
theorem u124 : Try.prog.underlying 124 = some (.int .i32) := by kernel_rfl
theorem a124 : aggT Try.prog 124 = some false := by kernel_rfl
theorem s124 : sizeT Try.prog 124 = some 1 := by kernel_rfl
theorem b124 : bytesT Try.prog 124 = some 4 := by kernel_rfl
theorem z124 : zeroT Try.prog 124 = some (.int .i32 0) := by kernel_rfl
theorem a125 : aggT Try.prog 125 = some true := by kernel_rfl
theorem s125 : sizeT Try.prog 125 = some 11 := by kernel_rfl
theorem b125 : bytesT Try.prog 125 = some 48 := by kernel_rfl
theorem z125 : zeroT Try.prog 125 = some (.agg ([.int .u64 0, .int .u64 0, .int .u32 0] ++ List.replicate 4 (.int .u8 0) ++ [.nilFunc, .pointer none, .int .i32 0, .int .i32 0] : List Value).toArray) := by kernel_rfl
theorem pl125 : placesT Try.prog 125 = some [(0, 1), (1, 1), (2, 1), (3, 1), (4, 1), (5, 1), (6, 1), (7, 1), (8, 1), (9, 1), (10, 1)] := by kernel_rfl
theorem fd125_0 : fieldT Try.prog 125 0 = some 0 := by kernel_rfl
theorem fd125_1 : fieldT Try.prog 125 1 = some 1 := by kernel_rfl
theorem fd125_2 : fieldT Try.prog 125 2 = some 2 := by kernel_rfl
theorem fd125_3 : fieldT Try.prog 125 3 = some 3 := by kernel_rfl
theorem fd125_4 : fieldT Try.prog 125 4 = some 4 := by kernel_rfl
theorem fd125_5 : fieldT Try.prog 125 5 = some 5 := by kernel_rfl
theorem fd125_6 : fieldT Try.prog 125 6 = some 6 := by kernel_rfl
theorem fd125_7 : fieldT Try.prog 125 7 = some 7 := by kernel_rfl
theorem fd125_8 : fieldT Try.prog 125 8 = some 8 := by kernel_rfl
theorem fd125_9 : fieldT Try.prog 125 9 = some 9 := by kernel_rfl
theorem fd125_10 : fieldT Try.prog 125 10 = some 10 := by kernel_rfl
theorem a126 : aggT Try.prog 126 = some true := by kernel_rfl
theorem s126 : sizeT Try.prog 126 = some 11 := by kernel_rfl
theorem b126 : bytesT Try.prog 126 = some 48 := by kernel_rfl
theorem z126 : zeroT Try.prog 126 = some (.agg ([.int .u64 0, .int .u64 0, .int .u32 0] ++ List.replicate 4 (.int .u8 0) ++ [.nilFunc, .pointer none, .int .i32 0, .int .i32 0] : List Value).toArray) := by kernel_rfl
theorem pl126 : placesT Try.prog 126 = some [(0, 1), (1, 1), (2, 1), (3, 1), (4, 1), (5, 1), (6, 1), (7, 1), (8, 1), (9, 1), (10, 1)] := by kernel_rfl
theorem fd126_0 : fieldT Try.prog 126 0 = some 0 := by kernel_rfl
theorem fd126_1 : fieldT Try.prog 126 1 = some 1 := by kernel_rfl
theorem fd126_2 : fieldT Try.prog 126 2 = some 2 := by kernel_rfl
theorem fd126_3 : fieldT Try.prog 126 3 = some 3 := by kernel_rfl
theorem fd126_4 : fieldT Try.prog 126 4 = some 4 := by kernel_rfl
theorem fd126_5 : fieldT Try.prog 126 5 = some 5 := by kernel_rfl
theorem fd126_6 : fieldT Try.prog 126 6 = some 6 := by kernel_rfl
theorem fd126_7 : fieldT Try.prog 126 7 = some 7 := by kernel_rfl
theorem fd126_8 : fieldT Try.prog 126 8 = some 8 := by kernel_rfl
theorem fd126_9 : fieldT Try.prog 126 9 = some 9 := by kernel_rfl
theorem fd126_10 : fieldT Try.prog 126 10 = some 10 := by kernel_rfl
theorem a127 : aggT Try.prog 127 = some false := by kernel_rfl
theorem s127 : sizeT Try.prog 127 = some 1 := by kernel_rfl
theorem b127 : bytesT Try.prog 127 = some 8 := by kernel_rfl
theorem z127 : zeroT Try.prog 127 = some (.pointer none) := by kernel_rfl
theorem bd3 : bodyT Try.prog 3 = true := by kernel_rfl
theorem bd4 : bodyT Try.prog 4 = true := by kernel_rfl
theorem bd5 : bodyT Try.prog 5 = true := by kernel_rfl
theorem bd6 : bodyT Try.prog 6 = true := by kernel_rfl
theorem bd7 : bodyT Try.prog 7 = true := by kernel_rfl
theorem bd8 : bodyT Try.prog 8 = true := by kernel_rfl
theorem bd9 : bodyT Try.prog 9 = true := by kernel_rfl
theorem bd10 : bodyT Try.prog 10 = true := by kernel_rfl
theorem bd11 : bodyT Try.prog 11 = true := by kernel_rfl
theorem bd12 : bodyT Try.prog 12 = true := by kernel_rfl
theorem bd13 : bodyT Try.prog 13 = true := by kernel_rfl
theorem bd14 : bodyT Try.prog 14 = true := by kernel_rfl
theorem bd15 : bodyT Try.prog 15 = true := by kernel_rfl
theorem bd16 : bodyT Try.prog 16 = true := by kernel_rfl
theorem bd17 : bodyT Try.prog 17 = true := by kernel_rfl
theorem bd18 : bodyT Try.prog 18 = true := by kernel_rfl
theorem bd19 : bodyT Try.prog 19 = true := by kernel_rfl
theorem bd20 : bodyT Try.prog 20 = true := by kernel_rfl
theorem bd21 : bodyT Try.prog 21 = true := by kernel_rfl
theorem bd22 : bodyT Try.prog 22 = true := by kernel_rfl
theorem bd23 : bodyT Try.prog 23 = true := by kernel_rfl
theorem bd24 : bodyT Try.prog 24 = true := by kernel_rfl
theorem bd25 : bodyT Try.prog 25 = true := by kernel_rfl
theorem bd26 : bodyT Try.prog 26 = true := by kernel_rfl
theorem bd27 : bodyT Try.prog 27 = true := by kernel_rfl
theorem bd28 : bodyT Try.prog 28 = true := by kernel_rfl
theorem bd29 : bodyT Try.prog 29 = true := by kernel_rfl
theorem bd30 : bodyT Try.prog 30 = true := by kernel_rfl
theorem bd31 : bodyT Try.prog 31 = true := by kernel_rfl
theorem bd32 : bodyT Try.prog 32 = true := by kernel_rfl
theorem bd33 : bodyT Try.prog 33 = true := by kernel_rfl
theorem bd34 : bodyT Try.prog 34 = true := by kernel_rfl
theorem bd35 : bodyT Try.prog 35 = true := by kernel_rfl
theorem bd36 : bodyT Try.prog 36 = true := by kernel_rfl
theorem bd37 : bodyT Try.prog 37 = true := by kernel_rfl
theorem bd38 : bodyT Try.prog 38 = true := by kernel_rfl
theorem bd39 : bodyT Try.prog 39 = true := by kernel_rfl
theorem bd40 : bodyT Try.prog 40 = true := by kernel_rfl
theorem bd41 : bodyT Try.prog 41 = true := by kernel_rfl
theorem bd42 : bodyT Try.prog 42 = true := by kernel_rfl
theorem bd43 : bodyT Try.prog 43 = true := by kernel_rfl
theorem bd44 : bodyT Try.prog 44 = true := by kernel_rfl
theorem bd45 : bodyT Try.prog 45 = true := by kernel_rfl
theorem bd46 : bodyT Try.prog 46 = true := by kernel_rfl
theorem bd47 : bodyT Try.prog 47 = true := by kernel_rfl
theorem bd48 : bodyT Try.prog 48 = true := by kernel_rfl
theorem bd49 : bodyT Try.prog 49 = true := by kernel_rfl
theorem bd50 : bodyT Try.prog 50 = true := by kernel_rfl
theorem bd51 : bodyT Try.prog 51 = true := by kernel_rfl
theorem bd52 : bodyT Try.prog 52 = true := by kernel_rfl
theorem bd53 : bodyT Try.prog 53 = true := by kernel_rfl
theorem bd54 : bodyT Try.prog 54 = true := by kernel_rfl
theorem bd55 : bodyT Try.prog 55 = true := by kernel_rfl
theorem bd56 : bodyT Try.prog 56 = true := by kernel_rfl
theorem bd57 : bodyT Try.prog 57 = true := by kernel_rfl
theorem bd58 : bodyT Try.prog 58 = true := by kernel_rfl
theorem bd59 : bodyT Try.prog 59 = true := by kernel_rfl
theorem bd60 : bodyT Try.prog 60 = true := by kernel_rfl
theorem bd62 : bodyT Try.prog 62 = true := by kernel_rfl
theorem bd63 : bodyT Try.prog 63 = true := by kernel_rfl
theorem bd64 : bodyT Try.prog 64 = true := by kernel_rfl
theorem bd65 : bodyT Try.prog 65 = true := by kernel_rfl
theorem bd66 : bodyT Try.prog 66 = true := by kernel_rfl
theorem bd67 : bodyT Try.prog 67 = true := by kernel_rfl
theorem bd68 : bodyT Try.prog 68 = true := by kernel_rfl
theorem bd69 : bodyT Try.prog 69 = true := by kernel_rfl
theorem bd70 : bodyT Try.prog 70 = true := by kernel_rfl
theorem bd71 : bodyT Try.prog 71 = true := by kernel_rfl
theorem bd72 : bodyT Try.prog 72 = true := by kernel_rfl
theorem bd73 : bodyT Try.prog 73 = true := by kernel_rfl
theorem bd74 : bodyT Try.prog 74 = true := by kernel_rfl
theorem bd75 : bodyT Try.prog 75 = true := by kernel_rfl
theorem bd76 : bodyT Try.prog 76 = true := by kernel_rfl
theorem bd77 : bodyT Try.prog 77 = true := by kernel_rfl
theorem bd78 : bodyT Try.prog 78 = true := by kernel_rfl
theorem bd82 : bodyT Try.prog 82 = true := by kernel_rfl
theorem bd83 : bodyT Try.prog 83 = true := by kernel_rfl
theorem bd84 : bodyT Try.prog 84 = true := by kernel_rfl
theorem bd85 : bodyT Try.prog 85 = true := by kernel_rfl
theorem bd86 : bodyT Try.prog 86 = true := by kernel_rfl
theorem bd88 : bodyT Try.prog 88 = true := by kernel_rfl
theorem bd89 : bodyT Try.prog 89 = true := by kernel_rfl
theorem bd90 : bodyT Try.prog 90 = true := by kernel_rfl
theorem bd91 : bodyT Try.prog 91 = true := by kernel_rfl
theorem bd92 : bodyT Try.prog 92 = true := by kernel_rfl
end Ty
end Go.Proofs.Ytdpbgmbicdgdbaa

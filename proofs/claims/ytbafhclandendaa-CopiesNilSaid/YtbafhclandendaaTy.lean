/-
  Closed facts on the types and functions of this program: written by a program of this session (wip/tools/ty.py).
-/
import Derived.Test.YtbafhclandendaaProg
import Derived.Test.YtbafhclandendaaJ
namespace Go.Proofs.Ytbafhclandendaa
namespace Ty
open Go.J
theorem mixed : Try.prog.follows .mixedOrders = true := by kernel_rfl
theorem u2 : Try.prog.underlying 2 = some (.int .i64) := by kernel_rfl
theorem a2 : aggT Try.prog 2 = some false := by kernel_rfl
theorem s2 : sizeT Try.prog 2 = some 1 := by kernel_rfl
theorem b2 : bytesT Try.prog 2 = some 8 := by kernel_rfl
theorem z2 : zeroT Try.prog 2 = some (.int .i64 0) := by kernel_rfl
theorem u3 : Try.prog.underlying 3 = some (.int .i64) := by kernel_rfl
theorem a3 : aggT Try.prog 3 = some false := by kernel_rfl
theorem s3 : sizeT Try.prog 3 = some 1 := by kernel_rfl
theorem b3 : bytesT Try.prog 3 = some 8 := by kernel_rfl
theorem z3 : zeroT Try.prog 3 = some (.int .i64 0) := by kernel_rfl
theorem u4 : Try.prog.underlying 4 = some (.bool) := by kernel_rfl
theorem a4 : aggT Try.prog 4 = some false := by kernel_rfl
theorem s4 : sizeT Try.prog 4 = some 1 := by kernel_rfl
theorem b4 : bytesT Try.prog 4 = some 1 := by kernel_rfl
theorem z4 : zeroT Try.prog 4 = some (.bool false) := by kernel_rfl
theorem u5 : Try.prog.underlying 5 = some (.int .u8) := by kernel_rfl
theorem a5 : aggT Try.prog 5 = some false := by kernel_rfl
theorem s5 : sizeT Try.prog 5 = some 1 := by kernel_rfl
theorem b5 : bytesT Try.prog 5 = some 1 := by kernel_rfl
theorem z5 : zeroT Try.prog 5 = some (.int .u8 0) := by kernel_rfl
theorem u6 : Try.prog.underlying 6 = some (.int .u8) := by kernel_rfl
theorem a6 : aggT Try.prog 6 = some false := by kernel_rfl
theorem s6 : sizeT Try.prog 6 = some 1 := by kernel_rfl
theorem b6 : bytesT Try.prog 6 = some 1 := by kernel_rfl
theorem z6 : zeroT Try.prog 6 = some (.int .u8 0) := by kernel_rfl
theorem a7 : aggT Try.prog 7 = some true := by kernel_rfl
theorem s7 : sizeT Try.prog 7 = some 4 := by kernel_rfl
theorem b7 : bytesT Try.prog 7 = some 24 := by kernel_rfl
theorem z7 : zeroT Try.prog 7 = some (.agg ([.int .i64 0, .int .i64 0, .bool false, .int .u8 0] : List Value).toArray) := by kernel_rfl
theorem pl7 : placesT Try.prog 7 = some [(0, 1), (1, 1), (2, 1), (3, 1)] := by kernel_rfl
theorem fd7_0 : fieldT Try.prog 7 0 = some 0 := by kernel_rfl
theorem fd7_1 : fieldT Try.prog 7 1 = some 1 := by kernel_rfl
theorem fd7_2 : fieldT Try.prog 7 2 = some 2 := by kernel_rfl
theorem fd7_3 : fieldT Try.prog 7 3 = some 3 := by kernel_rfl
theorem a8 : aggT Try.prog 8 = some true := by kernel_rfl
theorem s8 : sizeT Try.prog 8 = some 4 := by kernel_rfl
theorem b8 : bytesT Try.prog 8 = some 24 := by kernel_rfl
theorem z8 : zeroT Try.prog 8 = some (.agg ([.int .i64 0, .int .i64 0, .bool false, .int .u8 0] : List Value).toArray) := by kernel_rfl
theorem pl8 : placesT Try.prog 8 = some [(0, 1), (1, 1), (2, 1), (3, 1)] := by kernel_rfl
theorem fd8_0 : fieldT Try.prog 8 0 = some 0 := by kernel_rfl
theorem fd8_1 : fieldT Try.prog 8 1 = some 1 := by kernel_rfl
theorem fd8_2 : fieldT Try.prog 8 2 = some 2 := by kernel_rfl
theorem fd8_3 : fieldT Try.prog 8 3 = some 3 := by kernel_rfl
theorem u9 : Try.prog.underlying 9 = some (.string) := by kernel_rfl
theorem a9 : aggT Try.prog 9 = some false := by kernel_rfl
theorem s9 : sizeT Try.prog 9 = some 1 := by kernel_rfl
theorem b9 : bytesT Try.prog 9 = some 16 := by kernel_rfl
theorem z9 : zeroT Try.prog 9 = some (.string ByteArray.empty) := by kernel_rfl
theorem u10 : Try.prog.underlying 10 = some (.string) := by kernel_rfl
theorem a10 : aggT Try.prog 10 = some false := by kernel_rfl
theorem s10 : sizeT Try.prog 10 = some 1 := by kernel_rfl
theorem b10 : bytesT Try.prog 10 = some 16 := by kernel_rfl
theorem z10 : zeroT Try.prog 10 = some (.string ByteArray.empty) := by kernel_rfl
theorem u11 : Try.prog.underlying 11 = some (.string) := by kernel_rfl
theorem a11 : aggT Try.prog 11 = some false := by kernel_rfl
theorem s11 : sizeT Try.prog 11 = some 1 := by kernel_rfl
theorem b11 : bytesT Try.prog 11 = some 16 := by kernel_rfl
theorem z11 : zeroT Try.prog 11 = some (.string ByteArray.empty) := by kernel_rfl
theorem u12 : Try.prog.underlying 12 = some (.int .u64) := by kernel_rfl
theorem a12 : aggT Try.prog 12 = some false := by kernel_rfl
theorem s12 : sizeT Try.prog 12 = some 1 := by kernel_rfl
theorem b12 : bytesT Try.prog 12 = some 8 := by kernel_rfl
theorem z12 : zeroT Try.prog 12 = some (.int .u64 0) := by kernel_rfl
theorem a13 : aggT Try.prog 13 = some true := by kernel_rfl
theorem s13 : sizeT Try.prog 13 = some 2 := by kernel_rfl
theorem b13 : bytesT Try.prog 13 = some 24 := by kernel_rfl
theorem z13 : zeroT Try.prog 13 = some (.agg ([.string ByteArray.empty, .int .u64 0] : List Value).toArray) := by kernel_rfl
theorem pl13 : placesT Try.prog 13 = some [(0, 1), (1, 1)] := by kernel_rfl
theorem fd13_0 : fieldT Try.prog 13 0 = some 0 := by kernel_rfl
theorem fd13_1 : fieldT Try.prog 13 1 = some 1 := by kernel_rfl
theorem a14 : aggT Try.prog 14 = some true := by kernel_rfl
theorem s14 : sizeT Try.prog 14 = some 2 := by kernel_rfl
theorem b14 : bytesT Try.prog 14 = some 24 := by kernel_rfl
theorem z14 : zeroT Try.prog 14 = some (.agg ([.string ByteArray.empty, .int .u64 0] : List Value).toArray) := by kernel_rfl
theorem pl14 : placesT Try.prog 14 = some [(0, 1), (1, 1)] := by kernel_rfl
theorem fd14_0 : fieldT Try.prog 14 0 = some 0 := by kernel_rfl
theorem fd14_1 : fieldT Try.prog 14 1 = some 1 := by kernel_rfl
theorem u15 : Try.prog.underlying 15 = some (.pointer 145) := by kernel_rfl
theorem a15 : aggT Try.prog 15 = some false := by kernel_rfl
theorem s15 : sizeT Try.prog 15 = some 1 := by kernel_rfl
theorem b15 : bytesT Try.prog 15 = some 8 := by kernel_rfl
theorem z15 : zeroT Try.prog 15 = some (.pointer none) := by kernel_rfl
theorem u16 : Try.prog.underlying 16 = some (.pointer 148) := by kernel_rfl
theorem a16 : aggT Try.prog 16 = some false := by kernel_rfl
theorem s16 : sizeT Try.prog 16 = some 1 := by kernel_rfl
theorem b16 : bytesT Try.prog 16 = some 8 := by kernel_rfl
theorem z16 : zeroT Try.prog 16 = some (.pointer none) := by kernel_rfl
theorem u17 : Try.prog.underlying 17 = some (.pointer 157) := by kernel_rfl
theorem a17 : aggT Try.prog 17 = some false := by kernel_rfl
theorem s17 : sizeT Try.prog 17 = some 1 := by kernel_rfl
theorem b17 : bytesT Try.prog 17 = some 8 := by kernel_rfl
theorem z17 : zeroT Try.prog 17 = some (.pointer none) := by kernel_rfl
theorem a18 : aggT Try.prog 18 = some true := by kernel_rfl
theorem s18 : sizeT Try.prog 18 = some 1 := by kernel_rfl
theorem b18 : bytesT Try.prog 18 = some 8 := by kernel_rfl
theorem z18 : zeroT Try.prog 18 = some (.agg ([.pointer none] : List Value).toArray) := by kernel_rfl
theorem pl18 : placesT Try.prog 18 = some [(0, 1)] := by kernel_rfl
theorem fd18_0 : fieldT Try.prog 18 0 = some 0 := by kernel_rfl
theorem a19 : aggT Try.prog 19 = some true := by kernel_rfl
theorem s19 : sizeT Try.prog 19 = some 1 := by kernel_rfl
theorem b19 : bytesT Try.prog 19 = some 8 := by kernel_rfl
theorem z19 : zeroT Try.prog 19 = some (.agg ([.pointer none] : List Value).toArray) := by kernel_rfl
theorem pl19 : placesT Try.prog 19 = some [(0, 1)] := by kernel_rfl
theorem fd19_0 : fieldT Try.prog 19 0 = some 0 := by kernel_rfl
theorem a20 : aggT Try.prog 20 = some false := by kernel_rfl
theorem s20 : sizeT Try.prog 20 = some 1 := by kernel_rfl
theorem b20 : bytesT Try.prog 20 = some 16 := by kernel_rfl
theorem z20 : zeroT Try.prog 20 = some (.nilIface) := by kernel_rfl
theorem u21 : Try.prog.underlying 21 = some (.int .i32) := by kernel_rfl
theorem a21 : aggT Try.prog 21 = some false := by kernel_rfl
theorem s21 : sizeT Try.prog 21 = some 1 := by kernel_rfl
theorem b21 : bytesT Try.prog 21 = some 4 := by kernel_rfl
theorem z21 : zeroT Try.prog 21 = some (.int .i32 0) := by kernel_rfl
theorem u22 : Try.prog.underlying 22 = some (.array 16 5) := by kernel_rfl
theorem a22 : aggT Try.prog 22 = some true := by kernel_rfl
theorem s22 : sizeT Try.prog 22 = some 16 := by kernel_rfl
theorem b22 : bytesT Try.prog 22 = some 16 := by kernel_rfl
theorem z22 : zeroT Try.prog 22 = some (.agg (List.replicate 16 (.int .u8 0) : List Value).toArray) := by kernel_rfl
theorem ar22 : arrT Try.prog 22 = some (16, 5) := by kernel_rfl
theorem u23 : Try.prog.underlying 23 = some (.array 16 5) := by kernel_rfl
theorem a23 : aggT Try.prog 23 = some true := by kernel_rfl
theorem s23 : sizeT Try.prog 23 = some 16 := by kernel_rfl
theorem b23 : bytesT Try.prog 23 = some 16 := by kernel_rfl
theorem z23 : zeroT Try.prog 23 = some (.agg (List.replicate 16 (.int .u8 0) : List Value).toArray) := by kernel_rfl
theorem ar23 : arrT Try.prog 23 = some (16, 5) := by kernel_rfl
theorem u24 : Try.prog.underlying 24 = some (.slice 23) := by kernel_rfl
theorem a24 : aggT Try.prog 24 = some false := by kernel_rfl
theorem s24 : sizeT Try.prog 24 = some 1 := by kernel_rfl
theorem b24 : bytesT Try.prog 24 = some 24 := by kernel_rfl
theorem z24 : zeroT Try.prog 24 = some (.slice none 0 0) := by kernel_rfl
theorem el24 : elemT Try.prog 24 = some 23 := by kernel_rfl
theorem u31 : Try.prog.underlying 31 = some (.int .u64) := by kernel_rfl
theorem a31 : aggT Try.prog 31 = some false := by kernel_rfl
theorem s31 : sizeT Try.prog 31 = some 1 := by kernel_rfl
theorem b31 : bytesT Try.prog 31 = some 8 := by kernel_rfl
theorem z31 : zeroT Try.prog 31 = some (.int .u64 0) := by kernel_rfl
theorem u36 : Try.prog.underlying 36 = some (.array 2 3) := by kernel_rfl
theorem a36 : aggT Try.prog 36 = some true := by kernel_rfl
theorem s36 : sizeT Try.prog 36 = some 2 := by kernel_rfl
theorem b36 : bytesT Try.prog 36 = some 16 := by kernel_rfl
theorem z36 : zeroT Try.prog 36 = some (.agg ([.int .i64 0, .int .i64 0] : List Value).toArray) := by kernel_rfl
theorem ar36 : arrT Try.prog 36 = some (2, 3) := by kernel_rfl
theorem u38 : Try.prog.underlying 38 = some (.slice 49) := by kernel_rfl
theorem a38 : aggT Try.prog 38 = some false := by kernel_rfl
theorem s38 : sizeT Try.prog 38 = some 1 := by kernel_rfl
theorem b38 : bytesT Try.prog 38 = some 24 := by kernel_rfl
theorem z38 : zeroT Try.prog 38 = some (.slice none 0 0) := by kernel_rfl
theorem el38 : elemT Try.prog 38 = some 49 := by kernel_rfl
theorem u39 : Try.prog.underlying 39 = some (.pointer 90) := by kernel_rfl
theorem a39 : aggT Try.prog 39 = some false := by kernel_rfl
theorem s39 : sizeT Try.prog 39 = some 1 := by kernel_rfl
theorem b39 : bytesT Try.prog 39 = some 8 := by kernel_rfl
theorem z39 : zeroT Try.prog 39 = some (.pointer none) := by kernel_rfl
theorem u41 : Try.prog.underlying 41 = some (.pointer 44) := by kernel_rfl
theorem a41 : aggT Try.prog 41 = some false := by kernel_rfl
theorem s41 : sizeT Try.prog 41 = some 1 := by kernel_rfl
theorem b41 : bytesT Try.prog 41 = some 8 := by kernel_rfl
theorem z41 : zeroT Try.prog 41 = some (.pointer none) := by kernel_rfl
theorem u42 : Try.prog.underlying 42 = some (.slice 94) := by kernel_rfl
theorem a42 : aggT Try.prog 42 = some false := by kernel_rfl
theorem s42 : sizeT Try.prog 42 = some 1 := by kernel_rfl
theorem b42 : bytesT Try.prog 42 = some 24 := by kernel_rfl
theorem z42 : zeroT Try.prog 42 = some (.slice none 0 0) := by kernel_rfl
theorem el42 : elemT Try.prog 42 = some 94 := by kernel_rfl
theorem a43 : aggT Try.prog 43 = some true := by kernel_rfl
theorem s43 : sizeT Try.prog 43 = some 1 := by kernel_rfl
theorem b43 : bytesT Try.prog 43 = some 24 := by kernel_rfl
theorem z43 : zeroT Try.prog 43 = some (.agg ([.slice none 0 0] : List Value).toArray) := by kernel_rfl
theorem pl43 : placesT Try.prog 43 = some [(0, 1)] := by kernel_rfl
theorem fd43_0 : fieldT Try.prog 43 0 = some 0 := by kernel_rfl
theorem a44 : aggT Try.prog 44 = some true := by kernel_rfl
theorem s44 : sizeT Try.prog 44 = some 1 := by kernel_rfl
theorem b44 : bytesT Try.prog 44 = some 24 := by kernel_rfl
theorem z44 : zeroT Try.prog 44 = some (.agg ([.slice none 0 0] : List Value).toArray) := by kernel_rfl
theorem pl44 : placesT Try.prog 44 = some [(0, 1)] := by kernel_rfl
theorem fd44_0 : fieldT Try.prog 44 0 = some 0 := by kernel_rfl
theorem a45 : aggT Try.prog 45 = some true := by kernel_rfl
theorem s45 : sizeT Try.prog 45 = some 17 := by kernel_rfl
theorem b45 : bytesT Try.prog 45 = some 24 := by kernel_rfl
theorem z45 : zeroT Try.prog 45 = some (.agg ([.int .i64 0] ++ List.replicate 16 (.int .u8 0) : List Value).toArray) := by kernel_rfl
theorem pl45 : placesT Try.prog 45 = some [(0, 1), (1, 16)] := by kernel_rfl
theorem fd45_0 : fieldT Try.prog 45 0 = some 0 := by kernel_rfl
theorem fd45_1 : fieldT Try.prog 45 1 = some 1 := by kernel_rfl
theorem a46 : aggT Try.prog 46 = some true := by kernel_rfl
theorem s46 : sizeT Try.prog 46 = some 17 := by kernel_rfl
theorem b46 : bytesT Try.prog 46 = some 24 := by kernel_rfl
theorem z46 : zeroT Try.prog 46 = some (.agg ([.int .i64 0] ++ List.replicate 16 (.int .u8 0) : List Value).toArray) := by kernel_rfl
theorem pl46 : placesT Try.prog 46 = some [(0, 1), (1, 16)] := by kernel_rfl
theorem fd46_0 : fieldT Try.prog 46 0 = some 0 := by kernel_rfl
theorem fd46_1 : fieldT Try.prog 46 1 = some 1 := by kernel_rfl
theorem u47 : Try.prog.underlying 47 = some (.slice 53) := by kernel_rfl
theorem a47 : aggT Try.prog 47 = some false := by kernel_rfl
theorem s47 : sizeT Try.prog 47 = some 1 := by kernel_rfl
theorem b47 : bytesT Try.prog 47 = some 24 := by kernel_rfl
theorem z47 : zeroT Try.prog 47 = some (.slice none 0 0) := by kernel_rfl
theorem el47 : elemT Try.prog 47 = some 53 := by kernel_rfl
theorem a48 : aggT Try.prog 48 = some true := by kernel_rfl
theorem s48 : sizeT Try.prog 48 = some 52 := by kernel_rfl
theorem b48 : bytesT Try.prog 48 = some 112 := by kernel_rfl
theorem z48 : zeroT Try.prog 48 = some (.agg ([.int .i64 0] ++ List.replicate 32 (.int .u8 0) ++ [.int .i64 0] ++ List.replicate 16 (.int .u8 0) ++ [.slice none 0 0, .slice none 0 0] : List Value).toArray) := by kernel_rfl
theorem pl48 : placesT Try.prog 48 = some [(0, 1), (1, 16), (17, 16), (33, 17), (50, 1), (51, 1)] := by kernel_rfl
theorem fd48_0 : fieldT Try.prog 48 0 = some 0 := by kernel_rfl
theorem fd48_1 : fieldT Try.prog 48 1 = some 1 := by kernel_rfl
theorem fd48_2 : fieldT Try.prog 48 2 = some 17 := by kernel_rfl
theorem fd48_3 : fieldT Try.prog 48 3 = some 33 := by kernel_rfl
theorem fd48_4 : fieldT Try.prog 48 4 = some 50 := by kernel_rfl
theorem fd48_5 : fieldT Try.prog 48 5 = some 51 := by kernel_rfl
theorem a49 : aggT Try.prog 49 = some true := by kernel_rfl
theorem s49 : sizeT Try.prog 49 = some 52 := by kernel_rfl
theorem b49 : bytesT Try.prog 49 = some 112 := by kernel_rfl
theorem z49 : zeroT Try.prog 49 = some (.agg ([.int .i64 0] ++ List.replicate 32 (.int .u8 0) ++ [.int .i64 0] ++ List.replicate 16 (.int .u8 0) ++ [.slice none 0 0, .slice none 0 0] : List Value).toArray) := by kernel_rfl
theorem pl49 : placesT Try.prog 49 = some [(0, 1), (1, 16), (17, 16), (33, 17), (50, 1), (51, 1)] := by kernel_rfl
theorem fd49_0 : fieldT Try.prog 49 0 = some 0 := by kernel_rfl
theorem fd49_1 : fieldT Try.prog 49 1 = some 1 := by kernel_rfl
theorem fd49_2 : fieldT Try.prog 49 2 = some 17 := by kernel_rfl
theorem fd49_3 : fieldT Try.prog 49 3 = some 33 := by kernel_rfl
theorem fd49_4 : fieldT Try.prog 49 4 = some 50 := by kernel_rfl
theorem fd49_5 : fieldT Try.prog 49 5 = some 51 := by kernel_rfl
theorem u51 : Try.prog.underlying 51 = some (.slice 5) := by kernel_rfl
theorem a51 : aggT Try.prog 51 = some false := by kernel_rfl
theorem s51 : sizeT Try.prog 51 = some 1 := by kernel_rfl
theorem b51 : bytesT Try.prog 51 = some 24 := by kernel_rfl
theorem z51 : zeroT Try.prog 51 = some (.slice none 0 0) := by kernel_rfl
theorem el51 : elemT Try.prog 51 = some 5 := by kernel_rfl
theorem a52 : aggT Try.prog 52 = some true := by kernel_rfl
theorem s52 : sizeT Try.prog 52 = some 34 := by kernel_rfl
theorem b52 : bytesT Try.prog 52 = some 64 := by kernel_rfl
theorem z52 : zeroT Try.prog 52 = some (.agg (List.replicate 16 (.int .u8 0) ++ [.int .i64 0] ++ List.replicate 16 (.int .u8 0) ++ [.slice none 0 0] : List Value).toArray) := by kernel_rfl
theorem pl52 : placesT Try.prog 52 = some [(0, 16), (16, 17), (33, 1)] := by kernel_rfl
theorem fd52_0 : fieldT Try.prog 52 0 = some 0 := by kernel_rfl
theorem fd52_1 : fieldT Try.prog 52 1 = some 16 := by kernel_rfl
theorem fd52_2 : fieldT Try.prog 52 2 = some 33 := by kernel_rfl
theorem a53 : aggT Try.prog 53 = some true := by kernel_rfl
theorem s53 : sizeT Try.prog 53 = some 34 := by kernel_rfl
theorem b53 : bytesT Try.prog 53 = some 64 := by kernel_rfl
theorem z53 : zeroT Try.prog 53 = some (.agg (List.replicate 16 (.int .u8 0) ++ [.int .i64 0] ++ List.replicate 16 (.int .u8 0) ++ [.slice none 0 0] : List Value).toArray) := by kernel_rfl
theorem pl53 : placesT Try.prog 53 = some [(0, 16), (16, 17), (33, 1)] := by kernel_rfl
theorem fd53_0 : fieldT Try.prog 53 0 = some 0 := by kernel_rfl
theorem fd53_1 : fieldT Try.prog 53 1 = some 16 := by kernel_rfl
theorem fd53_2 : fieldT Try.prog 53 2 = some 33 := by kernel_rfl
theorem u56 : Try.prog.underlying 56 = some (.slice 61) := by kernel_rfl
theorem a56 : aggT Try.prog 56 = some false := by kernel_rfl
theorem s56 : sizeT Try.prog 56 = some 1 := by kernel_rfl
theorem b56 : bytesT Try.prog 56 = some 24 := by kernel_rfl
theorem z56 : zeroT Try.prog 56 = some (.slice none 0 0) := by kernel_rfl
theorem el56 : elemT Try.prog 56 = some 61 := by kernel_rfl
theorem u58 : Try.prog.underlying 58 = some (.slice 62) := by kernel_rfl
theorem a58 : aggT Try.prog 58 = some false := by kernel_rfl
theorem s58 : sizeT Try.prog 58 = some 1 := by kernel_rfl
theorem b58 : bytesT Try.prog 58 = some 24 := by kernel_rfl
theorem z58 : zeroT Try.prog 58 = some (.slice none 0 0) := by kernel_rfl
theorem el58 : elemT Try.prog 58 = some 62 := by kernel_rfl
theorem a60 : aggT Try.prog 60 = some true := by kernel_rfl
theorem s60 : sizeT Try.prog 60 = some 50 := by kernel_rfl
theorem b60 : bytesT Try.prog 60 = some 80 := by kernel_rfl
theorem z60 : zeroT Try.prog 60 = some (.agg (List.replicate 32 (.int .u8 0) ++ [.int .i64 0] ++ List.replicate 16 (.int .u8 0) ++ [.slice none 0 0] : List Value).toArray) := by kernel_rfl
theorem pl60 : placesT Try.prog 60 = some [(0, 16), (16, 34)] := by kernel_rfl
theorem fd60_0 : fieldT Try.prog 60 0 = some 0 := by kernel_rfl
theorem fd60_1 : fieldT Try.prog 60 1 = some 16 := by kernel_rfl
theorem a61 : aggT Try.prog 61 = some true := by kernel_rfl
theorem s61 : sizeT Try.prog 61 = some 50 := by kernel_rfl
theorem b61 : bytesT Try.prog 61 = some 80 := by kernel_rfl
theorem z61 : zeroT Try.prog 61 = some (.agg (List.replicate 32 (.int .u8 0) ++ [.int .i64 0] ++ List.replicate 16 (.int .u8 0) ++ [.slice none 0 0] : List Value).toArray) := by kernel_rfl
theorem pl61 : placesT Try.prog 61 = some [(0, 16), (16, 34)] := by kernel_rfl
theorem fd61_0 : fieldT Try.prog 61 0 = some 0 := by kernel_rfl
theorem fd61_1 : fieldT Try.prog 61 1 = some 16 := by kernel_rfl
theorem a62 : aggT Try.prog 62 = some true := by kernel_rfl
theorem s62 : sizeT Try.prog 62 = some 50 := by kernel_rfl
theorem b62 : bytesT Try.prog 62 = some 80 := by kernel_rfl
theorem z62 : zeroT Try.prog 62 = some (.agg (List.replicate 32 (.int .u8 0) ++ [.int .i64 0] ++ List.replicate 16 (.int .u8 0) ++ [.slice none 0 0] : List Value).toArray) := by kernel_rfl
theorem pl62 : placesT Try.prog 62 = some [(0, 16), (16, 34)] := by kernel_rfl
theorem fd62_0 : fieldT Try.prog 62 0 = some 0 := by kernel_rfl
theorem fd62_1 : fieldT Try.prog 62 1 = some 16 := by kernel_rfl
theorem u68 : Try.prog.underlying 68 = some (.slice 75) := by kernel_rfl
theorem a68 : aggT Try.prog 68 = some false := by kernel_rfl
theorem s68 : sizeT Try.prog 68 = some 1 := by kernel_rfl
theorem b68 : bytesT Try.prog 68 = some 24 := by kernel_rfl
theorem z68 : zeroT Try.prog 68 = some (.slice none 0 0) := by kernel_rfl
theorem el68 : elemT Try.prog 68 = some 75 := by kernel_rfl
theorem a69 : aggT Try.prog 69 = some true := by kernel_rfl
theorem s69 : sizeT Try.prog 69 = some 19 := by kernel_rfl
theorem b69 : bytesT Try.prog 69 = some 72 := by kernel_rfl
theorem z69 : zeroT Try.prog 69 = some (.agg (List.replicate 16 (.int .u8 0) ++ [.slice none 0 0, .slice none 0 0, .int .i64 0] : List Value).toArray) := by kernel_rfl
theorem pl69 : placesT Try.prog 69 = some [(0, 16), (16, 1), (17, 1), (18, 1)] := by kernel_rfl
theorem fd69_0 : fieldT Try.prog 69 0 = some 0 := by kernel_rfl
theorem fd69_1 : fieldT Try.prog 69 1 = some 16 := by kernel_rfl
theorem fd69_2 : fieldT Try.prog 69 2 = some 17 := by kernel_rfl
theorem fd69_3 : fieldT Try.prog 69 3 = some 18 := by kernel_rfl
theorem a70 : aggT Try.prog 70 = some true := by kernel_rfl
theorem s70 : sizeT Try.prog 70 = some 19 := by kernel_rfl
theorem b70 : bytesT Try.prog 70 = some 72 := by kernel_rfl
theorem z70 : zeroT Try.prog 70 = some (.agg (List.replicate 16 (.int .u8 0) ++ [.slice none 0 0, .slice none 0 0, .int .i64 0] : List Value).toArray) := by kernel_rfl
theorem pl70 : placesT Try.prog 70 = some [(0, 16), (16, 1), (17, 1), (18, 1)] := by kernel_rfl
theorem fd70_0 : fieldT Try.prog 70 0 = some 0 := by kernel_rfl
theorem fd70_1 : fieldT Try.prog 70 1 = some 16 := by kernel_rfl
theorem fd70_2 : fieldT Try.prog 70 2 = some 17 := by kernel_rfl
theorem fd70_3 : fieldT Try.prog 70 3 = some 18 := by kernel_rfl
theorem a72 : aggT Try.prog 72 = some true := by kernel_rfl
theorem s72 : sizeT Try.prog 72 = some 17 := by kernel_rfl
theorem b72 : bytesT Try.prog 72 = some 24 := by kernel_rfl
theorem z72 : zeroT Try.prog 72 = some (.agg (List.replicate 16 (.int .u8 0) ++ [.int .i64 0] : List Value).toArray) := by kernel_rfl
theorem pl72 : placesT Try.prog 72 = some [(0, 16), (16, 1)] := by kernel_rfl
theorem fd72_0 : fieldT Try.prog 72 0 = some 0 := by kernel_rfl
theorem fd72_1 : fieldT Try.prog 72 1 = some 16 := by kernel_rfl
theorem a73 : aggT Try.prog 73 = some true := by kernel_rfl
theorem s73 : sizeT Try.prog 73 = some 17 := by kernel_rfl
theorem b73 : bytesT Try.prog 73 = some 24 := by kernel_rfl
theorem z73 : zeroT Try.prog 73 = some (.agg (List.replicate 16 (.int .u8 0) ++ [.int .i64 0] : List Value).toArray) := by kernel_rfl
theorem pl73 : placesT Try.prog 73 = some [(0, 16), (16, 1)] := by kernel_rfl
theorem fd73_0 : fieldT Try.prog 73 0 = some 0 := by kernel_rfl
theorem fd73_1 : fieldT Try.prog 73 1 = some 16 := by kernel_rfl
theorem a74 : aggT Try.prog 74 = some true := by kernel_rfl
theorem s74 : sizeT Try.prog 74 = some 35 := by kernel_rfl
theorem b74 : bytesT Try.prog 74 = some 56 := by kernel_rfl
theorem z74 : zeroT Try.prog 74 = some (.agg (List.replicate 16 (.int .u8 0) ++ [.int .i64 0, .int .i64 0] ++ List.replicate 16 (.int .u8 0) ++ [.int .i64 0] : List Value).toArray) := by kernel_rfl
theorem pl74 : placesT Try.prog 74 = some [(0, 16), (16, 1), (17, 1), (18, 17)] := by kernel_rfl
theorem fd74_0 : fieldT Try.prog 74 0 = some 0 := by kernel_rfl
theorem fd74_1 : fieldT Try.prog 74 1 = some 16 := by kernel_rfl
theorem fd74_2 : fieldT Try.prog 74 2 = some 17 := by kernel_rfl
theorem fd74_3 : fieldT Try.prog 74 3 = some 18 := by kernel_rfl
theorem a75 : aggT Try.prog 75 = some true := by kernel_rfl
theorem s75 : sizeT Try.prog 75 = some 35 := by kernel_rfl
theorem b75 : bytesT Try.prog 75 = some 56 := by kernel_rfl
theorem z75 : zeroT Try.prog 75 = some (.agg (List.replicate 16 (.int .u8 0) ++ [.int .i64 0, .int .i64 0] ++ List.replicate 16 (.int .u8 0) ++ [.int .i64 0] : List Value).toArray) := by kernel_rfl
theorem pl75 : placesT Try.prog 75 = some [(0, 16), (16, 1), (17, 1), (18, 17)] := by kernel_rfl
theorem fd75_0 : fieldT Try.prog 75 0 = some 0 := by kernel_rfl
theorem fd75_1 : fieldT Try.prog 75 1 = some 16 := by kernel_rfl
theorem fd75_2 : fieldT Try.prog 75 2 = some 17 := by kernel_rfl
theorem fd75_3 : fieldT Try.prog 75 3 = some 18 := by kernel_rfl
theorem u76 : Try.prog.underlying 76 = some (.slice 80) := by kernel_rfl
theorem a76 : aggT Try.prog 76 = some false := by kernel_rfl
theorem s76 : sizeT Try.prog 76 = some 1 := by kernel_rfl
theorem b76 : bytesT Try.prog 76 = some 24 := by kernel_rfl
theorem z76 : zeroT Try.prog 76 = some (.slice none 0 0) := by kernel_rfl
theorem el76 : elemT Try.prog 76 = some 80 := by kernel_rfl
theorem a80 : aggT Try.prog 80 = some true := by kernel_rfl
theorem s80 : sizeT Try.prog 80 = some 35 := by kernel_rfl
theorem b80 : bytesT Try.prog 80 = some 56 := by kernel_rfl
theorem z80 : zeroT Try.prog 80 = some (.agg (List.replicate 16 (.int .u8 0) ++ [.int .i64 0, .int .i64 0] ++ List.replicate 16 (.int .u8 0) ++ [.int .i64 0] : List Value).toArray) := by kernel_rfl
theorem pl80 : placesT Try.prog 80 = some [(0, 16), (16, 1), (17, 1), (18, 17)] := by kernel_rfl
theorem fd80_0 : fieldT Try.prog 80 0 = some 0 := by kernel_rfl
theorem fd80_1 : fieldT Try.prog 80 1 = some 16 := by kernel_rfl
theorem fd80_2 : fieldT Try.prog 80 2 = some 17 := by kernel_rfl
theorem fd80_3 : fieldT Try.prog 80 3 = some 18 := by kernel_rfl
theorem u88 : Try.prog.underlying 88 = some (.map 92 46) := by kernel_rfl
theorem a88 : aggT Try.prog 88 = some false := by kernel_rfl
theorem s88 : sizeT Try.prog 88 = some 1 := by kernel_rfl
theorem b88 : bytesT Try.prog 88 = some 8 := by kernel_rfl
theorem z88 : zeroT Try.prog 88 = some (.map none) := by kernel_rfl
theorem a89 : aggT Try.prog 89 = some true := by kernel_rfl
theorem s89 : sizeT Try.prog 89 = some 1 := by kernel_rfl
theorem b89 : bytesT Try.prog 89 = some 8 := by kernel_rfl
theorem z89 : zeroT Try.prog 89 = some (.agg ([.map none] : List Value).toArray) := by kernel_rfl
theorem pl89 : placesT Try.prog 89 = some [(0, 1)] := by kernel_rfl
theorem fd89_0 : fieldT Try.prog 89 0 = some 0 := by kernel_rfl
theorem a90 : aggT Try.prog 90 = some true := by kernel_rfl
theorem s90 : sizeT Try.prog 90 = some 1 := by kernel_rfl
theorem b90 : bytesT Try.prog 90 = some 8 := by kernel_rfl
theorem z90 : zeroT Try.prog 90 = some (.agg ([.map none] : List Value).toArray) := by kernel_rfl
theorem pl90 : placesT Try.prog 90 = some [(0, 1)] := by kernel_rfl
theorem fd90_0 : fieldT Try.prog 90 0 = some 0 := by kernel_rfl
theorem a91 : aggT Try.prog 91 = some true := by kernel_rfl
theorem s91 : sizeT Try.prog 91 = some 32 := by kernel_rfl
theorem b91 : bytesT Try.prog 91 = some 32 := by kernel_rfl
theorem z91 : zeroT Try.prog 91 = some (.agg (List.replicate 32 (.int .u8 0) : List Value).toArray) := by kernel_rfl
theorem pl91 : placesT Try.prog 91 = some [(0, 16), (16, 16)] := by kernel_rfl
theorem fd91_0 : fieldT Try.prog 91 0 = some 0 := by kernel_rfl
theorem fd91_1 : fieldT Try.prog 91 1 = some 16 := by kernel_rfl
theorem a92 : aggT Try.prog 92 = some true := by kernel_rfl
theorem s92 : sizeT Try.prog 92 = some 32 := by kernel_rfl
theorem b92 : bytesT Try.prog 92 = some 32 := by kernel_rfl
theorem z92 : zeroT Try.prog 92 = some (.agg (List.replicate 32 (.int .u8 0) : List Value).toArray) := by kernel_rfl
theorem pl92 : placesT Try.prog 92 = some [(0, 16), (16, 16)] := by kernel_rfl
theorem fd92_0 : fieldT Try.prog 92 0 = some 0 := by kernel_rfl
theorem fd92_1 : fieldT Try.prog 92 1 = some 16 := by kernel_rfl
theorem a93 : aggT Try.prog 93 = some true := by kernel_rfl
theorem s93 : sizeT Try.prog 93 = some 49 := by kernel_rfl
theorem b93 : bytesT Try.prog 93 = some 56 := by kernel_rfl
theorem z93 : zeroT Try.prog 93 = some (.agg (List.replicate 32 (.int .u8 0) ++ [.int .i64 0] ++ List.replicate 16 (.int .u8 0) : List Value).toArray) := by kernel_rfl
theorem pl93 : placesT Try.prog 93 = some [(0, 16), (16, 16), (32, 17)] := by kernel_rfl
theorem fd93_0 : fieldT Try.prog 93 0 = some 0 := by kernel_rfl
theorem fd93_1 : fieldT Try.prog 93 1 = some 16 := by kernel_rfl
theorem fd93_2 : fieldT Try.prog 93 2 = some 32 := by kernel_rfl
theorem a94 : aggT Try.prog 94 = some true := by kernel_rfl
theorem s94 : sizeT Try.prog 94 = some 49 := by kernel_rfl
theorem b94 : bytesT Try.prog 94 = some 56 := by kernel_rfl
theorem z94 : zeroT Try.prog 94 = some (.agg (List.replicate 32 (.int .u8 0) ++ [.int .i64 0] ++ List.replicate 16 (.int .u8 0) : List Value).toArray) := by kernel_rfl
theorem pl94 : placesT Try.prog 94 = some [(0, 16), (16, 16), (32, 17)] := by kernel_rfl
theorem fd94_0 : fieldT Try.prog 94 0 = some 0 := by kernel_rfl
theorem fd94_1 : fieldT Try.prog 94 1 = some 16 := by kernel_rfl
theorem fd94_2 : fieldT Try.prog 94 2 = some 32 := by kernel_rfl
theorem u103 : Try.prog.underlying 103 = some (.int .u64) := by kernel_rfl
theorem a103 : aggT Try.prog 103 = some false := by kernel_rfl
theorem s103 : sizeT Try.prog 103 = some 1 := by kernel_rfl
theorem b103 : bytesT Try.prog 103 = some 8 := by kernel_rfl
theorem z103 : zeroT Try.prog 103 = some (.int .u64 0) := by kernel_rfl
theorem u124 : Try.prog.underlying 124 = some (.int .i64) := by kernel_rfl
theorem a124 : aggT Try.prog 124 = some false := by kernel_rfl
theorem s124 : sizeT Try.prog 124 = some 1 := by kernel_rfl
theorem b124 : bytesT Try.prog 124 = some 8 := by kernel_rfl
theorem z124 : zeroT Try.prog 124 = some (.int .i64 0) := by kernel_rfl
theorem u132 : Try.prog.underlying 132 = some (.int .u32) := by kernel_rfl
theorem a132 : aggT Try.prog 132 = some false := by kernel_rfl
theorem s132 : sizeT Try.prog 132 = some 1 := by kernel_rfl
theorem b132 : bytesT Try.prog 132 = some 4 := by kernel_rfl
theorem z132 : zeroT Try.prog 132 = some (.int .u32 0) := by kernel_rfl
theorem u134 : Try.prog.underlying 134 = some (.int .u64) := by kernel_rfl
theorem a134 : aggT Try.prog 134 = some false := by kernel_rfl
theorem s134 : sizeT Try.prog 134 = some 1 := by kernel_rfl
theorem b134 : bytesT Try.prog 134 = some 8 := by kernel_rfl
theorem z134 : zeroT Try.prog 134 = some (.int .u64 0) := by kernel_rfl
theorem u138 : Try.prog.underlying 138 = some (.pointer 3) := by kernel_rfl
theorem a138 : aggT Try.prog 138 = some false := by kernel_rfl
theorem s138 : sizeT Try.prog 138 = some 1 := by kernel_rfl
theorem b138 : bytesT Try.prog 138 = some 8 := by kernel_rfl
theorem z138 : zeroT Try.prog 138 = some (.pointer none) := by kernel_rfl
theorem u140 : Try.prog.underlying 140 = some (.pointer 134) := by kernel_rfl
theorem a140 : aggT Try.prog 140 = some false := by kernel_rfl
theorem s140 : sizeT Try.prog 140 = some 1 := by kernel_rfl
theorem b140 : bytesT Try.prog 140 = some 8 := by kernel_rfl
theorem z140 : zeroT Try.prog 140 = some (.pointer none) := by kernel_rfl
theorem a144 : aggT Try.prog 144 = some true := by kernel_rfl
theorem s144 : sizeT Try.prog 144 = some 4 := by kernel_rfl
theorem b144 : bytesT Try.prog 144 = some 40 := by kernel_rfl
theorem z144 : zeroT Try.prog 144 = some (.agg ([.pointer none, .pointer none, .pointer none, .string ByteArray.empty] : List Value).toArray) := by kernel_rfl
theorem pl144 : placesT Try.prog 144 = some [(0, 1), (1, 1), (2, 1), (3, 1)] := by kernel_rfl
theorem fd144_0 : fieldT Try.prog 144 0 = some 0 := by kernel_rfl
theorem fd144_1 : fieldT Try.prog 144 1 = some 1 := by kernel_rfl
theorem fd144_2 : fieldT Try.prog 144 2 = some 2 := by kernel_rfl
theorem fd144_3 : fieldT Try.prog 144 3 = some 3 := by kernel_rfl
theorem a145 : aggT Try.prog 145 = some true := by kernel_rfl
theorem s145 : sizeT Try.prog 145 = some 4 := by kernel_rfl
theorem b145 : bytesT Try.prog 145 = some 40 := by kernel_rfl
theorem z145 : zeroT Try.prog 145 = some (.agg ([.pointer none, .pointer none, .pointer none, .string ByteArray.empty] : List Value).toArray) := by kernel_rfl
theorem pl145 : placesT Try.prog 145 = some [(0, 1), (1, 1), (2, 1), (3, 1)] := by kernel_rfl
theorem fd145_0 : fieldT Try.prog 145 0 = some 0 := by kernel_rfl
theorem fd145_1 : fieldT Try.prog 145 1 = some 1 := by kernel_rfl
theorem fd145_2 : fieldT Try.prog 145 2 = some 2 := by kernel_rfl
theorem fd145_3 : fieldT Try.prog 145 3 = some 3 := by kernel_rfl
theorem u146 : Try.prog.underlying 146 = some (.array 0 16) := by kernel_rfl
theorem a146 : aggT Try.prog 146 = some true := by kernel_rfl
theorem s146 : sizeT Try.prog 146 = some 0 := by kernel_rfl
theorem b146 : bytesT Try.prog 146 = some 0 := by kernel_rfl
theorem z146 : zeroT Try.prog 146 = some (.agg ([] : List Value).toArray) := by kernel_rfl
theorem ar146 : arrT Try.prog 146 = some (0, 16) := by kernel_rfl
theorem a147 : aggT Try.prog 147 = some true := by kernel_rfl
theorem s147 : sizeT Try.prog 147 = some 0 := by kernel_rfl
theorem b147 : bytesT Try.prog 147 = some 0 := by kernel_rfl
theorem z147 : zeroT Try.prog 147 = some (.agg ([] : List Value).toArray) := by kernel_rfl
theorem pl147 : placesT Try.prog 147 = some [(0, 0)] := by kernel_rfl
theorem a148 : aggT Try.prog 148 = some true := by kernel_rfl
theorem s148 : sizeT Try.prog 148 = some 0 := by kernel_rfl
theorem b148 : bytesT Try.prog 148 = some 0 := by kernel_rfl
theorem z148 : zeroT Try.prog 148 = some (.agg ([] : List Value).toArray) := by kernel_rfl
theorem pl148 : placesT Try.prog 148 = some [(0, 0)] := by kernel_rfl
theorem u150 : Try.prog.underlying 150 = some (.int .u8) := by kernel_rfl
theorem a150 : aggT Try.prog 150 = some false := by kernel_rfl
theorem s150 : sizeT Try.prog 150 = some 1 := by kernel_rfl
theorem b150 : bytesT Try.prog 150 = some 1 := by kernel_rfl
theorem z150 : zeroT Try.prog 150 = some (.int .u8 0) := by kernel_rfl
theorem u151 : Try.prog.underlying 151 = some (.int .u8) := by kernel_rfl
theorem a151 : aggT Try.prog 151 = some false := by kernel_rfl
theorem s151 : sizeT Try.prog 151 = some 1 := by kernel_rfl
theorem b151 : bytesT Try.prog 151 = some 1 := by kernel_rfl
theorem z151 : zeroT Try.prog 151 = some (.int .u8 0) := by kernel_rfl
theorem u153 : Try.prog.underlying 153 = some (.pointer 5) := by kernel_rfl
theorem a153 : aggT Try.prog 153 = some false := by kernel_rfl
theorem s153 : sizeT Try.prog 153 = some 1 := by kernel_rfl
theorem b153 : bytesT Try.prog 153 = some 8 := by kernel_rfl
theorem z153 : zeroT Try.prog 153 = some (.pointer none) := by kernel_rfl
theorem u154 : Try.prog.underlying 154 = some (.int .i32) := by kernel_rfl
theorem a154 : aggT Try.prog 154 = some false := by kernel_rfl
theorem s154 : sizeT Try.prog 154 = some 1 := by kernel_rfl
theorem b154 : bytesT Try.prog 154 = some 4 := by kernel_rfl
theorem z154 : zeroT Try.prog 154 = some (.int .i32 0) := by kernel_rfl
theorem u155 : Try.prog.underlying 155 = some (.int .i32) := by kernel_rfl
theorem a155 : aggT Try.prog 155 = some false := by kernel_rfl
theorem s155 : sizeT Try.prog 155 = some 1 := by kernel_rfl
theorem b155 : bytesT Try.prog 155 = some 4 := by kernel_rfl
theorem z155 : zeroT Try.prog 155 = some (.int .i32 0) := by kernel_rfl
theorem a156 : aggT Try.prog 156 = some true := by kernel_rfl
theorem s156 : sizeT Try.prog 156 = some 11 := by kernel_rfl
theorem b156 : bytesT Try.prog 156 = some 48 := by kernel_rfl
theorem z156 : zeroT Try.prog 156 = some (.agg ([.int .u64 0, .int .u64 0, .int .u32 0] ++ List.replicate 4 (.int .u8 0) ++ [.nilFunc, .pointer none, .int .i32 0, .int .i32 0] : List Value).toArray) := by kernel_rfl
theorem pl156 : placesT Try.prog 156 = some [(0, 1), (1, 1), (2, 1), (3, 1), (4, 1), (5, 1), (6, 1), (7, 1), (8, 1), (9, 1), (10, 1)] := by kernel_rfl
theorem fd156_0 : fieldT Try.prog 156 0 = some 0 := by kernel_rfl
theorem fd156_1 : fieldT Try.prog 156 1 = some 1 := by kernel_rfl
theorem fd156_2 : fieldT Try.prog 156 2 = some 2 := by kernel_rfl
theorem fd156_3 : fieldT Try.prog 156 3 = some 3 := by kernel_rfl
theorem fd156_4 : fieldT Try.prog 156 4 = some 4 := by kernel_rfl
theorem fd156_5 : fieldT Try.prog 156 5 = some 5 := by kernel_rfl
theorem fd156_6 : fieldT Try.prog 156 6 = some 6 := by kernel_rfl
theorem fd156_7 : fieldT Try.prog 156 7 = some 7 := by kernel_rfl
theorem fd156_8 : fieldT Try.prog 156 8 = some 8 := by kernel_rfl
theorem fd156_9 : fieldT Try.prog 156 9 = some 9 := by kernel_rfl
theorem fd156_10 : fieldT Try.prog 156 10 = some 10 := by kernel_rfl
theorem a157 : aggT Try.prog 157 = some true := by kernel_rfl
theorem s157 : sizeT Try.prog 157 = some 11 := by kernel_rfl
theorem b157 : bytesT Try.prog 157 = some 48 := by kernel_rfl
theorem z157 : zeroT Try.prog 157 = some (.agg ([.int .u64 0, .int .u64 0, .int .u32 0] ++ List.replicate 4 (.int .u8 0) ++ [.nilFunc, .pointer none, .int .i32 0, .int .i32 0] : List Value).toArray) := by kernel_rfl
theorem pl157 : placesT Try.prog 157 = some [(0, 1), (1, 1), (2, 1), (3, 1), (4, 1), (5, 1), (6, 1), (7, 1), (8, 1), (9, 1), (10, 1)] := by kernel_rfl
theorem fd157_0 : fieldT Try.prog 157 0 = some 0 := by kernel_rfl
theorem fd157_1 : fieldT Try.prog 157 1 = some 1 := by kernel_rfl
theorem fd157_2 : fieldT Try.prog 157 2 = some 2 := by kernel_rfl
theorem fd157_3 : fieldT Try.prog 157 3 = some 3 := by kernel_rfl
theorem fd157_4 : fieldT Try.prog 157 4 = some 4 := by kernel_rfl
theorem fd157_5 : fieldT Try.prog 157 5 = some 5 := by kernel_rfl
theorem fd157_6 : fieldT Try.prog 157 6 = some 6 := by kernel_rfl
theorem fd157_7 : fieldT Try.prog 157 7 = some 7 := by kernel_rfl
theorem fd157_8 : fieldT Try.prog 157 8 = some 8 := by kernel_rfl
theorem fd157_9 : fieldT Try.prog 157 9 = some 9 := by kernel_rfl
theorem fd157_10 : fieldT Try.prog 157 10 = some 10 := by kernel_rfl
theorem a158 : aggT Try.prog 158 = some false := by kernel_rfl
theorem s158 : sizeT Try.prog 158 = some 1 := by kernel_rfl
theorem b158 : bytesT Try.prog 158 = some 8 := by kernel_rfl
theorem z158 : zeroT Try.prog 158 = some (.pointer none) := by kernel_rfl
theorem bd3 : bodyT Try.prog 3 = true := by kernel_rfl
theorem bd4 : bodyT Try.prog 4 = true := by kernel_rfl
theorem bd5 : bodyT Try.prog 5 = true := by kernel_rfl
theorem bd6 : bodyT Try.prog 6 = true := by kernel_rfl
theorem bd7 : bodyT Try.prog 7 = true := by kernel_rfl
theorem bd8 : bodyT Try.prog 8 = true := by kernel_rfl
theorem bd9 : bodyT Try.prog 9 = true := by kernel_rfl
theorem bd10 : bodyT Try.prog 10 = true := by kernel_rfl
theorem bd11 : bodyT Try.prog 11 = true := by kernel_rfl
theorem bd12 : bodyT Try.prog 12 = true := by kernel_rfl
theorem bd13 : bodyT Try.prog 13 = true := by kernel_rfl
theorem bd14 : bodyT Try.prog 14 = true := by kernel_rfl
theorem bd15 : bodyT Try.prog 15 = true := by kernel_rfl
theorem bd16 : bodyT Try.prog 16 = true := by kernel_rfl
theorem bd17 : bodyT Try.prog 17 = true := by kernel_rfl
theorem bd18 : bodyT Try.prog 18 = true := by kernel_rfl
theorem bd19 : bodyT Try.prog 19 = true := by kernel_rfl
theorem bd20 : bodyT Try.prog 20 = true := by kernel_rfl
theorem bd21 : bodyT Try.prog 21 = true := by kernel_rfl
theorem bd22 : bodyT Try.prog 22 = true := by kernel_rfl
theorem bd23 : bodyT Try.prog 23 = true := by kernel_rfl
theorem bd24 : bodyT Try.prog 24 = true := by kernel_rfl
theorem bd25 : bodyT Try.prog 25 = true := by kernel_rfl
theorem bd26 : bodyT Try.prog 26 = true := by kernel_rfl
theorem bd27 : bodyT Try.prog 27 = true := by kernel_rfl
theorem bd28 : bodyT Try.prog 28 = true := by kernel_rfl
theorem bd29 : bodyT Try.prog 29 = true := by kernel_rfl
theorem bd30 : bodyT Try.prog 30 = true := by kernel_rfl
theorem bd31 : bodyT Try.prog 31 = true := by kernel_rfl
theorem bd32 : bodyT Try.prog 32 = true := by kernel_rfl
theorem bd33 : bodyT Try.prog 33 = true := by kernel_rfl
theorem bd34 : bodyT Try.prog 34 = true := by kernel_rfl
theorem bd35 : bodyT Try.prog 35 = true := by kernel_rfl
theorem bd36 : bodyT Try.prog 36 = true := by kernel_rfl
theorem bd37 : bodyT Try.prog 37 = true := by kernel_rfl
theorem bd38 : bodyT Try.prog 38 = true := by kernel_rfl
theorem bd39 : bodyT Try.prog 39 = true := by kernel_rfl
theorem bd40 : bodyT Try.prog 40 = true := by kernel_rfl
theorem bd41 : bodyT Try.prog 41 = true := by kernel_rfl
theorem bd42 : bodyT Try.prog 42 = true := by kernel_rfl
theorem bd43 : bodyT Try.prog 43 = true := by kernel_rfl
theorem bd44 : bodyT Try.prog 44 = true := by kernel_rfl
theorem bd45 : bodyT Try.prog 45 = true := by kernel_rfl
theorem bd46 : bodyT Try.prog 46 = true := by kernel_rfl
theorem bd47 : bodyT Try.prog 47 = true := by kernel_rfl
theorem bd48 : bodyT Try.prog 48 = true := by kernel_rfl
theorem bd49 : bodyT Try.prog 49 = true := by kernel_rfl
theorem bd50 : bodyT Try.prog 50 = true := by kernel_rfl
theorem bd51 : bodyT Try.prog 51 = true := by kernel_rfl
theorem bd52 : bodyT Try.prog 52 = true := by kernel_rfl
theorem bd53 : bodyT Try.prog 53 = true := by kernel_rfl
theorem bd54 : bodyT Try.prog 54 = true := by kernel_rfl
theorem bd55 : bodyT Try.prog 55 = true := by kernel_rfl
theorem bd56 : bodyT Try.prog 56 = true := by kernel_rfl
theorem bd57 : bodyT Try.prog 57 = true := by kernel_rfl
theorem bd58 : bodyT Try.prog 58 = true := by kernel_rfl
theorem bd59 : bodyT Try.prog 59 = true := by kernel_rfl
theorem bd60 : bodyT Try.prog 60 = true := by kernel_rfl
theorem bd61 : bodyT Try.prog 61 = true := by kernel_rfl
theorem bd62 : bodyT Try.prog 62 = true := by kernel_rfl
theorem bd63 : bodyT Try.prog 63 = true := by kernel_rfl
theorem bd64 : bodyT Try.prog 64 = true := by kernel_rfl
theorem bd65 : bodyT Try.prog 65 = true := by kernel_rfl
theorem bd66 : bodyT Try.prog 66 = true := by kernel_rfl
theorem bd67 : bodyT Try.prog 67 = true := by kernel_rfl
theorem bd68 : bodyT Try.prog 68 = true := by kernel_rfl
theorem bd69 : bodyT Try.prog 69 = true := by kernel_rfl
theorem bd70 : bodyT Try.prog 70 = true := by kernel_rfl
theorem bd71 : bodyT Try.prog 71 = true := by kernel_rfl
theorem bd72 : bodyT Try.prog 72 = true := by kernel_rfl
theorem bd73 : bodyT Try.prog 73 = true := by kernel_rfl
theorem bd74 : bodyT Try.prog 74 = true := by kernel_rfl
theorem bd75 : bodyT Try.prog 75 = true := by kernel_rfl
theorem bd76 : bodyT Try.prog 76 = true := by kernel_rfl
theorem bd77 : bodyT Try.prog 77 = true := by kernel_rfl
theorem bd78 : bodyT Try.prog 78 = true := by kernel_rfl
theorem bd80 : bodyT Try.prog 80 = true := by kernel_rfl
theorem bd81 : bodyT Try.prog 81 = true := by kernel_rfl
theorem bd82 : bodyT Try.prog 82 = true := by kernel_rfl
theorem bd83 : bodyT Try.prog 83 = true := by kernel_rfl
theorem bd84 : bodyT Try.prog 84 = true := by kernel_rfl
theorem bd85 : bodyT Try.prog 85 = true := by kernel_rfl
theorem bd86 : bodyT Try.prog 86 = true := by kernel_rfl
theorem bd87 : bodyT Try.prog 87 = true := by kernel_rfl
theorem bd88 : bodyT Try.prog 88 = true := by kernel_rfl
theorem bd89 : bodyT Try.prog 89 = true := by kernel_rfl
theorem bd90 : bodyT Try.prog 90 = true := by kernel_rfl
theorem bd91 : bodyT Try.prog 91 = true := by kernel_rfl
theorem bd95 : bodyT Try.prog 95 = true := by kernel_rfl
theorem bd96 : bodyT Try.prog 96 = true := by kernel_rfl
theorem bd97 : bodyT Try.prog 97 = true := by kernel_rfl
theorem bd99 : bodyT Try.prog 99 = true := by kernel_rfl
theorem bd100 : bodyT Try.prog 100 = true := by kernel_rfl
theorem bd101 : bodyT Try.prog 101 = true := by kernel_rfl
theorem bd102 : bodyT Try.prog 102 = true := by kernel_rfl
end Ty
end Go.Proofs.Ytbafhclandendaa
